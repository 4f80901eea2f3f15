import Derived.Test.YtfpenfgmpbdakaaGreatDiskMath
import Derived.Test.YtfpenfgmpbdakaaGreatFoot
import Derived.Test.YtfpenfgmpbdakaaGreatClone
import Derived.WalkLawsBesides
import Derived.Deep.RegionWith
import Derived.Laws.EntriesVeiled
namespace Go.Proofs.YtfpenfgmpbdakaaGreat
set_option linter.unusedVariables false
set_option linter.unusedSimpArgs false
set_option maxRecDepth 100000
open Go.RowKit
open Disk
def wfun (x : W) (bo : Nat) : Value:=.func (.func (if x.1 then 104 else 37)) #[] #[.pointer (some ⟨bo,0,none⟩)]
def wcells : List (W × Nat)→List Value
  | []=>[]
  | (x,bo) :: r=>.int .i64 (units x : Nat) :: wfun x bo :: wcells r
theorem wcells_append (a b : List (W × Nat)) : wcells (a ++ b) = wcells a ++ wcells b:=by
  induction a with
  | nil=>rfl
  | cons e r ih=>obtain ⟨x,bo⟩:=e;simp [wcells,ih]
theorem wcells_at (es : List (W × Nat)) (i : Nat) (x : W) (bo : Nat) (h : es[i]? = some (x,bo)) : (wcells es)[i * 2]? = some (.int .i64 (units x : Nat))∧(wcells es)[i * 2 + 1]? = some (wfun x bo):=by
  induction es generalizing i with
  | nil=>simp at h
  | cons e r ih =>
    cases i with
    | zero=>simp at h;subst h;exact ⟨rfl,rfl⟩
    | succ i =>
      obtain ⟨y,b⟩:=e
      have:=ih i (by simpa using h)
      have e1 : (i + 1) * 2 = i * 2 + 1 + 1:=by omega
      rw [e1];exact ⟨by simpa [wcells] using this.1,by simpa [wcells] using this.2⟩
def FB (w : World) (F : Nat→Prop) (A : Option Addr) (n c : Nat) (bs : List UInt8) : Prop:=OwnB w 0 A n c bs∧∀ k,A.map (·.block) = some k→F k
def EntAt (w : World) (F : Nat→Prop) (e : W × Nat) : Prop:=F e.2∧∃ A c,Blk w e.2 22 #[.slice A e.1.2.length c]∧FB w F A e.1.2.length c e.1.2
structure DiskE (w : World) (F : Nat→Prop) (g size : Nat) (lasts : List UInt8) (es : List (W × Nat)) (AL : Option Addr) (cL : Nat) (AW : Option Addr) (cW : Nat) : Prop where
  mine : F g
  blk : Blk w g 75 #[.int .i64 (size : Nat),.slice AL lasts.length cL,.slice AW es.length cW]
  lasts : FB w F AL lasts.length cL lasts
  row : w.ownsRow 0 111 2 (.slice AW es.length cW) es.length (wcells es)
  rowF : ∀ k,AW.map (·.block) = some k→F k
  ents : ∀ e ∈ es,EntAt w F e
  lt : ∀ k,F k→k < w.heap.size
def DiskAt (w : World) (F : Nat→Prop) (g size : Nat) (lasts : List UInt8) (ws : List W) : Prop:=∃ es AL cL AW cW,es.map (·.1) = ws∧DiskE w F g size lasts es AL cL AW cW
section
variable {w w' : World} {F F' : Nat→Prop} {g size n c cL cW : Nat} {A AL AW : Option Addr} {lasts bs : List UInt8} {es : List (W × Nat)} {ws : List W}
theorem FB.keep (h : FB w F A n c bs) (hk : Keeps F w w') : FB w' F A n c bs:=⟨⟨h.1.1,ownsRow_keep h.1.2 fun k hA=>hk.block k (h.2 k hA)⟩,h.2⟩
theorem FB.mono (h : FB w F A n c bs) (hF : ∀ k,F k→F' k) : FB w F' A n c bs:=⟨h.1,fun k hA=>hF k (h.2 k hA)⟩
theorem FB.ne (h : FB w F A n c bs) {b : Nat} {t : TypeId} {cs : Array Value} (hb : w.heap[b]? = some (.cells cs t (0,0))) (ht : t ≠ 5) : A.map (·.block) ≠ some b:=fun e=>by
  obtain ⟨cur,hc⟩:=ownsRow_type h.1.2 e;rw [hc] at hb
  injection hb with hb
  injection hb with _ h2
  exact ht h2.symm
theorem EntAt.keep {e : W × Nat} (h : EntAt w F e) (hk : Keeps F w w') : EntAt w' F e:=by
  obtain ⟨h1,A,c,h2,h3⟩:=h;exact ⟨h1,A,c,(hk.block _ h1).trans h2,h3.keep hk⟩
theorem EntAt.mono {e : W × Nat} (h : EntAt w F e) (hF : ∀ k,F k→F' k) : EntAt w F' e:=by
  obtain ⟨h1,A,c,h2,h3⟩:=h;exact ⟨hF _ h1,A,c,h2,h3.mono hF⟩
theorem DiskE.keep (h : DiskE w F g size lasts es AL cL AW cW) (hk : Keeps F w w') : DiskE w' F g size lasts es AL cL AW cW :=
  ⟨h.mine,(hk.block _ h.mine).trans h.blk,h.lasts.keep hk,ownsRow_keep h.row fun k hA=>hk.block k (h.rowF k hA),h.rowF,fun e he=>(h.ents e he).keep hk,fun k hF=>Nat.lt_of_lt_of_le (h.lt k hF) hk.size⟩
theorem DiskAt.keep (h : DiskAt w F g size lasts ws) (hk : Keeps F w w') : DiskAt w' F g size lasts ws:=by
  obtain ⟨es,AL,cL,AW,cW,h1,h2⟩:=h;exact ⟨es,AL,cL,AW,cW,h1,h2.keep hk⟩
theorem DiskAt.lt (h : DiskAt w F g size lasts ws) : ∀ k,F k→k < w.heap.size:=by
  obtain ⟨es,AL,cL,AW,cW,h1,h2⟩:=h;exact h2.lt
theorem DiskAt.below (h : DiskAt w F g size lasts ws) (hb : Below w.heap.size w w') : DiskAt w' F g size lasts ws:=h.keep (Keeps.of_below hb h.lt)
theorem DiskE.cell (h : DiskE w F g size lasts es AL cL AW cW) {i : Nat} {x : W} {bo : Nat} (hi : es[i]? = some (x,bo)) :
    ∃ q,AW = some ⟨q,0,none⟩∧q < w.heap.size∧w.cell? ⟨q,i * 2,none⟩ = some (.int .i64 (units x : Nat))∧w.cell? ⟨q,i * 2 + 1,none⟩ = some (wfun x bo):=by
  have hlt : i < es.length:=by
    false_or_by_contra
    rw [List.getElem?_eq_none (by omega)] at hi;cases hi
  obtain ⟨c1,c2⟩:=wcells_at es i x bo hi
  rcases h.row.2 with ⟨hv,h0⟩ | ⟨q,cap,cur,hv,hb,hh,_⟩
  · omega
  · injection hv with hA
    subst hA;have r1:=h.row.cells (g:=q) rfl _ _ c1;have r2:=h.row.cells (g:=q) rfl _ _ c2;rw [add_mk,Nat.zero_add] at r1 r2;exact ⟨q,rfl,lt_of_block hh,r1,r2⟩
end
theorem app1_any (bo k : Nat) (x : List UInt8) (cur : List UInt8) (A Ao : Option Addr) (n c co base : Nat) (w : World) (hc : OwnB w base A n c cur) (hbase : base≤w.heap.size) (hb : Blk w bo 22 #[.slice Ao x.length co]) (hx : OwnB w 0 Ao x.length co x) (hk : k≤x.length) (hl : n + k≤140737488355328) :
    Calls Tryz.prog 37 #[.slice A n c,.int .i64 k,.pointer (some ⟨bo,0,none⟩)] w fun e w'=>∃ A' n' c',e = .returned (.slice A' n' c')∧OwnB w' base A' n' c' (cur ++ x.take k)∧Below base w w':=by
  have h1:=hb.cell 0;have hle:=ownsRow_le hx.2
  unfold maxLen at hle
  have hle1 : x.length≤co:=hle.1;have hle2 : co≤2 ^ 63 - 1:=hle.2;clear hle
  go_enter Tryz.func37,Tryz.ntmps37
  go_wp2_with (at_builtin;refine wpList_appB rfl (.tmp 6) (.tmp 9) rfl rfl hc rfl (hx.rd.take hk) hl hbase ?_)
  intro A' c' w' h2 _ _ h3;go_wp2_with fail;go_ret;exact ⟨_,_,_,rfl,h2,h3⟩
theorem swap1_any (bo k : Nat) (x : List UInt8) (v : Value) (Ao : Option Addr) (co : Nat) (w : World) (hb : Blk w bo 22 #[.slice Ao x.length co]) (hx : OwnB w 0 Ao x.length co x) (hl : x.length≤140737488355328) :
    Calls Tryz.prog 104 #[v,.int .i64 k,.pointer (some ⟨bo,0,none⟩)] w (GiveB w x):=by
  have h1:=hb.cell 0
  go_enter Tryz.func104,Tryz.ntmps104
  go_wp2_with fail;refine (clone_any _ _ _ _ _ _ hx.rd (Nat.le_refl _) hl).mono ?_;rintro e w' ⟨A',n',c',rfl,h2,h3⟩;go_wp2_with fail;go_ret;exact ⟨_,_,_,rfl,h2,h3⟩
set_option maxRecDepth 100000 in
set_option maxHeartbeats 2000000 in
theorem after_any (n : Nat) (F : Nat→Prop) (g size : Nat) (lasts : List UInt8) (ws : List W) (w : World) (hD : DiskAt w F g size lasts ws) (hn : n≤9223372036854775807) (hm : lasts.length + mass ws≤1099511627776) (hl : ws.length≤1099511627776) :
    Calls Tryz.prog 60 #[.pointer (some ⟨g,0,none⟩),.int .i64 n] w (GiveB w (afterL lasts ws n)):=by
  obtain ⟨es,AL,cL,AW,cW,rfl,hE⟩:=hD;have c1:=hE.blk.cell 1;have c2:=hE.blk.cell 2;have hlt:=hE.blk.lt
  go_enter Tryz.func60,Tryz.ntmps60
  go_wp2_with fail;refine (clone_any _ _ _ _ _ _ hE.lasts.1.rd (Nat.le_refl _) (by omega)).mono ?_;rintro e w1 ⟨A1,n1,c1',rfl,ho1,h1⟩;have hE1:=hE.keep (Keeps.of_below h1 hE.lt);have c2':=hE1.blk.cell 2;rw [List.length_map] at hl;go_wp2_with fail
  go_loopw [1,5,19] (fun nv b i wr=>∃ (k m : Nat) (A : Option Addr) (nb cb : Nat) (cur : List UInt8),k≤es.length∧i = .int .i64 k∧nv = .int .i64 m∧b = .slice A nb cb∧m≤n∧OwnB wr w.heap.size A nb cb cur ∧
      afterL cur ((es.map (·.1)).drop k) m = afterL lasts (es.map (·.1)) n∧cur.length + mass ((es.map (·.1)).drop k)≤lasts.length + mass (es.map (·.1))∧Below w.heap.size w wr) (fun _ _ i _=>es.length - (intOf i).toNat)
  case atStart=>exact ⟨0,n,A1,n1,c1',lasts,by omega,rfl,rfl,rfl,Nat.le_refl _,ho1,rfl,Nat.le_refl _,h1⟩
  case round =>
    obtain ⟨k,m,A,nb,cb,cur,hk,rfl,rfl,rfl,hmn,hO,haf,hms,hbel⟩:=hrel;have HA:=Lib.hid haf;clear haf
    by_cases hlt2 : k < es.length
    · have hEr:=hE.keep (Keeps.of_below hbel hE.lt)
      obtain ⟨x,bo,hx⟩ : ∃ x bo,es[k] = (x,bo):=⟨_,_,rfl⟩
      have hxe : es[k]? = some (x,bo):=by rw [List.getElem?_eq_getElem hlt2,hx]
      obtain ⟨a,rfl,hab,q1,q2⟩:=hEr.cell hxe;obtain ⟨_,Ao,co,hbo,hfo⟩:=hEr.ents _ (List.mem_of_getElem? hxe);obtain ⟨sw,own⟩:=x
      cases sw
      · have q2' : wr.cell? ⟨a,k * 2 + 1,none⟩ = some (.func (.func 37) #[] #[.pointer (some ⟨bo,0,none⟩)]):=q2
        have q1' : wr.cell? ⟨a,k * 2,none⟩ = some (.int .i64 (own.length : Nat)):=q1
        have hwx : (es.map (·.1))[k]? = some (false,own):=by rw [List.getElem?_map,hxe];rfl
        have hS:=fun t ht=>after_step hwx cur m t ht
        have hM:=mass_step hwx;have HS:=Lib.hid hS;have HM:=Lib.hid hM
        have hol : own.length + cur.length≤1099511627776:=by simp only at hM;omega
        have hcl : nb≤1099511627776:=by rw [hO.1];omega
        clear q1 q2 hS hM hwx
        by_cases hUm : own.length < m
        · by_cases hz : 0 < own.length
          · have hzd : decide (0 < own.length) = true:=decide_eq_true hz
            go_wp2_with fail;refine (app1_any bo own.length own cur _ _ _ _ _ _ _ (hO.alloc _) (by have:=hbel.size;simp;omega) (hbo.alloc _) (hfo.1.alloc _) (Nat.le_refl _) (by omega)).mono ?_;rintro e w3 ⟨A3,n3,c3,rfl,ho3,h3⟩;have hbel3:=(hbel.alloc hbel.size _).trans h3;go_wp2_with fail
            go_roundw
            case rel =>
              refine ⟨k + 1,m - own.length,_,_,_,(cur ++ own.take own.length),by omega,by go_num,(by go_num),rfl,by omega,ho3,?_,?_,hbel3⟩
              · have:=HS.out own.length (by simp only [units];simp;omega)
                rw [if_pos hz] at this;rw [← HA.out,this];rfl
              · have:=HM.out;simp;omega
            case measure=>simp [intOf];omega
          · have hzd : decide (0 < own.length) = false:=decide_eq_false hz
            go_wp2_with fail
            go_roundw
            case rel =>
              refine ⟨k + 1,m - own.length,_,_,_,cur,by omega,by go_num,(by go_num),rfl,by omega,hO.alloc _,?_,?_,hbel.alloc hbel.size _⟩
              · have:=HS.out own.length (by simp only [units];simp;omega)
                rw [if_neg hz] at this;rw [← HA.out,this]
              · have:=HM.out;omega
            case measure=>simp [intOf];omega
        · by_cases hz : 0 < m
          · have hzd : decide (0 < m) = true:=decide_eq_true hz
            go_wp2_with fail;refine (app1_any bo m own cur _ _ _ _ _ _ _ (hO.alloc _) (by have:=hbel.size;simp;omega) (hbo.alloc _) (hfo.1.alloc _) (by omega) (by omega)).mono ?_;rintro e w3 ⟨A3,n3,c3,rfl,ho3,h3⟩;have hbel3:=(hbel.alloc hbel.size _).trans h3;go_wp2_with fail
            go_roundw
            case rel =>
              refine ⟨k + 1,m - m,_,_,_,(cur ++ own.take m),by omega,by go_num,(by go_num),rfl,by omega,ho3,?_,?_,hbel3⟩
              · have:=HS.out m (by simp only [units];simp;omega)
                rw [if_pos hz] at this;rw [← HA.out,this];rfl
              · have:=HM.out;simp;omega
            case measure=>simp [intOf];omega
          · have hzd : decide (0 < m) = false:=decide_eq_false hz
            go_wp2_with fail
            go_roundw
            case rel =>
              refine ⟨k + 1,m - m,_,_,_,cur,by omega,by go_num,(by go_num),rfl,by omega,hO.alloc _,?_,?_,hbel.alloc hbel.size _⟩
              · have:=HS.out m (by simp only [units];simp;omega)
                rw [if_neg hz] at this;rw [← HA.out,this]
              · have:=HM.out;omega
            case measure=>simp [intOf];omega
      · have q2' : wr.cell? ⟨a,k * 2 + 1,none⟩ = some (.func (.func 104) #[] #[.pointer (some ⟨bo,0,none⟩)]):=q2
        have q1' : wr.cell? ⟨a,k * 2,none⟩ = some (.int .i64 1):=q1
        have hwx : (es.map (·.1))[k]? = some (true,own):=by rw [List.getElem?_map,hxe];rfl
        have hS:=fun t ht=>after_step hwx cur m t ht
        have hM:=mass_step hwx;have HS:=Lib.hid hS;have HM:=Lib.hid hM
        have hol : own.length + cur.length≤1099511627776:=by simp only at hM;omega
        have hcl : nb≤1099511627776:=by rw [hO.1];omega
        clear q1 q2 hS hM hwx
        by_cases hUm : 1 < m
        · have hz:=Lib.hid Nat.one_pos
          go_wp2_with fail;refine (swap1_any bo 1 own _ _ _ _ (hbo.alloc _) (hfo.1.alloc _) (by omega)).mono ?_;rintro e w3 ⟨A3,n3,c3,rfl,ho3',h3'⟩;have ho3 : OwnB w3 w.heap.size A3 n3 c3 own:=ho3'.mono (by have:=hbel.size;simp;omega);have hbel3:=(hbel.alloc hbel.size _).trans (h3'.mono (by have:=hbel.size;simp;omega));go_wp2_with fail
          go_roundw
          case rel =>
            refine ⟨k + 1,m - 1,_,_,_,own,by omega,by go_num,(by go_num),rfl,by omega,ho3,?_,?_,hbel3⟩
            · have:=HS.out 1 (by simp only [units];simp;omega)
              rw [if_pos hz.out] at this;rw [← HA.out,this];rfl
            · have:=HM.out;simp;omega
          case measure=>simp [intOf];omega
        · by_cases hz : 0 < m
          · have hzd : decide (0 < m) = true:=decide_eq_true hz
            go_wp2_with fail;refine (swap1_any bo m own _ _ _ _ (hbo.alloc _) (hfo.1.alloc _) (by omega)).mono ?_;rintro e w3 ⟨A3,n3,c3,rfl,ho3',h3'⟩;have ho3 : OwnB w3 w.heap.size A3 n3 c3 own:=ho3'.mono (by have:=hbel.size;simp;omega);have hbel3:=(hbel.alloc hbel.size _).trans (h3'.mono (by have:=hbel.size;simp;omega));go_wp2_with fail
            go_roundw
            case rel =>
              refine ⟨k + 1,m - m,_,_,_,own,by omega,by go_num,(by go_num),rfl,by omega,ho3,?_,?_,hbel3⟩
              · have:=HS.out m (by simp only [units];simp;omega)
                rw [if_pos hz] at this;rw [← HA.out,this];rfl
              · have:=HM.out;simp;omega
            case measure=>simp [intOf];omega
          · have hzd : decide (0 < m) = false:=decide_eq_false hz
            go_wp2_with fail
            go_roundw
            case rel =>
              refine ⟨k + 1,m - m,_,_,_,cur,by omega,by go_num,(by go_num),rfl,by omega,hO.alloc _,?_,?_,hbel.alloc hbel.size _⟩
              · have:=HS.out m (by simp only [units];simp;omega)
                rw [if_neg hz] at this;rw [← HA.out,this]
              · have:=HM.out;omega
            case measure=>simp [intOf];omega
    · go_wp2_with fail
      go_ret;refine ⟨_,_,_,rfl,?_,hbel⟩;rw [← HA.out,List.drop_eq_nil_of_le (by simp;omega)];exact hO
end Go.Proofs.YtfpenfgmpbdakaaGreat

import Derived.Test.YtfpenfgmpbdakaaGreatStoWalks
import Derived.Test.YtfpenfgmpbdakaaGreatDiskWords
import Derived.Test.YtfpenfgmpbdakaaGreatStpRead3
import Derived.Test.YtfpenfgmpbdakaaGreatLogRef
import Derived.Test.YtfpenfgmpbdakaaGreatVintRead
import Derived.Test.YtfpenfgmpbdakaaGreatMem
import Derived.Deep.RegionHeld
import Derived.Deep.DeepCutAuto
import Derived.Test.YtfpenfgmpbdakaaGreatLogOps
namespace Go.Proofs.YtfpenfgmpbdakaaGreat
set_option linter.unusedVariables false
set_option linter.unusedSimpArgs false
set_option maxRecDepth 100000
open Go.RowKit
open Disk
namespace Sto
open _root_.Go.Proofs.YtfpenfgmpbdakaaGreat.Log (writeM LogEnd lwrite_any)
open _root_.Go.Proofs.YtfpenfgmpbdakaaGreat.Frame (frm frms frms_nil frms_cons frms_snoc frms_append frm_length frm_pos Parts AllF)
structure Sd where
  b : List UInt8
  used : Nat
  upto : Nat
  inc : Nat
def StoAt (w : World) (F : Nat→Prop) (b g size : Nat) (S : Sd) (E : Value) : Prop:=DiskAt w F g size S.b []∧Blk w b 88 (sc g S.used S.upto S.inc E)∧¬ F b
def StoOp (w : World) (F : Nat→Prop) (b g size : Nat) (S : Sd) (E : Value) (w' : World) : Prop:=∃ F',StoAt w' F' b g size S E∧Only (fun k=>F k∨k = b) w w'∧Grows F F' w
structure SW (w : World) (F : Nat→Prop) (b g size : Nat) (S : Sd) (E : Value) (F1 : Nat→Prop) (w1 : World) : Prop where
  disk : DiskAt w1 F1 g size S.b []
  blk : Blk w1 b 88 (sc g S.used S.upto S.inc E)
  only : Only (fun k=>F k∨k = b) w w1
  grows : Grows F F1 w
  nf : ¬ F b
  lt : b < w.heap.size
  fl : ∀ k,F k→k < w.heap.size
section
variable {w w0 w1 w2 : World} {F F1 : Nat→Prop} {b g size : Nat} {S : Sd} {E : Value} {l : List UInt8}
theorem StoAt.sw (h : StoAt w F b g size S E) : SW w F b g size S E F w:=⟨h.1,h.2.1,Only.refl _ _,Grows.refl _ _,h.2.2,h.2.1.lt,h.1.lt⟩
theorem StoAt.below (h : StoAt w F b g size S E) (hb : Below w.heap.size w w1) : StoAt w1 F b g size S E:=⟨h.1.below hb,h.2.1.below hb h.2.1.lt,h.2.2⟩
theorem SW.nb (h : SW w F b g size S E F1 w1) : ¬ F1 b:=fun hk=>by
  rcases h.grows _ hk with q | q
  · exact h.nf q
  · have:=h.lt;omega
theorem SW.below (h : SW w F b g size S E F1 w1) (hb : Below w1.heap.size w1 w2) : SW w F b g size S E F1 w2 :=
  ⟨h.disk.below hb,h.blk.below hb h.blk.lt,h.only.then_below (hb.mono h.only.size),h.grows,h.nf,h.lt,h.fl⟩
theorem SW.op (h : SW w F b g size S E F1 w1) (ho : DiskOp w1 F1 g size l [] w2) : ∃ F2,SW w F b g size { S with b:=l } E F2 w2:=by
  obtain ⟨F2,o1,o2,o3⟩:=ho;refine ⟨F2,o1,h.blk.only o2 h.nb,?_,?_,h.nf,h.lt,h.fl⟩
  · refine h.only.trans (o2.mono (G:=fun k=>F1 k∨k = b) fun k hk=>.inl (.inl hk)) fun k hk=>?_
    rcases hk with hk | hk
    · rcases h.grows k hk with q | q
      · exact .inl (.inl q)
      · exact .inr q
    · exact .inl (.inr hk)
  · exact h.grows.trans o3 h.only.size
theorem SW.set_ {u' v' i' : Nat} (h : SW w F b g size S E F1 w1) {i : Nat} {x : Value} (hk : Blk (w1.setCell ⟨b,i,none⟩ x) b 88 (sc g u' v' i' E)) : SW w F b g size ⟨S.b,u',v',i'⟩ E F1 (w1.setCell ⟨b,i,none⟩ x) :=
  ⟨h.disk.keep ⟨by simp [World.setCell],fun k hk=>Below.heap_setCell w1 _ _ k (fun e=>h.nb (by have e : k = b:=e;rw [← e];exact hk))⟩,hk,h.only.setCell (.inl (.inr rfl)) x,h.grows,h.nf,h.lt,h.fl⟩
theorem SW.drew (h : SW w F b g size S E F1 w1) : SW w F b g size S E F1 w1.drew:=h.below (Below.refl _ _).drew
theorem SW.drewN (h : SW w F b g size S E F1 w1) (n : Nat) : SW w F b g size S E F1 (w1.drewN n):=h.below (below_drewN (Below.refl _ _) n)
theorem SW.nk (h : SW w F b g size S E F1 w1) {k : Nat} (hk : k < w.heap.size) (hF : ¬ F k) : ¬ F1 k:=fun q=>by
  rcases h.grows _ q with x | x
  · exact hF x
  · omega
theorem SW.fin (h : SW w0 F b g size S E F1 w1) (hb : Below w.heap.size w w0) (hl : b < w.heap.size) (hf : ∀ k,F k→k < w.heap.size) : StoOp w F b g size S E w1 :=
  ⟨F1,⟨h.disk,h.blk,h.nb⟩,(Only.of_below _ hb).trans h.only (Grows.refl _ _),fun k hk=>(h.grows k hk).imp id fun q=>by have:=hb.size;omega⟩
theorem SW.err (h : SW w0 F b g size S E F1 w1) (hb : Below w.heap.size w w0) (hs : w.heap.size < w0.heap.size) (hl : b < w.heap.size) (hf : ∀ k,F k→k < w.heap.size) (i : Nat) (x : Value) : StoOp w F b g size S E (w1.setCell ⟨w.heap.size,i,none⟩ x):=by
  have hn : ¬ F1 w.heap.size:=fun hk=>by
    rcases h.grows _ hk with q | q
    · have:=hf _ q;omega
    · omega
  refine ⟨F1,⟨h.disk.keep ⟨by simp [World.setCell],fun k hk=>Below.heap_setCell w1 _ _ k (fun e=>hn (by have e : k = w.heap.size:=e;rw [← e];exact hk))⟩,h.blk.far (by show b ≠ w.heap.size;omega) x,h.nb⟩,
    ((Only.of_below _ hb).trans h.only (Grows.refl _ _)).setCell (.inr (Nat.le_refl _)) x,fun k hk=>(h.grows k hk).imp id fun q=>by have:=hb.size;omega⟩
theorem SW.keeps {t : TypeId} {cs : Array Value} (h : SW w0 F b g size S E F1 w1) {k : Nat} (kb : Blk w0 k t cs) (hk : k ≠ b) (hf : ¬ F k) : Blk w1 k t cs:=kb.only h.only (by rintro (q | q);exact hf q;exact hk q)
end
theorem write_any (A : Option Addr) (n c B : Nat) (bs : List UInt8) (F : Nat→Prop) (b g size u v i : Nat) (lasts : List UInt8) (E : Value) (w : World) (h0 : Blk w b 88 (sc g u v i E)) (hD : DiskAt w F g size lasts []) (hm : lasts.length≤16384) (hs : size≤16384)
    (hb : RdB w B A n bs) (hB : B≤w.heap.size) (hc : n≤c) (hcm : c≤maxLen) :
    Calls Tryz.prog 48 #[.pointer (some ⟨b,0,none⟩),.slice A n c] w fun e w'=>(e = if (writeM size lasts [] bs).1 = 0 then .returned (.tuple #[]) else .panicked [{ v:=flt ((writeM size lasts [] bs).1 : Nat),recovered:=false }])∧DiskOp w F g size (writeM size lasts [] bs).2.1 (writeM size lasts [] bs).2.2 w':=by
  have c0 : w.cell? ⟨b,0,none⟩ = some (.pointer (some ⟨g,0,none⟩)):=h0.cell 0;have hw:=lwrite_any A n c B bs F g size lasts [] w hD (by simp [mass];omega) (by simp) hs hb hB hc hcm
  unfold LogEnd at hw
  generalize writeM size lasts [] bs = r at *
  obtain ⟨k,l1,l2⟩:=r
  simp only at hw ⊢
  have HW:=Lib.hid hw;clear hw hD hb hc hm h0
  by_cases h : k = 0
  · subst h
    rw [if_pos rfl]
    go_enter Tryz.func48,Tryz.ntmps48
    go_wp2_with fail;refine HW.out.mono ?_;rintro e w1 ⟨rfl,h1⟩;have H1:=Lib.hid h1;clear h1;go_wp2_with fail;refine (must_yes (by first | with_reducible rfl | assumption | (simp;done) | (simp;omega)) _ _).mono ?_;rintro e w2 ⟨rfl,rfl⟩;go_wp2_with fail
    go_end0
    exact ⟨rfl,H1.out⟩
  · rw [if_neg h]
    have hq : ((k : Int) == 0) = false:=by rw [beq_eq_false_iff_ne];omega
    go_enter Tryz.func48,Tryz.ntmps48
    go_wp2_with fail;refine HW.out.mono ?_;rintro e w1 ⟨rfl,h1⟩;have H1:=Lib.hid h1;clear h1;go_wp2_with fail;refine (must_no (by first | with_reducible rfl | assumption | (simp;done) | (simp;omega)) _ _).mono ?_;rintro e w2 ⟨rfl,rfl⟩;go_wp2_with fail;exact ⟨rfl,rfl,H1.out⟩
theorem told_lit (kd : UInt8) (z m : Int) (n : Nat) (hz : (kd.toNat : Int) = z) (hm : m = (n : Nat)) (hn : n≤1099511627776) (w : World) :
    Calls Tryz.prog 49 #[.int .u8 z,.int .i64 m] w (GiveB w (told kd n)):=by
  subst hz hm;exact told_any kd n hn w
theorem told_write {size : Nat} {b : List UInt8} {kd : UInt8} {n : Nat} : writeM size b [] (told kd n) = if b.length + (frm (told kd n)).length≤size then (0,b ++ frm (told kd n),[]) else (7,b,[]):=by
  unfold writeM
  have:=told_len kd n
  rw [if_neg (by omega)]
  rfl
def nextD (size : Nat) (S : Sd) : Nat × Nat × Sd :=
  if S.used < S.upto then (S.used + 1,0,⟨S.b,S.used + 1,S.upto,S.inc⟩)
  else if 96≤S.upto then (0,7,S)
  else if S.b.length + (frm (told 1 (min (S.upto + 8) 96))).length≤size then (S.used + 1,0,⟨S.b ++ frm (told 1 (min (S.upto + 8) 96)),S.used + 1,min (S.upto + 8) 96,S.inc⟩)
  else (0,7,S)
def bumpD (size : Nat) (S : Sd) : Nat × Nat × Sd :=
  if 1099511627776≤S.inc then (0,7,S)
  else if S.b.length + (frm (told 2 (S.inc + 1))).length≤size then (S.inc + 1,0,⟨S.b ++ frm (told 2 (S.inc + 1)),S.used,S.upto,S.inc + 1⟩)
  else (0,7,S)
def NumOp (w : World) (F : Nat→Prop) (b g size : Nat) (E : Value) (r : Nat × Nat × Sd) (e : Ending) (w' : World) : Prop:=e = .returned (.tuple #[.int .i64 (r.1 : Nat),.int .i64 (r.2.1 : Nat)])∧StoOp w F b g size r.2.2 E w'
theorem next_nil (w : World) :
    Calls Tryz.prog 14 #[.pointer none] w fun e w'=>e = .returned (.tuple #[.int .i64 0,.int .i64 1])∧Below w.heap.size w w':=by
  have k0:=(Blk.new w 27 #[.int .i64 0]).set_ 0 (.int .i64 1);have c0 : World.cell? _ _ = some (.int .i64 1):=k0.cell 0;have f0:=(Blk.new w 27 #[.int .i64 0]).free 0;have hbw : Below w.heap.size w (w.alloc (.cells #[.int .i64 1] 27)):=(Below.refl _ _).alloc (Nat.le_refl _) _;have HB:=Lib.hid hbw;clear hbw k0
  go_enter_defers Tryz.func14,Tryz.ntmps14
  go_wp2_with fail;refine ⟨.tuple #[.int .i64 0,.int .i64 1],by simp [results,Tryz.results14,go_sem,c0],rfl,HB.out⟩
theorem upto_any (b g used u i : Nat) (E : Value) (w : World) (h0 : Blk w b 88 (sc g used u i E)) :
    Calls Tryz.prog 32 #[.pointer (some ⟨b,0,none⟩)] w fun e w'=>e = .returned (.int .i64 (u : Nat))∧w = w':=by
  have c0:=h0.cell 2
  go_enter Tryz.func32,Tryz.ntmps32
  go_wp2_with fail;go_ret;exact ⟨rfl,rfl⟩
end Sto
end Go.Proofs.YtfpenfgmpbdakaaGreat

namespace Go.Proofs.YtfpenfgmpbdakaaGreat
set_option linter.unusedVariables false
set_option linter.unusedSimpArgs false
set_option maxRecDepth 100000
open Go.RowKit
open Disk
namespace Sto
open _root_.Go.Proofs.YtfpenfgmpbdakaaGreat.Log (writeM LogEnd lwrite_any mendM MendEnd lmend_any lread_any ReadL)
open _root_.Go.Proofs.YtfpenfgmpbdakaaGreat.Frame (frm frms frms_nil frms_cons frms_snoc frms_append frm_length frm_pos Parts AllF)
def recsM : Nat × Nat→List (List UInt8)→Option (Nat × Nat)
  | s,[]=>some s
  | s,r :: l=>match recM s r with
    | none=>none
    | some s'=>recsM s' l
theorem recsM_snoc (l : List (List UInt8)) (r : List UInt8) : ∀ s,recsM s (l ++ [r]) = match recsM s l with | none=>none | some s'=>recM s' r:=by
  induction l with
  | nil=>intro s;show (match recM s r with | none=>none | some s'=>some s') = recM s r;cases recM s r <;> rfl
  | cons x l ih =>
    intro s
    show (match recM s x with | none=>none | some s'=>recsM s' (l ++ [r])) = match (match recM s x with | none=>none | some s'=>recsM s' l) with | none=>none | some s'=>recM s' r
    cases h : recM s x with
    | none=>rfl
    | some s'=>exact ih s'
theorem recsM_none (l m : List (List UInt8)) : ∀ s,recsM s l = none→recsM s (l ++ m) = none:=by
  induction l with
  | nil=>intro s h;cases h
  | cons x l ih =>
    intro s h;have h : (match recM s x with | none=>none | some s'=>recsM s' l) = none:=h
    show (match recM s x with | none=>none | some s'=>recsM s' (l ++ m)) = none
    cases e : recM s x with
    | none=>rfl
    | some s'=>rw [e] at h;exact ih s' h
theorem mend_parts {b : List UInt8} {l : List (List UInt8)} {r : List UInt8} (hp : Parts b l r) : mendM b [] l = (0,frms l,[]):=by
  unfold mendM
  have e : readL b [] = b:=rfl;rw [e]
  by_cases h : (frms l).length < b.length
  · rw [if_pos h]
  · rw [if_neg h]
    have h1:=hp.1;have h2:=congrArg List.length h1;rw [List.length_append] at h2;have hr : r = []:=List.eq_nil_of_length_eq_zero (by omega);rw [hr,List.append_nil] at h1;rw [h1]
theorem parts_self {b : List UInt8} {l : List (List UInt8)} {r : List UInt8} (hp : Parts b l r) : Parts (frms l) l []:=⟨by rw [List.append_nil],hp.2.1,3,rfl⟩
theorem parts_le {b : List UInt8} {l : List (List UInt8)} {r : List UInt8} (hp : Parts b l r) : (frms l).length≤b.length∧l.length≤(frms l).length:=by
  obtain ⟨h1,h2,_⟩:=hp;have h3:=congrArg List.length h1;rw [List.length_append] at h3;refine ⟨by omega,?_⟩;clear h1 h2 h3
  induction l with
  | nil=>simp
  | cons x l ih =>
    rw [frms_cons,List.length_append,List.length_cons,frm_length]
    omega
def OpenEnd (w : World) (F : Nat→Prop) (g size : Nat) (lasts : List UInt8) (e : Ending) (w' : World) : Prop :=
  ∃ l r F',Parts lasts l r∧Only F w w'∧Grows F F' w∧match recsM (0,0) l with
    | some (u,i)=>∃ b,e = .returned (.tuple #[.pointer (some ⟨b,0,none⟩),.int .i64 0])∧StoAt w' F' b g size ⟨frms l,u,u,i⟩ (.slice none 0 0)∧w.heap.size≤b
    | none=>e = .returned (.tuple #[.pointer none,.int .i64 4])∧DiskAt w' F' g size (frms l) []
set_option maxHeartbeats 2000000 in
theorem open_any (F : Nat→Prop) (g size : Nat) (lasts : List UInt8) (w : World) (hD : DiskAt w F g size lasts []) (hm : lasts.length≤size) (hs : size≤16384) (h3 : ∀ l r,Parts lasts l r→∀ x ∈ l,x.head? ≠ some 3) :
    Calls Tryz.prog 12 #[.pointer (some ⟨g,0,none⟩)] w (OpenEnd w F g size lasts):=by
  have k0:=Blk.new w 27 #[.int .i64 0];have hbw : Below w.heap.size w (w.alloc (.cells #[.int .i64 0] 27)):=(Below.refl _ _).alloc (Nat.le_refl _) _
  have hsz : w.heap.size < (w.alloc (.cells #[.int .i64 0] 27)).heap.size:=by simp
  have hf : ∀ k,F k→k < w.heap.size:=hD.lt
  have hnF : ¬ F w.heap.size:=fun q=>by have:=hf _ q;omega
  have d0:=hD.below hbw
  go_enter_defers Tryz.func12,Tryz.ntmps12
  go_wp2_with fail
  generalize w.alloc (.cells #[.int .i64 0] 27) = w0 at *
  refine (lmend_any F g size lasts [] _ d0 (by simp [mass];omega) (by simp) hs (by show lasts.length≤_;omega)).mono ?_;rintro e w1 ⟨l,r,hp,q1⟩;have hp : Parts lasts l r:=hp;have h3l:=h3 l r hp;have hpl:=parts_le hp
  unfold LogEnd at q1
  rw [mend_parts hp] at q1;obtain ⟨rfl,q1⟩:=q1;have k1:=q1.kept k0 hnF;obtain ⟨F1,d1,o1,g1⟩:=q1;have HP:=Lib.hid hp;have H3:=Lib.hid h3l
  have hnF1 : ¬ F1 w.heap.size:=fun q=>by
    rcases g1 _ q with x | x
    · exact hnF x
    · omega
  clear hp h3l h3 d0 k0 hD
  go_upto_region 6 with fail
  -- the store's own block
  refine nameW ?_;intro W hW;obtain ⟨b,hb⟩ : ∃ b,b = w1.heap.size:=⟨_,rfl⟩
  have kb : Blk W b 88 (sc g 0 0 0 (.slice none 0 0)):=by rw [hW,hb];exact Blk.new w1 _ _
  have bW : Below w1.heap.size w1 W:=by rw [hW];exact (Below.refl _ _).alloc (Nat.le_refl _) _
  have d2:=d1.below bW;have k2:=k1.below bW k1.lt;have hlb : b < W.heap.size:=kb.lt
  have hbn : b ≠ w.heap.size:=by have:=k1.lt;omega
  have hbF : ¬ F1 b:=fun q=>by have:=d1.lt _ q;omega
  rw [← hb];have HB:=Lib.hid hb;have k1':=k1;clear hW hb d1 k1;go_wp2_with fail;refine (lread_any F1 g size (frms l) [] _ d2 (by simp [mass];omega) (by simp)).mono ?_;rintro e w3 ⟨l',r',A3,c3,hp3,rfl,bo3,b3⟩;have hp3 : Parts (frms l) l' r':=hp3;obtain ⟨rfl,rfl⟩:=(parts_self HP.out).same hp3;have d3:=d2.below b3;have k3:=k2.below b3 k2.lt;have kb3:=kb.below b3 kb.lt;have hl3:=bo3.len
  have hsmall : l.length≤100000:=by have:=hpl;omega
  have hpx:=HP.out.2.1;have oA : Only F w w3:=(((Only.of_below F hbw).trans o1 (Grows.refl _ _)).then_below (bW.mono (by have:=k1'.lt;omega))).then_below (b3.mono (by have:=k1'.lt;have:=bW.size;omega));have hb4 : ∀ x ∈ l,x.length≤4096:=hpx;have HX:=Lib.hid hb4;have HOA:=Lib.hid oA
  have hG1 : Grows F F1 w:=fun k hk=>(g1 k hk).imp id fun q=>Nat.le_trans hbw.size q
  have HG1:=Lib.hid hG1;clear hp3 d2 k2 kb hb4 oA g1 hG1 hl3 hpx o1 hp hpl;obtain ⟨lb,hlb2⟩ : ∃ lb,lb = W.heap.size:=⟨_,rfl⟩;rw [← hlb2] at bo3 hlb
  have hwb : w.heap.size≤b:=by have:=HB.out;have:=k1'.lt;omega
  clear hlb2 bW b3 k1';go_wp2_with fail
  go_loopw [25] (fun i wr=>∃ (k u v : Nat),k≤l.length∧i = .int .i64 (k : Nat)∧recsM (0,0) (l.take k) = some (u,v)∧Blk wr b 88 (sc g 0 u v (.slice none 0 0))∧Only (fun k=>k = b) w3 wr) (fun i _=>l.length - (intOf i).toNat)
  case atStart=>exact ⟨0,0,0,by omega,rfl,rfl,kb3,Only.refl _ _⟩
  case round =>
    clear kb3;obtain ⟨k,u,v,hk,rfl,hr,kb,o⟩:=hrel;have kE:=k3.only o (fun q=>hbn q.symm);have dE:=d3.keep (o.keeps (fun k hk q=>hbF (by rw [← q];exact hk)) d3.lt);have oE : Only F w wr:=HOA.out.trans o (fun k hk=>.inr (by omega))
    by_cases hlt : k < l.length
    · obtain ⟨a,D,m,c,hA,hab,hcell,hrd,hmc,hcm⟩:=(_root_.Go.Proofs.YtfpenfgmpbdakaaGreat.Log.Bods.only bo3 o (fun k hk=>by omega)).rd.at_ hlt
      subst hA
      have hm4 : m≤4096:=by have:=HX.out _ (List.getElem_mem hlt);have:=hrd.1;omega
      have hsn:=take_snoc l hlt
      have hread:=fun (w' : World) (h : Blk w' b 88 (sc g 0 u v (.slice none 0 0))) (h2 : RdB w' wr.heap.size D m l[k]) (h4 : wr.heap.size≤w'.heap.size)=>read_any b g 0 u v (.slice none 0 0) D m c l[k] wr.heap.size w' h h2 h4 (by omega) hmc hcm (H3.out _ (List.getElem_mem hlt))
      have hr2 : recsM (0,0) (l.take (k + 1)) = recM (u,v) l[k]:=by rw [hsn,recsM_snoc,hr]
      have hcut : recsM (0,0) (l.take (k + 1)) = none→recsM (0,0) l = none:=fun h=>by
        have:=recsM_none (l.take (k + 1)) (l.drop (k + 1)) (0,0) h
        rwa [List.take_append_drop] at this
      rw [hr2] at hcut
      generalize l[k] = rk at *
      have HRD:=Lib.hid hread;have HR2:=Lib.hid hr2;have HCU:=Lib.hid hcut;have HE:=Lib.hid (And.intro kE (And.intro dE oE));have HO:=Lib.hid o;have HRB:=Lib.hid hrd;obtain ⟨kk,hkk⟩ : ∃ kk,kk = l.length:=⟨_,rfl⟩;rw [← hkk] at hlt ⊢;have HKK:=Lib.hid hkk;have HKB:=Lib.hid kb
      have hk0 : (0 : Int)≤(k : Int):=by omega
      have hkm : (k : Int) < (kk : Int):=by omega
      have hkx : k≤100000:=by omega
      clear hread hr hr2 hcut kE dE oE o hrd hkk kb hsn d3 k3 bo3;go_wp2_with fail;refine (HRD.out _ (by exact HKB.out) (by exact HRB.out) (by exact Nat.le_refl _)).mono ?_;rintro e w4 ⟨g4,q4⟩;have o4 : Only (fun k=>k = b) w3 w4:=HO.out.trans (Only.of_grown (F:=fun k=>k = b) g4 rfl) (Grows.refl _ _);have o5 : Only (fun k=>k = b) wr w4:=Only.of_grown g4 rfl
      rcases hrc : recM (u,v) rk with _ | ⟨u',v'⟩
      · rw [hrc] at q4
        simp only at q4
        subst q4;have hno:=HCU.out hrc;have HNO:=Lib.hid hno;have kE:=HE.out.1.only o5 (fun q=>hbn q.symm);have dE:=HE.out.2.1.keep (o5.keeps (fun k hk q=>hbF (by rw [← q];exact hk)) HE.out.2.1.lt);have oE : Only F w w4:=HE.out.2.2.trans o5 (fun k hk=>.inr (by omega));clear hno hrc;go_wp2_with fail;refine leaves_cons (f:=38) (args:=#[.pointer (some ⟨w.heap.size,0,none⟩)]) (by simp) (by simp [go_sem]) ?_;refine (caught_panic _ _ _ _ _ (kE.cell 0) (kE.free 0)).mono ?_;rintro e u' w'' ⟨rfl,rfl,rfl⟩;have k9:=(kE.alloc (.cells #[.int .i64 4] 113)).set_ 0 (.int .i64 4);have c9 : World.cell? _ _ = some (.int .i64 4):=k9.cell 0;have o9:=(oE.alloc (.cells #[.int .i64 4] 113)).setCell (p:=⟨w.heap.size,0,none⟩) (.inr (Nat.le_refl _)) (.int .i64 4);have d9:=(dE.below ((Below.refl _ _).alloc (Nat.le_refl _) (.cells #[.int .i64 4] 113))).keep ⟨by simp [World.setCell],fun k hk=>Below.heap_setCell _ ⟨w.heap.size,0,none⟩ (.int .i64 4) k (fun e=>hnF1 (by have e : k = w.heap.size:=e;rw [← e];exact hk))⟩;refine ⟨.tuple #[.pointer none,.int .i64 4],by simp [results,Tryz.results12,go_sem,c9],?_⟩;refine ⟨l,r,F1,HP.out,o9,HG1.out,?_⟩;rw [HNO.out];exact ⟨rfl,d9⟩
      · rw [hrc] at q4
        simp only at q4
        obtain ⟨rfl,kb4⟩:=q4;have HRC:=Lib.hid hrc;clear hrc;go_wp2_with fail
        go_roundw
        case rel=>exact ⟨k + 1,u',v',by omega,by go_num,by rw [HR2.out,HRC.out],kb4,o4⟩
        case measure=>simp [intOf];omega
    · obtain rfl : k = l.length:=by omega
      rw [List.take_length] at hr;have HR:=Lib.hid hr;have hkd : decide ((l.length : Int) < (l.length : Int)) = false:=decide_eq_false (by omega);have c2 : wr.cell? ⟨b,2,none⟩ = some (.int .i64 (u : Nat)):=kb.cell 2;have c1 : wr.cell? ⟨b,1,none⟩ = some (.int .i64 0):=kb.cell 1;have z0 : wr.cell? ⟨w.heap.size,0,none⟩ = some (.int .i64 0):=kE.cell 0;have z1 : wr.frozen? ⟨w.heap.size,0,none⟩ = false:=kE.free 0;have k5:=kb.set_ 1 (.int .i64 (u : Nat));have kE5:=kE.far (p:=⟨b,1,none⟩) (fun q=>hbn q.symm) (.int .i64 (u : Nat));have f0:=kE5.free 0;have f1:=kb.free 1;have HE:=Lib.hid (And.intro kE5 (And.intro dE (And.intro oE k5)));clear kE dE oE k5 kE5 hr kb bo3 d3 k3 o;go_wp2_with fail;have c4 : World.cell? _ _ = some (.int .i64 0):=(HE.out.1.set_ 0 (.int .i64 0)).cell 0;refine leaves_cons (f:=38) (args:=#[.pointer (some ⟨w.heap.size,0,none⟩)]) (by simp) (by simp [go_sem]) ?_;refine (caught_none _ _).mono ?_;rintro e u' w'' ⟨rfl,rfl,rfl⟩;refine ⟨.tuple #[.pointer (some ⟨b,0,none⟩),.int .i64 0],by simp [results,Tryz.results12,go_sem,c4],?_⟩;have o9:=(HE.out.2.2.1.setCell (p:=⟨b,1,none⟩) (.inr hwb) (.int .i64 (u : Nat))).setCell (p:=⟨w.heap.size,0,none⟩) (.inr (Nat.le_refl _)) (.int .i64 0);have d8:=HE.out.2.1.keep ⟨by simp [World.setCell],fun k hk=>Below.heap_setCell wr ⟨b,1,none⟩ (.int .i64 (u : Nat)) k (fun e=>hbF (by have e : k = b:=e;rw [← e];exact hk))⟩;have d9:=d8.keep ⟨by simp [World.setCell],fun k hk=>Below.heap_setCell _ ⟨w.heap.size,0,none⟩ (.int .i64 0) k (fun e=>hnF1 (by have e : k = w.heap.size:=e;rw [← e];exact hk))⟩
      have k9:=HE.out.2.2.2.far (p:=⟨w.heap.size,0,none⟩) (by show b ≠ w.heap.size;exact hbn) (.int .i64 0);refine ⟨l,r,F1,HP.out,o9,HG1.out,?_⟩;rw [HR.out];exact ⟨b,rfl,⟨d9,k9,hbF⟩,hwb⟩
end Sto
end Go.Proofs.YtfpenfgmpbdakaaGreat

namespace Go.Proofs.YtfpenfgmpbdakaaGreat
set_option linter.unusedVariables false
set_option linter.unusedSimpArgs false
set_option maxRecDepth 100000
open Go.RowKit
open Dot Evt
open Disk
namespace Sto.Stp
open _root_.Go.Proofs.YtfpenfgmpbdakaaGreat.Log (writeM LogEnd lwrite_any mendM MendEnd lmend_any lread_any ReadL)
open _root_.Go.Proofs.YtfpenfgmpbdakaaGreat.Frame (frm frms frms_nil frms_cons frms_snoc frms_append frm_length frm_pos Parts AllF)
structure RS where
  u : Nat
  i : Nat
  l : List Ev
def recE (s : RS) : List UInt8→Option RS
  | []=>none
  | k :: t=>if k = 3 then (if (getEv t).2 = 0 then some ⟨s.u,s.i,addE s.l (getEv t).1⟩ else none) else (recM (s.u,s.i) (k :: t)).map fun q=>⟨q.1,q.2,s.l⟩
theorem recE_cons (s : RS) (k : UInt8) (t : List UInt8) : recE s (k :: t) = if k = 3 then (if (getEv t).2 = 0 then some ⟨s.u,s.i,addE s.l (getEv t).1⟩ else none) else (recM (s.u,s.i) (k :: t)).map fun q=>⟨q.1,q.2,s.l⟩:=rfl
theorem addE_len (l : List Ev) (x : Ev) : (addE l x).length≤l.length + 1:=by unfold addE;split <;> simp
theorem recE_len {s s' : RS} {bs : List UInt8} (h : recE s bs = some s') : s'.l.length≤s.l.length + 1:=by
  rcases bs with _ | ⟨k,t⟩
  · cases h
  · rw [recE_cons] at h
    split at h
    · split at h
      · injection h with h
        subst h;exact addE_len _ _
      · cases h
    · cases hr : recM (s.u,s.i) (k :: t) with
      | none=>rw [hr] at h;cases h
      | some q =>
        rw [hr] at h
        simp only [Option.map_some,Option.some.injEq] at h
        subst h;exact Nat.le_succ _
def recsE : RS→List (List UInt8)→Option RS
  | s,[]=>some s
  | s,r :: l=>match recE s r with
    | none=>none
    | some s'=>recsE s' l
theorem recsE_snoc (l : List (List UInt8)) (r : List UInt8) : ∀ s,recsE s (l ++ [r]) = match recsE s l with | none=>none | some s'=>recE s' r:=by
  induction l with
  | nil=>intro s;show (match recE s r with | none=>none | some s'=>some s') = recE s r;cases recE s r <;> rfl
  | cons x l ih =>
    intro s
    show (match recE s x with | none=>none | some s'=>recsE s' (l ++ [r])) = match (match recE s x with | none=>none | some s'=>recsE s' l) with | none=>none | some s'=>recE s' r
    cases h : recE s x with
    | none=>rfl
    | some s'=>exact ih s'
theorem recsE_none (l m : List (List UInt8)) : ∀ s,recsE s l = none→recsE s (l ++ m) = none:=by
  induction l with
  | nil=>intro s h;cases h
  | cons x l ih =>
    intro s h;have h : (match recE s x with | none=>none | some s'=>recsE s' l) = none:=h
    show (match recE s x with | none=>none | some s'=>recsE s' (l ++ m)) = none
    cases e : recE s x with
    | none=>rfl
    | some s'=>rw [e] at h;exact ih s' h
def Mem (w : World) (F : Nat→Prop) (b g used base : Nat) (s : RS) (A : Option Addr) (w' : World) : Prop :=
  ∃ A' n' c' xs',Blk w' b 88 (sc g used s.u s.i (.slice A' n' c'))∧EvsAt w' F b base A' n' c' xs'∧xs'.map (·.e) = s.l∧(∀ k,A'.map (·.block) = some k→A.map (·.block) = some k∨w.heap.size≤k)
def ReadEnd (w : World) (F : Nat→Prop) (b g used base : Nat) (A : Option Addr) (o : Option RS) (e : Ending) (w' : World) : Prop :=
  Only (fun k=>k = b∨A.map (·.block) = some k) w w'∧match o with
    | some s=>e = .returned (.tuple #[])∧Mem w F b g used base s A w'
    | none=>e = .panicked [{ v:=flt 4,recovered:=false }]
theorem read_all (F : Nat→Prop) (b g used base : Nat) (s : RS) (Ae : Option Addr) (ne qe : Nat) (xs : List EvV) (A : Option Addr) (n c : Nat) (bs : List UInt8) (B : Nat) (w : World) (h0 : Blk w b 88 (sc g used s.u s.i (.slice Ae ne qe))) (he : EvsAt w F b base Ae ne qe xs) (hxs : xs.map (·.e) = s.l) (hF : ∀ k,F k→k < w.heap.size) (hba : base≤w.heap.size) (hne : ne≤100000) (hb : RdB w B A n bs) (hB : B≤w.heap.size) (hl : n≤1000000000) (hc : n≤c) (hm : c≤maxLen) :
    Calls Tryz.prog 41 #[.pointer (some ⟨b,0,none⟩),.slice A n c] w (ReadEnd w F b g used base Ae (recE s bs)):=by
  by_cases h3 : bs.head? = some 3
  · rcases bs with _ | ⟨kd,t⟩
    · cases h3
    obtain rfl : kd = 3:=by injection h3
    obtain ⟨a,rfl,_,_⟩:=hb.at_ (k:=0) (by simp);rw [recE_cons,if_pos rfl];refine (read3_any F b g used s.u s.i base Ae ne qe xs a n c t B w h0 he hF hba hne hb hB hl hc hm).mono ?_;rintro e w' h
    rcases HapE.split h with ⟨h1,h2,rfl⟩ | ⟨h1,h2,rfl,A',n',c',xs',h4,h5,h6,h7⟩
    · rw [if_neg h1]
      exact ⟨h2,rfl⟩
    · rw [if_pos h1]
      exact ⟨h2,rfl,A',n',c',xs',h4,h5,by rw [h6,hxs],h7⟩
  · have hr : recE s bs = (recM (s.u,s.i) bs).map fun q=>(⟨q.1,q.2,s.l⟩ : RS):=by
      rcases bs with _ | ⟨kd,t⟩
      · rfl
      · rw [recE_cons,if_neg (fun e=>h3 (by rw [e];rfl))]
    rw [hr];refine (read_any b g used s.u s.i (.slice Ae ne qe) A n c bs B w h0 hb hB (by omega) hc hm h3).mono ?_;rintro e w' ⟨h1,h2⟩;refine ⟨Only.of_grown h1 (.inl rfl),?_⟩
    cases hq : recM (s.u,s.i) bs with
    | none=>rw [hq] at h2;exact h2
    | some q =>
      rw [hq] at h2;obtain ⟨h4,h5⟩:=h2;exact ⟨h4,Ae,ne,qe,xs,h5,he.only (Only.of_grown (F:=fun k=>k = b) h1 rfl) (Grows.refl _ _) (fun k hk=>.inr (.inl hk)),hxs,fun k hk=>.inl hk⟩
def OpenE (w : World) (F : Nat→Prop) (g size : Nat) (lasts : Db) (e : Ending) (w' : World) : Prop :=
  ∃ l r F',Parts lasts.v l r∧Only F w w'∧Grows F F' w∧match recsE ⟨0,0,[]⟩ l with
    | some s=>∃ b A n c xs,e = .returned (.tuple #[.pointer (some ⟨b,0,none⟩),.int .i64 0])∧StoAt w' F' b g size ⟨mendD lasts l,s.u,s.u,s.i⟩ (.slice A n c)∧EvsAt w' F' b w.heap.size A n c xs∧xs.map (·.e) = s.l∧w.heap.size≤b
    | none=>e = .returned (.tuple #[.pointer none,.int .i64 4])∧DiskD w' F' g size (mendD lasts l)
def OpR (w3 : World) (F : Nat→Prop) (b g base : Nat) (s : RS) (wr : World) : Prop :=
  (∃ A n c xs,Blk wr b 88 (sc g 0 s.u s.i (.slice A n c))∧EvsAt wr F b base A n c xs∧xs.map (·.e) = s.l∧(∀ k,A.map (·.block) = some k→w3.heap.size≤k))∧Only (fun k=>k = b) w3 wr
set_option maxHeartbeats 2000000 in
theorem opene_any (F : Nat→Prop) (g size : Nat) (lasts : Db) (w : World) (hD : DiskD w F g size lasts) (hm : lasts.length≤size) (hs : size≤16384) :
    Calls Tryz.prog 12 #[.pointer (some ⟨g,0,none⟩)] w (OpenE w F g size lasts):=by
  have k0:=Blk.new w 27 #[.int .i64 0];have hbw : Below w.heap.size w (w.alloc (.cells #[.int .i64 0] 27)):=(Below.refl _ _).alloc (Nat.le_refl _) _
  have hsz : w.heap.size < (w.alloc (.cells #[.int .i64 0] 27)).heap.size:=by simp
  have hf : ∀ k,F k→k < w.heap.size:=hD.lt
  have hnF : ¬ F w.heap.size:=fun q=>by have:=hf _ q;omega
  have d0:=hD.below hbw
  go_enter_defers Tryz.func12,Tryz.ntmps12
  go_wp2_with fail
  generalize w.alloc (.cells #[.int .i64 0] 27) = w0 at *
  refine (lmendD_any F g size lasts _ d0 hs (by omega)).mono ?_;rintro e w1 ⟨l,r,hp,q1⟩;have hp : Parts lasts.v l r:=hp;have hpl : (frms l).length≤lasts.length∧l.length≤(frms l).length:=parts_le hp;obtain ⟨rfl,q1⟩:=q1;have k1:=q1.kept k0 hnF;obtain ⟨F1,d1,o1,g1⟩:=q1;have HP:=Lib.hid hp
  have hnF1 : ¬ F1 w.heap.size:=fun q=>by
    rcases g1 _ q with x | x
    · exact hnF x
    · omega
  clear hp d0 k0 hD
  go_upto_region 6 with fail
  -- the store's own block
  refine nameW ?_;intro W hW;obtain ⟨b,hb⟩ : ∃ b,b = w1.heap.size:=⟨_,rfl⟩
  have kb : Blk W b 88 (sc g 0 0 0 (.slice none 0 0)):=by rw [hW,hb];exact Blk.new w1 _ _
  have bW : Below w1.heap.size w1 W:=by rw [hW];exact (Below.refl _ _).alloc (Nat.le_refl _) _
  have d2:=d1.below bW;have k2:=k1.below bW k1.lt;have hlb : b < W.heap.size:=kb.lt
  have hbn : b ≠ w.heap.size:=by have:=k1.lt;omega
  have hbF : ¬ F1 b:=fun q=>by have:=d1.lt _ q;omega
  rw [← hb];have HB:=Lib.hid hb;have k1':=k1;clear hW hb d1 k1;go_wp2_with fail;refine (lreadD_any F1 g size (mendD lasts l) _ d2).mono ?_;rintro e w3 ⟨l',r',A3,c3,hp3,rfl,bo3,b3⟩
  have hp3 : Parts (frms l) l' r':=by rw [mend_v HP.out] at hp3;exact hp3
  obtain ⟨rfl,rfl⟩:=(parts_self HP.out).same hp3;have d3:=d2.below b3;have k3:=k2.below b3 k2.lt;have kb3:=kb.below b3 kb.lt;have hl3:=bo3.len
  have hsmall : l.length≤100000:=by have:=hpl;omega
  have hpx:=HP.out.2.1;have oA : Only F w w3:=(((Only.of_below F hbw).trans o1 (Grows.refl _ _)).then_below (bW.mono (by have:=k1'.lt;omega))).then_below (b3.mono (by have:=k1'.lt;have:=bW.size;omega));have hb4 : ∀ x ∈ l,x.length≤4096:=hpx;have HX:=Lib.hid hb4;have HOA:=Lib.hid oA
  have hG1 : Grows F F1 w:=fun k hk=>(g1 k hk).imp id fun q=>Nat.le_trans hbw.size q
  have HG1:=Lib.hid hG1;clear hp3 d2 k2 kb hb4 oA g1 hG1 hl3 hpx o1 hp hpl;obtain ⟨lb,hlb2⟩ : ∃ lb,lb = W.heap.size:=⟨_,rfl⟩;rw [← hlb2] at bo3 hlb
  have hwb : w.heap.size≤b:=by have:=HB.out;have:=k1'.lt;omega
  clear hlb2 bW b3 k1';go_wp2_with fail
  go_loopw [25] (fun i wr=>∃ (k : Nat) (s : RS),k≤l.length∧i = .int .i64 (k : Nat)∧recsE ⟨0,0,[]⟩ (l.take k) = some s∧s.l.length≤k∧OpR w3 F1 b g w.heap.size s wr) (fun i _=>l.length - (intOf i).toNat)
  case atStart=>exact ⟨0,⟨0,0,[]⟩,by omega,rfl,rfl,Nat.le_refl _,⟨none,0,0,[],kb3,⟨OwnEv.nil _ _,fun x hx=>(by simp at hx),fun k hk=>(by cases hk),fun x hx=>(by simp at hx)⟩,rfl,fun k hk=>(by cases hk)⟩,Only.refl _ _⟩
  case round =>
    clear kb3;obtain ⟨k,s,hk,rfl,hr,hsl,⟨Ae,ne,qe,xs,kb,hev,hxs,hAe⟩,o⟩:=hrel;have kE:=k3.only o (fun q=>hbn q.symm);have dE:=d3.keep (o.keeps (fun k hk q=>hbF (by rw [← q];exact hk)) d3.lt);have oE : Only F w wr:=HOA.out.trans o (fun k hk=>.inr (by omega))
    by_cases hlt : k < l.length
    · obtain ⟨a,D,m,c,hA,hab,hcell,hrd,hmc,hcm⟩:=(_root_.Go.Proofs.YtfpenfgmpbdakaaGreat.Log.Bods.only bo3 o (fun k hk=>by omega)).rd.at_ hlt
      subst hA
      have hm4 : m≤4096:=by have:=HX.out _ (List.getElem_mem hlt);have:=hrd.1;omega
      have hsn:=take_snoc l hlt
      have hne : ne≤100000:=by have h1:=hev.row.1;have h2:=congrArg List.length hxs;rw [List.length_map] at h2;omega
      have hba : w.heap.size≤wr.heap.size:=by have:=o.size;have:=HOA.out.size;omega
      have hread:=read_all F1 b g 0 w.heap.size s Ae ne qe xs D m c l[k] wr.heap.size wr kb hev hxs dE.lt hba hne hrd (Nat.le_refl _) (by omega) hmc hcm
      have hr2 : recsE ⟨0,0,[]⟩ (l.take (k + 1)) = recE s l[k]:=by rw [hsn,recsE_snoc,hr]
      have hcut : recsE ⟨0,0,[]⟩ (l.take (k + 1)) = none→recsE ⟨0,0,[]⟩ l = none:=fun h=>by
        have:=recsE_none (l.take (k + 1)) (l.drop (k + 1)) ⟨0,0,[]⟩ h
        rwa [List.take_append_drop] at this
      rw [hr2] at hcut
      generalize l[k] = rk at *
      have HRD:=Lib.hid hread;have HR2:=Lib.hid hr2;have HCU:=Lib.hid hcut;have HE:=Lib.hid (And.intro k3 (And.intro d3 HOA.out));have HO:=Lib.hid o
      have hsl2:=fun (s' : RS) (h : recE s rk = some s')=>recE_len h
      have HSL:=Lib.hid (And.intro hsl hsl2);have HAE:=Lib.hid hAe;obtain ⟨kk,hkk⟩ : ∃ kk,kk = l.length:=⟨_,rfl⟩;rw [← hkk] at hlt ⊢;have HKK:=Lib.hid hkk
      have hk0 : (0 : Int)≤(k : Int):=by omega
      have hkm : (k : Int) < (kk : Int):=by omega
      have hkx : k≤100000:=by omega
      clear hread hr hr2 hcut kE dE oE o hrd hkk kb hsn d3 k3 bo3 hsl hsl2 hAe hev hxs hne hba;go_wp2_with fail;refine HRD.out.mono ?_;rintro e w4 ⟨g4,q4⟩
      have hgr : Grows (fun k=>k = b) (fun k=>k = b∨Ae.map (·.block) = some k) w3:=fun k hk=>hk.imp id (HAE.out k)
      have o4 : Only (fun k=>k = b) w3 w4:=HO.out.trans g4 hgr
      rcases hrc : recE s rk with _ | s'
      · rw [hrc] at q4
        simp only at q4
        subst q4;have hno:=HCU.out hrc;have HNO:=Lib.hid hno;have kE:=HE.out.1.only o4 (fun q=>hbn q.symm);have dE:=HE.out.2.1.keep (o4.keeps (fun k hk q=>hbF (by rw [← q];exact hk)) HE.out.2.1.lt);have oE : Only F w w4:=HE.out.2.2.trans o4 (fun k hk=>.inr (by omega));clear hno hrc;go_wp2_with fail;refine leaves_cons (f:=38) (args:=#[.pointer (some ⟨w.heap.size,0,none⟩)]) (by simp) (by simp [go_sem]) ?_;refine (caught_panic _ _ _ _ _ (kE.cell 0) (kE.free 0)).mono ?_;rintro e u' w'' ⟨rfl,rfl,rfl⟩;have k9:=(kE.alloc (.cells #[.int .i64 4] 113)).set_ 0 (.int .i64 4);have c9 : World.cell? _ _ = some (.int .i64 4):=k9.cell 0;have o9:=(oE.alloc (.cells #[.int .i64 4] 113)).setCell (p:=⟨w.heap.size,0,none⟩) (.inr (Nat.le_refl _)) (.int .i64 4);have d9:=(dE.below ((Below.refl _ _).alloc (Nat.le_refl _) (.cells #[.int .i64 4] 113))).keep ⟨by simp [World.setCell],fun k hk=>Below.heap_setCell _ ⟨w.heap.size,0,none⟩ (.int .i64 4) k (fun e=>hnF1 (by have e : k = w.heap.size:=e;rw [← e];exact hk))⟩;refine ⟨.tuple #[.pointer none,.int .i64 4],by simp [results,Tryz.results12,go_sem,c9],?_⟩;refine ⟨l,r,F1,HP.out,o9,HG1.out,?_⟩;rw [HNO.out];exact ⟨rfl,d9⟩
      · rw [hrc] at q4
        obtain ⟨rfl,A4,n4,c4',xs4,kb4,hev4,hxs4,hA4⟩:=q4;have HRC:=Lib.hid hrc;have HF4:=Lib.hid (fun (k : Nat) (hk : A4.map (·.block) = some k)=>(hA4 k hk).elim (HAE.out k) (fun q=>Nat.le_trans HO.out.size q));clear hrc;go_wp2_with fail
        go_roundw
        case rel=>exact ⟨k + 1,s',by omega,by go_num,by rw [HR2.out,HRC.out],by have h1:=HSL.out.1;have h2:=HSL.out.2 _ HRC.out;omega,⟨A4,n4,c4',xs4,kb4,hev4,hxs4,HF4.out⟩,o4⟩
        case measure=>simp [intOf];omega
    · obtain rfl : k = l.length:=by omega
      rw [List.take_length] at hr;have HR:=Lib.hid hr;have hkd : decide ((l.length : Int) < (l.length : Int)) = false:=decide_eq_false (by omega);have c2 : wr.cell? ⟨b,2,none⟩ = some (.int .i64 (s.u : Nat)):=kb.cell 2;have c1 : wr.cell? ⟨b,1,none⟩ = some (.int .i64 0):=kb.cell 1;have z0 : wr.cell? ⟨w.heap.size,0,none⟩ = some (.int .i64 0):=kE.cell 0;have z1 : wr.frozen? ⟨w.heap.size,0,none⟩ = false:=kE.free 0;have k5:=kb.set_ 1 (.int .i64 (s.u : Nat));have kE5:=kE.far (p:=⟨b,1,none⟩) (fun q=>hbn q.symm) (.int .i64 (s.u : Nat));have f0:=kE5.free 0;have f1:=kb.free 1;have hev5 : EvsAt (wr.setCell ⟨b,1,none⟩ (.int .i64 (s.u : Nat))) F1 b w.heap.size Ae ne qe xs:=hev.setT kb (by decide) (by decide) _ _;have HE:=Lib.hid (And.intro kE5 (And.intro dE (And.intro oE k5)));have HEV:=Lib.hid hev5;clear kE dE oE k5 kE5 hr kb bo3 d3 k3 o hev hev5 hsl hAe;go_wp2_with fail;have c4 : World.cell? _ _ = some (.int .i64 0):=(HE.out.1.set_ 0 (.int .i64 0)).cell 0;refine leaves_cons (f:=38) (args:=#[.pointer (some ⟨w.heap.size,0,none⟩)]) (by simp) (by simp [go_sem]) ?_;refine (caught_none _ _).mono ?_;rintro e u' w'' ⟨rfl,rfl,rfl⟩;refine ⟨.tuple #[.pointer (some ⟨b,0,none⟩),.int .i64 0],by simp [results,Tryz.results12,go_sem,c4],?_⟩;have o9:=(HE.out.2.2.1.setCell (p:=⟨b,1,none⟩) (.inr hwb) (.int .i64 (s.u : Nat))).setCell (p:=⟨w.heap.size,0,none⟩) (.inr (Nat.le_refl _)) (.int .i64 0);have d8:=HE.out.2.1.keep ⟨by simp [World.setCell],fun k hk=>Below.heap_setCell wr ⟨b,1,none⟩ (.int .i64 (s.u : Nat)) k (fun e=>hbF (by have e : k = b:=e;rw [← e];exact hk))⟩
      have d9:=d8.keep ⟨by simp [World.setCell],fun k hk=>Below.heap_setCell _ ⟨w.heap.size,0,none⟩ (.int .i64 0) k (fun e=>hnF1 (by have e : k = w.heap.size:=e;rw [← e];exact hk))⟩;have k9:=HE.out.2.2.2.far (p:=⟨w.heap.size,0,none⟩) (by show b ≠ w.heap.size;exact hbn) (.int .i64 0);refine ⟨l,r,F1,HP.out,o9,HG1.out,?_⟩;rw [HR.out];exact ⟨b,Ae,ne,qe,xs,rfl,⟨d9,k9,hbF⟩,HEV.out.setT HE.out.1 (by decide) (by decide) _ _,hxs,hwb⟩
end Sto.Stp
end Go.Proofs.YtfpenfgmpbdakaaGreat

namespace Go.Proofs.YtfpenfgmpbdakaaGreat
set_option linter.unusedVariables false
set_option linter.unusedSimpArgs false
set_option maxRecDepth 100000
open Go.RowKit
theorem intM_err {l : List UInt8} {e : Nat} (h : e ≠ 0) : Vint.intM l e = (0,l,e):=by unfold Vint.intM;rw [if_neg h]
theorem intM_small (l : List UInt8) (e : Nat) : (Vint.intM l e).2.2 ≠ 0→(Vint.intM l e).1 = 0:=by
  unfold Vint.intM
  by_cases h : e = 0
  · rw [if_pos h]
    cases Vint.dec l with
    | error x=>intro _;rfl
    | ok p=>intro h;exact absurd rfl h
  · rw [if_neg h];intro _;rfl
theorem intM_good {l : List UInt8} {e : Nat} (h : (Vint.intM l e).2.2 = 0) : e = 0∧l = Vint.enc (Vint.intM l e).1 ++ (Vint.intM l e).2.1∧(Vint.intM l e).1≤1099511627776:=by
  unfold Vint.intM at h ⊢
  by_cases he : e = 0
  · rw [if_pos he] at h ⊢
    cases hd : Vint.dec l with
    | error x =>
      rw [hd] at h
      have:=Vint.dec_err hd
      simp only at h
      omega
    | ok p =>
      obtain ⟨n,r⟩:=p
      have:=Vint.dec_ok hd
      exact ⟨he,this.1,this.2⟩
  · rw [if_neg he] at h
    exact absurd h he
def RSt (w : World) (g : Nat) (A : Option Addr) (n c : Nat) (bs r : List UInt8) (e : Nat) : Prop:=∃ at',at'≤n∧RRd w g A n c at' e∧bs.drop at' = r
def RIntM (w : World) (g : Nat) (A : Option Addr) (n c : Nat) (bs r : List UInt8) (e : Nat) (x : Ending) (w' : World) : Prop :=
  x = .returned (.int .i64 ((Vint.intM r e).1 : Nat))∧w.grownBy w' (some g)∧RSt w' g A n c bs (Vint.intM r e).2.1 (Vint.intM r e).2.2
theorem rint_m (g : Nat) (A : Option Addr) (n c B : Nat) (bs r : List UInt8) (e : Nat) (w : World) (hR : RSt w g A n c bs r e) (hb : RdB w B A n bs) (hn : n≤1000000000) :
    Calls Tryz.prog 46 #[.pointer (some ⟨g,0,none⟩)] w (RIntM w g A n c bs r e):=by
  obtain ⟨at',ha,hR,rfl⟩:=hR
  by_cases he : e = 0
  · subst he
    refine (rint_any g A n c at' bs B w hR hb ha (by omega)).mono ?_;rintro x w' ⟨hg,h⟩
    unfold RIntM Vint.intM
    rw [if_pos rfl]
    cases hd : Vint.dec (bs.drop at') with
    | error y =>
      rw [hd] at h;exact ⟨h.1,hg,at',ha,h.2,rfl⟩
    | ok p =>
      obtain ⟨m,r⟩:=p;rw [hd] at h;obtain ⟨h1,h2⟩:=h;refine ⟨h1,hg,n - r.length,by omega,h2,?_⟩;have hl:=hb.1;have hdo:=(Vint.dec_ok hd).1;have hlen:=congrArg List.length hdo;rw [List.length_drop,List.length_append] at hlen;rw [show n - r.length = at' + (Vint.enc m).length by omega,← List.drop_drop,hdo,List.drop_left]
  · refine (rint_fail g A n c at' e w hR he).mono ?_
    rintro x w' ⟨rfl,rfl⟩
    unfold RIntM
    rw [intM_err he];exact ⟨rfl,World.grownBy.refl _ _,at',ha,hR,rfl⟩
theorem rfail_m (g x : Nat) (A : Option Addr) (n c : Nat) (bs r : List UInt8) (e : Nat) (w : World) (hR : RSt w g A n c bs r e) :
    Calls Tryz.prog 98 #[.pointer (some ⟨g,0,none⟩),.int .i64 (x : Nat)] w fun k w'=>k = .returned (.tuple #[])∧w.grownBy w' (some g)∧RSt w' g A n c bs r (if e = 0 then x else e):=by
  obtain ⟨at',ha,hR,hd⟩:=hR;have c2 : w.cell? ⟨g,2,none⟩ = some (.int .i64 (e : Nat)):=hR.cell 2;have f2:=hR.free 2;have HD:=Lib.hid hd
  by_cases he : e = 0
  · subst he
    rw [if_pos rfl];have k2:=Blk.set_ hR 2 (.int .i64 (x : Nat));have g2:=only_set (i:=2) (World.grownBy.refl w (some g)) (.int .i64 (x : Nat));have K2:=Lib.hid k2;have G2:=Lib.hid g2;clear k2 g2 hR hd
    go_enter Tryz.func98,Tryz.ntmps98
    go_wp2_with fail
    go_end0
    exact ⟨rfl,G2.out,at',ha,K2.out,HD.out⟩
  · rw [if_neg he]
    have hq : (((e : Nat) : Int) == 0) = false:=by rw [beq_eq_false_iff_ne];omega
    clear hd
    go_enter Tryz.func98,Tryz.ntmps98
    go_wp2_with fail
    go_end0
    exact ⟨rfl,World.grownBy.refl _ _,at',ha,hR,HD.out⟩
theorem RSt.map {w w' : World} {g : Nat} {A : Option Addr} {n c : Nat} {bs r : List UInt8} {e : Nat} (h : RSt w g A n c bs r e) (f : ∀ t cs,Blk w g t cs→Blk w' g t cs) : RSt w' g A n c bs r e:=by
  obtain ⟨at',h1,h2,h3⟩:=h;exact ⟨at',h1,f _ _ h2,h3⟩
theorem grown_on {a w w' : World} {b : Nat} {row : Option Nat} (h0 : a.grownBy w row) (h : w.grownBy w' (some b)) (hb : a.heap.size≤b) : a.grownBy w' row :=
  ⟨h.os.trans h0.os,h.tape.trans h0.tape,h.output.trans h0.output,Nat.le_trans h0.size h.size,fun k hk hne=>(h.block k (Nat.lt_of_lt_of_le hk h0.size) (fun e=>by injection e;omega)).trans (h0.block k hk hne)⟩
end Go.Proofs.YtfpenfgmpbdakaaGreat

namespace Go.Proofs.YtfpenfgmpbdakaaGreat
set_option linter.unusedVariables false
set_option linter.unusedSimpArgs false
set_option maxRecDepth 100000
open Go.RowKit
section
variable {P : Program} {ops : Array Oper} {Q : Exit→Act→World→Prop} {md : Region.Mode} {S : World→Prop} {c : Nat}
def wpAnyC (P : Program) (md : Region.Mode) (ops : Array Oper) (Q : Exit→Act→World→Prop) (S : World→Prop) (c : Nat) : Nat→Array Bool→Act→World→Prop
  | 0,listed,a,w=>Region.ready md ops listed = []∧Q .normal a w
  | fuel + 1,listed,a,w =>
    (Region.ready md ops listed = []→Q .normal a w) ∧
    ∀ i ∈ Region.ready md ops listed,wpOp P ops Q i (fun a' w'=>((listed.setIfInBounds i true).getD c true = false→S w')∧wpAnyC P md ops Q S c fuel (listed.setIfInBounds i true) a' w') a w
theorem wpAny_of_C : ∀ (fuel : Nat) (listed : Array Bool) (a : Act) (w : World),wpAnyC P md ops Q S c fuel listed a w→wpAny P md ops Q fuel listed a w
  | 0,_,_,_,h=>h
  | fuel + 1,_,_,_,h=>⟨h.1,fun i hi=>wpOp_mono (fun a' w' h'=>wpAny_of_C fuel _ a' w' h'.2) (h.2 i hi)⟩
theorem wpAnyC_first {i : Nat} {oi : Oper} {v : Value} (hi : ops[i]? = some oi) (hsel : ∀ (j : Nat) (o : Oper) cs b,ops[j]? = some o→o.op ≠ .select cs b)
    (hQ : ∀ c a w,Q (.panic c) (a.put oi.dst v) w→Q (.panic c) a w) (hic : i ≠ c) (hdep : ∀ oc,ops[c]? = some oc→∃ e ∈ oc.after,Region.binds md e = true∧e.on = i) :
    ∀ (fuel : Nat) (listed : Array Bool) (a : Act) (w : World),
      (∀ j oj,ops[j]? = some oj→j ≠ i→listed.getD j true = false→(∀ e ∈ oj.after,Region.binds md e = true→e.on ≠ i)→oi.apart ops oj = true) →
      i ∈ Region.ready md ops listed→listed.getD c true = false→YieldsIf P ops S oi v a→S w →
      wpAnyC P md ops Q S c fuel (listed.setIfInBounds i true) (a.put oi.dst v) w→wpAnyC P md ops Q S c (fuel + 1) listed a w:=by
  intro fuel
  induction fuel with
  | zero =>
    intro listed a w _ hr _ hy hS H;refine ⟨fun h=>(by rw [h] at hr;cases hr),fun j hj=>?_⟩
    by_cases hji : j = i
    · subst hji;exact hy.wpOp hi hS ⟨fun _=>hS,H⟩
    · have:=ready_mono hj hji
      rw [H.1] at this
      cases this
  | succ fuel ih =>
    intro listed a w hfree hr hcl hy hS H;refine ⟨fun h=>(by rw [h] at hr;cases hr),fun j hj=>?_⟩
    by_cases hji : j = i
    · subst hji;exact hy.wpOp hi hS ⟨fun _=>hS,H⟩
    · have h1:=H.2 j (ready_mono hj hji)
      obtain ⟨hjun,oj,hoj,hall⟩:=mem_ready.1 hj
      have hnot : ∀ e ∈ oj.after,Region.binds md e = true→e.on ≠ i:=fun e he hb heq=>by
        have h1:=hall e he hb;have h0:=(mem_ready.1 hr).1;rw [heq] at h1
        rcases Nat.lt_or_ge i listed.size with h' | h'
        · simp [h'] at h0 h1;rw [h0] at h1;cases h1
        · simp [Array.getElem?_eq_none h'] at h1
      have hjc : j ≠ c:=fun e=>by
        subst e;obtain ⟨e,he,hb,hon⟩:=hdep oj hoj;exact hnot e he hb hon
      have hcl2 : (listed.setIfInBounds j true).getD c true = false:=by rw [getD_set_ne true hjc];exact hcl
      have hcl3 : ((listed.setIfInBounds i true).setIfInBounds j true).getD c true = false:=by rw [getD_set_ne true hjc,getD_set_ne true hic];exact hcl
      have h2:=wpOp_putIf hoj (hfree j oj hoj hji hjun hnot) (fun cs b=>hsel i oi cs b hi) (fun cs b=>hsel j oj cs b hoj) hQ hy h1
      have hfree' : ∀ k ok,ops[k]? = some ok→k ≠ i→(listed.setIfInBounds j true).getD k true = false →
          (∀ e ∈ ok.after,Region.binds md e = true→e.on ≠ i)→oi.apart ops ok = true:=fun k ok hk hki hun hno=>by
        refine hfree k ok hk hki ?_ hno
        by_cases hjk : j = k
        · subst hjk;exact hjun
        · rw [getD_set_ne true hjk] at hun;exact hun
      refine wpOp_mono (fun a' w' h3=>⟨fun _=>h3.2.1 hcl3,ih (listed.setIfInBounds j true) a' w' hfree' (ready_mono hr (Ne.symm hji)) hcl2 h3.1 (h3.2.1 hcl3) ?_⟩) h2;rw [Array.setIfInBounds_comm _ _ hji];exact h3.2.2
theorem wpAnyC_take {i : Nat} {oi : Oper} {v : Value} {fuel : Nat} {listed : Array Bool} {a : Act} {w : World} (hi : ops[i]? = some oi)
    (hs : Region.noSelect ops = true) (hf : Region.free md ops listed i = true) (hr : (Region.ready md ops listed).contains i = true)
    (hQ : ∀ c a w,Q (.panic c) (a.put oi.dst v) w→Q (.panic c) a w) (hic : i ≠ c) (hdep : ((ops[c]?).map fun oc=>oc.after.any fun e=>Region.binds md e && e.on == i) = some true) (hcl : listed.getD c true = false)
    (hy : YieldsIf P ops S oi v a) (hS : S w)
    (h : wpAnyC P md ops Q S c fuel (listed.setIfInBounds i true) (a.put oi.dst v) w) : wpAnyC P md ops Q S c (fuel + 1) listed a w :=
  wpAnyC_first hi (Region.noSelect_spec hs) hQ hic (fun oc ho=>by
    rw [ho] at hdep
    simp only [Option.map_some,Option.some.injEq] at hdep
    obtain ⟨e,he,hb⟩:=Array.any_eq_true'.1 hdep
    simp only [Bool.and_eq_true,beq_iff_eq] at hb
    exact ⟨e,he,hb.1,hb.2⟩) fuel listed a w (Region.free_spec hi hf) (by simpa using hr) hcl hy hS h
theorem wpAnyC_first0 {i : Nat} {oi : Oper} {v : Value} (hi : ops[i]? = some oi) (hsel : ∀ (j : Nat) (o : Oper) cs b,ops[j]? = some o→o.op ≠ .select cs b)
    (hQ : ∀ c a w,Q (.panic c) (a.put oi.dst v) w→Q (.panic c) a w) (hic : i ≠ c) :
    ∀ (fuel : Nat) (listed : Array Bool) (a : Act) (w : World),
      (∀ j oj,ops[j]? = some oj→j ≠ i→listed.getD j true = false→(∀ e ∈ oj.after,Region.binds md e = true→e.on ≠ i)→oi.apart ops oj = true) →
      i ∈ Region.ready md ops listed→YieldsIf P ops (fun _=>True) oi v a→(listed.getD c true = false→S w) →
      wpAnyC P md ops Q S c fuel (listed.setIfInBounds i true) (a.put oi.dst v) w→wpAnyC P md ops Q S c (fuel + 1) listed a w:=by
  intro fuel
  induction fuel with
  | zero =>
    intro listed a w _ hr hy hS H;refine ⟨fun h=>(by rw [h] at hr;cases hr),fun j hj=>?_⟩
    by_cases hji : j = i
    · subst hji;exact hy.wpOp hi trivial ⟨fun h=>hS (by rw [getD_set_ne true hic] at h;exact h),H⟩
    · have:=ready_mono hj hji
      rw [H.1] at this
      cases this
  | succ fuel ih =>
    intro listed a w hfree hr hy hS H;refine ⟨fun h=>(by rw [h] at hr;cases hr),fun j hj=>?_⟩
    by_cases hji : j = i
    · subst hji;exact hy.wpOp hi trivial ⟨fun h=>hS (by rw [getD_set_ne true hic] at h;exact h),H⟩
    · have h1:=H.2 j (ready_mono hj hji)
      obtain ⟨hjun,oj,hoj,hall⟩:=mem_ready.1 hj
      have hnot : ∀ e ∈ oj.after,Region.binds md e = true→e.on ≠ i:=fun e he hb heq=>by
        have h1:=hall e he hb;have h0:=(mem_ready.1 hr).1;rw [heq] at h1
        rcases Nat.lt_or_ge i listed.size with h' | h'
        · simp [h'] at h0 h1;rw [h0] at h1;cases h1
        · simp [Array.getElem?_eq_none h'] at h1
      have h2:=wpOp_putIf hoj (hfree j oj hoj hji hjun hnot) (fun cs b=>hsel i oi cs b hi) (fun cs b=>hsel j oj cs b hoj) hQ hy h1
      have hfree' : ∀ k ok,ops[k]? = some ok→k ≠ i→(listed.setIfInBounds j true).getD k true = false →
          (∀ e ∈ ok.after,Region.binds md e = true→e.on ≠ i)→oi.apart ops ok = true:=fun k ok hk hki hun hno=>by
        refine hfree k ok hk hki ?_ hno
        by_cases hjk : j = k
        · subst hjk;exact hjun
        · rw [getD_set_ne true hjk] at hun;exact hun
      have hsw : ∀ w',(((listed.setIfInBounds i true).setIfInBounds j true).getD c true = false→S w')→(listed.setIfInBounds j true).getD c true = false→S w':=fun w' h h'=>h (by
        rw [Array.setIfInBounds_comm _ _ (Ne.symm hji),getD_set_ne true hic];exact h')
      refine wpOp_mono (fun a' w' h3=>⟨hsw w' h3.2.1,ih (listed.setIfInBounds j true) a' w' hfree' (ready_mono hr (Ne.symm hji)) h3.1 (hsw w' h3.2.1) ?_⟩) h2;rw [Array.setIfInBounds_comm _ _ hji];exact h3.2.2
theorem wpAnyC_pure {i : Nat} {oi : Oper} {v : Value} {fuel : Nat} {listed : Array Bool} {a : Act} {w : World} (hi : ops[i]? = some oi)
    (hs : Region.noSelect ops = true) (hf : Region.free md ops listed i = true) (hr : (Region.ready md ops listed).contains i = true)
    (hQ : ∀ c a w,Q (.panic c) (a.put oi.dst v) w→Q (.panic c) a w) (hic : i ≠ c) (hy : Yields P ops oi v a) (hS : listed.getD c true = false→S w)
    (h : wpAnyC P md ops Q S c fuel (listed.setIfInBounds i true) (a.put oi.dst v) w) : wpAnyC P md ops Q S c (fuel + 1) listed a w :=
  wpAnyC_first0 hi (Region.noSelect_spec hs) hQ hic fuel listed a w (Region.free_spec hi hf) (by simpa using hr) (Yields.yieldsIf hy) hS h
def AllReadyC (P : Program) (md : Region.Mode) (ops : Array Oper) (Q : Exit→Act→World→Prop) (S : World→Prop) (c : Nat) (fuel : Nat) (listed : Array Bool) (a : Act) (w : World) (rs : List Nat) : Prop :=
  ∀ i ∈ rs,wpOp P ops Q i (fun a' w'=>((listed.setIfInBounds i true).getD c true = false→S w')∧wpAnyC P md ops Q S c fuel (listed.setIfInBounds i true) a' w') a w
theorem AllReadyC.nil {fuel : Nat} {listed : Array Bool} {a : Act} {w : World} : AllReadyC P md ops Q S c fuel listed a w []:=fun _ h=>by cases h
theorem AllReadyC.cons {fuel : Nat} {listed : Array Bool} {a : Act} {w : World} {i : Nat} {o : Oper} {rs : List Nat} (ho : ops[i]? = some o) (hl : (listed.setIfInBounds i true).getD c true = true)
    (h : ∀ K' : Act→World→Prop,Shut (∀ a w,wpAnyC P md ops Q S c fuel (listed.setIfInBounds i true) a w→K' a w)→if Region.wanted o (yielded ops a.tmps) = true then Oper.wp P o a w K' Q else K' (a.put o.dst undef) w)
    (hs : AllReadyC P md ops Q S c fuel listed a w rs) : AllReadyC P md ops Q S c fuel listed a w (i :: rs):=fun j hj=>by
  rcases List.mem_cons.1 hj with rfl | hj
  · exact wpOp_step ho (fun K' hK=>h K' (fun a w hW=>hK a w ⟨(fun h=>by rw [hl] at h;cases h),hW⟩))
  · exact hs j hj
theorem AllReadyC.consS {fuel : Nat} {listed : Array Bool} {a : Act} {w : World} {i : Nat} {o : Oper} {rs : List Nat} (ho : ops[i]? = some o)
    (h : ∀ K' : Act→World→Prop,Shut (∀ a w,S w→wpAnyC P md ops Q S c fuel (listed.setIfInBounds i true) a w→K' a w)→if Region.wanted o (yielded ops a.tmps) = true then Oper.wp P o a w K' Q else K' (a.put o.dst undef) w)
    (hs : AllReadyC P md ops Q S c fuel listed a w rs) : AllReadyC P md ops Q S c fuel listed a w (i :: rs):=fun j hj=>by
  rcases List.mem_cons.1 hj with rfl | hj
  · exact wpOp_step ho (fun K' hK=>h K' (fun a w hS hW=>hK a w ⟨fun _=>hS,hW⟩))
  · exact hs j hj
theorem wpAnyC_ready {rs : List Nat} {fuel : Nat} {listed : Array Bool} {a : Act} {w : World} (hr : Region.ready md ops listed = rs) (hne : rs ≠ [])
    (h : AllReadyC P md ops Q S c fuel listed a w rs) : wpAnyC P md ops Q S c (fuel + 1) listed a w:=⟨fun h0=>absurd (hr ▸ h0) hne,fun i hi=>h i (hr ▸ hi)⟩
theorem wpAnyC_done {listed : Array Bool} {a : Act} {w : World} (hr : Region.ready md ops listed = []) (h : Q .normal a w) : ∀ fuel,wpAnyC P md ops Q S c fuel listed a w
  | 0=>⟨hr,h⟩
  | _ + 1=>⟨fun _=>h,by rw [hr];simp⟩
theorem wp_region_C (S : World→Prop) (c : Nat) {id : Nat} {a : Act} {w : World} (hm : P.follows .mixedOrders = true)
    (h : wpAnyC P .any ops Q S c ops.size (Array.replicate ops.size false) a w.drew) : (Code.region id ops true).wp P Q a w :=
  wp_region_any hm (wpAny_of_C _ _ _ _ h)
end
end Go.Proofs.YtfpenfgmpbdakaaGreat

namespace Go.Proofs.YtfpenfgmpbdakaaGreat
set_option linter.unusedVariables false
set_option linter.unusedSimpArgs false
set_option maxRecDepth 100000
open Go.RowKit
open Dot Evt
namespace Evt
def rdNv : Nat→List UInt8→Nat→List Int × List UInt8 × Nat
  | 0,l,e=>([],l,e)
  | k + 1,l,e =>
    let a:=Vint.intM l e
    let R:=rdNv k a.2.1 a.2.2
    ((a.1 : Int) :: R.1,R.2)
def rd7 (l : List UInt8) (e : Nat) : List Int × List UInt8 × Nat:=rdNv 7 l e
def rdDD : Nat→List UInt8→Nat→List Dt × List UInt8 × Nat
  | 0,l,e=>([],l,e)
  | k + 1,l,e=>if (rdDD k l e).2.2 = 0 then
      let a:=Vint.intM (rdDD k l e).2.1 0
      let b:=Vint.intM a.2.1 a.2.2
      ((rdDD k l e).1 ++ [((a.1 : Int),(b.1 : Int))],b.2)
    else rdDD k l e
def rdK (n q t k w : Nat) (l : List UInt8) (e : Nat) : Ev × List UInt8 × Nat :=
  if k = 1 then
    let v:=Vint.intM l e
    (⟨((n : Int),(q : Int)),t,k,w,(v.1 : Nat),p0,[]⟩,v.2)
  else
    let P:=if k = 2 then rd7 l e else (p0,l,e)
    let m:=Vint.intM P.2.1 P.2.2
    let e6:=if 96 < m.1 then (if m.2.2 = 0 then 6 else m.2.2) else m.2.2
    let D:=rdDD m.1 m.2.1 e6
    (⟨((n : Int),(q : Int)),t,k,w,0,P.1,D.1⟩,D.2)
def rdE (l : List UInt8) : Ev × List UInt8 × Nat :=
  let a:=Vint.intM l 0
  let b:=Vint.intM a.2.1 a.2.2
  let c:=Vint.intM b.2.1 b.2.2
  let d:=Vint.intM c.2.1 c.2.2
  let e4:=if d.2.2 = 0∧¬ (1≤d.1∧d.1≤3) then 4 else d.2.2
  let f:=Vint.intM d.2.1 e4
  rdK a.1 b.1 c.1 d.1 f.1 f.2.1 f.2.2
theorem rd7_len (l : List UInt8) (e : Nat) : (rd7 l e).1.length = 7:=rfl
theorem rdK_p (n q t k w : Nat) (l : List UInt8) (e : Nat) : (rdK n q t k w l e).1.p.length = 7:=by
  unfold rdK
  by_cases h1 : k = 1
  · rw [if_pos h1];rfl
  · rw [if_neg h1]
    by_cases h2 : k = 2
    · simp only [if_pos h2];exact rd7_len l e
    · simp only [if_neg h2];rfl
theorem rdDD_stuck (l : List UInt8) (e k : Nat) (h : (rdDD k l e).2.2 ≠ 0) : ∀ m,k≤m→rdDD m l e = rdDD k l e:=by
  intro m
  induction m with
  | zero => intro hk; obtain rfl : k = 0 := by omega
            rfl
  | succ m ih =>
    intro hk
    by_cases e1 : k = m + 1
    · rw [e1]
    · have h1:=ih (by omega)
      rw [rdDD,if_neg (by rw [h1];exact h),h1]
/-! the same as with early ends -/
theorem rdN_bad (k : Nat) : ∀ (l : List UInt8) (e : Nat),e ≠ 0→(rdNv k l e).2.2 = e:=by
  induction k with
  | zero=>intro l e _;rfl
  | succ k ih =>
    intro l e h
    show (rdNv k (Vint.intM l e).2.1 (Vint.intM l e).2.2).2.2 = e
    rw [intM_err h];exact ih l e h
theorem rdN_ok (k : Nat) : ∀ (l : List UInt8) (ns : List Nat) (r : List UInt8),decs k l = .ok (ns,r)→rdNv k l 0 = (ns.map fun x : Nat=>(x : Int),r,0):=by
  induction k with
  | zero=>intro l ns r h;simp [decs] at h;obtain ⟨rfl,rfl⟩:=h;rfl
  | succ k ih =>
    intro l ns r h
    unfold decs at h
    split at h
    · cases h
    · rename_i n l1 h1
      split at h
      · cases h
      · rename_i ns' r' h2
        injection h with h
        injection h with h h'
        subst h h'
        show (((Vint.intM l 0).1 : Int) :: (rdNv k (Vint.intM l 0).2.1 (Vint.intM l 0).2.2).1,(rdNv k (Vint.intM l 0).2.1 (Vint.intM l 0).2.2).2) = _
        rw [Vint.intM_ok h1]
        simp only
        rw [ih _ _ _ h2]
        rfl
theorem rdN_err (k : Nat) : ∀ (l : List UInt8) (y : Nat),decs k l = .error y→(rdNv k l 0).2.2 = y∧y ≠ 0:=by
  induction k with
  | zero=>intro l y h;cases h
  | succ k ih =>
    intro l y h
    unfold decs at h
    show (rdNv k (Vint.intM l 0).2.1 (Vint.intM l 0).2.2).2.2 = y∧_
    split at h
    · rename_i x h1
      injection h with h
      subst h;have hx:=Vint.dec_err h1
      have hne : x ≠ 0:=by omega
      rw [Vint.intM_bad h1];exact ⟨rdN_bad k _ _ hne,hne⟩
    · rename_i n l1 h1
      split at h
      · rename_i x h2
        injection h with h
        subst h;rw [Vint.intM_ok h1];exact ih _ _ h2
      · cases h
theorem rdDD_ok (k : Nat) (l : List UInt8) : ∀ (ds : List Dt) (r : List UInt8),decD k l = .ok (ds,r)→rdDD k l 0 = (ds,r,0):=by
  induction k with
  | zero=>intro ds r h;simp [decD] at h;obtain ⟨rfl,rfl⟩:=h;rfl
  | succ k ih =>
    intro ds r h
    unfold decD at h
    split at h
    · cases h
    · rename_i ds' r' h0
      split at h
      · cases h
      · rename_i n r1 h1
        split at h
        · cases h
        · rename_i q r2 h2
          injection h with h
          injection h with h h'
          subst h h';rw [rdDD,ih _ _ h0,if_pos rfl]
          simp only [Vint.intM_ok h1,Vint.intM_ok h2]
theorem rdDD_err (k : Nat) (l : List UInt8) : ∀ (y : Nat),decD k l = .error y→(rdDD k l 0).2.2 = y∧y ≠ 0:=by
  induction k with
  | zero=>intro y h;cases h
  | succ k ih =>
    intro y h
    unfold decD at h
    split at h
    · rename_i x h0
      injection h with h
      subst h;obtain ⟨q1,q2⟩:=ih _ h0;rw [rdDD,if_neg (by rw [q1];exact q2)];exact ⟨q1,q2⟩
    · rename_i ds' r' h0
      rw [rdDD,rdDD_ok k l _ _ h0,if_pos rfl]
      split at h
      · rename_i x h1
        injection h with h
        subst h;have hx:=Vint.dec_err h1
        simp only [Vint.intM_bad h1]
        rw [intM_err (by omega)];exact ⟨rfl,by omega⟩
      · rename_i n r1 h1
        split at h
        · rename_i x h2
          injection h with h
          subst h;have hx:=Vint.dec_err h2
          simp only [Vint.intM_ok h1,Vint.intM_bad h2]
          first | exact ⟨rfl,by omega⟩ | exact ⟨trivial,by omega⟩
        · cases h
theorem rdDD_bad (k : Nat) (l : List UInt8) (e : Nat) (h : e ≠ 0) : rdDD k l e = ([],l,e):=rdDD_stuck l e 0 h k (Nat.zero_le _)
def rdLL (l : List UInt8) (e : Nat) : List Dt × List UInt8 × Nat :=
  let m:=Vint.intM l e
  let e6:=if 96 < m.1 then (if m.2.2 = 0 then 6 else m.2.2) else m.2.2
  rdDD m.1 m.2.1 e6
theorem rdLL_ok {l : List UInt8} {ds : List Dt} {r : List UInt8} (h : decL l = .ok (ds,r)) : rdLL l 0 = (ds,r,0):=by
  unfold decL at h
  split at h
  · cases h
  · rename_i m r1 h1
    split at h
    · cases h
    · rename_i hm
      simp only [rdLL,Vint.intM_ok h1,if_neg hm]
      exact rdDD_ok _ _ _ _ h
theorem rdLL_err {l : List UInt8} {y : Nat} (h : decL l = .error y) : (rdLL l 0).2.2 = y∧y ≠ 0:=by
  unfold decL at h
  split at h
  · rename_i x h1
    injection h with h
    subst h;have hx:=Vint.dec_err h1
    simp only [rdLL,Vint.intM_bad h1]
    rw [if_neg (by omega),rdDD_bad _ _ _ (by omega)];exact ⟨rfl,by omega⟩
  · rename_i m r1 h1
    split at h
    · rename_i hm
      injection h with h
      subst h
      simp only [rdLL,Vint.intM_ok h1,if_pos hm,if_true]
      rw [rdDD_bad _ _ _ (by omega)];exact ⟨rfl,by omega⟩
    · rename_i hm
      simp only [rdLL,Vint.intM_ok h1,if_neg hm]
      exact rdDD_err _ _ _ h
theorem rdLL_bad {l : List UInt8} {e : Nat} (h : e ≠ 0) : (rdLL l e).2.2 = e:=by
  simp only [rdLL,intM_err h]
  rw [if_neg (by omega),rdDD_bad _ _ _ h]
theorem rdK_eq (n q t k w : Nat) (l : List UInt8) (e : Nat) : rdK n q t k w l e = if k = 1 then (⟨((n : Int),(q : Int)),t,k,w,((Vint.intM l e).1 : Nat),p0,[]⟩,(Vint.intM l e).2) else
    if k = 2 then (⟨((n : Int),(q : Int)),t,k,w,0,(rd7 l e).1,(rdLL (rd7 l e).2.1 (rd7 l e).2.2).1⟩,(rdLL (rd7 l e).2.1 (rd7 l e).2.2).2)
    else (⟨((n : Int),(q : Int)),t,k,w,0,p0,(rdLL l e).1⟩,(rdLL l e).2):=by
  unfold rdK
  by_cases h1 : k = 1
  · rw [if_pos h1,if_pos h1]
  · rw [if_neg h1,if_neg h1]
    by_cases h2 : k = 2
    · simp only [if_pos h2];rfl
    · simp only [if_neg h2];rfl
theorem rdK_bad (n q t k w : Nat) {l : List UInt8} {e : Nat} (h : e ≠ 0) : (rdK n q t k w l e).2.2 = e:=by
  rw [rdK_eq]
  by_cases h1 : k = 1
  · rw [if_pos h1];simp only [intM_err h]
  · rw [if_neg h1]
    by_cases h2 : k = 2
    · rw [if_pos h2]
      have h3:=rdN_bad 7 l e h
      simp only
      rw [rdLL_bad (by unfold rd7;rw [h3];exact h)];exact h3
    · rw [if_neg h2]
      exact rdLL_bad h
theorem rdK_ok {n q t k w : Nat} {l : List UInt8} {x : Ev} {r : List UInt8} (h : decK n q t k w l = .ok (x,r)) : rdK n q t k w l 0 = (x,r,0):=by
  rw [rdK_eq]
  unfold decK at h
  by_cases h1 : k = 1
  · rw [if_pos h1] at h ⊢
    split at h
    · cases h
    · rename_i h2
      injection h with h
      injection h with h h'
      subst h h'
      simp only [Vint.intM_ok h2]
  · rw [if_neg h1] at h ⊢
    by_cases h2 : k = 2
    · rw [if_pos h2] at h ⊢
      split at h
      · cases h
      · rename_i h3
        split at h
        · cases h
        · rename_i h4
          injection h with h
          injection h with h h'
          subst h h';have h5:=rdN_ok 7 _ _ _ h3
          unfold rd7
          rw [h5]
          simp only [rdLL_ok h4]
    · rw [if_neg h2] at h ⊢
      split at h
      · cases h
      · rename_i h4
        injection h with h
        injection h with h h'
        subst h h'
        simp only [rdLL_ok h4]
theorem rdK_err {n q t k w : Nat} {l : List UInt8} {y : Nat} (h : decK n q t k w l = .error y) : (rdK n q t k w l 0).2.2 = y∧y ≠ 0:=by
  rw [rdK_eq]
  unfold decK at h
  by_cases h1 : k = 1
  · rw [if_pos h1] at h ⊢
    split at h
    · rename_i h2
      injection h with h
      subst h
      have:=Vint.dec_err h2
      simp only [Vint.intM_bad h2]
      exact ⟨trivial,by omega⟩
    · cases h
  · rw [if_neg h1] at h ⊢
    by_cases h2 : k = 2
    · rw [if_pos h2] at h ⊢
      split at h
      · rename_i h3
        injection h with h
        subst h;obtain ⟨q1,q2⟩:=rdN_err 7 _ _ h3
        unfold rd7
        simp only
        rw [rdLL_bad (by rw [q1];exact q2)];exact ⟨q1,q2⟩
      · rename_i h3
        split at h
        · rename_i h4
          injection h with h
          subst h;have h5:=rdN_ok 7 _ _ _ h3
          unfold rd7
          rw [h5];exact rdLL_err h4
        · cases h
    · rw [if_neg h2] at h ⊢
      split at h
      · rename_i h4
        injection h with h
        subst h;exact rdLL_err h4
      · cases h
theorem rdE_eq {l : List UInt8} : (∀ x r,decE l = .ok (x,r)→rdE l = (x,r,0))∧∀ y,decE l = .error y→(rdE l).2.2 = y∧y ≠ 0:=by
  cases h0 : Vint.dec l with
  | error x0 =>
    have hx:=Vint.dec_err h0;refine ⟨fun x r h=>?_,fun y h=>?_⟩
    · simp [decE,h0] at h
    · simp [decE,h0] at h
      subst h
      have hne : x0 ≠ 0:=by omega
      simp only [rdE,Vint.intM_bad h0,intM_err hne,hne,false_and,if_false]
      exact ⟨rdK_bad _ _ _ _ _ hne,hne⟩
  | ok p0 =>
    obtain ⟨n,l1⟩:=p0
    cases h1 : Vint.dec l1 with
    | error x0 =>
      have hx:=Vint.dec_err h1;refine ⟨fun x r h=>?_,fun y h=>?_⟩
      · simp [decE,h0,h1] at h
      · simp [decE,h0,h1] at h
        subst h
        have hne : x0 ≠ 0:=by omega
        simp only [rdE,Vint.intM_ok h0,Vint.intM_bad h1,intM_err hne,hne,false_and,if_false]
        exact ⟨rdK_bad _ _ _ _ _ hne,hne⟩
    | ok p1 =>
      obtain ⟨q,l2⟩:=p1
      cases h2 : Vint.dec l2 with
      | error x0 =>
        have hx:=Vint.dec_err h2;refine ⟨fun x r h=>?_,fun y h=>?_⟩
        · simp [decE,h0,h1,h2] at h
        · simp [decE,h0,h1,h2] at h
          subst h
          have hne : x0 ≠ 0:=by omega
          simp only [rdE,Vint.intM_ok h0,Vint.intM_ok h1,Vint.intM_bad h2,intM_err hne,hne,false_and,if_false]
          exact ⟨rdK_bad _ _ _ _ _ hne,hne⟩
      | ok p2 =>
        obtain ⟨t,l3⟩:=p2
        cases h3 : Vint.dec l3 with
        | error x0 =>
          have hx:=Vint.dec_err h3;refine ⟨fun x r h=>?_,fun y h=>?_⟩
          · simp [decE,h0,h1,h2,h3] at h
          · simp [decE,h0,h1,h2,h3] at h
            subst h
            have hne : x0 ≠ 0:=by omega
            simp only [rdE,Vint.intM_ok h0,Vint.intM_ok h1,Vint.intM_ok h2,Vint.intM_bad h3,intM_err hne,hne,false_and,if_false]
            exact ⟨rdK_bad _ _ _ _ _ hne,hne⟩
        | ok p3 =>
          obtain ⟨k,l4⟩:=p3
          by_cases hk : 1≤k∧k≤3
          · cases h4 : Vint.dec l4 with
            | error x0 =>
              have hx:=Vint.dec_err h4;refine ⟨fun x r h=>?_,fun y h=>?_⟩
              · simp [decE,h0,h1,h2,h3,h4,hk] at h
              · simp [decE,h0,h1,h2,h3,h4,hk] at h
                subst h
                have hne : x0 ≠ 0:=by omega
                simp only [rdE,Vint.intM_ok h0,Vint.intM_ok h1,Vint.intM_ok h2,Vint.intM_ok h3,hk,and_self,not_true_eq_false,and_false,if_false,Vint.intM_bad h4]
                exact ⟨rdK_bad _ _ _ _ _ hne,hne⟩
            | ok p4 =>
              obtain ⟨w,l5⟩:=p4;refine ⟨fun x r h=>?_,fun y h=>?_⟩
              · have h' : decK n q t k w l5 = .ok (x,r):=by simpa [decE,h0,h1,h2,h3,h4,hk] using h
                simp only [rdE,Vint.intM_ok h0,Vint.intM_ok h1,Vint.intM_ok h2,Vint.intM_ok h3,hk,and_self,not_true_eq_false,and_false,if_false,Vint.intM_ok h4]
                exact rdK_ok h'
              · have h' : decK n q t k w l5 = .error y:=by simpa [decE,h0,h1,h2,h3,h4,hk] using h
                simp only [rdE,Vint.intM_ok h0,Vint.intM_ok h1,Vint.intM_ok h2,Vint.intM_ok h3,hk,and_self,not_true_eq_false,and_false,if_false,Vint.intM_ok h4]
                exact rdK_err h'
          · refine ⟨fun x r h=>?_,fun y h=>?_⟩
            · simp [decE,h0,h1,h2,h3,hk] at h
            · simp [decE,h0,h1,h2,h3,hk] at h
              subst h
              simp only [rdE,Vint.intM_ok h0,Vint.intM_ok h1,Vint.intM_ok h2,Vint.intM_ok h3,hk,not_false_eq_true,and_true,if_true,intM_err (show (4 : Nat) ≠ 0 by omega)]
              exact ⟨rdK_bad _ _ _ _ _ (by omega),by omega⟩
end Evt
def ReadEv (w : World) (g : Nat) (A : Option Addr) (n c : Nat) (bs r0 : List UInt8) (e : Ending) (w' : World) : Prop :=
  ∃ A' m' c',e = .returned (.agg (ec (rdE r0).1 (.slice A' m' c')))∧OwnD w' w.heap.size A' m' c' (rdE r0).1.l∧RSt w' g A n c bs (rdE r0).2.1 (rdE r0).2.2∧w.grownBy w' (some g)
theorem stepsD {w : World} {ops : Array Oper} {o : Oper} {a : Act} {K : Act→World→Prop} {Q : Exit→Act→World→Prop} {E : Prop} (hgd : o.guard = none) (s x : Operand)
    (ho : o.op = .call { callee:=.builtin .append,args:=#[s,x],argTypes:=#[45,45] })
    {base : Nat} {A : Option Addr} {n c : Nat} {bs : List Dt} (hs : a.eval s = .slice A n c) (hown : OwnD w base A n c bs)
    {B : Nat} {D : Option Addr} {m d : Nat} {news : List Dt} (hx : a.eval x = .slice D m d) (hr : Rd w B D (dcs news)) (hm : m = news.length)
    (hbytes : n + m≤1000000000000) (hbase : base≤w.heap.size)
    (h : ∀ A' c' w',OwnD w' base A' (n + m) c' (bs ++ news)→w.grownBy w' (A.map (·.block))→Moved A' (A.map (·.block)) w.heap.size→Below base w w' →
      K (a.put o.dst (.slice A' (n + m) c')) w') :
    if Region.wanted o (yielded ops a.tmps) = true then Oper.wp Tryz.prog o a w K Q else E:=by
  have hw : Region.wanted o (yielded ops a.tmps) = true:=by simp [Region.wanted,hgd]
  rw [if_pos hw];obtain ⟨i0,hi,hz0,hz1,hz2⟩:=info_parts infoD
  have hob : (Value.slice A n c).ownBlock = A.map (·.block):=by cases A <;> rfl
  obtain ⟨v',w',hrun,h2,h3,h4⟩:=run_app (P:=Tryz.prog) w base 45 o.type 42 i0 (.agg #[.int .i64 0,.int .i64 0]) 2 16 Tryz.underlying45 hi hz0 hz1 hz2 rfl (by decide) (.slice A n c) n _ hown.2 B D m d (dcs news) hr (by rw [dcs_len,hm]) (dcs_one _) (by unfold maxLen;omega) (by omega) hbase
  unfold Oper.wp execOp
  simp only [ho,resolve,invoke,builtin,Sem.run_bind,Sem.run_pure,Result.andThen_ok,List.map_toArray,List.map_cons,List.map_nil,hs,hx,hrun]
  have hv : ∃ A' c',v' = .slice A' (n + m) c'∧v'.ownBlock = A'.map (·.block):=by
    rcases h2.2 with ⟨rfl,h0⟩ | ⟨g,cap,cur,rfl,_⟩
    · exact ⟨none,0,by rw [h0],rfl⟩
    · exact ⟨_,_,rfl,rfl⟩
  obtain ⟨A',c',rfl,hb⟩:=hv;rw [hb] at h4;rw [hob] at h3 h4;exact h _ _ _ ⟨by rw [List.length_append,hown.1,hm],by rw [dcs_app];exact h2⟩ h3 h4 ((Below.refl _ _).grown h3 hbase (fun g hg=>(hown.lt g hg).1))
structure RdEvS (w0 : World) (g b : Nat) (A : Option Addr) (n c : Nat) (bs : List UInt8) (cs : Array Value) (r : List UInt8) (e : Nat) (w : World) : Prop where
  kz : Blk w b 47 (cT 0)
  kx : Blk w (b + 1) 47 cs
  R : RSt w g A n c bs r e
  gW : w0.grownBy w (some g)
section
variable {w0 w w' : World} {g b n c : Nat} {A : Option Addr} {bs r : List UInt8} {cs : Array Value} {e : Nat}
theorem RdEvS.after (h : RdEvS w0 g b A n c bs cs r e w) (hgb : g < b) {r' : List UInt8} {e' : Nat} (gg : w.grownBy w' (some g)) (R : RSt w' g A n c bs r' e') : RdEvS w0 g b A n c bs cs r' e' w' :=
  ⟨h.kz.grown gg (fun h=>by injection h;omega),h.kx.grown gg (fun h=>by injection h;omega),R,grown_trans h.gW gg⟩
theorem RdEvS.set_ (h : RdEvS w0 g b A n c bs cs r e w) (hgb : g < b) (hw : w0.heap.size≤b) (i : Nat) (v : Value) : RdEvS w0 g b A n c bs (cs.setIfInBounds i v) r e (w.setCell ⟨b + 1,i,none⟩ v) :=
  ⟨h.kz.far (p:=⟨b + 1,i,none⟩) (by show b ≠ b + 1;omega) v,h.kx.set_ i v,h.R.map fun _ _ k=>k.far (p:=⟨b + 1,i,none⟩) (by show g ≠ b + 1;omega) v,only_new h.gW (p:=⟨b + 1,i,none⟩) (by show _≤b + 1;omega) v⟩
theorem RdEvS.cs_ (h : RdEvS w0 g b A n c bs cs r e w) {cs' : Array Value} (hc : cs = cs') : RdEvS w0 g b A n c bs cs' r e w:=hc ▸ h
end
set_option maxRecDepth 100000 in
set_option maxHeartbeats 4000000 in
theorem rread07_any (g : Nat) (A : Option Addr) (n c B : Nat) (bs r0 : List UInt8) (w : World) (hR : RSt w g A n c bs r0 0) (hb : RdB w B A n bs) (hB : B≤g) (hglt : g < w.heap.size) (hn : n≤1000000000) :
    Calls Tryz.prog 75 #[.pointer (some ⟨g,0,none⟩)] w (ReadEv w g A n c bs r0):=by
  have HBG:=Lib.hid (hb.more hB);have HGL:=Lib.hid hglt;clear hb;have HINT:=Lib.hid (fun (r : List UInt8) (e : Nat) (w1 : World) (h : RSt w1 g A n c bs r e) (gW : w.grownBy w1 (some g))=>rint_m g A n c g bs r e w1 h (Rdr.only HBG.out gW HGL.out) hn)
  go_enter Tryz.func75,Tryz.ntmps75
  go_upto_region 2 with fail
  refine nameW ?_;intro wv hwv;obtain ⟨b,hbb⟩ : ∃ b,b = w.heap.size:=⟨_,rfl⟩;rw [← hbb]
  have h0 : RdEvS w g b A n c bs (cT 0) r0 0 wv:=by
    refine ⟨?_,?_,?_,?_⟩
    · rw [hwv,hbb];exact (Blk.new w _ _).alloc _
    · have h:=Blk.new (w.alloc (.cells (cT 0) 47)) 47 (cT 0)
      rw [show (w.alloc (.cells (cT 0) 47)).heap.size = w.heap.size + 1 by simp] at h;rw [hwv,hbb];exact h
    · rw [hwv];exact hR.map (fun _ _ k=>(k.alloc _).alloc _)
    · rw [hwv];exact only_alloc (only_alloc (World.grownBy.refl _ _) _) _
  have HW:=Lib.hid (show w.heap.size≤b∧g < b from by omega);clear hwv hbb hR hglt;go_wp2_with fail;refine (HINT.out _ _ _ h0.R h0.gW).mono ?_;rintro e w1 ⟨rfl,gg,R1⟩;obtain ⟨n1,r1,e1,hI⟩ : ∃ n1 r1 e1,Vint.intM r0 0 = (n1,r1,e1):=⟨_,_,_,rfl⟩;rw [hI] at R1 ⊢;have HI0:=Lib.hid hI;have h0':=h0.after HW.out.2 gg R1;clear gg hI R1 h0;have cc:=h0'.kx.cell 0;have fc:=h0'.kx.free 0;have h1:=(h0'.set_ HW.out.2 HW.out.1 0 (.int .i64 (n1 : Nat))).cs_ (cs':=#[.int .i64 (n1 : Nat),.int .i64 0,.int .i64 0,.int .i64 0,.int .i64 0,.int .i64 0,.int .i64 0,.int .i64 0,.int .i64 0,.int .i64 0,.int .i64 0,.int .i64 0,.int .i64 0,.slice none 0 0]) rfl;clear h0'
  go_upto_region 3 with fail
  refine nameW ?_;intro W1 hwn;rw [← hwn] at h1;clear hwn cc fc;go_wp2_with fail;refine (HINT.out _ _ _ h1.R h1.gW).mono ?_;rintro e w2 ⟨rfl,gg,R2⟩;obtain ⟨q,r2,e2,hI⟩ : ∃ q r2 e2,Vint.intM r1 e1 = (q,r2,e2):=⟨_,_,_,rfl⟩;rw [hI] at R2 ⊢;have HI1:=Lib.hid hI;have h1':=h1.after HW.out.2 gg R2;clear gg hI R2 h1;have cc:=h1'.kx.cell 1;have fc:=h1'.kx.free 1;have h2:=(h1'.set_ HW.out.2 HW.out.1 1 (.int .i64 (q : Nat))).cs_ (cs':=#[.int .i64 (n1 : Nat),.int .i64 (q : Nat),.int .i64 0,.int .i64 0,.int .i64 0,.int .i64 0,.int .i64 0,.int .i64 0,.int .i64 0,.int .i64 0,.int .i64 0,.int .i64 0,.int .i64 0,.slice none 0 0]) rfl;clear h1'
  go_upto_region 4 with fail
  refine nameW ?_;intro W2 hwn;rw [← hwn] at h2;clear hwn cc fc;go_wp2_with fail;refine (HINT.out _ _ _ h2.R h2.gW).mono ?_;rintro e w3 ⟨rfl,gg,R3⟩;obtain ⟨t,r3,e3,hI⟩ : ∃ t r3 e3,Vint.intM r2 e2 = (t,r3,e3):=⟨_,_,_,rfl⟩;rw [hI] at R3 ⊢;have HI2:=Lib.hid hI;have h2':=h2.after HW.out.2 gg R3;clear gg hI R3 h2;have cc:=h2'.kx.cell 2;have fc:=h2'.kx.free 2;have h3:=(h2'.set_ HW.out.2 HW.out.1 2 (.int .i64 (t : Nat))).cs_ (cs':=#[.int .i64 (n1 : Nat),.int .i64 (q : Nat),.int .i64 (t : Nat),.int .i64 0,.int .i64 0,.int .i64 0,.int .i64 0,.int .i64 0,.int .i64 0,.int .i64 0,.int .i64 0,.int .i64 0,.int .i64 0,.slice none 0 0]) rfl;clear h2'
  go_upto_region 5 with fail
  refine nameW ?_;intro W3 hwn;rw [← hwn] at h3;clear hwn cc fc;go_wp2_with fail;refine (HINT.out _ _ _ h3.R h3.gW).mono ?_;rintro e w4 ⟨rfl,gg,R4⟩;obtain ⟨k,r4,e4,hI⟩ : ∃ k r4 e4,Vint.intM r3 e3 = (k,r4,e4):=⟨_,_,_,rfl⟩;rw [hI] at R4 ⊢;have HI3:=Lib.hid hI;have h3':=h3.after HW.out.2 gg R4;clear gg hI R4 h3;have cc:=h3'.kx.cell 3;have fc:=h3'.kx.free 3;have h4:=(h3'.set_ HW.out.2 HW.out.1 3 (.int .i64 (k : Nat))).cs_ (cs':=#[.int .i64 (n1 : Nat),.int .i64 (q : Nat),.int .i64 (t : Nat),.int .i64 (k : Nat),.int .i64 0,.int .i64 0,.int .i64 0,.int .i64 0,.int .i64 0,.int .i64 0,.int .i64 0,.int .i64 0,.int .i64 0,.slice none 0 0]) rfl;clear h3'
  go_upto_region 6 with fail
  refine nameW ?_;intro W4 hwn;rw [← hwn] at h4;clear hwn cc fc;obtain ⟨F,hF⟩ : ∃ F : Bool,F = decide (e4 = 0∧¬ (1≤k∧k≤3)):=⟨_,rfl⟩;have HF:=Lib.hid hF;clear hF
  go_cut [35] (fun f wx=>f = .bool F∧W4 = wx)
  case first =>
    obtain ⟨at4,_,kR,_⟩:=h4.R;have c2 : W4.cell? ⟨g,2,none⟩ = some (.int .i64 (e4 : Nat)):=kR.cell 2;have c3 : W4.cell? ⟨b + 1,3,none⟩ = some (.int .i64 (k : Nat)):=h4.kx.cell 3
    by_cases he : e4 = 0
    · have hq : ((e4 : Int) == 0) = true:=by rw [beq_iff_eq];omega
      by_cases hk1 : 1≤k
      · have d1 : decide ((k : Int) < 1) = false:=decide_eq_false (by omega)
        by_cases hk2 : k≤3
        · have d3 : decide ((3 : Int) < (k : Int)) = false:=decide_eq_false (by omega)
          have hf : F = false:=by rw [HF.out];simp [hk1,hk2]
          subst hf;clear he kR;go_wp2_with fail;go_meet;exact ⟨rfl,rfl⟩
        · have d3 : decide ((3 : Int) < (k : Int)) = true:=decide_eq_true (by omega)
          have hf : F = true:=by rw [HF.out];simp [he,hk2]
          subst hf;clear he kR;go_wp2_with fail;go_meet;exact ⟨rfl,rfl⟩
      · have d1 : decide ((k : Int) < 1) = true:=decide_eq_true (by omega)
        have hf : F = true:=by rw [HF.out];simp [he,hk1]
        subst hf;clear he kR;go_wp2_with fail;go_meet;exact ⟨rfl,rfl⟩
    · have hq : ((e4 : Int) == 0) = false:=by rw [beq_eq_false_iff_ne];omega
      have hf : F = false:=by rw [HF.out];simp [he]
      subst hf;clear he kR;go_wp2_with fail;go_meet;exact ⟨rfl,rfl⟩
  case rest =>
  obtain ⟨rfl,rfl⟩:=hcut
  obtain ⟨f4,hf4⟩ : ∃ f4 : Nat,f4 = if e4 = 0∧¬ (1≤k∧k≤3) then 4 else e4:=⟨_,rfl⟩
  have HF4:=Lib.hid hf4;clear hf4
  go_upto_if 35 with fail
  go_cut [] (fun wx=>RdEvS w g b A n c bs #[.int .i64 (n1 : Nat),.int .i64 (q : Nat),.int .i64 (t : Nat),.int .i64 (k : Nat),.int .i64 0,.int .i64 0,.int .i64 0,.int .i64 0,.int .i64 0,.int .i64 0,.int .i64 0,.int .i64 0,.int .i64 0,.slice none 0 0] r4 f4 wx)
  case first =>
    cases F
    case false =>
      have hf : f4 = e4:=by
        rw [HF4.out,if_neg];intro h
        have:=HF.out
        rw [decide_eq_true h] at this
        cases this
      rw [← hf] at h4;clear hf;go_wp2_with fail;go_meet;exact h4
    case true =>
      have hf : f4 = 4:=by
        rw [HF4.out,if_pos (of_decide_eq_true HF.out.symm)]
      obtain ⟨kz,kx,⟨at4,q1,kR,q2⟩,gW⟩:=h4;have c2 : W4.cell? ⟨g,2,none⟩ = some (.int .i64 (e4 : Nat)):=kR.cell 2;have f2:=kR.free 2;have hn5 : RdEvS w g b A n c bs #[.int .i64 (n1 : Nat),.int .i64 (q : Nat),.int .i64 (t : Nat),.int .i64 (k : Nat),.int .i64 0,.int .i64 0,.int .i64 0,.int .i64 0,.int .i64 0,.int .i64 0,.int .i64 0,.int .i64 0,.int .i64 0,.slice none 0 0] r4 4 (W4.setCell ⟨g,2,none⟩ (.int .i64 4)):=⟨kz.far (p:=⟨g,2,none⟩) (by show b ≠ g;have:=HW.out;omega) _,kx.far (p:=⟨g,2,none⟩) (by show b + 1 ≠ g;have:=HW.out;omega) _,⟨at4,q1,kR.set_ 2 _,q2⟩,only_set gW _⟩;have HN5:=Lib.hid hn5;have HFF:=Lib.hid hf;clear hf hn5 kz kx kR gW;go_wp2_with fail;go_meet;rw [HFF.out];exact HN5.out
  case rest =>
  have h4:=hcut;clear hcut
  rename_i _ W4
  go_upto_region 8 with fail
  go_wp2_with fail;refine (HINT.out _ _ _ h4.R h4.gW).mono ?_;rintro e w5 ⟨rfl,gg,R5⟩;obtain ⟨wk,r5,e5,hI⟩ : ∃ wk r5 e5,Vint.intM r4 f4 = (wk,r5,e5):=⟨_,_,_,rfl⟩;rw [hI] at R5 ⊢;have HI4:=Lib.hid hI;have h4':=h4.after HW.out.2 gg R5;clear gg hI R5 h4;have cc:=h4'.kx.cell 4;have fc:=h4'.kx.free 4;have h5:=(h4'.set_ HW.out.2 HW.out.1 4 (.int .i64 (wk : Nat))).cs_ (cs':=#[.int .i64 (n1 : Nat),.int .i64 (q : Nat),.int .i64 (t : Nat),.int .i64 (k : Nat),.int .i64 (wk : Nat),.int .i64 0,.int .i64 0,.int .i64 0,.int .i64 0,.int .i64 0,.int .i64 0,.int .i64 0,.int .i64 0,.slice none 0 0]) rfl;clear h4'
  go_upto_region 9 with fail
  refine nameW ?_;intro W5 hwn;rw [← hwn] at h5;clear hwn cc fc
  by_cases hk1 : k = 1
  · have hq1 : ((k : Int) == 1) = true:=by rw [beq_iff_eq];omega
    have HK1:=Lib.hid hk1;clear hk1;have cc:=h5.kx.cell 3;have c3 : W5.cell? ⟨b + 1,3,none⟩ = some (.int .i64 (k : Nat)):=cc;clear cc;go_wp2_with fail;clear c3;refine (HINT.out _ _ _ h5.R h5.gW).mono ?_;rintro e w6 ⟨rfl,gg,R6⟩;obtain ⟨v,r6,e6,hI⟩ : ∃ v r6 e6,Vint.intM r5 e5 = (v,r6,e6):=⟨_,_,_,rfl⟩;rw [hI] at R6 ⊢;have HI5:=Lib.hid hI;have h5':=h5.after HW.out.2 gg R6;clear gg hI R6 h5;have cc:=h5'.kx.cell 5;have fc:=h5'.kx.free 5;have h6:=(h5'.set_ HW.out.2 HW.out.1 5 (.int .i64 (v : Nat))).cs_ (cs':=#[.int .i64 (n1 : Nat),.int .i64 (q : Nat),.int .i64 (t : Nat),.int .i64 (k : Nat),.int .i64 (wk : Nat),.int .i64 (v : Nat),.int .i64 0,.int .i64 0,.int .i64 0,.int .i64 0,.int .i64 0,.int .i64 0,.int .i64 0,.slice none 0 0]) rfl;clear h5'
    go_upto_region 11 with fail
    refine nameW ?_;intro W6 hwn;rw [← hwn] at h6;clear hwn cc fc
    have HE:=Lib.hid (show rdE r0 = (⟨((n1 : Int),(q : Int)),(t : Nat),(k : Nat),(wk : Nat),(v : Nat),Evt.p0,[]⟩,r6,e6) by
      have h1:=HF4.out
      simp only [rdE,HI0.out,HI1.out,HI2.out,HI3.out]
      rw [← h1,HI4.out,rdK_eq,if_pos HK1.out,HI5.out])
    obtain ⟨cz,hcz⟩ : ∃ cz : Array Value,cz = #[.int .i64 (n1 : Nat),.int .i64 (q : Nat),.int .i64 (t : Nat),.int .i64 (k : Nat),.int .i64 (wk : Nat),.int .i64 (v : Nat),.int .i64 0,.int .i64 0,.int .i64 0,.int .i64 0,.int .i64 0,.int .i64 0,.int .i64 0,.slice none 0 0]:=⟨_,rfl⟩;have hf:=h6.cs_ hcz.symm;have SX:=Lib.hid (show cz.size = 14 by rw [hcz];rfl);have OX:=Lib.hid (show cz.all (·.oneCell') = true by rw [hcz];kernel_rfl);have SZ:=Lib.hid (show (cT 0).size = 14 from rfl);have HCZ:=Lib.hid hcz;obtain ⟨kz,kx,hRf,gWf⟩:=hf;clear hcz h6
    go_wp2_with first
      | ((with_reducible refine wpList_ld rowE kx SX.out ?_ ?_);rotate_left;(rfl))
      | ((with_reducible refine wpList_st rowE kz SX.out SZ.out OX.out ?_ ?_ ?_);rotate_left;(rfl);(rfl);intro w92 k92 g92 z92)
    have hR92:=hRf.map (fun _ _ k=>k.grown g92 (fun h=>by injection h;have:=HW.out;omega));have gW92:=grown_on gWf g92 HW.out.1;exact bodyPost_ret (v:=.agg cz) (results_blk rfl rowE k92 SX.out rfl) rfl ⟨none,0,0,by rw [HE.out,HCZ.out];rfl,by rw [HE.out];exact OwnD.nil _ _,by rw [HE.out];exact hR92,gW92⟩
  have hq1 : ((k : Int) == 1) = false:=by rw [beq_eq_false_iff_ne];omega
  have HK1:=Lib.hid hk1;clear hk1;have c3 : W5.cell? ⟨b + 1,3,none⟩ = some (.int .i64 (k : Nat)):=h5.kx.cell 3;obtain ⟨P,rP,eP,hP⟩ : ∃ P rP eP,(if k = 2 then rd7 r5 e5 else (Evt.p0,r5,e5)) = (P,rP,eP):=⟨_,_,_,rfl⟩;have HP:=Lib.hid hP;clear hP
  go_upto_if 51 with fail
  go_cut [] (fun wx=>RdEvS w g b A n c bs #[.int .i64 (n1 : Nat),.int .i64 (q : Nat),.int .i64 (t : Nat),.int .i64 (k : Nat),.int .i64 (wk : Nat),.int .i64 0,.int .i64 (P.getD 0 0),.int .i64 (P.getD 1 0),.int .i64 (P.getD 2 0),.int .i64 (P.getD 3 0),.int .i64 (P.getD 4 0),.int .i64 (P.getD 5 0),.int .i64 (P.getD 6 0),.slice none 0 0] rP eP wx)
  case first =>
    by_cases hk2 : k = 2
    · have hq2 : ((k : Int) == 2) = true:=by rw [beq_iff_eq];omega
      have HK2:=Lib.hid hk2;clear hk2;go_wp2_with fail;clear c3;refine (HINT.out _ _ _ h5.R h5.gW).mono ?_;rintro e w6 ⟨rfl,gg,R6⟩;obtain ⟨y0,r6,e6,hI⟩ : ∃ y0 r6 e6,Vint.intM r5 e5 = (y0,r6,e6):=⟨_,_,_,rfl⟩;rw [hI] at R6 ⊢;have HI5:=Lib.hid hI;have h5':=h5.after HW.out.2 gg R6;clear gg hI R6 h5;have cc:=h5'.kx.cell 6;have fc:=h5'.kx.free 6;have h6:=(h5'.set_ HW.out.2 HW.out.1 6 (.int .i64 (y0 : Nat))).cs_ (cs':=#[.int .i64 (n1 : Nat),.int .i64 (q : Nat),.int .i64 (t : Nat),.int .i64 (k : Nat),.int .i64 (wk : Nat),.int .i64 0,.int .i64 (y0 : Nat),.int .i64 0,.int .i64 0,.int .i64 0,.int .i64 0,.int .i64 0,.int .i64 0,.slice none 0 0]) rfl;clear h5'
      go_upto_region 14 with fail
      refine nameW ?_;intro W6 hwn;rw [← hwn] at h6;clear hwn cc fc;go_wp2_with fail;refine (HINT.out _ _ _ h6.R h6.gW).mono ?_;rintro e w7 ⟨rfl,gg,R7⟩;obtain ⟨y1,r7,e7,hI⟩ : ∃ y1 r7 e7,Vint.intM r6 e6 = (y1,r7,e7):=⟨_,_,_,rfl⟩;rw [hI] at R7 ⊢;have HI6:=Lib.hid hI;have h6':=h6.after HW.out.2 gg R7;clear gg hI R7 h6;have cc:=h6'.kx.cell 7;have fc:=h6'.kx.free 7;have h7:=(h6'.set_ HW.out.2 HW.out.1 7 (.int .i64 (y1 : Nat))).cs_ (cs':=#[.int .i64 (n1 : Nat),.int .i64 (q : Nat),.int .i64 (t : Nat),.int .i64 (k : Nat),.int .i64 (wk : Nat),.int .i64 0,.int .i64 (y0 : Nat),.int .i64 (y1 : Nat),.int .i64 0,.int .i64 0,.int .i64 0,.int .i64 0,.int .i64 0,.slice none 0 0]) rfl;clear h6'
      go_upto_region 15 with fail
      refine nameW ?_;intro W7 hwn;rw [← hwn] at h7;clear hwn cc fc;go_wp2_with fail;refine (HINT.out _ _ _ h7.R h7.gW).mono ?_;rintro e w8 ⟨rfl,gg,R8⟩;obtain ⟨y2,r8,e8,hI⟩ : ∃ y2 r8 e8,Vint.intM r7 e7 = (y2,r8,e8):=⟨_,_,_,rfl⟩;rw [hI] at R8 ⊢;have HI7:=Lib.hid hI;have h7':=h7.after HW.out.2 gg R8;clear gg hI R8 h7;have cc:=h7'.kx.cell 8;have fc:=h7'.kx.free 8;have h8:=(h7'.set_ HW.out.2 HW.out.1 8 (.int .i64 (y2 : Nat))).cs_ (cs':=#[.int .i64 (n1 : Nat),.int .i64 (q : Nat),.int .i64 (t : Nat),.int .i64 (k : Nat),.int .i64 (wk : Nat),.int .i64 0,.int .i64 (y0 : Nat),.int .i64 (y1 : Nat),.int .i64 (y2 : Nat),.int .i64 0,.int .i64 0,.int .i64 0,.int .i64 0,.slice none 0 0]) rfl;clear h7'
      go_upto_region 16 with fail
      refine nameW ?_;intro W8 hwn;rw [← hwn] at h8;clear hwn cc fc;go_wp2_with fail;refine (HINT.out _ _ _ h8.R h8.gW).mono ?_;rintro e w9 ⟨rfl,gg,R9⟩;obtain ⟨y3,r9,e9,hI⟩ : ∃ y3 r9 e9,Vint.intM r8 e8 = (y3,r9,e9):=⟨_,_,_,rfl⟩;rw [hI] at R9 ⊢;have HI8:=Lib.hid hI;have h8':=h8.after HW.out.2 gg R9;clear gg hI R9 h8;have cc:=h8'.kx.cell 9;have fc:=h8'.kx.free 9;have h9:=(h8'.set_ HW.out.2 HW.out.1 9 (.int .i64 (y3 : Nat))).cs_ (cs':=#[.int .i64 (n1 : Nat),.int .i64 (q : Nat),.int .i64 (t : Nat),.int .i64 (k : Nat),.int .i64 (wk : Nat),.int .i64 0,.int .i64 (y0 : Nat),.int .i64 (y1 : Nat),.int .i64 (y2 : Nat),.int .i64 (y3 : Nat),.int .i64 0,.int .i64 0,.int .i64 0,.slice none 0 0]) rfl;clear h8'
      go_upto_region 17 with fail
      refine nameW ?_;intro W9 hwn;rw [← hwn] at h9;clear hwn cc fc;go_wp2_with fail;refine (HINT.out _ _ _ h9.R h9.gW).mono ?_;rintro e w10 ⟨rfl,gg,R10⟩;obtain ⟨y4,r10,e10,hI⟩ : ∃ y4 r10 e10,Vint.intM r9 e9 = (y4,r10,e10):=⟨_,_,_,rfl⟩;rw [hI] at R10 ⊢;have HI9:=Lib.hid hI;have h9':=h9.after HW.out.2 gg R10;clear gg hI R10 h9;have cc:=h9'.kx.cell 10;have fc:=h9'.kx.free 10;have h10:=(h9'.set_ HW.out.2 HW.out.1 10 (.int .i64 (y4 : Nat))).cs_ (cs':=#[.int .i64 (n1 : Nat),.int .i64 (q : Nat),.int .i64 (t : Nat),.int .i64 (k : Nat),.int .i64 (wk : Nat),.int .i64 0,.int .i64 (y0 : Nat),.int .i64 (y1 : Nat),.int .i64 (y2 : Nat),.int .i64 (y3 : Nat),.int .i64 (y4 : Nat),.int .i64 0,.int .i64 0,.slice none 0 0]) rfl;clear h9'
      go_upto_region 18 with fail
      refine nameW ?_;intro W10 hwn;rw [← hwn] at h10;clear hwn cc fc;go_wp2_with fail;refine (HINT.out _ _ _ h10.R h10.gW).mono ?_;rintro e w11 ⟨rfl,gg,R11⟩;obtain ⟨y5,r11,e11,hI⟩ : ∃ y5 r11 e11,Vint.intM r10 e10 = (y5,r11,e11):=⟨_,_,_,rfl⟩;rw [hI] at R11 ⊢;have HI10:=Lib.hid hI;have h10':=h10.after HW.out.2 gg R11;clear gg hI R11 h10;have cc:=h10'.kx.cell 11;have fc:=h10'.kx.free 11;have h11:=(h10'.set_ HW.out.2 HW.out.1 11 (.int .i64 (y5 : Nat))).cs_ (cs':=#[.int .i64 (n1 : Nat),.int .i64 (q : Nat),.int .i64 (t : Nat),.int .i64 (k : Nat),.int .i64 (wk : Nat),.int .i64 0,.int .i64 (y0 : Nat),.int .i64 (y1 : Nat),.int .i64 (y2 : Nat),.int .i64 (y3 : Nat),.int .i64 (y4 : Nat),.int .i64 (y5 : Nat),.int .i64 0,.slice none 0 0]) rfl;clear h10'
      go_upto_region 19 with fail
      refine nameW ?_;intro W11 hwn;rw [← hwn] at h11;clear hwn cc fc;go_wp2_with fail;refine (HINT.out _ _ _ h11.R h11.gW).mono ?_;rintro e w12 ⟨rfl,gg,R12⟩;obtain ⟨y6,r12,e12,hI⟩ : ∃ y6 r12 e12,Vint.intM r11 e11 = (y6,r12,e12):=⟨_,_,_,rfl⟩;rw [hI] at R12 ⊢;have HI11:=Lib.hid hI;have h11':=h11.after HW.out.2 gg R12;clear gg hI R12 h11;have cc:=h11'.kx.cell 12;have fc:=h11'.kx.free 12;have h12:=(h11'.set_ HW.out.2 HW.out.1 12 (.int .i64 (y6 : Nat))).cs_ (cs':=#[.int .i64 (n1 : Nat),.int .i64 (q : Nat),.int .i64 (t : Nat),.int .i64 (k : Nat),.int .i64 (wk : Nat),.int .i64 0,.int .i64 (y0 : Nat),.int .i64 (y1 : Nat),.int .i64 (y2 : Nat),.int .i64 (y3 : Nat),.int .i64 (y4 : Nat),.int .i64 (y5 : Nat),.int .i64 (y6 : Nat),.slice none 0 0]) rfl;clear h11'
      have hp : P = [(y0 : Int),(y1 : Int),(y2 : Int),(y3 : Int),(y4 : Int),(y5 : Int),(y6 : Int)]∧rP = r12∧eP = e12:=by
        have h:=HP.out;rw [if_pos HK2.out] at h
        simp only [rd7,rdNv,HI5.out,HI6.out,HI7.out,HI8.out,HI9.out,HI10.out,HI11.out] at h
        injection h with h1 h2
        injection h2 with h2 h3
        exact ⟨h1.symm,h2.symm,h3.symm⟩
      have H12:=Lib.hid h12;have HPP:=Lib.hid hp;clear h12 hp;go_wp2_with fail;go_meet;obtain ⟨rfl,rfl,rfl⟩:=HPP.out;exact H12.out
    · have hq2 : ((k : Int) == 2) = false:=by rw [beq_eq_false_iff_ne];omega
      have hp : P = Evt.p0∧rP = r5∧eP = e5:=by
        have h:=HP.out;rw [if_neg hk2] at h
        injection h with h1 h2
        injection h2 with h2 h3
        exact ⟨h1.symm,h2.symm,h3.symm⟩
      have HPP:=Lib.hid hp;clear hp hk2;go_wp2_with fail;go_meet;obtain ⟨rfl,rfl,rfl⟩:=HPP.out;exact h5
  case rest =>
  have hp:=hcut;clear hcut h5 c3
  rename_i _ W6
  go_upto_region 20 with fail
  go_wp2_with fail;refine (HINT.out _ _ _ hp.R hp.gW).mono ?_;rintro e w7 ⟨rfl,gg,R7⟩;obtain ⟨m,r7,e7,hI⟩ : ∃ m r7 e7,Vint.intM rP eP = (m,r7,e7):=⟨_,_,_,rfl⟩;rw [hI] at R7 ⊢;have HIM:=Lib.hid hI;have h7:=hp.after HW.out.2 gg R7
  obtain ⟨f7,hf7⟩ : ∃ f7 : Nat,f7 = if 96 < m then (if e7 = 0 then 6 else e7) else e7:=⟨_,rfl⟩
  have HF7:=Lib.hid hf7
  have HMS:=Lib.hid (show f7 = 0→m≤96 from fun h=>by
    false_or_by_contra
    rw [hf7,if_pos (by omega)] at h
    split at h <;> omega)
  have hmb : m≤1099511627776:=by
    have h:=hI
    by_cases he : e7 = 0
    · subst he
      have:=intM_good (l:=rP) (e:=eP) (by rw [h])
      rw [h] at this;exact this.2.2
    · have:=intM_small rP eP (by rw [h];exact he)
      rw [h] at this
      simp only at this
      omega
  have HMB:=Lib.hid hmb;clear gg hI R7 hp hf7 hmb
  go_upto_if 83 with fail
  go_cut [] (fun wx=>RdEvS w g b A n c bs #[.int .i64 (n1 : Nat),.int .i64 (q : Nat),.int .i64 (t : Nat),.int .i64 (k : Nat),.int .i64 (wk : Nat),.int .i64 0,.int .i64 (P.getD 0 0),.int .i64 (P.getD 1 0),.int .i64 (P.getD 2 0),.int .i64 (P.getD 3 0),.int .i64 (P.getD 4 0),.int .i64 (P.getD 5 0),.int .i64 (P.getD 6 0),.slice none 0 0] r7 f7 wx)
  case first =>
    by_cases hm : 96 < m
    · have hd : (96 : Int) < (m : Int):=by omega
      have hf : f7 = if e7 = 0 then 6 else e7:=by rw [HF7.out,if_pos hm]
      have HFF:=Lib.hid hf;clear hf hm;go_wp2_with fail;refine (rfail_m g 6 A n c bs r7 e7 _ h7.R).mono ?_;rintro e w8 ⟨rfl,gg,R8⟩;rw [← HFF.out] at R8;have h8:=h7.after HW.out.2 gg R8;clear gg R8;go_wp2_with fail;go_meet;exact h8
    · have hd : (m : Int)≤96:=by omega
      have hf : f7 = e7:=by rw [HF7.out,if_neg hm]
      rw [← hf] at h7;clear hf hm;go_wp2_with fail;go_meet;exact h7
  case rest =>
  have h8:=hcut;clear hcut h7
  rename_i _ W8
  have HFIN:=Lib.hid (show rdE r0 = (⟨((n1 : Int),(q : Int)),(t : Nat),(k : Nat),(wk : Nat),0,P,(rdDD m r7 f7).1⟩,(rdDD m r7 f7).2) by
    have h1:=HF4.out;have h2:=HP.out;have h7:=HF7.out
    simp only [rdE,HI0.out,HI1.out,HI2.out,HI3.out]
    rw [← h1,HI4.out]
    simp only [rdK,if_neg HK1.out]
    by_cases hk2 : k = 2
    · rw [if_pos hk2] at h2
      simp only [if_pos hk2,h2,HIM.out]
      rw [← h7]
    · rw [if_neg hk2] at h2
      simp only [if_neg hk2]
      injection h2 with h3 h4
      injection h4 with h4 h5
      subst h3 h4 h5
      simp only [HIM.out]
      rw [← h7])
  go_upto_region 23 with fail
  go_wp2_with fail
  go_loopw [5] (fun i wr=>∃ (j : Nat) (Ad : Option Addr) (md cd : Nat),j≤m∧i = .int .i64 j∧RdEvS w g b A n c bs #[.int .i64 (n1 : Nat),.int .i64 (q : Nat),.int .i64 (t : Nat),.int .i64 (k : Nat),.int .i64 (wk : Nat),.int .i64 0,.int .i64 (P.getD 0 0),.int .i64 (P.getD 1 0),.int .i64 (P.getD 2 0),.int .i64 (P.getD 3 0),.int .i64 (P.getD 4 0),.int .i64 (P.getD 5 0),.int .i64 (P.getD 6 0),.slice Ad md cd] (rdDD j r7 f7).2.1 (rdDD j r7 f7).2.2 wr∧OwnD wr (b + 1 + 1) Ad md cd (rdDD j r7 f7).1∧md≤j) (fun i _=>m - (intOf i).toNat)
  case atStart=>exact ⟨0,none,0,0,by omega,rfl,h8,OwnD.nil _ _,by omega⟩
  case round =>
    clear h8;obtain ⟨j,Ad,md,cd,hj,rfl,hs,ho,hmd⟩:=hrel
    have hst : (rdDD j r7 f7).2.2 = 0→f7 = 0∧rdDD (j + 1) r7 f7 = ((rdDD j r7 f7).1 ++ [(((Vint.intM (rdDD j r7 f7).2.1 0).1 : Int),((Vint.intM (Vint.intM (rdDD j r7 f7).2.1 0).2.1 (Vint.intM (rdDD j r7 f7).2.1 0).2.2).1 : Int))],(Vint.intM (Vint.intM (rdDD j r7 f7).2.1 0).2.1 (Vint.intM (rdDD j r7 f7).2.1 0).2.2).2):=fun h=>by
      refine ⟨?_,by rw [rdDD,if_pos h]⟩
      false_or_by_contra
      rename_i hne
      rw [rdDD_bad j r7 f7 hne] at h;exact hne h
    have hfin : (j = m∨(rdDD j r7 f7).2.2 ≠ 0)→rdDD m r7 f7 = rdDD j r7 f7:=fun h=>by
      rcases h with h | h
      · rw [h]
      · exact rdDD_stuck r7 f7 j h m hj
    generalize rdDD j r7 f7 = S at *
    obtain ⟨L,r8,e8⟩:=S
    simp only at hs ho hst hfin
    have HST:=Lib.hid hst;have HFN:=Lib.hid hfin;clear hst hfin;obtain ⟨at8,_,kR,_⟩:=hs.R;have c2 : wr.cell? ⟨g,2,none⟩ = some (.int .i64 (e8 : Nat)):=kR.cell 2;clear kR;have hmb:=HMB.out
    by_cases hgo : j < m∧e8 = 0
    case pos =>
      obtain ⟨hlt,rfl⟩:=hgo;obtain ⟨hf0,hst⟩:=HST.out rfl;have hm96:=HMS.out hf0;have HST2:=Lib.hid hst;have c2 : wr.cell? ⟨g,2,none⟩ = some (.int .i64 0):=c2
      have hk1 : (j : Int) < (m : Int):=by omega
      clear HST HFN hst hf0;go_wp2_with fail;clear c2;refine (HINT.out _ _ _ hs.R hs.gW).mono ?_;rintro e w9 ⟨rfl,gg,R9⟩;obtain ⟨x1,r9,e9,hI⟩ : ∃ x1 r9 e9,Vint.intM r8 0 = (x1,r9,e9):=⟨_,_,_,rfl⟩;rw [hI] at R9 ⊢;have hst:=HST2.out;rw [hI] at hst;have HST3:=Lib.hid hst;have h9:=hs.after HW.out.2 gg R9;have o9:=ho.grown gg (.inr (fun h=>by have:=(ho.lt g h).1;have:=HW.out;omega));clear gg hI R9 hs ho HST2 hst
      go_upto_region 27 with fail
      obtain ⟨su,hsu⟩ : ∃ su : Array Value,su = #[.int .i64 (n1 : Nat),.int .i64 (q : Nat),.int .i64 (t : Nat),.int .i64 (k : Nat),.int .i64 (wk : Nat),.int .i64 0,.int .i64 (P.getD 0 0),.int .i64 (P.getD 1 0),.int .i64 (P.getD 2 0),.int .i64 (P.getD 3 0),.int .i64 (P.getD 4 0),.int .i64 (P.getD 5 0),.int .i64 (P.getD 6 0),.slice Ad md cd]:=⟨_,rfl⟩;rw [← hsu] at h9;have HU13:=Lib.hid (show su[13]? = some (.slice Ad md cd) by rw [hsu];rfl);have HUS:=Lib.hid (fun (A' : Option Addr) (m' c' : Nat)=>(show su.setIfInBounds 13 (.slice A' m' c') = #[.int .i64 (n1 : Nat),.int .i64 (q : Nat),.int .i64 (t : Nat),.int .i64 (k : Nat),.int .i64 (wk : Nat),.int .i64 0,.int .i64 (P.getD 0 0),.int .i64 (P.getD 1 0),.int .i64 (P.getD 2 0),.int .i64 (P.getD 3 0),.int .i64 (P.getD 4 0),.int .i64 (P.getD 5 0),.int .i64 (P.getD 6 0),.slice A' m' c'] by rw [hsu];rfl));clear hsu;refine wp_region_C (fun w'=>Blk w' (b + 1) 47 su) 7 (by kernel_rfl) ?_
      replace h9 : RdEvS w g b A n c bs su r9 e9 w9.drew:=⟨h9.kz,h9.kx,h9.R.map (fun _ _ q=>q.drew),only_drew h9.gW⟩
      replace o9:=o9.drew
      generalize w9.drew = wd at *
      refine wpAnyC_pure (i:=0) (v:=?rv953) rfl (by kernel_rfl) (by kernel_rfl) (by kernel_rfl) (fun _ _ _ h=>h) (by decide) (Or.inl ⟨by rfl,?ry953⟩) (fun _=>(h9.kx)) ?_
      case ry953=>((intro w;go_simp);(try with_reducible rfl))
      simp only [Act.put,List.getElem_toArray,List.getElem_cons_zero,List.getElem_cons_succ,List.setIfInBounds_toArray,List.set_cons_succ,List.set_cons_zero]
      refine wpAnyC_pure (i:=2) (v:=?rv956) rfl (by kernel_rfl) (by kernel_rfl) (by kernel_rfl) (fun _ _ _ h=>h) (by decide) (Or.inl ⟨by rfl,?ry956⟩) (fun _=>(h9.kx)) ?_
      case ry956=>((intro w;go_simp);(try with_reducible rfl))
      simp only [Act.put,List.getElem_toArray,List.getElem_cons_zero,List.getElem_cons_succ,List.setIfInBounds_toArray,List.set_cons_succ,List.set_cons_zero]
      refine wpAnyC_pure (i:=3) (v:=?rv959) rfl (by kernel_rfl) (by kernel_rfl) (by kernel_rfl) (fun _ _ _ h=>h) (by decide) (Or.inl ⟨by rfl,?ry959⟩) (fun _=>(h9.kx)) ?_
      case ry959=>((intro w;go_simp);(try with_reducible rfl))
      simp only [Act.put,List.getElem_toArray,List.getElem_cons_zero,List.getElem_cons_succ,List.setIfInBounds_toArray,List.set_cons_succ,List.set_cons_zero]
      refine wpAnyC_take (i:=1) (v:=?rv1) rfl (by kernel_rfl) (by kernel_rfl) (by kernel_rfl) (fun _ _ _ h=>h) (by decide) (by kernel_rfl) (by kernel_rfl) (Or.inl ⟨by rfl,?ry1⟩) h9.kx ?_
      case ry1=>(intro wS hSw;have c8 : wS.cell? ⟨b + 1,13,none⟩ = some (.slice Ad md cd):=(hSw.cell 13).trans HU13.out;clear hSw;go_simp;(try with_reducible rfl))
      try simp only [Act.put,List.getElem_toArray,List.getElem_cons_zero,List.getElem_cons_succ,List.setIfInBounds_toArray,List.set_cons_succ,List.set_cons_zero]
      refine wpAnyC_ready (rs:=[4]) (by kernel_rfl) (by simp) ?_;refine AllReadyC.consS rfl (fun K hK=>?_) .nil;go_simp;refine (HINT.out _ _ _ h9.R h9.gW).mono ?_;rintro e w10 ⟨rfl,gg,R10⟩;obtain ⟨x2,r10,e10,hI⟩ : ∃ x2 r10 e10,Vint.intM r9 e9 = (x2,r10,e10):=⟨_,_,_,rfl⟩;rw [hI] at R10 ⊢;have hst:=HST3.out
      simp only [hI] at hst
      have HST4:=Lib.hid hst;have h10:=h9.after HW.out.2 gg R10;have o10:=o9.grown gg (.inr (fun h=>by have:=(o9.lt g h).1;have:=HW.out;omega));refine hK.out _ _ h10.kx ?_;clear hK K gg hI R10 h9 o9 HST3 hst
      try simp only [Act.put,List.getElem_toArray,List.getElem_cons_zero,List.getElem_cons_succ,List.setIfInBounds_toArray,List.set_cons_succ,List.set_cons_zero]
      refine wpAnyC_pure (i:=5) (v:=?rv980) rfl (by kernel_rfl) (by kernel_rfl) (by kernel_rfl) (fun _ _ _ h=>h) (by decide) (Or.inl ⟨by rfl,?ry980⟩) (fun _=>(h10.kx)) ?_
      case ry980=>((intro w;go_simp);(try with_reducible rfl))
      simp only [Act.put,List.getElem_toArray,List.getElem_cons_zero,List.getElem_cons_succ,List.setIfInBounds_toArray,List.set_cons_succ,List.set_cons_zero]
      refine wpAnyC_ready (rs:=[6]) (by kernel_rfl) (by simp) ?_;refine AllReadyC.consS rfl (fun K hK=>?_) .nil;go_simp;have h11 : RdEvS w g b A n c bs su r10 e10 (w10.alloc (.cells #[.int .i64 (x1 : Nat),.int .i64 (x2 : Nat)] 42)):=⟨h10.kz.alloc _,h10.kx.alloc _,h10.R.map (fun _ _ q=>q.alloc _),only_alloc h10.gW _⟩;have o11:=o10.alloc (.cells #[.int .i64 (x1 : Nat),.int .i64 (x2 : Nat)] 42);have rX:=Rd.made w10 #[.int .i64 (x1 : Nat),.int .i64 (x2 : Nat)] 42 (0,0);refine hK.out _ _ h11.kx ?_;clear hK K h10 o10
      generalize w10.alloc (.cells #[.int .i64 (x1 : Nat),.int .i64 (x2 : Nat)] 42) = w11 at *
      generalize w10.heap.size = gx at *
      try simp only [Act.put,List.getElem_toArray,List.getElem_cons_zero,List.getElem_cons_succ,List.setIfInBounds_toArray,List.set_cons_succ,List.set_cons_zero]
      have hs11 : b + 1 < w11.heap.size:=h11.kx.lt;refine wpAnyC_ready (rs:=[7]) (by kernel_rfl) (by simp) ?_;refine AllReadyC.cons rfl (by kernel_rfl) (fun K hK=>?_) .nil;refine stepsD rfl (.tmp 101) (.tmp 106) rfl (by rfl) o11 (by rfl) (m:=1) (news:=[(((x1 : Nat) : Int),((x2 : Nat) : Int))]) rX rfl (by omega) (by omega) ?_;intro A8 c8' w12 o12 g12 m12 b12;have h12 : RdEvS w g b A n c bs su r10 e10 w12:=⟨h11.kz.grown g12 (own_ne o11.2 h11.kz (by decide)),h11.kx.grown g12 (own_ne o11.2 h11.kx (by decide)),h11.R.map (fun _ _ q=>q.grown g12 (fun h=>by have:=(o11.lt g h).1;have:=HW.out;omega)),only_below h11.gW (b12.mono (by have:=HW.out;omega))⟩;refine hK.out _ _ ?_;clear hK K h11 o11 g12 m12 b12 rX
      try simp only [Act.put,List.getElem_toArray,List.getElem_cons_zero,List.getElem_cons_succ,List.setIfInBounds_toArray,List.set_cons_succ,List.set_cons_zero]
      refine wpAnyC_pure (i:=8) (v:=?rv8) rfl (by kernel_rfl) (by kernel_rfl) (by kernel_rfl) (fun _ _ _ h=>h) (by decide) (Or.inl ⟨by rfl,?ry8⟩) (fun h=>absurd h (by decide)) ?_
      case ry8=>((intro w;go_simp);(try with_reducible rfl))
      try simp only [Act.put,List.getElem_toArray,List.getElem_cons_zero,List.getElem_cons_succ,List.setIfInBounds_toArray,List.set_cons_succ,List.set_cons_zero]
      have c9 : w12.cell? ⟨b + 1,13,none⟩ = some (.slice Ad md cd):=(h12.kx.cell 13).trans HU13.out;have f9:=h12.kx.free 13;have o13:=o12.setFar (p:=⟨b + 1,13,none⟩) (own_ne o12.2 h12.kx (by decide)) (.slice A8 (md + 1) c8');have h13:=(h12.set_ HW.out.2 HW.out.1 13 (.slice A8 (md + 1) c8')).cs_ (HUS.out A8 (md + 1) c8');have H13:=Lib.hid h13;have O13:=Lib.hid o13;refine wpAnyC_ready (rs:=[9]) (by kernel_rfl) (by simp) ?_;refine AllReadyC.cons rfl (by kernel_rfl) (fun K hK=>?_) .nil;clear h13 o13 h12 o12;go_simp;refine hK.out _ _ ?_;clear hK K c9 f9;refine wpAnyC_done (by kernel_rfl) ?_ _;go_wp2_with fail
      go_roundw
      case rel=>exact ⟨j + 1,A8,md + 1,c8',by omega,by go_num,by rw [HST4.out];exact H13.out,by rw [HST4.out];exact O13.out,by omega⟩
      case measure=>simp [intOf];omega
    case neg =>
      have hf2:=HFN.out (by omega);have hrl:=HFIN.out;rw [hf2] at hrl;have HE:=Lib.hid hrl;clear HST HFN hf2 hrl HFIN;obtain ⟨cz,hcz⟩ : ∃ cz : Array Value,cz = #[.int .i64 (n1 : Nat),.int .i64 (q : Nat),.int .i64 (t : Nat),.int .i64 (k : Nat),.int .i64 (wk : Nat),.int .i64 0,.int .i64 (P.getD 0 0),.int .i64 (P.getD 1 0),.int .i64 (P.getD 2 0),.int .i64 (P.getD 3 0),.int .i64 (P.getD 4 0),.int .i64 (P.getD 5 0),.int .i64 (P.getD 6 0),.slice Ad md cd]:=⟨_,rfl⟩;have hf:=hs.cs_ hcz.symm;have SX:=Lib.hid (show cz.size = 14 by rw [hcz];rfl);have OX:=Lib.hid (show cz.all (·.oneCell') = true by rw [hcz];kernel_rfl);have SZ:=Lib.hid (show (cT 0).size = 14 from rfl);have HCZ:=Lib.hid hcz;obtain ⟨kz,kx,hRf,gWf⟩:=hf;clear hcz hs
      by_cases hlt : j < m
      case' pos =>
        have he1 : e8 ≠ 0:=fun h=>hgo ⟨hlt,h⟩
        have hk1 : (j : Int) < (m : Int):=by omega
        have hq : (((e8 : Nat) : Int) == 0) = false:=by rw [beq_eq_false_iff_ne];omega
        clear hgo
        go_upto_region 28 with fail
        clear c2
      case' neg =>
        obtain rfl : j = m:=by omega
        clear hgo
        go_upto_region 28 with fail
        clear c2
      all_goals
        go_wp2_with first
          | ((with_reducible refine wpList_ld rowE kx SX.out ?_ ?_);rotate_left;(rfl))
          | ((with_reducible refine wpList_st rowE kz SX.out SZ.out OX.out ?_ ?_ ?_);rotate_left;(rfl);(rfl);intro w92 k92 g92 z92)
        have hR92:=hRf.map (fun _ _ k=>k.grown g92 (fun h=>by injection h;have:=HW.out;omega));have gW92:=grown_on gWf g92 HW.out.1;have o92:=(ho.grown g92 (.inr (own_ne ho.2 kz (by decide)))).mono (base':=w.heap.size) (by have:=HW.out;omega);exact bodyPost_ret (v:=.agg cz) (results_blk rfl rowE k92 SX.out rfl) rfl ⟨Ad,md,cd,by rw [HE.out,HCZ.out];rfl,by rw [HE.out];exact o92,by rw [HE.out];exact hR92,gW92⟩
end Go.Proofs.YtfpenfgmpbdakaaGreat

namespace Go.Proofs.YtfpenfgmpbdakaaGreat
set_option linter.unusedVariables false
set_option linter.unusedSimpArgs false
set_option maxRecDepth 100000
open Go.RowKit
open Dot Evt
namespace Evt
theorem rdDD_len (k : Nat) (l : List UInt8) (e : Nat) : (rdDD k l e).1.length≤k:=by
  induction k with
  | zero=>exact Nat.le_refl _
  | succ k ih =>
    rw [rdDD]
    by_cases h : (rdDD k l e).2.2 = 0
    · rw [if_pos h];simp only [List.length_append,List.length_cons,List.length_nil];omega
    · rw [if_neg h];omega
theorem rdLL_len (l : List UInt8) (e : Nat) : (rdLL l e).1.length≤96:=by
  simp only [rdLL]
  by_cases h : 96 < (Vint.intM l e).1
  · rw [if_pos h,rdDD_bad _ _ _ (by split <;> omega)]
    exact Nat.zero_le _
  · rw [if_neg h]
    have:=rdDD_len (Vint.intM l e).1 (Vint.intM l e).2.1 (Vint.intM l e).2.2
    omega
theorem rdK_l (n q t k w : Nat) (l : List UInt8) (e : Nat) : (rdK n q t k w l e).1.l.length≤96:=by
  rw [rdK_eq]
  by_cases h1 : k = 1
  · rw [if_pos h1];exact Nat.zero_le _
  · rw [if_neg h1]
    by_cases h2 : k = 2
    · simp only [if_pos h2];exact rdLL_len _ _
    · simp only [if_neg h2];exact rdLL_len _ _
theorem rdE_l (l : List UInt8) : (rdE l).1.l.length≤96:=by
  simp only [rdE]
  exact rdK_l _ _ _ _ _ _ _
theorem rdE_p (l : List UInt8) : (rdE l).1.p.length = 7:=by
  simp only [rdE]
  exact rdK_p _ _ _ _ _ _ _
end Evt
theorem cT0_one : (cT 0).all (·.oneCell') = true:=by kernel_rfl
theorem rst_at {w : World} {g : Nat} {A : Option Addr} {n c : Nat} {bs r : List UInt8} {e : Nat} (h : RSt w g A n c bs r e) (hn : n = bs.length) : ∃ at',RRd w g A n c at' e∧(at' < n↔r ≠ [])∧at'≤n:=by
  obtain ⟨at',h1,h2,h3⟩:=h;refine ⟨at',h2,?_,h1⟩;rw [← h3]
  constructor
  · intro h4 h5
    have:=congrArg List.length h5
    rw [List.length_drop] at this
    simp at this
    omega
  · intro h4
    false_or_by_contra
    exact h4 (List.drop_eq_nil_of_le (by omega))
set_option maxRecDepth 100000 in
set_option maxHeartbeats 2000000 in
theorem rget07_any (A : Option Addr) (n c : Nat) (bs : List UInt8) (w : World) (hb : RdB w w.heap.size A n bs) (hl : n≤1000000000) :
    Calls Tryz.prog 44 #[.slice A n c] w (GetEv w bs):=by
  have HBS:=Lib.hid fun (w' : World) (h : Below w.heap.size w w')=>hb.below h
  have HN:=Lib.hid hb.1;have HL:=Lib.hid hl;clear hb hl
  go_enter Tryz.func44,Tryz.ntmps44
  go_upto_region 2 with fail
  refine nameW ?_;intro W hW;obtain ⟨B,hB⟩ : ∃ B,B = w.heap.size:=⟨_,rfl⟩;rw [← hB]
  have kz : Blk W B 47 (cT 0):=by rw [hW,hB];exact (Blk.new w _ _).alloc _
  have kr : RSt W (B + 1) A n c bs bs 0:=by
    have h:=Blk.new (w.alloc (.cells (cT 0) 47)) 100 #[.slice A n c,.int .i64 (0 : Nat),.int .i64 (0 : Nat)];rw [show (w.alloc (.cells (cT 0) 47)).heap.size = w.heap.size + 1 by simp] at h;rw [hW,hB];exact ⟨0,Nat.zero_le _,h,rfl⟩
  have gb : Below B w W:=by rw [hW,hB];exact ((Below.refl _ _).alloc (Nat.le_refl _) _).alloc (by simp) _
  have hlt : B + 1 < W.heap.size:=by rw [hW,hB];simp
  have HB:=Lib.hid hB;rw [← hB] at HBS;clear hW hB;go_wp2_with fail;refine (rread07_any (B + 1) A n c B bs bs W kr (HBS.out W gb) (by omega) hlt HL.out).mono ?_;rintro e w1 ⟨A1,m1,c1,rfl,o1,R1,g1⟩;have kz1:=kz.grown g1 (by simp);have gb1:=gb.trans (only_Below g1 (B:=B) (by omega) (by omega))
  have hlen : m1≤96:=by rw [o1.1];exact rdE_l bs
  have hp7:=rdE_p bs;obtain ⟨hOK,hER⟩:=@rdE_eq bs;obtain ⟨x,hx⟩ : ∃ x,x = (rdE bs).1:=⟨_,rfl⟩;obtain ⟨r,hr⟩ : ∃ r,r = (rdE bs).2.1:=⟨_,rfl⟩;obtain ⟨E,hE⟩ : ∃ E,E = (rdE bs).2.2:=⟨_,rfl⟩
  have hxre : rdE bs = (x,r,E):=by rw [hx,hr,hE]
  rw [← hx] at o1 hp7 ⊢;rw [← hr,← hE] at R1;obtain ⟨cx,hcx⟩ : ∃ cx,cx = ec x (.slice A1 m1 c1):=⟨_,rfl⟩;have HCX:=Lib.hid hcx;have SX:=Lib.hid (show cx.size = 14 by rw [hcx];rfl);have OX:=Lib.hid (show cx.all (·.oneCell') = true by rw [hcx];exact ec_one _ _ _ _);have SZ:=Lib.hid (show (cT 0).size = 14 from rfl)
  have hrt:=fun (w' : World) (h : RdD w' w'.heap.size A1 m1 x.l)=>eright07_any x hp7 A1 m1 c1 w' h (by omega)
  rw [← hcx] at hrt ⊢;have HRT:=Lib.hid hrt;have HOK:=Lib.hid hOK;have HER:=Lib.hid hER;have HX:=Lib.hid hxre;clear hx hr hE hxre hcx hrt hOK hER hp7 hlen kz kr gb
  go_upto_region 3 with first
    | ((with_reducible refine wpList_st rowE (Blk.new _ _ _) SX.out SZ.out OX.out ?_ ?_ ?_);rotate_left;(rfl);(rfl);intro w6 k6 g6 z6)
  have bA : Below w1.heap.size w1 w6:=(((Below.refl _ _).alloc (Nat.le_refl _) _).grown g6 (by simp) (fun q hq=>by injection hq with hq;omega))
  have hs1 : B + 1 < w1.heap.size:=by obtain ⟨_,_,h,_⟩:=R1;exact h.lt
  have kz6:=kz1.below bA kz1.lt;have gb6:=gb1.trans (bA.mono (by omega));have o6:=(o1.mono (base':=B) (by have:=gb1.size;have:=g1.size;omega)).below bA (Nat.le_refl _)
  have R6 : RSt w6 (B + 1) A n c bs r E:=by
    obtain ⟨at',q1,q2,q3⟩:=R1;exact ⟨at',q1,Blk.below q2 bA q2.lt,q3⟩
  obtain ⟨gx,hgx⟩ : ∃ gx,gx = w1.heap.size:=⟨_,rfl⟩;rw [← hgx] at k6 ⊢
  have hgB : B + 1 < gx:=by omega
  clear hgx g6 z6 bA kz1 gb1 o1 R1 hs1 g1;obtain ⟨at',kR,hat,hatn⟩:=rst_at R6 HN.out;have c1' : w6.cell? ⟨B + 1,1,none⟩ = some (.int .i64 (at' : Nat)):=kR.cell 1;have c2' : w6.cell? ⟨B + 1,2,none⟩ = some (.int .i64 (E : Nat)):=kR.cell 2;have f2':=kR.free 2;have HAT:=Lib.hid hat;have HL2:=HL.out;clear R6 hat
  by_cases hE : E = 0
  case neg =>
    have hq : ((E : Int) == 0) = false:=by rw [beq_eq_false_iff_ne];omega
    have hq2 : ((E : Int) != 0) = true:=by rw [bne_iff_ne];omega
    have he : getEv bs = (exZ,E):=by
      cases hd : decE bs with
      | ok p =>
        obtain ⟨y,r'⟩:=p
        have:=HOK.out y r' hd
        rw [HX.out] at this
        injection this with _ h
        injection h with _ h
        exact absurd h hE
      | error y =>
        have:=(HER.out y hd).1
        rw [HX.out] at this
        unfold getEv
        rw [hd,← this]
    have HE:=Lib.hid he;clear he hE kR
    go_upto_region 6 with fail
    obtain ⟨w7,hw7⟩ : ∃ w7,w7 = w6:=⟨_,rfl⟩;rw [← hw7]
    have kz7 : Blk w7 B 47 (cT 0):=by rw [hw7];exact kz6
    have c27 : w7.cell? ⟨B + 1,2,none⟩ = some (.int .i64 (E : Nat)):=by rw [hw7];exact c2'
    have gb7 : Below B w w7:=by rw [hw7];exact gb6
    clear hw7 c1' c2' f2' k6 o6 kz6 gb6;have hlt7 : B + 1 < w7.heap.size:=World.block_lt_of_cell? w7 _ c27;refine wp_region_held_drew (S:=fun w'=>w'.cell? ⟨B + 1,2,none⟩ = some (.int .i64 (E : Nat))) (by kernel_rfl) c27 (fun hS=>?_);have kz8 : Blk w7.drew B 47 (cT 0):=kz7;have gb8 : Below B w w7.drew:=gb7.drew;have hlt8 : B + 1 < w7.drew.heap.size:=hlt7
    generalize w7.drew = w8 at *
    clear kz7 gb7 c27 hlt7;refine wpAnyH_take (i:=0) (v:=?rv160) rfl (by kernel_rfl) (by kernel_rfl) (by kernel_rfl) (fun _ _ _ h=>h) (Or.inl ⟨by rfl,?ry160⟩) hS ?_
    case ry160=>(intro wS hSw;clear hSw;go_simp;(try with_reducible rfl))
    simp only [Act.put,List.getElem_toArray,List.getElem_cons_zero,List.getElem_cons_succ,List.setIfInBounds_toArray,List.set_cons_succ,List.set_cons_zero]
    refine wpAnyH_take (i:=1) (v:=?rv163) rfl (by kernel_rfl) (by kernel_rfl) (by kernel_rfl) (fun _ _ _ h=>h) (Or.inl ⟨by rfl,?ry163⟩) hS ?_
    case ry163=>(intro wS hSw;clear hSw;go_simp;(try with_reducible rfl))
    simp only [Act.put,List.getElem_toArray,List.getElem_cons_zero,List.getElem_cons_succ,List.setIfInBounds_toArray,List.set_cons_succ,List.set_cons_zero]
    refine wpAnyH_take (i:=2) (v:=?rv166) rfl (by kernel_rfl) (by kernel_rfl) (by kernel_rfl) (fun _ _ _ h=>h) (Or.inl ⟨by rfl,?ry166⟩) hS ?_
    case ry166=>(intro wS hSw;clear hSw;go_simp;(try with_reducible rfl))
    simp only [Act.put,List.getElem_toArray,List.getElem_cons_zero,List.getElem_cons_succ,List.setIfInBounds_toArray,List.set_cons_succ,List.set_cons_zero]
    refine wpAnyH_take (i:=3) (v:=?rv169) rfl (by kernel_rfl) (by kernel_rfl) (by kernel_rfl) (fun _ _ _ h=>h) (Or.inl ⟨by rfl,?ry169⟩) hS ?_
    case ry169=>(intro wS hSw;clear hSw;go_simp;(try with_reducible rfl))
    simp only [Act.put,List.getElem_toArray,List.getElem_cons_zero,List.getElem_cons_succ,List.setIfInBounds_toArray,List.set_cons_succ,List.set_cons_zero]
    refine wpAnyH_take (i:=4) (v:=?rv172) rfl (by kernel_rfl) (by kernel_rfl) (by kernel_rfl) (fun _ _ _ h=>h) (Or.inl ⟨by rfl,?ry172⟩) hS ?_
    case ry172=>(intro wS hSw;have c28:=hSw;clear hSw;go_simp;(try with_reducible rfl))
    simp only [Act.put,List.getElem_toArray,List.getElem_cons_zero,List.getElem_cons_succ,List.setIfInBounds_toArray,List.set_cons_succ,List.set_cons_zero]
    refine wpAnyH_ready (rs:=[5]) (by kernel_rfl) (by simp) ?_;refine AllReadyH.cons rfl (fun K hK=>?_) .nil;refine step_st (cs:=cT 0) rfl rowE (.tmp 2) (.tmp 38) rfl rfl rfl kz8 rfl rfl cT0_one ?_;intro w9 k9 g9 z9;refine hK.out _ _ ((World.cell?_of_block (a:=⟨B + 1,2,none⟩) (g9.block (B + 1) hlt8 (by simp))).trans hS) (fun hS=>?_);clear hK K;refine wpAnyH_take (i:=6) (v:=?rv181) rfl (by kernel_rfl) (by kernel_rfl) (by kernel_rfl) (fun _ _ _ h=>h) (Or.inl ⟨by rfl,?ry181⟩) hS ?_
    case ry181=>(intro wS hSw;clear hSw;go_simp;(try with_reducible rfl))
    simp only [Act.put,List.getElem_toArray,List.getElem_cons_zero,List.getElem_cons_succ,List.setIfInBounds_toArray,List.set_cons_succ,List.set_cons_zero]
    refine wpAnyH_done (by kernel_rfl) ?_ _
    try simp only [Act.put,List.getElem_toArray,List.getElem_cons_zero,List.getElem_cons_succ,List.setIfInBounds_toArray,List.set_cons_succ,List.set_cons_zero]
    have gb9:=gb8.trans (only_Below g9 (Nat.le_refl B) (by omega));go_wp2_with fail;exact bodyPost_ret (v:=.tuple #[.agg (cT 0),.int .i64 (E : Nat)]) (results_blk2 rfl rowE k9 SZ.out rfl rfl) rfl ⟨none,0,0,by rw [HE.out,exZ_cs],by rw [HE.out];exact OwnD.nil _ _,by rw [← HB.out];exact gb9⟩
  case pos =>
    subst hE;have c2' : w6.cell? ⟨B + 1,2,none⟩ = some (.int .i64 0):=c2'
    by_cases hr : r = []
    case neg =>
      have hd1 : (at' : Int) < (n : Int):=by have:=HAT.out.2 hr;omega
      have he : getEv bs = (exZ,4):=by
        cases hd : decE bs with
        | ok p =>
          obtain ⟨y,r'⟩:=p
          have:=HOK.out y r' hd
          rw [HX.out] at this
          injection this with _ h
          injection h with h _
          unfold getEv
          rw [hd]
          simp only
          rw [if_neg (fun q=>hr (by rw [h,q.1]))]
        | error y =>
          have h1:=(HER.out y hd);rw [HX.out] at h1;exact absurd h1.1.symm h1.2
      have HE:=Lib.hid he;have kz7:=kz6.far (p:=⟨B + 1,2,none⟩) (by show B ≠ B + 1;omega) (.int .i64 4);have c7:=(Blk.set_ kR 2 (.int .i64 4)).cell 2;have gb7 : Below B w (w6.setCell ⟨B + 1,2,none⟩ (.int .i64 4)):=gb6.setCell (by show B≤B + 1;omega) _;have HK:=Lib.hid kz7;have HC:=Lib.hid c7;have HG:=Lib.hid gb7;clear hr he kR kz7 c7 gb7
      go_upto_region 6 with fail
      have kz7:=HK.out;have c27 : (w6.setCell ⟨B + 1,2,none⟩ (.int .i64 4)).cell? ⟨B + 1,2,none⟩ = some (.int .i64 4):=HC.out;have gb7:=HG.out;clear c1' c2' f2' k6 o6 kz6 gb6 HK HC HG
      generalize w6.setCell ⟨B + 1,2,none⟩ (.int .i64 4) = w7 at *
      have hlt7 : B + 1 < w7.heap.size:=World.block_lt_of_cell? w7 _ c27;refine wp_region_held_drew (S:=fun w'=>w'.cell? ⟨B + 1,2,none⟩ = some (.int .i64 4)) (by kernel_rfl) c27 (fun hS=>?_);have kz8 : Blk w7.drew B 47 (cT 0):=kz7;have gb8 : Below B w w7.drew:=gb7.drew;have hlt8 : B + 1 < w7.drew.heap.size:=hlt7
      generalize w7.drew = w8 at *
      clear kz7 gb7 c27 hlt7;refine wpAnyH_take (i:=0) (v:=?rv232) rfl (by kernel_rfl) (by kernel_rfl) (by kernel_rfl) (fun _ _ _ h=>h) (Or.inl ⟨by rfl,?ry232⟩) hS ?_
      case ry232=>(intro wS hSw;clear hSw;go_simp;(try with_reducible rfl))
      simp only [Act.put,List.getElem_toArray,List.getElem_cons_zero,List.getElem_cons_succ,List.setIfInBounds_toArray,List.set_cons_succ,List.set_cons_zero]
      refine wpAnyH_take (i:=1) (v:=?rv235) rfl (by kernel_rfl) (by kernel_rfl) (by kernel_rfl) (fun _ _ _ h=>h) (Or.inl ⟨by rfl,?ry235⟩) hS ?_
      case ry235=>(intro wS hSw;clear hSw;go_simp;(try with_reducible rfl))
      simp only [Act.put,List.getElem_toArray,List.getElem_cons_zero,List.getElem_cons_succ,List.setIfInBounds_toArray,List.set_cons_succ,List.set_cons_zero]
      refine wpAnyH_take (i:=2) (v:=?rv238) rfl (by kernel_rfl) (by kernel_rfl) (by kernel_rfl) (fun _ _ _ h=>h) (Or.inl ⟨by rfl,?ry238⟩) hS ?_
      case ry238=>(intro wS hSw;clear hSw;go_simp;(try with_reducible rfl))
      simp only [Act.put,List.getElem_toArray,List.getElem_cons_zero,List.getElem_cons_succ,List.setIfInBounds_toArray,List.set_cons_succ,List.set_cons_zero]
      refine wpAnyH_take (i:=3) (v:=?rv241) rfl (by kernel_rfl) (by kernel_rfl) (by kernel_rfl) (fun _ _ _ h=>h) (Or.inl ⟨by rfl,?ry241⟩) hS ?_
      case ry241=>(intro wS hSw;clear hSw;go_simp;(try with_reducible rfl))
      simp only [Act.put,List.getElem_toArray,List.getElem_cons_zero,List.getElem_cons_succ,List.setIfInBounds_toArray,List.set_cons_succ,List.set_cons_zero]
      refine wpAnyH_take (i:=4) (v:=?rv244) rfl (by kernel_rfl) (by kernel_rfl) (by kernel_rfl) (fun _ _ _ h=>h) (Or.inl ⟨by rfl,?ry244⟩) hS ?_
      case ry244=>(intro wS hSw;have c28:=hSw;clear hSw;go_simp;(try with_reducible rfl))
      simp only [Act.put,List.getElem_toArray,List.getElem_cons_zero,List.getElem_cons_succ,List.setIfInBounds_toArray,List.set_cons_succ,List.set_cons_zero]
      refine wpAnyH_ready (rs:=[5]) (by kernel_rfl) (by simp) ?_;refine AllReadyH.cons rfl (fun K hK=>?_) .nil;refine step_st (cs:=cT 0) rfl rowE (.tmp 2) (.tmp 38) rfl rfl rfl kz8 rfl rfl cT0_one ?_;intro w9 k9 g9 z9;refine hK.out _ _ ((World.cell?_of_block (a:=⟨B + 1,2,none⟩) (g9.block (B + 1) hlt8 (by simp))).trans hS) (fun hS=>?_);clear hK K;refine wpAnyH_take (i:=6) (v:=?rv253) rfl (by kernel_rfl) (by kernel_rfl) (by kernel_rfl) (fun _ _ _ h=>h) (Or.inl ⟨by rfl,?ry253⟩) hS ?_
      case ry253=>(intro wS hSw;clear hSw;go_simp;(try with_reducible rfl))
      simp only [Act.put,List.getElem_toArray,List.getElem_cons_zero,List.getElem_cons_succ,List.setIfInBounds_toArray,List.set_cons_succ,List.set_cons_zero]
      refine wpAnyH_done (by kernel_rfl) ?_ _
      try simp only [Act.put,List.getElem_toArray,List.getElem_cons_zero,List.getElem_cons_succ,List.setIfInBounds_toArray,List.set_cons_succ,List.set_cons_zero]
      have gb9:=gb8.trans (only_Below g9 (Nat.le_refl B) (by omega));go_wp2_with fail;exact bodyPost_ret (v:=.tuple #[.agg (cT 0),.int .i64 4]) (results_blk2 rfl rowE k9 SZ.out rfl rfl) rfl ⟨none,0,0,by rw [HE.out,exZ_cs];rfl,by rw [HE.out];exact OwnD.nil _ _,by rw [← HB.out];exact gb9⟩
    case pos =>
      have hd1 : ¬ (at' : Int) < (n : Int):=fun h=>HAT.out.1 (by omega) hr
      have HR:=Lib.hid (HRT.out w6 o6.rd);have HO6:=Lib.hid o6
      have hdE : decE bs = .ok (x,r):=by
        cases hd : decE bs with
        | ok p =>
          obtain ⟨y,r'⟩:=p
          have:=HOK.out y r' hd
          rw [HX.out] at this
          injection this with h1 h
          injection h with h _
          rw [h1,h]
        | error y =>
          have h1:=(HER.out y hd);rw [HX.out] at h1;exact absurd h1.1.symm h1.2
      have HDE:=Lib.hid hdE;have HRR:=Lib.hid hr;clear hdE hr o6
      go_wp2_with first
        | ((with_reducible refine wpList_ldg rowE k6 SX.out ?_ ?_ ?_);rotate_left;(rfl);(rfl))
      refine HR.out.mono ?_;rintro e w7 ⟨rfl,b7⟩;have hs6:=k6.lt;have kz7:=kz6.below b7 kz6.lt;have k7:=k6.below b7 k6.lt;have kR7 : RRd w7 (B + 1) A n c at' 0:=Blk.below kR b7 kR.lt;have gb7:=gb6.trans (b7.mono (by omega));have o7:=HO6.out.below b7 (Nat.le_refl _);have c27 : w7.cell? ⟨B + 1,2,none⟩ = some (.int .i64 0):=kR7.cell 2;have f27:=kR7.free 2;clear c1' c2' f2' k6 HO6 kz6 gb6 kR b7
      cases hx : rightE x
      case true =>
        have HE:=Lib.hid (show getEv bs = (x,0) by unfold getEv;rw [HDE.out];simp only;rw [if_pos ⟨HRR.out,hx⟩]);clear hx
        go_wp2_with first
          | ((with_reducible refine wpList_ld rowE k7 SX.out ?_ ?_);rotate_left;(rfl))
          | ((with_reducible refine wpList_st rowE kz7 SX.out SZ.out OX.out ?_ ?_ ?_);rotate_left;(rfl);(rfl);intro w8 k8 g8 z8)
        have o8:=o7.grown g8 (.inr (own_ne o7.2 kz7 (by decide)));have gb8:=gb7.trans (only_Below g8 (Nat.le_refl B) (by have:=kz7.lt;omega));exact bodyPost_ret (v:=.tuple #[.agg cx,.int .i64 0]) (results_blk2 rfl rowE k8 SX.out rfl rfl) rfl ⟨A1,m1,c1,by rw [HE.out,HCX.out];rfl,by rw [HE.out,← HB.out];exact o8,by rw [← HB.out];exact gb8⟩
      case false =>
        have HE:=Lib.hid (show getEv bs = (exZ,4) by unfold getEv;rw [HDE.out];simp only;rw [if_neg (fun q=>by rw [q.2] at hx;cases hx)]);have kz7':=kz7.far (p:=⟨B + 1,2,none⟩) (by show B ≠ B + 1;omega) (.int .i64 4);have c7:=(Blk.set_ kR7 2 (.int .i64 4)).cell 2;have gb7' : Below B w (w7.setCell ⟨B + 1,2,none⟩ (.int .i64 4)):=gb7.setCell (by show B≤B + 1;omega) _;have HK:=Lib.hid kz7';have HC:=Lib.hid c7;have HG:=Lib.hid gb7';clear hx kR7 kz7' c7 gb7' kz7 gb7 o7 k7
        go_upto_region 6 with fail
        have kz7:=HK.out;have c28 : (w7.setCell ⟨B + 1,2,none⟩ (.int .i64 4)).cell? ⟨B + 1,2,none⟩ = some (.int .i64 4):=HC.out;have gb7:=HG.out;clear c27 f27 HK HC HG;have c27:=c28;clear c28
        generalize w7.setCell ⟨B + 1,2,none⟩ (.int .i64 4) = w7 at *
        have hlt7 : B + 1 < w7.heap.size:=World.block_lt_of_cell? w7 _ c27;refine wp_region_held_drew (S:=fun w'=>w'.cell? ⟨B + 1,2,none⟩ = some (.int .i64 4)) (by kernel_rfl) c27 (fun hS=>?_);have kz8 : Blk w7.drew B 47 (cT 0):=kz7;have gb8 : Below B w w7.drew:=gb7.drew;have hlt8 : B + 1 < w7.drew.heap.size:=hlt7
        generalize w7.drew = w8 at *
        clear kz7 gb7 c27 hlt7;refine wpAnyH_take (i:=0) (v:=?rv328) rfl (by kernel_rfl) (by kernel_rfl) (by kernel_rfl) (fun _ _ _ h=>h) (Or.inl ⟨by rfl,?ry328⟩) hS ?_
        case ry328=>(intro wS hSw;clear hSw;go_simp;(try with_reducible rfl))
        simp only [Act.put,List.getElem_toArray,List.getElem_cons_zero,List.getElem_cons_succ,List.setIfInBounds_toArray,List.set_cons_succ,List.set_cons_zero]
        refine wpAnyH_take (i:=1) (v:=?rv331) rfl (by kernel_rfl) (by kernel_rfl) (by kernel_rfl) (fun _ _ _ h=>h) (Or.inl ⟨by rfl,?ry331⟩) hS ?_
        case ry331=>(intro wS hSw;clear hSw;go_simp;(try with_reducible rfl))
        simp only [Act.put,List.getElem_toArray,List.getElem_cons_zero,List.getElem_cons_succ,List.setIfInBounds_toArray,List.set_cons_succ,List.set_cons_zero]
        refine wpAnyH_take (i:=2) (v:=?rv334) rfl (by kernel_rfl) (by kernel_rfl) (by kernel_rfl) (fun _ _ _ h=>h) (Or.inl ⟨by rfl,?ry334⟩) hS ?_
        case ry334=>(intro wS hSw;clear hSw;go_simp;(try with_reducible rfl))
        simp only [Act.put,List.getElem_toArray,List.getElem_cons_zero,List.getElem_cons_succ,List.setIfInBounds_toArray,List.set_cons_succ,List.set_cons_zero]
        refine wpAnyH_take (i:=3) (v:=?rv337) rfl (by kernel_rfl) (by kernel_rfl) (by kernel_rfl) (fun _ _ _ h=>h) (Or.inl ⟨by rfl,?ry337⟩) hS ?_
        case ry337=>(intro wS hSw;clear hSw;go_simp;(try with_reducible rfl))
        simp only [Act.put,List.getElem_toArray,List.getElem_cons_zero,List.getElem_cons_succ,List.setIfInBounds_toArray,List.set_cons_succ,List.set_cons_zero]
        refine wpAnyH_take (i:=4) (v:=?rv340) rfl (by kernel_rfl) (by kernel_rfl) (by kernel_rfl) (fun _ _ _ h=>h) (Or.inl ⟨by rfl,?ry340⟩) hS ?_
        case ry340=>(intro wS hSw;have c28:=hSw;clear hSw;go_simp;(try with_reducible rfl))
        simp only [Act.put,List.getElem_toArray,List.getElem_cons_zero,List.getElem_cons_succ,List.setIfInBounds_toArray,List.set_cons_succ,List.set_cons_zero]
        refine wpAnyH_ready (rs:=[5]) (by kernel_rfl) (by simp) ?_;refine AllReadyH.cons rfl (fun K hK=>?_) .nil;refine step_st (cs:=cT 0) rfl rowE (.tmp 2) (.tmp 38) rfl rfl rfl kz8 rfl rfl cT0_one ?_;intro w9 k9 g9 z9;refine hK.out _ _ ((World.cell?_of_block (a:=⟨B + 1,2,none⟩) (g9.block (B + 1) hlt8 (by simp))).trans hS) (fun hS=>?_);clear hK K;refine wpAnyH_take (i:=6) (v:=?rv349) rfl (by kernel_rfl) (by kernel_rfl) (by kernel_rfl) (fun _ _ _ h=>h) (Or.inl ⟨by rfl,?ry349⟩) hS ?_
        case ry349=>(intro wS hSw;clear hSw;go_simp;(try with_reducible rfl))
        simp only [Act.put,List.getElem_toArray,List.getElem_cons_zero,List.getElem_cons_succ,List.setIfInBounds_toArray,List.set_cons_succ,List.set_cons_zero]
        refine wpAnyH_done (by kernel_rfl) ?_ _
        try simp only [Act.put,List.getElem_toArray,List.getElem_cons_zero,List.getElem_cons_succ,List.setIfInBounds_toArray,List.set_cons_succ,List.set_cons_zero]
        have gb9:=gb8.trans (only_Below g9 (Nat.le_refl B) (by omega));go_wp2_with fail;exact bodyPost_ret (v:=.tuple #[.agg (cT 0),.int .i64 4]) (results_blk2 rfl rowE k9 SZ.out rfl rfl) rfl ⟨none,0,0,by rw [HE.out,exZ_cs];rfl,by rw [HE.out];exact OwnD.nil _ _,by rw [← HB.out];exact gb9⟩
end Go.Proofs.YtfpenfgmpbdakaaGreat

namespace Go.Proofs.YtfpenfgmpbdakaaGreat
set_option linter.unusedVariables false
set_option linter.unusedSimpArgs false
set_option maxRecDepth 100000
open Go.RowKit
open Dot Evt
open Disk
namespace Sto.Stp
open _root_.Go.Proofs.YtfpenfgmpbdakaaGreat.Log (writeM mendM RMendEnd rlmend_any rlread_any ReadL)
open _root_.Go.Proofs.YtfpenfgmpbdakaaGreat.Frame (frm frms frms_nil frms_cons frms_snoc frms_append frm_length frm_pos Parts AllF)
def ROpenE (w : World) (F : Nat→Prop) (g size : Nat) (lasts : Db) (e : Ending) (w' : World) : Prop :=
  ∃ l r F',Parts lasts.v l r∧Only F w w'∧Grows F F' w∧match recsE ⟨0,0,[]⟩ l with
    | some s=>∃ b A n c xs,e = .returned (.tuple #[.pointer (some ⟨b,0,none⟩),.int .i64 0])∧RStoAt w' F' b g size ⟨mendD lasts l,s.u,s.u,s.i⟩ (.slice A n c)∧EvsAt w' F' b w.heap.size A n c xs∧xs.map (·.e) = s.l∧w.heap.size≤b
    | none=>e = .returned (.tuple #[.pointer none,.int .i64 4])∧RefD w' F' g size (mendD lasts l)
def ROpR (W : World) (F : Nat→Prop) (b g base : Nat) (s : RS) (wr : World) : Prop :=
  (∃ A n c xs,Blk wr b 67 (sc g 0 s.u s.i (.slice A n c))∧EvsAt wr F b base A n c xs∧xs.map (·.e) = s.l∧(∀ k,A.map (·.block) = some k→W.heap.size≤k))∧Only (fun k=>k = b) W wr
theorem numM_le {most : Nat} {t : List UInt8} {m : Nat} (h : Vint.dec t = .ok (m,[])) : numM most t = if m≤most then some m else none:=by unfold numM;rw [h]
theorem numM_rest {most : Nat} {t r : List UInt8} {m : Nat} (h : Vint.dec t = .ok (m,r)) (hr : r ≠ []) : numM most t = none:=by
  unfold numM
  rw [h]
  rcases r with _ | ⟨x,r⟩
  · exact absurd rfl hr
  · rfl
theorem numM_err {most : Nat} {t : List UInt8} {x : Nat} (h : Vint.dec t = .error x) : numM most t = none:=by unfold numM;rw [h]
theorem ropen_no {w wx : World} {F F1 : Nat→Prop} {g size : Nat} {lasts : Db} {r : List UInt8} {l : List (List UInt8)} (hp : Parts lasts.v l r) (ho : Only F w wx) (hg : Grows F F1 w) (hno : recsE ⟨0,0,[]⟩ l = none) (hd : RefD wx F1 g size (mendD lasts l)) : ROpenE w F g size lasts (.returned (.tuple #[.pointer none,.int .i64 4])) wx :=
  ⟨l,r,F1,hp,ho,hg,by rw [hno];exact ⟨rfl,hd⟩⟩
set_option maxHeartbeats 16000000 in
theorem ropen_any (F : Nat→Prop) (g size : Nat) (lasts : Db) (w : World) (hD : RefD w F g size lasts) (hm : lasts.length≤size) (hs : size≤16384) :
    Calls Tryz.prog 13 #[.pointer (some ⟨g,0,none⟩)] w (ROpenE w F g size lasts):=by
  have hf : ∀ k,F k→k < w.heap.size:=hD.lt
  go_enter Tryz.func13,Tryz.ntmps13
  go_wp2_with fail;refine (rlmendD_any F g size lasts _ hD hs (by omega)).mono ?_;rintro e w1 ⟨l,r,hp,rfl,q1⟩;have hp : Parts lasts.v l r:=hp;have hpl : (frms l).length≤lasts.length∧l.length≤(frms l).length:=parts_le hp;obtain ⟨F1,d1,o1,g1⟩:=q1;have d1 : RefD w1 F1 g size (mendD lasts l):=d1;have HP:=Lib.hid hp;have HG1:=Lib.hid g1;have ho1:=o1.size;clear hp hD;go_wp2_with fail;refine (rlreadD_any F1 g size (mendD lasts l) _ d1).mono ?_;rintro e w3 ⟨l',r',A3,c3,hp3,rfl,bo3,b3⟩
  have hp3 : Parts (frms l) l' r':=by rw [mend_v HP.out] at hp3;exact hp3
  obtain ⟨rfl,rfl⟩:=(parts_self HP.out).same hp3;have d3:=d1.below b3
  have hsmall : l.length≤100000:=by have:=hpl;omega
  have hb4 : ∀ x ∈ l,x.length≤4096:=HP.out.2.1;have HX:=Lib.hid hb4;have HRS:=Lib.hid bo3.rd;have o3 : Only F w w3:=o1.then_below (b3.mono ho1);have hl3:=bo3.len;clear hp3 d1 hb4 o1 g1 hpl bo3
  go_upto_region 4 with fail
  refine nameW ?_;intro W hW;obtain ⟨b,hb⟩ : ∃ b,b = w3.heap.size:=⟨_,rfl⟩;rw [← hb]
  have kb : Blk W b 67 (sc g 0 0 0 (.slice none 0 0)):=by rw [hW,hb];exact Blk.new w3 _ _
  have bW : Below w3.heap.size w3 W:=by rw [hW];exact (Below.refl _ _).alloc (Nat.le_refl _) _
  have dW:=d3.below bW;have oW : Only F w W:=o3.then_below (bW.mono o3.size)
  have hbF : ¬ F1 b:=fun q=>by have:=d3.lt _ q;omega
  have hwb : w.heap.size≤b:=by have:=o3.size;omega
  have hbs : b < W.heap.size:=kb.lt;have hDW:=Lib.hid dW;have HOW:=Lib.hid oW;have HBW:=Lib.hid bW;have HB:=Lib.hid hb;clear hW hb d3 o3 bW dW oW;go_wp2_with fail
  go_loopw [25] (fun i wr=>∃ (k : Nat) (s : RS),k≤l.length∧i = .int .i64 (k : Nat)∧recsE ⟨0,0,[]⟩ (l.take k) = some s∧s.l.length≤k∧ROpR W F1 b g w.heap.size s wr) (fun i _=>l.length - (intOf i).toNat)
  case atStart=>exact ⟨0,⟨0,0,[]⟩,by omega,rfl,rfl,Nat.le_refl _,⟨none,0,0,[],kb,⟨OwnEv.nil _ _,fun x hx=>(by simp at hx),fun k hk=>(by cases hk),fun x hx=>(by simp at hx)⟩,rfl,fun k hk=>(by cases hk)⟩,Only.refl _ _⟩
  case round =>
  clear kb;obtain ⟨k,s,hk,rfl,hr,hsl,⟨Ae,ne,qe,xs,kS,hev,hxs,hAe⟩,o⟩:=hrel;have dE : RefD wr F1 g size (mendD lasts l):=hDW.out.keep (o.keeps (fun k hk q=>hbF (by rw [← q];exact hk)) hDW.out.lt);have oE : Only F w wr:=HOW.out.trans o (fun k hk=>.inr (by omega));have bE : Below w3.heap.size w3 wr:=HBW.out.trans (o.to_below (fun k hk=>by have:=HB.out;omega) HBW.out.size);have HDE:=Lib.hid dE;have HOE:=Lib.hid oE;have HRW:=Lib.hid (HRS.out.below bE);have HO:=Lib.hid o;have HAE:=Lib.hid hAe;have HXS:=Lib.hid hxs;have HSL:=Lib.hid hsl
  have hne : ne≤100000:=by have h1:=hev.row.1;have h2:=congrArg List.length hxs;rw [List.length_map] at h2;omega
  have hws : w.heap.size≤wr.heap.size:=oE.size;have hWs : W.heap.size≤wr.heap.size:=o.size;have h3s : w3.heap.size≤wr.heap.size:=bE.size;clear dE oE o hAe hxs hsl bE
  by_cases hlt : k < l.length
  · obtain ⟨a,D,m,c,hA,hab,hcell,hrd,hmc,hcm⟩:=HRW.out.at_ hlt
    subst hA
    have hm4 : m≤4096:=by have:=HX.out _ (List.getElem_mem hlt);have:=hrd.1;omega
    have hsn:=take_snoc l hlt
    have hr2 : recsE ⟨0,0,[]⟩ (l.take (k + 1)) = recE s l[k]:=by rw [hsn,recsE_snoc,hr]
    have hcut : recsE ⟨0,0,[]⟩ (l.take (k + 1)) = none→recsE ⟨0,0,[]⟩ l = none:=fun h=>by
      have:=recsE_none (l.take (k + 1)) (l.drop (k + 1)) ⟨0,0,[]⟩ h
      rwa [List.take_append_drop] at this
    rw [hr2] at hcut
    generalize l[k] = rk at *
    have HR2:=Lib.hid hr2;have HCU:=Lib.hid hcut;obtain ⟨kk,hkk⟩ : ∃ kk,kk = l.length:=⟨_,rfl⟩;rw [← hkk] at hlt ⊢;have HKK:=Lib.hid hkk
    have hk0 : (0 : Int)≤(k : Int):=by omega
    have hkm : (k : Int) < (kk : Int):=by omega
    have hkx : k≤100000:=by omega
    have HKS:=Lib.hid kS;have HEV:=Lib.hid hev;have hmn : c≤maxLen:=hcm
    unfold maxLen at hmn
    clear hr hr2 hcut hkk hsn kS hev hcm
    rcases rk with _ | ⟨kd,t⟩
    · obtain rfl : m = 0:=hrd.1
      have hno:=HCU.out rfl;have HNO:=Lib.hid hno;clear hno hrd;go_wp2_with fail;go_ret2;exact ropen_no HP.out HOE.out HG1.out HNO.out HDE.out
    have hm1 : 1≤m:=by have:=hrd.1;simp at this;omega
    have HML:=Lib.hid (show m = t.length + 1 by have:=hrd.1;simpa using this);obtain ⟨ad,hAD,had,hv0⟩:=hrd.at_ (k:=0) (by simp);subst hAD
    have hv : wr.cell? ad = some (.int .u8 (kd.toNat : Int)):=by simpa [go_sem,bv] using hv0
    have hbt:=(hrd.drop 1);rw [List.drop_one,List.tail_cons] at hbt
    have hm0 : (0 : Int) < (m : Int):=by omega
    have hmz : ¬ (m : Int) = 0:=by omega
    have HRD:=Lib.hid hrd;clear hv0 hrd
    by_cases hbad : kd.toNat < 1∨3 < kd.toNat
    · have hno:=HCU.out (by
        rw [recE_cons,if_neg (fun e=>by rw [e] at hbad;revert hbad;decide),recM_cons,if_neg (fun e=>by rw [e] at hbad;revert hbad;decide),if_neg (fun e=>by rw [e] at hbad;revert hbad;decide)]
        rfl)
      have HNO:=Lib.hid hno;clear hno
      rcases Nat.lt_or_ge kd.toNat 1 with h1 | h1
      · have h1' : (kd.toNat : Int) < 1:=by omega
        go_wp2_with fail;go_ret2;exact ropen_no HP.out HOE.out HG1.out HNO.out HDE.out
      · have h1' : ¬ (kd.toNat : Int) < 1:=by omega
        have h3' : (3 : Int) < (kd.toNat : Int):=by omega
        go_wp2_with fail;go_ret2;exact ropen_no HP.out HOE.out HG1.out HNO.out HDE.out
    have hlt3 : kd.toNat = 1∨kd.toNat = 2∨kd.toNat = 3:=by omega
    clear hbad
    rcases hlt3 with k1 | k1 | k1
    · obtain rfl : kd = 1:=UInt8.toNat_inj.1 k1
      have hv1 : wr.cell? ad = some (.int .u8 1):=hv
      have hre : recE s (1 :: t) = (numM 96 t).map (fun x=>(⟨max s.u x,s.i,s.l⟩ : RS)):=by
        rw [recE_cons,if_neg (by decide),recM_cons,if_pos rfl]
        cases numM 96 t <;> rfl
      rw [hre] at HR2 HCU;clear hre hv hbt
      go_upto_region 16 with fail
      refine nameW ?_;intro W2 hW2;obtain ⟨gR,hgR⟩ : ∃ gR,gR = wr.heap.size:=⟨_,rfl⟩;rw [← hgR]
      have kR : RRd W2 gR (some ad) m c 1 0:=by rw [hW2,hgR];exact Blk.new wr _ _
      have b2 : Below wr.heap.size wr W2:=by rw [hW2];exact (Below.refl _ _).alloc (Nat.le_refl _) _
      have HINT:=Lib.hid (rint_any gR (some ad) m c 1 (1 :: t) w3.heap.size W2 kR (HRD.out.below (b2.mono h3s)) hm1 (by omega))
      have hgs : wr.heap.size≤gR:=by omega
      clear hW2 kR hgR;go_wp2_with fail;refine HINT.out.mono ?_;rintro e w5 ⟨hg5,h5⟩;rw [List.drop_one,List.tail_cons] at h5;have b5 : Below wr.heap.size wr w5:=b2.trans (only_Below hg5 hgs b2.size);have hv5 : w5.cell? ad = some (.int .u8 1):=(b5.cell (Nat.lt_of_lt_of_le had h3s)).trans hv1;clear HINT b2
      rcases hd : Vint.dec t with y | ⟨q,rr⟩
      · rw [hd] at h5
        obtain ⟨rfl,kR5⟩:=h5;have hy:=Vint.dec_err hd
        have hq : ((y : Int) != 0) = true:=by rw [bne_iff_ne];omega
        have hq2 : ¬ ((y : Nat) : Int) = 0:=by omega
        have r2 : w5.cell? ⟨gR,2,none⟩ = some (.int .i64 (y : Nat)):=kR5.cell 2;have r1 : w5.cell? ⟨gR,1,none⟩ = some (.int .i64 ((1 : Nat) : Int)):=kR5.cell 1;have HN:=Lib.hid (ropen_no HP.out (HOE.out.then_below (b5.mono hws)) HG1.out (HCU.out (by rw [numM_err hd];rfl)) (HDE.out.below b5));clear kR5 hg5 b5;go_wp2_with fail;go_ret2;exact HN.out
      rw [hd] at h5;obtain ⟨rfl,kR5⟩:=h5;have r2 : w5.cell? ⟨gR,2,none⟩ = some (.int .i64 0):=kR5.cell 2
      by_cases hrr : rr = []
      case neg =>
        obtain ⟨P,hP⟩ : ∃ P,P = m - rr.length:=⟨_,rfl⟩;rw [← hP] at kR5;have r1 : w5.cell? ⟨gR,1,none⟩ = some (.int .i64 (P : Nat)):=kR5.cell 1;have hrl : 0 < rr.length:=List.length_pos_iff.2 hrr
        have hlt1 : (P : Int) < (m : Int):=by omega
        have HN:=Lib.hid (ropen_no HP.out (HOE.out.then_below (b5.mono hws)) HG1.out (HCU.out (by rw [numM_rest hd hrr];rfl)) (HDE.out.below b5));clear kR5 hg5 b5;go_wp2_with fail;go_ret2;exact HN.out
      subst hrr;have r1 : w5.cell? ⟨gR,1,none⟩ = some (.int .i64 (m : Nat)):=kR5.cell 1
      have hlt1 : ¬ (m : Int) < (m : Int):=by omega
      by_cases hmost : q≤96
      case neg =>
        have hgt : (96 : Int) < (q : Int):=by omega
        have HN:=Lib.hid (ropen_no HP.out (HOE.out.then_below (b5.mono hws)) HG1.out (HCU.out (by rw [numM_le hd,if_neg hmost];rfl)) (HDE.out.below b5));clear kR5 hg5 b5;go_wp2_with fail;go_ret2;exact HN.out
      have hgt : ¬ (96 : Int) < (q : Int):=by omega
      have kS5:=HKS.out.below b5 HKS.out.lt;have hev5:=HEV.out.below b5;have o5:=HO.out.then_below (b5.mono hWs);have s5 : w5.cell? ⟨b,2,none⟩ = some (.int .i64 (s.u : Nat)):=kS5.cell 2;have u5:=kS5.free 2;have hlb5:=kS5.lt
      rcases Nat.lt_or_ge s.u q with hux | hux
      · have hle : (s.u : Int) < (q : Int):=by omega
        have hmx : max (s.u : Int) (q : Int) = (q : Int):=by omega
        have k9:=kS5.set_ 2 (.int .i64 (q : Nat));have e9 : EvsAt (w5.setCell ⟨b,2,none⟩ (.int .i64 (q : Nat))) F1 b w.heap.size Ae ne qe xs:=hev5.setT kS5 (by decide) (by decide) _ _;have o9 : Only (fun k=>k = b) W (w5.setCell ⟨b,2,none⟩ (.int .i64 (q : Nat))):=o5.setCell (.inl rfl) _;have HFIN:=Lib.hid (And.intro k9 (And.intro e9 o9));clear k9 e9 o9 kS5 hev5 o5 kR5 hg5 b5;go_wp2_with fail
        go_roundw
        case rel=>exact ⟨k + 1,⟨q,s.i,s.l⟩,by omega,by go_num,by rw [HR2.out,numM_le hd,if_pos hmost,Option.map_some,Nat.max_eq_right (by omega)],by have:=HSL.out;show s.l.length≤_;omega,⟨Ae,ne,qe,xs,HFIN.out.1,HFIN.out.2.1,HXS.out,HAE.out⟩,HFIN.out.2.2⟩
        case measure=>simp [intOf];omega
      · have hle : (q : Int)≤(s.u : Int):=by omega
        have hnl2 : ¬ (s.u : Int) < (q : Int):=by omega
        have hmx : max (s.u : Int) (q : Int) = (s.u : Int):=by omega
        have k9:=kS5.set_ 2 (.int .i64 (s.u : Nat));have e9 : EvsAt (w5.setCell ⟨b,2,none⟩ (.int .i64 (s.u : Nat))) F1 b w.heap.size Ae ne qe xs:=hev5.setT kS5 (by decide) (by decide) _ _;have o9 : Only (fun k=>k = b) W (w5.setCell ⟨b,2,none⟩ (.int .i64 (s.u : Nat))):=o5.setCell (.inl rfl) _;have HFIN:=Lib.hid (And.intro k9 (And.intro e9 o9));clear k9 e9 o9 kS5 hev5 o5 kR5 hg5 b5;go_wp2_with fail
        go_roundw
        case rel=>exact ⟨k + 1,⟨s.u,s.i,s.l⟩,by omega,by go_num,by rw [HR2.out,numM_le hd,if_pos hmost,Option.map_some,Nat.max_eq_left (by omega)],by have:=HSL.out;show s.l.length≤_;omega,⟨Ae,ne,qe,xs,HFIN.out.1,HFIN.out.2.1,HXS.out,HAE.out⟩,HFIN.out.2.2⟩
        case measure=>simp [intOf];omega
    · obtain rfl : kd = 2:=UInt8.toNat_inj.1 k1
      have hv1 : wr.cell? ad = some (.int .u8 2):=hv
      have hre : recE s (2 :: t) = (numM 1099511627776 t).map (fun x=>(⟨s.u,max s.i x,s.l⟩ : RS)):=by
        rw [recE_cons,if_neg (by decide),recM_cons,if_neg (by decide),if_pos rfl]
        cases numM 1099511627776 t <;> rfl
      rw [hre] at HR2 HCU;clear hre hv hbt
      go_upto_region 16 with fail
      refine nameW ?_;intro W2 hW2;obtain ⟨gR,hgR⟩ : ∃ gR,gR = wr.heap.size:=⟨_,rfl⟩;rw [← hgR]
      have kR : RRd W2 gR (some ad) m c 1 0:=by rw [hW2,hgR];exact Blk.new wr _ _
      have b2 : Below wr.heap.size wr W2:=by rw [hW2];exact (Below.refl _ _).alloc (Nat.le_refl _) _
      have HINT:=Lib.hid (rint_any gR (some ad) m c 1 (2 :: t) w3.heap.size W2 kR (HRD.out.below (b2.mono h3s)) hm1 (by omega))
      have hgs : wr.heap.size≤gR:=by omega
      clear hW2 kR hgR;go_wp2_with fail;refine HINT.out.mono ?_;rintro e w5 ⟨hg5,h5⟩;rw [List.drop_one,List.tail_cons] at h5;have b5 : Below wr.heap.size wr w5:=b2.trans (only_Below hg5 hgs b2.size);have hv5 : w5.cell? ad = some (.int .u8 2):=(b5.cell (Nat.lt_of_lt_of_le had h3s)).trans hv1;clear HINT b2
      rcases hd : Vint.dec t with y | ⟨q,rr⟩
      · rw [hd] at h5
        obtain ⟨rfl,kR5⟩:=h5;have hy:=Vint.dec_err hd
        have hq : ((y : Int) != 0) = true:=by rw [bne_iff_ne];omega
        have hq2 : ¬ ((y : Nat) : Int) = 0:=by omega
        have r2 : w5.cell? ⟨gR,2,none⟩ = some (.int .i64 (y : Nat)):=kR5.cell 2;have r1 : w5.cell? ⟨gR,1,none⟩ = some (.int .i64 ((1 : Nat) : Int)):=kR5.cell 1;have HN:=Lib.hid (ropen_no HP.out (HOE.out.then_below (b5.mono hws)) HG1.out (HCU.out (by rw [numM_err hd];rfl)) (HDE.out.below b5));clear kR5 hg5 b5;go_wp2_with fail;go_ret2;exact HN.out
      rw [hd] at h5;obtain ⟨rfl,kR5⟩:=h5;have r2 : w5.cell? ⟨gR,2,none⟩ = some (.int .i64 0):=kR5.cell 2
      by_cases hrr : rr = []
      case neg =>
        obtain ⟨P,hP⟩ : ∃ P,P = m - rr.length:=⟨_,rfl⟩;rw [← hP] at kR5;have r1 : w5.cell? ⟨gR,1,none⟩ = some (.int .i64 (P : Nat)):=kR5.cell 1;have hrl : 0 < rr.length:=List.length_pos_iff.2 hrr
        have hlt1 : (P : Int) < (m : Int):=by omega
        have HN:=Lib.hid (ropen_no HP.out (HOE.out.then_below (b5.mono hws)) HG1.out (HCU.out (by rw [numM_rest hd hrr];rfl)) (HDE.out.below b5));clear kR5 hg5 b5;go_wp2_with fail;go_ret2;exact HN.out
      subst hrr;have r1 : w5.cell? ⟨gR,1,none⟩ = some (.int .i64 (m : Nat)):=kR5.cell 1
      have hlt1 : ¬ (m : Int) < (m : Int):=by omega
      by_cases hmost : q≤1099511627776
      case neg =>
        exact absurd (show q≤1099511627776 from (Vint.dec_ok hd).2) hmost
      have kS5:=HKS.out.below b5 HKS.out.lt;have hev5:=HEV.out.below b5;have o5:=HO.out.then_below (b5.mono hWs);have s5 : w5.cell? ⟨b,3,none⟩ = some (.int .i64 (s.i : Nat)):=kS5.cell 3;have u5:=kS5.free 3;have hlb5:=kS5.lt
      rcases Nat.lt_or_ge s.i q with hux | hux
      · have hle : (s.i : Int) < (q : Int):=by omega
        have hmx : max (s.i : Int) (q : Int) = (q : Int):=by omega
        have k9:=kS5.set_ 3 (.int .i64 (q : Nat));have e9 : EvsAt (w5.setCell ⟨b,3,none⟩ (.int .i64 (q : Nat))) F1 b w.heap.size Ae ne qe xs:=hev5.setT kS5 (by decide) (by decide) _ _;have o9 : Only (fun k=>k = b) W (w5.setCell ⟨b,3,none⟩ (.int .i64 (q : Nat))):=o5.setCell (.inl rfl) _;have HFIN:=Lib.hid (And.intro k9 (And.intro e9 o9));clear k9 e9 o9 kS5 hev5 o5 kR5 hg5 b5;go_wp2_with fail
        go_roundw
        case rel=>exact ⟨k + 1,⟨s.u,q,s.l⟩,by omega,by go_num,by rw [HR2.out,numM_le hd,if_pos hmost,Option.map_some,Nat.max_eq_right (by omega)],by have:=HSL.out;show s.l.length≤_;omega,⟨Ae,ne,qe,xs,HFIN.out.1,HFIN.out.2.1,HXS.out,HAE.out⟩,HFIN.out.2.2⟩
        case measure=>simp [intOf];omega
      · have hle : (q : Int)≤(s.i : Int):=by omega
        have hnl2 : ¬ (s.i : Int) < (q : Int):=by omega
        have hmx : max (s.i : Int) (q : Int) = (s.i : Int):=by omega
        have k9:=kS5.set_ 3 (.int .i64 (s.i : Nat));have e9 : EvsAt (w5.setCell ⟨b,3,none⟩ (.int .i64 (s.i : Nat))) F1 b w.heap.size Ae ne qe xs:=hev5.setT kS5 (by decide) (by decide) _ _;have o9 : Only (fun k=>k = b) W (w5.setCell ⟨b,3,none⟩ (.int .i64 (s.i : Nat))):=o5.setCell (.inl rfl) _;have HFIN:=Lib.hid (And.intro k9 (And.intro e9 o9));clear k9 e9 o9 kS5 hev5 o5 kR5 hg5 b5;go_wp2_with fail
        go_roundw
        case rel=>exact ⟨k + 1,⟨s.u,s.i,s.l⟩,by omega,by go_num,by rw [HR2.out,numM_le hd,if_pos hmost,Option.map_some,Nat.max_eq_left (by omega)],by have:=HSL.out;show s.l.length≤_;omega,⟨Ae,ne,qe,xs,HFIN.out.1,HFIN.out.2.1,HXS.out,HAE.out⟩,HFIN.out.2.2⟩
        case measure=>simp [intOf];omega
    obtain rfl : kd = 3:=UInt8.toNat_inj.1 k1;have hv3 : wr.cell? ad = some (.int .u8 3):=hv;clear hv
    by_cases hc1 : c = 1
    · obtain rfl : m = 1:=by omega
      subst hc1;obtain rfl : t = []:=List.eq_nil_of_length_eq_zero (by have:=HML.out;omega);obtain ⟨gp,gl⟩:=getEv_facts [];have HGE:=Lib.hid (rget07_any (some ad) 0 0 [] wr (RdB.nil _ _ _) (by omega));obtain ⟨x,hx⟩ : ∃ x,x = (getEv []).1:=⟨_,rfl⟩;obtain ⟨y,hy⟩ : ∃ y,y = (getEv []).2:=⟨_,rfl⟩
      unfold GetEv at HGE
      rw [← hx,← hy] at HGE
      have hre : recE s [3] = if y = 0 then some ⟨s.u,s.i,addE s.l x⟩ else none:=by rw [recE_cons,if_pos rfl,← hx,← hy]
      rw [hre] at HR2 HCU;rw [← hx] at gp gl;have HP7:=Lib.hid (And.intro gp gl);clear gp gl hx hy hre hbt
      by_cases hy0 : y = 0
      case neg =>
        have hq : ((y : Int) != 0) = true:=by rw [bne_iff_ne];omega
        have hq2 : ¬ ((y : Nat) : Int) = 0:=by omega
        have HNO:=Lib.hid (HCU.out (by rw [if_neg hy0]));go_wp2_with fail;refine HGE.out.mono ?_;rintro e w5 ⟨Ax,mx,cx,rfl,ox,b5⟩;obtain ⟨ce,hce⟩ : ∃ ce,ce = ec x (.slice Ax mx cx):=⟨_,rfl⟩;have SC:=Lib.hid (show ce.size = 14 by rw [hce];rfl);have OC:=Lib.hid (show ce.all (·.oneCell') = true by rw [hce];exact ec_one _ _ _ _);rw [← hce];clear hce ox
        go_upto_region 11 with ((with_reducible refine wpList_st rowE (Blk.new _ _ _) SC.out ?_ OC.out ?_ ?_ ?_);(rfl);rotate_left;(rfl);(rfl);intro w6 k6 g6 z6)
        have b6 : Below wr.heap.size wr w6:=b5.trans ((new_below g6).mono b5.size);have HN:=Lib.hid (ropen_no HP.out (HOE.out.then_below (b6.mono hws)) HG1.out HNO.out (HDE.out.below b6));clear g6 z6 k6 b6 b5;go_wp2_with fail;go_ret2;exact HN.out
      subst hy0;go_wp2_with fail;refine HGE.out.mono ?_;rintro e w5 ⟨Ax,mx,cx,rfl,ox,b5⟩;obtain ⟨z,hz⟩ : ∃ z : EvV,z = ⟨x,Ax,mx,cx⟩:=⟨_,rfl⟩
      have hzc : ec x (.slice Ax mx cx) = z.cs:=by rw [hz];rfl
      rw [hzc]
      have hzo : EvOwn w5 wr.heap.size z:=by rw [hz];exact ⟨HP7.out.1,ox,by show mx≤_;rw [ox.1];have:=HP7.out.2;omega⟩
      have hze : z.e = x:=by rw [hz]
      obtain ⟨ce,hce⟩ : ∃ ce,ce = z.cs:=⟨_,rfl⟩;have SC:=Lib.hid (show ce.size = 14 by rw [hce];rfl);have OC:=Lib.hid (show ce.all (·.oneCell') = true by rw [hce];exact z.one);have X0:=Lib.hid (show ce[0]? = some (.int .i64 x.d.1) by rw [hce,← hze];rfl);have X1:=Lib.hid (show ce[1]? = some (.int .i64 x.d.2) by rw [hce,← hze];rfl);have HCE:=Lib.hid hce;have HZE:=Lib.hid hze;have HZO:=Lib.hid hzo;rw [← hce];clear hce ox hz hzc hzo hze
      go_upto_region 11 with ((with_reducible refine wpList_st rowE (Blk.new _ _ _) SC.out ?_ OC.out ?_ ?_ ?_);(rfl);rotate_left;(rfl);(rfl);intro w6 k6 g6 z6)
      have b16 : Below w5.heap.size w5 w6:=new_below g6;have b6 : Below wr.heap.size wr w6:=b5.trans (b16.mono b5.size);obtain ⟨gE,hgE⟩ : ∃ gE,gE = w5.heap.size:=⟨_,rfl⟩;rw [← hgE] at k6 ⊢
      have hgEs : wr.heap.size≤gE:=by rw [hgE];exact b5.size
      have HZO6:=Lib.hid (⟨HZO.out.1,HZO.out.2.1.below b16 (Nat.le_refl _),HZO.out.2.2⟩ : EvOwn w6 wr.heap.size z);have hlbr : b < wr.heap.size:=HKS.out.lt;have kS6:=HKS.out.below b6 hlbr;have HB6:=Lib.hid b6;have ev6:=HEV.out.below b6;have HE6:=Lib.hid ev6;have c4 : w6.cell? ⟨b,4,none⟩ = some (.slice Ae ne qe):=kS6.cell 4;have hlb6:=kS6.lt;have hlE:=k6.lt;have HDT:=Lib.hid (ev_dot k6 X0.out X1.out);obtain ⟨R,hR⟩ : ∃ R,R = hasE (xs.map (·.e)) x.d:=⟨_,rfl⟩;have HR:=Lib.hid hR
      have HHAS:=Lib.hid fun (w' : World) (hb : Below w6.heap.size w6 w')=>(by
        have hs:=HE6.out.below hb
        have:=rhas_any Ae ne qe xs x.d.1 x.d.2 w' (hs.row.row (fun y hy=>(hs.own y hy).ok)) (by omega)
        rw [show ((x.d.1,x.d.2) : Dt) = x.d from rfl,← HR.out] at this
        exact this : Calls Tryz.prog 45 #[.slice Ae ne qe,.agg #[.int .i64 x.d.1,.int .i64 x.d.2]] w' fun e w''=>e = .returned (.bool R)∧Below w'.heap.size w' w'')
      clear g6 z6 b16 b6 hR ev6 HZO hgE b5
      go_upto_region 13 with fail
      refine wp_region_facts (fun L v w=>v 6 = .pointer (some ⟨b,0,none⟩)∧v 9 = .pointer (some ⟨gE,0,none⟩)∧Below w6.heap.size w6 w∧(L 0 = true→v 56 = .pointer (some ⟨b,0,none⟩))∧(L 1 = true→v 57 = .pointer (some ⟨b,0,none⟩))∧(L 2 = true→v 58 = .pointer (some ⟨b,4,none⟩))∧(L 3 = true→v 59 = .slice Ae ne qe)∧(L 4 = true→v 60 = .pointer (some ⟨gE,0,none⟩))∧(L 5 = true→v 61 = .agg #[.int .i64 x.d.1,.int .i64 x.d.2])∧(L 6 = true→v 62 = .bool R)∧(L 7 = true→v 63 = .bool (!R))) [56,57,58,59,60,61,62,63] (by kernel_rfl) (by kernel_rfl) (by kernel_rfl) (by kernel_rfl) ?h0 ?hst ?hend
      case h0 =>
        intro L h0;have h0 : ∀ i,i < 8→L i = false:=h0;exact ⟨rfl,rfl,(Below.refl _ _).drew,offF h0 (i:=0) (by decide),offF h0 (i:=1) (by decide),offF h0 (i:=2) (by decide),offF h0 (i:=3) (by decide),offF h0 (i:=4) (by decide),offF h0 (i:=5) (by decide),offF h0 (i:=6) (by decide),offF h0 (i:=7) (by decide)⟩
      case hst =>
        show FactSteps _ _ _ _ [0,1,2,3,4,5,6,7]
        refine @FactSteps.cons _ _ _ _ 0 _ [] _ rfl (by kernel_rfl) ?s0 ?_;rotate_left;refine @FactSteps.cons _ _ _ _ 1 _ [0] _ rfl (by kernel_rfl) ?s1 ?_;rotate_left;refine @FactSteps.cons _ _ _ _ 2 _ [1] _ rfl (by kernel_rfl) ?s2 ?_;rotate_left;refine @FactSteps.cons _ _ _ _ 3 _ [2] _ rfl (by kernel_rfl) ?s3 ?_;rotate_left;refine @FactSteps.cons _ _ _ _ 4 _ [] _ rfl (by kernel_rfl) ?s4 ?_;rotate_left;refine @FactSteps.cons _ _ _ _ 5 _ [4] _ rfl (by kernel_rfl) ?s5 ?_;rotate_left;refine @FactSteps.cons _ _ _ _ 6 _ [3,5] _ rfl (by kernel_rfl) ?s6 ?_;rotate_left;refine @FactSteps.cons _ _ _ _ 7 _ [6] _ rfl (by kernel_rfl) ?s7 ?_;rotate_left;exact FactSteps.nil
        case s0 =>
          rintro L a v w hv hg hL hd hcl ⟨e6,e9,hb,f0,f1,f2,f3,f4,f5,f6,f7⟩ K hK;refine step_do rfl ?_;clear hv;go_simp;exact hK.out _ _ ⟨e6,e9,hb,fun _=>rfl,f1,f2,f3,f4,f5,f6,f7⟩
        case s1 =>
          rintro L a v w hv hg hL hd hcl ⟨e6,e9,hb,f0,f1,f2,f3,f4,f5,f6,f7⟩ K hK;have g0:=f0 (hd 0 (by decide));have g0:=f0 (hd 0 (by decide));refine step_do rfl ?_;clear hv;go_simp;exact hK.out _ _ ⟨e6,e9,hb,f0,fun _=>rfl,f2,f3,f4,f5,f6,f7⟩
        case s2 =>
          rintro L a v w hv hg hL hd hcl ⟨e6,e9,hb,f0,f1,f2,f3,f4,f5,f6,f7⟩ K hK;have g1:=f1 (hd 1 (by decide));have g1:=f1 (hd 1 (by decide));refine step_do rfl ?_;clear hv;go_simp;exact hK.out _ _ ⟨e6,e9,hb,f0,f1,fun _=>rfl,f3,f4,f5,f6,f7⟩
        case s3 =>
          rintro L a v w hv hg hL hd hcl ⟨e6,e9,hb,f0,f1,f2,f3,f4,f5,f6,f7⟩ K hK;have g2:=f2 (hd 2 (by decide));have g2:=f2 (hd 2 (by decide));have cs4 : w.cell? ⟨b,4,none⟩ = some (.slice Ae ne qe):=(hb.cell (p:=⟨b,4,none⟩) hlb6).trans c4;refine step_do rfl ?_;clear hv;go_simp;exact hK.out _ _ ⟨e6,e9,hb,f0,f1,f2,fun _=>rfl,f4,f5,f6,f7⟩
        case s4 =>
          rintro L a v w hv hg hL hd hcl ⟨e6,e9,hb,f0,f1,f2,f3,f4,f5,f6,f7⟩ K hK;refine step_do rfl ?_;clear hv;go_simp;exact hK.out _ _ ⟨e6,e9,hb,f0,f1,f2,f3,fun _=>rfl,f5,f6,f7⟩
        case s5 =>
          rintro L a v w hv hg hL hd hcl ⟨e6,e9,hb,f0,f1,f2,f3,f4,f5,f6,f7⟩ K hK;have g4:=f4 (hd 4 (by decide));refine step_do rfl ?_;refine wp_ldr rowDt2 (.tmp 60) rfl ((hv 60).trans g4) (range_keep HDT.out hb hlE) rfl ?_;exact hK.out _ _ ⟨e6,e9,hb,f0,f1,f2,f3,f4,fun _=>rfl,f6,f7⟩
        case s6 =>
          rintro L a v w hv hg hL hd hcl ⟨e6,e9,hb,f0,f1,f2,f3,f4,f5,f6,f7⟩ K hK;have g3:=f3 (hd 3 (by decide));have g5:=f5 (hd 5 (by decide));have hh:=HHAS.out w hb;refine step_do rfl ?_;clear hv;go_simp;refine hh.mono ?_;rintro e wy ⟨rfl,bb⟩;exact hK.out _ _ ⟨e6,e9,(hb.trans (bb.mono hb.size)),f0,f1,f2,f3,f4,f5,fun _=>rfl,f7⟩
        case s7 =>
          rintro L a v w hv hg hL hd hcl ⟨e6,e9,hb,f0,f1,f2,f3,f4,f5,f6,f7⟩ K hK;have g6:=f6 (hd 6 (by decide));refine step_do rfl ?_;clear hv;go_simp;exact hK.out _ _ ⟨e6,e9,hb,f0,f1,f2,f3,f4,f5,f6,fun _=>rfl⟩
      case hend =>
      rintro L v w7 hall ⟨e6,e9,hb,f0,f1,f2,f3,f4,f5,f6,f7⟩;have hL : ∀ i,i < 8→L i = true:=hall;have f0:=f0 (hL 0 (by decide));have f1:=f1 (hL 1 (by decide));have f2:=f2 (hL 2 (by decide));have f3:=f3 (hL 3 (by decide));have f4:=f4 (hL 4 (by decide));have f5:=f5 (hL 5 (by decide));have f6:=f6 (hL 6 (by decide));have f7:=f7 (hL 7 (by decide))
      simp only [finA,List.foldl_cons,List.foldl_nil,Act.put,List.setIfInBounds_toArray,List.set_cons_succ,List.set_cons_zero,f0,f1,f2,f3,f4,f7,f5,f6]
      have k7:=k6.below hb k6.lt;have kS7:=kS6.below hb kS6.lt;have e7:=HE6.out.below hb;have HZ7:=Lib.hid (⟨HZO6.out.1,HZO6.out.2.1.below hb (Nat.le_refl _),HZO6.out.2.2⟩ : EvOwn w7 wr.heap.size z);have HB7:=Lib.hid (HB6.out.trans (hb.mono HB6.out.size));clear e6 e9 f0 f1 f2 f3 f4 f5 f6 f7 hL hall hb;have HE7:=Lib.hid e7;clear HHAS HDT HE6 HB6 HZO6 c4 hlb6 hlE e7 k6 kS6
      cases R
      case true =>
        have HAD:=Lib.hid (show addE s.l x = s.l by unfold addE;rw [if_pos (by rw [← HXS.out];exact HR.out.symm)]);have HK7:=Lib.hid kS7;clear kS7 k7;go_wp2_with fail
        go_roundw
        case rel=>exact ⟨k + 1,⟨s.u,s.i,s.l⟩,by omega,by go_num,by rw [HR2.out,if_pos trivial,HAD.out],by have:=HSL.out;show s.l.length≤_;omega,⟨Ae,ne,qe,xs,HK7.out,HE7.out,HXS.out,HAE.out⟩,HO.out.then_below (HB7.out.mono hWs)⟩
        case measure=>simp [intOf];omega
      have HAD:=Lib.hid (show addE s.l x = s.l ++ [x] by unfold addE;rw [if_neg (by rw [← HXS.out,← HR.out];decide)])
      have hnEA : ¬ Ae.map (·.block) = some gE:=fun e=>by have:=(HEV.out.row.lt gE e).2;omega
      have hnbA : ¬ Ae.map (·.block) = some b:=own_ne HE7.out.row.2 kS7 (by decide);obtain ⟨wb,hwbq⟩ : ∃ wb,wb = w.heap.size:=⟨_,rfl⟩
      have hwb2 : wb≤wr.heap.size:=by omega
      have HWB:=Lib.hid hwbq;rw [← hwbq] at HE7 HEV;have hbase : wb≤w7.heap.size:=Nat.le_trans hwb2 HB7.out.size;have HBS:=Lib.hid (fun w=>(by have:=buildE1 z w;rw [← HCE.out] at this;exact this : (Instr.buildSlice 48 1 #[(0,.agg ce)]).run Tryz.prog w = .ok (.slice (some ⟨w.heap.size,0,none⟩) 1 1) (w.alloc (.cells ce 47))));clear hwbq
      go_upto_region 14 with fail
      refine wp_region_tailF 12 8 (fun L v w=>v 9 = .pointer (some ⟨gE,0,none⟩)∧v 6 = .pointer (some ⟨b,0,none⟩)∧Only (fun k=>Ae.map (·.block) = some k) w7 w∧(L 7 = false→Below w7.heap.size w7 w)∧(L 0 = true→v 64 = .pointer (some ⟨b,0,none⟩))∧(L 1 = true→v 65 = .pointer (some ⟨b,0,none⟩))∧(L 2 = true→v 66 = .pointer (some ⟨b,0,none⟩))∧(L 3 = true→v 67 = .pointer (some ⟨b,4,none⟩))∧(L 4 = true→v 68 = .slice Ae ne qe)∧(L 5 = true→v 69 = .agg ce)∧(L 6 = true→(L 7 = false→∃ (gB : Nat),v 70 = .slice (some ⟨gB,0,none⟩) 1 1∧Blk w gB 47 ce))∧(L 7 = true→KpRow wr w wb Ae ne xs x (v 71))) [64,65,66,67,68,69,70,71] (by kernel_rfl) (by kernel_rfl) (by kernel_rfl) (by kernel_rfl) (by kernel_rfl) (by kernel_rfl) ?h0 ?hst ?hend
      case h0 =>
        intro L h0;have h0 : ∀ i,i < 8→L i = false:=h0;exact ⟨rfl,rfl,(Only.of_below _ (Below.refl _ _).drew),(fun _=>(Below.refl _ _).drew),offF h0 (i:=0) (by decide),offF h0 (i:=1) (by decide),offF h0 (i:=2) (by decide),offF h0 (i:=3) (by decide),offF h0 (i:=4) (by decide),offF h0 (i:=5) (by decide),offF h0 (i:=6) (by decide),offF h0 (i:=7) (by decide)⟩
      case hst =>
        show FactSteps _ _ _ _ [0,1,2,3,4,5,6,7]
        refine @FactSteps.cons _ _ _ _ 0 _ [] _ rfl (by kernel_rfl) ?s0 ?_;rotate_left;refine @FactSteps.cons _ _ _ _ 1 _ [] _ rfl (by kernel_rfl) ?s1 ?_;rotate_left;refine @FactSteps.cons _ _ _ _ 2 _ [1] _ rfl (by kernel_rfl) ?s2 ?_;rotate_left;refine @FactSteps.cons _ _ _ _ 3 _ [2] _ rfl (by kernel_rfl) ?s3 ?_;rotate_left;refine @FactSteps.cons _ _ _ _ 4 _ [3] _ rfl (by kernel_rfl) ?s4 ?_;rotate_left;refine @FactSteps.cons _ _ _ _ 5 _ [] _ rfl (by kernel_rfl) ?s5 ?_;rotate_left;refine @FactSteps.cons _ _ _ _ 6 _ [5] _ rfl (by kernel_rfl) ?s6 ?_;rotate_left;refine @FactSteps.cons _ _ _ _ 7 _ [4,6] _ rfl (by kernel_rfl) ?s7 ?_;rotate_left;exact FactSteps.nil
        case s0 =>
          rintro L a v w hv hg hL hd hcl ⟨e9,e6,ho,hb7,f0,f1,f2,f3,f4,f5,f6,f7⟩ K hK;refine step_do rfl ?_;clear hv;go_simp;exact hK.out _ _ ⟨e9,e6,ho,hb7,fun _=>rfl,f1,f2,f3,f4,f5,f6,f7⟩
        case s1 =>
          rintro L a v w hv hg hL hd hcl ⟨e9,e6,ho,hb7,f0,f1,f2,f3,f4,f5,f6,f7⟩ K hK;refine step_do rfl ?_;clear hv;go_simp;exact hK.out _ _ ⟨e9,e6,ho,hb7,f0,fun _=>rfl,f2,f3,f4,f5,f6,f7⟩
        case s2 =>
          rintro L a v w hv hg hL hd hcl ⟨e9,e6,ho,hb7,f0,f1,f2,f3,f4,f5,f6,f7⟩ K hK;have g1:=f1 (hd 1 (by decide));have g1:=f1 (hd 1 (by decide));refine step_do rfl ?_;clear hv;go_simp;exact hK.out _ _ ⟨e9,e6,ho,hb7,f0,f1,fun _=>rfl,f3,f4,f5,f6,f7⟩
        case s3 =>
          rintro L a v w hv hg hL hd hcl ⟨e9,e6,ho,hb7,f0,f1,f2,f3,f4,f5,f6,f7⟩ K hK;have g2:=f2 (hd 2 (by decide));have g2:=f2 (hd 2 (by decide));refine step_do rfl ?_;clear hv;go_simp;exact hK.out _ _ ⟨e9,e6,ho,hb7,f0,f1,f2,fun _=>rfl,f4,f5,f6,f7⟩
        case s4 =>
          rintro L a v w hv hg hL hd hcl ⟨e9,e6,ho,hb7,f0,f1,f2,f3,f4,f5,f6,f7⟩ K hK;have g3:=f3 (hd 3 (by decide));have g3:=f3 (hd 3 (by decide));have cs4 : w.cell? ⟨b,4,none⟩ = some (.slice Ae ne qe):=(kS7.only ho hnbA).cell 4;refine step_do rfl ?_;clear hv;go_simp;exact hK.out _ _ ⟨e9,e6,ho,hb7,f0,f1,f2,f3,fun _=>rfl,f5,f6,f7⟩
        case s5 =>
          rintro L a v w hv hg hL hd hcl ⟨e9,e6,ho,hb7,f0,f1,f2,f3,f4,f5,f6,f7⟩ K hK;refine step_do rfl ?_;refine wp_ld rowE (.tmp 9) rfl ((hv 9).trans e9) (k7.only ho hnEA) SC.out ?_;exact hK.out _ _ ⟨e9,e6,ho,hb7,f0,f1,f2,f3,f4,fun _=>rfl,f6,f7⟩
        case s6 =>
          rintro L a v w hv hg hL hd hcl ⟨e9,e6,ho,hb7,f0,f1,f2,f3,f4,f5,f6,f7⟩ K hK;have c7 : L 7 = false:=off_of hcl (j:=7) (by kernel_rfl : waitsAt _ 7 = [4,6]) (d:=6) (by decide) hL;have q5:=(hv 69).trans (f5 (hd 5 (by decide)));have bb : Below w.heap.size w (w.alloc (.cells ce 47)):=(Below.refl _ _).alloc (Nat.le_refl _) _;refine step_do rfl ?_;refine step_bs (v:=.slice (some ⟨w.heap.size,0,none⟩) 1 1) (w':=w.alloc (.cells ce 47)) 48 1 #[(0,.tmp 69)] rfl (by simp only [List.map_toArray,List.map_cons,List.map_nil,q5];exact HBS.out w) ?_;exact hK.out _ _ ⟨e9,e6,(ho.then_below (bb.mono ho.size)),(fun _=>(hb7 c7).trans (bb.mono (hb7 c7).size)),f0,f1,f2,f3,f4,f5,fun _ _=>⟨w.heap.size,rfl,Blk.new w _ _⟩,(offC c7)⟩
        case s7 =>
          rintro L a v w hv hg hL hd hcl ⟨e9,e6,ho,hb7,f0,f1,f2,f3,f4,f5,f6,f7⟩ K hK;have g4:=f4 (hd 4 (by decide));obtain ⟨gB,q6,kB⟩:=f6 (hd 6 (by decide)) hL;have hbx:=hb7 hL;have evx:=HE7.out.below hbx;have ozx : EvOwn w wr.heap.size z:=⟨HZ7.out.1,HZ7.out.2.1.below hbx (Nat.le_refl _),HZ7.out.2.2⟩;refine step_do rfl ?_;refine step_appE (.tmp 68) (.tmp 70) rfl ((hv 68).trans g4) evx.row ((hv 70).trans q6) (news:=[z]) (B:=gB + 1) (by rw [show ecsL [z] = ce.toList by rw [HCE.out];simp [ecsL]];exact Blk.rdMg kB) rfl (by omega) (Nat.le_trans hbase hbx.size) ?_;intro A9 c9 w9 o9 g9 m9 b9
          have kp : KpRow wr w9 wb Ae ne xs x (.slice A9 (ne + 1) c9) := ⟨A9, c9, z, rfl, o9, HZE.out, fun y hy => (by
                rcases List.mem_append.1 hy with q | q
                · exact ⟨(evx.own y q).1,(evx.own y q).2.1.grown g9 (own2_ne (evx.own y q).2.1.2 evx.row.2 (by decide)),(evx.own y q).2.2⟩
                · rw [List.mem_singleton.1 q];exact ⟨ozx.1,(ozx.2.1.mono hwb2).grown g9 (own2_ne ozx.2.1.2 evx.row.2 (by decide)),ozx.2.2⟩),(by
                rcases m9 with q | q
                · exact .inl q
                · exact .inr (fun k hk=>by rw [q] at hk;injection hk with hk;rw [← hk];exact Nat.le_trans HB7.out.size hbx.size)),fun k hk=>(ozx.2.1.lt k hk).1⟩
          exact hK.out _ _ ⟨e9,e6,(ho.trans (only_row g9) (Grows.refl _ _)),(fun h=>(by cases h)),f0,f1,f2,f3,f4,f5,(fun _ h=>(by cases h)),fun _=>kp⟩
      case hend =>
      rintro L v we hall ⟨e9,e6,ho,hb7,f0,f1,f2,f3,f4,f5,f6,f7⟩;have hL : ∀ i,i < 8→L i = true:=hall;have f0:=f0 (hL 0 (by decide));have f1:=f1 (hL 1 (by decide));have f2:=f2 (hL 2 (by decide));have f3:=f3 (hL 3 (by decide));have f4:=f4 (hL 4 (by decide));have f5:=f5 (hL 5 (by decide));have f6:=f6 (hL 6 (by decide));have f7:=f7 (hL 7 (by decide));obtain ⟨A9,c9,z9,q8,o9,hz,hown,hmv,hzb⟩:=f7
      simp only [finA,List.foldl_cons,List.foldl_nil,Act.put,List.setIfInBounds_toArray,List.set_cons_succ,List.set_cons_zero,f0,f1,f2,f3,f4,f5,q8]
      have kS:=kS7.only ho hnbA;have HOx:=Lib.hid ho;clear e9 e6 f0 f1 f2 f3 f4 f5 f6 hL hall ho hb7 q8
      show wpList _ _ _ [_,_,_] _ _
      have c4e : we.cell? ⟨b,4,none⟩ = some (.slice Ae ne qe):=kS.cell 4;have u4e:=kS.free 4;have hlbe:=kS.lt;have k10:=kS.set_ 4 (.slice A9 (ne + 1) c9);have hF1l:=HDE.out.lt
      have hev : EvsAt (we.setCell ⟨b,4,none⟩ (.slice A9 (ne + 1) c9)) F1 b wb A9 (ne + 1) c9 (xs ++ [z9]):=by
        have e : EvsAt we F1 b wb A9 (ne + 1) c9 (xs ++ [z9]):=⟨o9,hown,fun k hk=>by
          rcases hmv with q | q
          · exact HEV.out.nf k (by rw [← q];exact hk)
          · have h9:=q k hk
            exact ⟨fun y=>by have:=hF1l k y;omega,by omega⟩,fun y hy k hk=>by
          rcases List.mem_append.1 hy with q | q
          · exact HEV.out.nfx y q k hk
          · rw [List.mem_singleton.1 q] at hk
            have h9:=hzb k hk
            exact ⟨fun y=>by have:=hF1l k y;omega,by omega⟩⟩
        exact e.setT kS (by decide) (by decide) 4 _
      have hmv2 : ∀ k,A9.map (·.block) = some k→W.heap.size≤k:=fun k hk=>by
        rcases hmv with q | q
        · exact HAE.out k (by rw [← q];exact hk)
        · exact Nat.le_trans hWs (q k hk)
      have hon : Only (fun k=>k = b) W (we.setCell ⟨b,4,none⟩ (.slice A9 (ne + 1) c9)):=Only.setCell ((HO.out.then_below (HB7.out.mono hWs)).trans HOx.out (fun k hk=>.inr (HAE.out k hk))) (.inl rfl) _;rw [HWB.out] at hev;have HFIN:=Lib.hid (And.intro hon (And.intro k10 (And.intro hev (And.intro hz hmv2))));clear k10 hev hmv hmv2 hon hown hzb o9 hz kS kS7 k7;go_wp2_with fail
      go_roundw
      case rel=>exact ⟨k + 1,⟨s.u,s.i,s.l ++ [x]⟩,by omega,by go_num,by rw [HR2.out,if_pos trivial,HAD.out],by have:=HSL.out;show (s.l ++ [x]).length≤_;rw [List.length_append];simp;omega,⟨A9,ne + 1,c9,xs ++ [z9],HFIN.out.2.1,HFIN.out.2.2.1,by rw [List.map_append,List.map_cons,List.map_nil,HFIN.out.2.2.2.1,HXS.out],HFIN.out.2.2.2.2⟩,HFIN.out.1⟩
      case measure=>simp [intOf];omega
    have hc2 : 1≤c:=by omega
    have hmn1 : m - 1≤1000000000:=by omega
    obtain ⟨gp,gl⟩:=getEv_facts t;have HGE:=Lib.hid (rget07_any (some ⟨ad.block,ad.off + 1,none⟩) (m - 1) (c - 1) t wr (hbt.more h3s) hmn1);obtain ⟨x,hx⟩ : ∃ x,x = (getEv t).1:=⟨_,rfl⟩;obtain ⟨y,hy⟩ : ∃ y,y = (getEv t).2:=⟨_,rfl⟩
    unfold GetEv at HGE
    rw [← hx,← hy] at HGE
    have hre : recE s (3 :: t) = if y = 0 then some ⟨s.u,s.i,addE s.l x⟩ else none:=by rw [recE_cons,if_pos rfl,← hx,← hy]
    rw [hre] at HR2 HCU;rw [← hx] at gp gl;have HP7:=Lib.hid (And.intro gp gl);clear gp gl hx hy hre hbt
    by_cases hy0 : y = 0
    case neg =>
      have hq : ((y : Int) != 0) = true:=by rw [bne_iff_ne];omega
      have hq2 : ¬ ((y : Nat) : Int) = 0:=by omega
      have HNO:=Lib.hid (HCU.out (by rw [if_neg hy0]));go_wp2_with fail;refine HGE.out.mono ?_;rintro e w5 ⟨Ax,mx,cx,rfl,ox,b5⟩;obtain ⟨ce,hce⟩ : ∃ ce,ce = ec x (.slice Ax mx cx):=⟨_,rfl⟩;have SC:=Lib.hid (show ce.size = 14 by rw [hce];rfl);have OC:=Lib.hid (show ce.all (·.oneCell') = true by rw [hce];exact ec_one _ _ _ _);rw [← hce];clear hce ox
      go_upto_region 11 with ((with_reducible refine wpList_st rowE (Blk.new _ _ _) SC.out ?_ OC.out ?_ ?_ ?_);(rfl);rotate_left;(rfl);(rfl);intro w6 k6 g6 z6)
      have b6 : Below wr.heap.size wr w6:=b5.trans ((new_below g6).mono b5.size);have HN:=Lib.hid (ropen_no HP.out (HOE.out.then_below (b6.mono hws)) HG1.out HNO.out (HDE.out.below b6));clear g6 z6 k6 b6 b5;go_wp2_with fail;go_ret2;exact HN.out
    subst hy0;go_wp2_with fail;refine HGE.out.mono ?_;rintro e w5 ⟨Ax,mx,cx,rfl,ox,b5⟩;obtain ⟨z,hz⟩ : ∃ z : EvV,z = ⟨x,Ax,mx,cx⟩:=⟨_,rfl⟩
    have hzc : ec x (.slice Ax mx cx) = z.cs:=by rw [hz];rfl
    rw [hzc]
    have hzo : EvOwn w5 wr.heap.size z:=by rw [hz];exact ⟨HP7.out.1,ox,by show mx≤_;rw [ox.1];have:=HP7.out.2;omega⟩
    have hze : z.e = x:=by rw [hz]
    obtain ⟨ce,hce⟩ : ∃ ce,ce = z.cs:=⟨_,rfl⟩;have SC:=Lib.hid (show ce.size = 14 by rw [hce];rfl);have OC:=Lib.hid (show ce.all (·.oneCell') = true by rw [hce];exact z.one);have X0:=Lib.hid (show ce[0]? = some (.int .i64 x.d.1) by rw [hce,← hze];rfl);have X1:=Lib.hid (show ce[1]? = some (.int .i64 x.d.2) by rw [hce,← hze];rfl);have HCE:=Lib.hid hce;have HZE:=Lib.hid hze;have HZO:=Lib.hid hzo;rw [← hce];clear hce ox hz hzc hzo hze
    go_upto_region 11 with ((with_reducible refine wpList_st rowE (Blk.new _ _ _) SC.out ?_ OC.out ?_ ?_ ?_);(rfl);rotate_left;(rfl);(rfl);intro w6 k6 g6 z6)
    have b16 : Below w5.heap.size w5 w6:=new_below g6;have b6 : Below wr.heap.size wr w6:=b5.trans (b16.mono b5.size);obtain ⟨gE,hgE⟩ : ∃ gE,gE = w5.heap.size:=⟨_,rfl⟩;rw [← hgE] at k6 ⊢
    have hgEs : wr.heap.size≤gE:=by rw [hgE];exact b5.size
    have HZO6:=Lib.hid (⟨HZO.out.1,HZO.out.2.1.below b16 (Nat.le_refl _),HZO.out.2.2⟩ : EvOwn w6 wr.heap.size z);have hlbr : b < wr.heap.size:=HKS.out.lt;have kS6:=HKS.out.below b6 hlbr;have HB6:=Lib.hid b6;have ev6:=HEV.out.below b6;have HE6:=Lib.hid ev6;have c4 : w6.cell? ⟨b,4,none⟩ = some (.slice Ae ne qe):=kS6.cell 4;have hlb6:=kS6.lt;have hlE:=k6.lt;have HDT:=Lib.hid (ev_dot k6 X0.out X1.out);obtain ⟨R,hR⟩ : ∃ R,R = hasE (xs.map (·.e)) x.d:=⟨_,rfl⟩;have HR:=Lib.hid hR
    have HHAS:=Lib.hid fun (w' : World) (hb : Below w6.heap.size w6 w')=>(by
      have hs:=HE6.out.below hb
      have:=rhas_any Ae ne qe xs x.d.1 x.d.2 w' (hs.row.row (fun y hy=>(hs.own y hy).ok)) (by omega)
      rw [show ((x.d.1,x.d.2) : Dt) = x.d from rfl,← HR.out] at this
      exact this : Calls Tryz.prog 45 #[.slice Ae ne qe,.agg #[.int .i64 x.d.1,.int .i64 x.d.2]] w' fun e w''=>e = .returned (.bool R)∧Below w'.heap.size w' w'')
    clear g6 z6 b16 b6 hR ev6 HZO hgE b5
    go_upto_region 13 with fail
    refine wp_region_facts (fun L v w=>v 6 = .pointer (some ⟨b,0,none⟩)∧v 9 = .pointer (some ⟨gE,0,none⟩)∧Below w6.heap.size w6 w∧(L 0 = true→v 56 = .pointer (some ⟨b,0,none⟩))∧(L 1 = true→v 57 = .pointer (some ⟨b,0,none⟩))∧(L 2 = true→v 58 = .pointer (some ⟨b,4,none⟩))∧(L 3 = true→v 59 = .slice Ae ne qe)∧(L 4 = true→v 60 = .pointer (some ⟨gE,0,none⟩))∧(L 5 = true→v 61 = .agg #[.int .i64 x.d.1,.int .i64 x.d.2])∧(L 6 = true→v 62 = .bool R)∧(L 7 = true→v 63 = .bool (!R))) [56,57,58,59,60,61,62,63] (by kernel_rfl) (by kernel_rfl) (by kernel_rfl) (by kernel_rfl) ?h0 ?hst ?hend
    case h0 =>
      intro L h0;have h0 : ∀ i,i < 8→L i = false:=h0;exact ⟨rfl,rfl,(Below.refl _ _).drew,offF h0 (i:=0) (by decide),offF h0 (i:=1) (by decide),offF h0 (i:=2) (by decide),offF h0 (i:=3) (by decide),offF h0 (i:=4) (by decide),offF h0 (i:=5) (by decide),offF h0 (i:=6) (by decide),offF h0 (i:=7) (by decide)⟩
    case hst =>
      show FactSteps _ _ _ _ [0,1,2,3,4,5,6,7]
      refine @FactSteps.cons _ _ _ _ 0 _ [] _ rfl (by kernel_rfl) ?s0 ?_;rotate_left;refine @FactSteps.cons _ _ _ _ 1 _ [0] _ rfl (by kernel_rfl) ?s1 ?_;rotate_left;refine @FactSteps.cons _ _ _ _ 2 _ [1] _ rfl (by kernel_rfl) ?s2 ?_;rotate_left;refine @FactSteps.cons _ _ _ _ 3 _ [2] _ rfl (by kernel_rfl) ?s3 ?_;rotate_left;refine @FactSteps.cons _ _ _ _ 4 _ [] _ rfl (by kernel_rfl) ?s4 ?_;rotate_left;refine @FactSteps.cons _ _ _ _ 5 _ [4] _ rfl (by kernel_rfl) ?s5 ?_;rotate_left;refine @FactSteps.cons _ _ _ _ 6 _ [3,5] _ rfl (by kernel_rfl) ?s6 ?_;rotate_left;refine @FactSteps.cons _ _ _ _ 7 _ [6] _ rfl (by kernel_rfl) ?s7 ?_;rotate_left;exact FactSteps.nil
      case s0 =>
        rintro L a v w hv hg hL hd hcl ⟨e6,e9,hb,f0,f1,f2,f3,f4,f5,f6,f7⟩ K hK;refine step_do rfl ?_;clear hv;go_simp;exact hK.out _ _ ⟨e6,e9,hb,fun _=>rfl,f1,f2,f3,f4,f5,f6,f7⟩
      case s1 =>
        rintro L a v w hv hg hL hd hcl ⟨e6,e9,hb,f0,f1,f2,f3,f4,f5,f6,f7⟩ K hK;have g0:=f0 (hd 0 (by decide));have g0:=f0 (hd 0 (by decide));refine step_do rfl ?_;clear hv;go_simp;exact hK.out _ _ ⟨e6,e9,hb,f0,fun _=>rfl,f2,f3,f4,f5,f6,f7⟩
      case s2 =>
        rintro L a v w hv hg hL hd hcl ⟨e6,e9,hb,f0,f1,f2,f3,f4,f5,f6,f7⟩ K hK;have g1:=f1 (hd 1 (by decide));have g1:=f1 (hd 1 (by decide));refine step_do rfl ?_;clear hv;go_simp;exact hK.out _ _ ⟨e6,e9,hb,f0,f1,fun _=>rfl,f3,f4,f5,f6,f7⟩
      case s3 =>
        rintro L a v w hv hg hL hd hcl ⟨e6,e9,hb,f0,f1,f2,f3,f4,f5,f6,f7⟩ K hK;have g2:=f2 (hd 2 (by decide));have g2:=f2 (hd 2 (by decide));have cs4 : w.cell? ⟨b,4,none⟩ = some (.slice Ae ne qe):=(hb.cell (p:=⟨b,4,none⟩) hlb6).trans c4;refine step_do rfl ?_;clear hv;go_simp;exact hK.out _ _ ⟨e6,e9,hb,f0,f1,f2,fun _=>rfl,f4,f5,f6,f7⟩
      case s4 =>
        rintro L a v w hv hg hL hd hcl ⟨e6,e9,hb,f0,f1,f2,f3,f4,f5,f6,f7⟩ K hK;refine step_do rfl ?_;clear hv;go_simp;exact hK.out _ _ ⟨e6,e9,hb,f0,f1,f2,f3,fun _=>rfl,f5,f6,f7⟩
      case s5 =>
        rintro L a v w hv hg hL hd hcl ⟨e6,e9,hb,f0,f1,f2,f3,f4,f5,f6,f7⟩ K hK;have g4:=f4 (hd 4 (by decide));refine step_do rfl ?_;refine wp_ldr rowDt2 (.tmp 60) rfl ((hv 60).trans g4) (range_keep HDT.out hb hlE) rfl ?_;exact hK.out _ _ ⟨e6,e9,hb,f0,f1,f2,f3,f4,fun _=>rfl,f6,f7⟩
      case s6 =>
        rintro L a v w hv hg hL hd hcl ⟨e6,e9,hb,f0,f1,f2,f3,f4,f5,f6,f7⟩ K hK;have g3:=f3 (hd 3 (by decide));have g5:=f5 (hd 5 (by decide));have hh:=HHAS.out w hb;refine step_do rfl ?_;clear hv;go_simp;refine hh.mono ?_;rintro e wy ⟨rfl,bb⟩;exact hK.out _ _ ⟨e6,e9,(hb.trans (bb.mono hb.size)),f0,f1,f2,f3,f4,f5,fun _=>rfl,f7⟩
      case s7 =>
        rintro L a v w hv hg hL hd hcl ⟨e6,e9,hb,f0,f1,f2,f3,f4,f5,f6,f7⟩ K hK;have g6:=f6 (hd 6 (by decide));refine step_do rfl ?_;clear hv;go_simp;exact hK.out _ _ ⟨e6,e9,hb,f0,f1,f2,f3,f4,f5,f6,fun _=>rfl⟩
    case hend =>
    rintro L v w7 hall ⟨e6,e9,hb,f0,f1,f2,f3,f4,f5,f6,f7⟩;have hL : ∀ i,i < 8→L i = true:=hall;have f0:=f0 (hL 0 (by decide));have f1:=f1 (hL 1 (by decide));have f2:=f2 (hL 2 (by decide));have f3:=f3 (hL 3 (by decide));have f4:=f4 (hL 4 (by decide));have f5:=f5 (hL 5 (by decide));have f6:=f6 (hL 6 (by decide));have f7:=f7 (hL 7 (by decide))
    simp only [finA,List.foldl_cons,List.foldl_nil,Act.put,List.setIfInBounds_toArray,List.set_cons_succ,List.set_cons_zero,f0,f1,f2,f3,f4,f7,f5,f6]
    have k7:=k6.below hb k6.lt;have kS7:=kS6.below hb kS6.lt;have e7:=HE6.out.below hb;have HZ7:=Lib.hid (⟨HZO6.out.1,HZO6.out.2.1.below hb (Nat.le_refl _),HZO6.out.2.2⟩ : EvOwn w7 wr.heap.size z);have HB7:=Lib.hid (HB6.out.trans (hb.mono HB6.out.size));clear e6 e9 f0 f1 f2 f3 f4 f5 f6 f7 hL hall hb;have HE7:=Lib.hid e7;clear HHAS HDT HE6 HB6 HZO6 c4 hlb6 hlE e7 k6 kS6
    cases R
    case true =>
      have HAD:=Lib.hid (show addE s.l x = s.l by unfold addE;rw [if_pos (by rw [← HXS.out];exact HR.out.symm)]);have HK7:=Lib.hid kS7;clear kS7 k7;go_wp2_with fail
      go_roundw
      case rel=>exact ⟨k + 1,⟨s.u,s.i,s.l⟩,by omega,by go_num,by rw [HR2.out,if_pos trivial,HAD.out],by have:=HSL.out;show s.l.length≤_;omega,⟨Ae,ne,qe,xs,HK7.out,HE7.out,HXS.out,HAE.out⟩,HO.out.then_below (HB7.out.mono hWs)⟩
      case measure=>simp [intOf];omega
    have HAD:=Lib.hid (show addE s.l x = s.l ++ [x] by unfold addE;rw [if_neg (by rw [← HXS.out,← HR.out];decide)])
    have hnEA : ¬ Ae.map (·.block) = some gE:=fun e=>by have:=(HEV.out.row.lt gE e).2;omega
    have hnbA : ¬ Ae.map (·.block) = some b:=own_ne HE7.out.row.2 kS7 (by decide);obtain ⟨wb,hwbq⟩ : ∃ wb,wb = w.heap.size:=⟨_,rfl⟩
    have hwb2 : wb≤wr.heap.size:=by omega
    have HWB:=Lib.hid hwbq;rw [← hwbq] at HE7 HEV;have hbase : wb≤w7.heap.size:=Nat.le_trans hwb2 HB7.out.size;have HBS:=Lib.hid (fun w=>(by have:=buildE1 z w;rw [← HCE.out] at this;exact this : (Instr.buildSlice 48 1 #[(0,.agg ce)]).run Tryz.prog w = .ok (.slice (some ⟨w.heap.size,0,none⟩) 1 1) (w.alloc (.cells ce 47))));clear hwbq
    go_upto_region 14 with fail
    refine wp_region_tailF 12 8 (fun L v w=>v 9 = .pointer (some ⟨gE,0,none⟩)∧v 6 = .pointer (some ⟨b,0,none⟩)∧Only (fun k=>Ae.map (·.block) = some k) w7 w∧(L 7 = false→Below w7.heap.size w7 w)∧(L 0 = true→v 64 = .pointer (some ⟨b,0,none⟩))∧(L 1 = true→v 65 = .pointer (some ⟨b,0,none⟩))∧(L 2 = true→v 66 = .pointer (some ⟨b,0,none⟩))∧(L 3 = true→v 67 = .pointer (some ⟨b,4,none⟩))∧(L 4 = true→v 68 = .slice Ae ne qe)∧(L 5 = true→v 69 = .agg ce)∧(L 6 = true→(L 7 = false→∃ (gB : Nat),v 70 = .slice (some ⟨gB,0,none⟩) 1 1∧Blk w gB 47 ce))∧(L 7 = true→KpRow wr w wb Ae ne xs x (v 71))) [64,65,66,67,68,69,70,71] (by kernel_rfl) (by kernel_rfl) (by kernel_rfl) (by kernel_rfl) (by kernel_rfl) (by kernel_rfl) ?h0 ?hst ?hend
    case h0 =>
      intro L h0;have h0 : ∀ i,i < 8→L i = false:=h0;exact ⟨rfl,rfl,(Only.of_below _ (Below.refl _ _).drew),(fun _=>(Below.refl _ _).drew),offF h0 (i:=0) (by decide),offF h0 (i:=1) (by decide),offF h0 (i:=2) (by decide),offF h0 (i:=3) (by decide),offF h0 (i:=4) (by decide),offF h0 (i:=5) (by decide),offF h0 (i:=6) (by decide),offF h0 (i:=7) (by decide)⟩
    case hst =>
      show FactSteps _ _ _ _ [0,1,2,3,4,5,6,7]
      refine @FactSteps.cons _ _ _ _ 0 _ [] _ rfl (by kernel_rfl) ?s0 ?_;rotate_left;refine @FactSteps.cons _ _ _ _ 1 _ [] _ rfl (by kernel_rfl) ?s1 ?_;rotate_left;refine @FactSteps.cons _ _ _ _ 2 _ [1] _ rfl (by kernel_rfl) ?s2 ?_;rotate_left;refine @FactSteps.cons _ _ _ _ 3 _ [2] _ rfl (by kernel_rfl) ?s3 ?_;rotate_left;refine @FactSteps.cons _ _ _ _ 4 _ [3] _ rfl (by kernel_rfl) ?s4 ?_;rotate_left;refine @FactSteps.cons _ _ _ _ 5 _ [] _ rfl (by kernel_rfl) ?s5 ?_;rotate_left;refine @FactSteps.cons _ _ _ _ 6 _ [5] _ rfl (by kernel_rfl) ?s6 ?_;rotate_left;refine @FactSteps.cons _ _ _ _ 7 _ [4,6] _ rfl (by kernel_rfl) ?s7 ?_;rotate_left;exact FactSteps.nil
      case s0 =>
        rintro L a v w hv hg hL hd hcl ⟨e9,e6,ho,hb7,f0,f1,f2,f3,f4,f5,f6,f7⟩ K hK;refine step_do rfl ?_;clear hv;go_simp;exact hK.out _ _ ⟨e9,e6,ho,hb7,fun _=>rfl,f1,f2,f3,f4,f5,f6,f7⟩
      case s1 =>
        rintro L a v w hv hg hL hd hcl ⟨e9,e6,ho,hb7,f0,f1,f2,f3,f4,f5,f6,f7⟩ K hK;refine step_do rfl ?_;clear hv;go_simp;exact hK.out _ _ ⟨e9,e6,ho,hb7,f0,fun _=>rfl,f2,f3,f4,f5,f6,f7⟩
      case s2 =>
        rintro L a v w hv hg hL hd hcl ⟨e9,e6,ho,hb7,f0,f1,f2,f3,f4,f5,f6,f7⟩ K hK;have g1:=f1 (hd 1 (by decide));have g1:=f1 (hd 1 (by decide));refine step_do rfl ?_;clear hv;go_simp;exact hK.out _ _ ⟨e9,e6,ho,hb7,f0,f1,fun _=>rfl,f3,f4,f5,f6,f7⟩
      case s3 =>
        rintro L a v w hv hg hL hd hcl ⟨e9,e6,ho,hb7,f0,f1,f2,f3,f4,f5,f6,f7⟩ K hK;have g2:=f2 (hd 2 (by decide));have g2:=f2 (hd 2 (by decide));refine step_do rfl ?_;clear hv;go_simp;exact hK.out _ _ ⟨e9,e6,ho,hb7,f0,f1,f2,fun _=>rfl,f4,f5,f6,f7⟩
      case s4 =>
        rintro L a v w hv hg hL hd hcl ⟨e9,e6,ho,hb7,f0,f1,f2,f3,f4,f5,f6,f7⟩ K hK;have g3:=f3 (hd 3 (by decide));have g3:=f3 (hd 3 (by decide));have cs4 : w.cell? ⟨b,4,none⟩ = some (.slice Ae ne qe):=(kS7.only ho hnbA).cell 4;refine step_do rfl ?_;clear hv;go_simp;exact hK.out _ _ ⟨e9,e6,ho,hb7,f0,f1,f2,f3,fun _=>rfl,f5,f6,f7⟩
      case s5 =>
        rintro L a v w hv hg hL hd hcl ⟨e9,e6,ho,hb7,f0,f1,f2,f3,f4,f5,f6,f7⟩ K hK;refine step_do rfl ?_;refine wp_ld rowE (.tmp 9) rfl ((hv 9).trans e9) (k7.only ho hnEA) SC.out ?_;exact hK.out _ _ ⟨e9,e6,ho,hb7,f0,f1,f2,f3,f4,fun _=>rfl,f6,f7⟩
      case s6 =>
        rintro L a v w hv hg hL hd hcl ⟨e9,e6,ho,hb7,f0,f1,f2,f3,f4,f5,f6,f7⟩ K hK;have c7 : L 7 = false:=off_of hcl (j:=7) (by kernel_rfl : waitsAt _ 7 = [4,6]) (d:=6) (by decide) hL;have q5:=(hv 69).trans (f5 (hd 5 (by decide)));have bb : Below w.heap.size w (w.alloc (.cells ce 47)):=(Below.refl _ _).alloc (Nat.le_refl _) _;refine step_do rfl ?_;refine step_bs (v:=.slice (some ⟨w.heap.size,0,none⟩) 1 1) (w':=w.alloc (.cells ce 47)) 48 1 #[(0,.tmp 69)] rfl (by simp only [List.map_toArray,List.map_cons,List.map_nil,q5];exact HBS.out w) ?_;exact hK.out _ _ ⟨e9,e6,(ho.then_below (bb.mono ho.size)),(fun _=>(hb7 c7).trans (bb.mono (hb7 c7).size)),f0,f1,f2,f3,f4,f5,fun _ _=>⟨w.heap.size,rfl,Blk.new w _ _⟩,(offC c7)⟩
      case s7 =>
        rintro L a v w hv hg hL hd hcl ⟨e9,e6,ho,hb7,f0,f1,f2,f3,f4,f5,f6,f7⟩ K hK;have g4:=f4 (hd 4 (by decide));obtain ⟨gB,q6,kB⟩:=f6 (hd 6 (by decide)) hL;have hbx:=hb7 hL;have evx:=HE7.out.below hbx;have ozx : EvOwn w wr.heap.size z:=⟨HZ7.out.1,HZ7.out.2.1.below hbx (Nat.le_refl _),HZ7.out.2.2⟩;refine step_do rfl ?_;refine step_appE (.tmp 68) (.tmp 70) rfl ((hv 68).trans g4) evx.row ((hv 70).trans q6) (news:=[z]) (B:=gB + 1) (by rw [show ecsL [z] = ce.toList by rw [HCE.out];simp [ecsL]];exact Blk.rdMg kB) rfl (by omega) (Nat.le_trans hbase hbx.size) ?_;intro A9 c9 w9 o9 g9 m9 b9
        have kp : KpRow wr w9 wb Ae ne xs x (.slice A9 (ne + 1) c9) := ⟨A9, c9, z, rfl, o9, HZE.out, fun y hy => (by
              rcases List.mem_append.1 hy with q | q
              · exact ⟨(evx.own y q).1,(evx.own y q).2.1.grown g9 (own2_ne (evx.own y q).2.1.2 evx.row.2 (by decide)),(evx.own y q).2.2⟩
              · rw [List.mem_singleton.1 q];exact ⟨ozx.1,(ozx.2.1.mono hwb2).grown g9 (own2_ne ozx.2.1.2 evx.row.2 (by decide)),ozx.2.2⟩),(by
              rcases m9 with q | q
              · exact .inl q
              · exact .inr (fun k hk=>by rw [q] at hk;injection hk with hk;rw [← hk];exact Nat.le_trans HB7.out.size hbx.size)),fun k hk=>(ozx.2.1.lt k hk).1⟩
        exact hK.out _ _ ⟨e9,e6,(ho.trans (only_row g9) (Grows.refl _ _)),(fun h=>(by cases h)),f0,f1,f2,f3,f4,f5,(fun _ h=>(by cases h)),fun _=>kp⟩
    case hend =>
    rintro L v we hall ⟨e9,e6,ho,hb7,f0,f1,f2,f3,f4,f5,f6,f7⟩;have hL : ∀ i,i < 8→L i = true:=hall;have f0:=f0 (hL 0 (by decide));have f1:=f1 (hL 1 (by decide));have f2:=f2 (hL 2 (by decide));have f3:=f3 (hL 3 (by decide));have f4:=f4 (hL 4 (by decide));have f5:=f5 (hL 5 (by decide));have f6:=f6 (hL 6 (by decide));have f7:=f7 (hL 7 (by decide));obtain ⟨A9,c9,z9,q8,o9,hz,hown,hmv,hzb⟩:=f7
    simp only [finA,List.foldl_cons,List.foldl_nil,Act.put,List.setIfInBounds_toArray,List.set_cons_succ,List.set_cons_zero,f0,f1,f2,f3,f4,f5,q8]
    have kS:=kS7.only ho hnbA;have HOx:=Lib.hid ho;clear e9 e6 f0 f1 f2 f3 f4 f5 f6 hL hall ho hb7 q8
    show wpList _ _ _ [_,_,_] _ _
    have c4e : we.cell? ⟨b,4,none⟩ = some (.slice Ae ne qe):=kS.cell 4;have u4e:=kS.free 4;have hlbe:=kS.lt;have k10:=kS.set_ 4 (.slice A9 (ne + 1) c9);have hF1l:=HDE.out.lt
    have hev : EvsAt (we.setCell ⟨b,4,none⟩ (.slice A9 (ne + 1) c9)) F1 b wb A9 (ne + 1) c9 (xs ++ [z9]):=by
      have e : EvsAt we F1 b wb A9 (ne + 1) c9 (xs ++ [z9]):=⟨o9,hown,fun k hk=>by
        rcases hmv with q | q
        · exact HEV.out.nf k (by rw [← q];exact hk)
        · have h9:=q k hk
          exact ⟨fun y=>by have:=hF1l k y;omega,by omega⟩,fun y hy k hk=>by
        rcases List.mem_append.1 hy with q | q
        · exact HEV.out.nfx y q k hk
        · rw [List.mem_singleton.1 q] at hk
          have h9:=hzb k hk
          exact ⟨fun y=>by have:=hF1l k y;omega,by omega⟩⟩
      exact e.setT kS (by decide) (by decide) 4 _
    have hmv2 : ∀ k,A9.map (·.block) = some k→W.heap.size≤k:=fun k hk=>by
      rcases hmv with q | q
      · exact HAE.out k (by rw [← q];exact hk)
      · exact Nat.le_trans hWs (q k hk)
    have hon : Only (fun k=>k = b) W (we.setCell ⟨b,4,none⟩ (.slice A9 (ne + 1) c9)):=Only.setCell ((HO.out.then_below (HB7.out.mono hWs)).trans HOx.out (fun k hk=>.inr (HAE.out k hk))) (.inl rfl) _;rw [HWB.out] at hev;have HFIN:=Lib.hid (And.intro hon (And.intro k10 (And.intro hev (And.intro hz hmv2))));clear k10 hev hmv hmv2 hon hown hzb o9 hz kS kS7 k7;go_wp2_with fail
    go_roundw
    case rel=>exact ⟨k + 1,⟨s.u,s.i,s.l ++ [x]⟩,by omega,by go_num,by rw [HR2.out,if_pos trivial,HAD.out],by have:=HSL.out;show (s.l ++ [x]).length≤_;rw [List.length_append];simp;omega,⟨A9,ne + 1,c9,xs ++ [z9],HFIN.out.2.1,HFIN.out.2.2.1,by rw [List.map_append,List.map_cons,List.map_nil,HFIN.out.2.2.2.1,HXS.out],HFIN.out.2.2.2.2⟩,HFIN.out.1⟩
    case measure=>simp [intOf];omega
  · obtain rfl : k = l.length:=by omega
    rw [List.take_length] at hr;have HR:=Lib.hid hr
    have hkd : ¬ ((l.length : Int) < (l.length : Int)):=by omega
    have c2 : wr.cell? ⟨b,2,none⟩ = some (.int .i64 (s.u : Nat)):=kS.cell 2;have c1 : wr.cell? ⟨b,1,none⟩ = some (.int .i64 0):=kS.cell 1;have f1:=kS.free 1;have hlb:=kS.lt;have k5:=kS.set_ 1 (.int .i64 (s.u : Nat));have hev5 : EvsAt (wr.setCell ⟨b,1,none⟩ (.int .i64 (s.u : Nat))) F1 b w.heap.size Ae ne qe xs:=hev.setT kS (by decide) (by decide) _ _;have HEV:=Lib.hid (And.intro k5 hev5);clear hr k5 hev5 kS hev;go_wp2_with fail;go_ret2;have d8:=HDE.out.keep ⟨by simp [World.setCell],fun k hk=>Below.heap_setCell wr ⟨b,1,none⟩ (.int .i64 (s.u : Nat)) k (fun e=>hbF (by have e : k = b:=e;rw [← e];exact hk))⟩;refine ⟨l,r,F1,HP.out,HOE.out.setCell (p:=⟨b,1,none⟩) (.inr hwb) _,HG1.out,?_⟩;rw [HR.out];exact ⟨b,Ae,ne,qe,xs,rfl,⟨d8,HEV.out.1,hbF⟩,HEV.out.2,HXS.out,hwb⟩
end Sto.Stp
end Go.Proofs.YtfpenfgmpbdakaaGreat

namespace Go.Proofs.YtfpenfgmpbdakaaGreat
set_option linter.unusedVariables false
set_option linter.unusedSimpArgs false
set_option maxRecDepth 100000
open Go.RowKit
open Dot Evt
open Disk
namespace Sto.Stp
open _root_.Go.Proofs.YtfpenfgmpbdakaaGreat.Log (writeM LogEnd lwrite_any rewriteM lrewrite_any)
open _root_.Go.Proofs.YtfpenfgmpbdakaaGreat.Frame (frm frms frms_nil frms_cons frms_snoc frms_append frm_length frm_pos Parts AllF)
def goodTo (l : List Ev) (k : Nat) : Prop:=∀ i x,i < k→l[i]? = some x→rightE x = true∧hasE (l.take i) x.d = false
def recsC (S : Sd) (l : List Ev) : List (List UInt8):=told 1 S.upto :: told 2 S.inc :: l.map told3
open Classical in
noncomputable def compactD (size : Nat) (S : Sd) (evs l : List Ev) : Nat × Sd × List Ev :=
  if goodTo l l.length then (if (frms (recsC S l)).length≤size then (0,{ S with b:=Db.of (frms (recsC S l)) },l) else (7,S,evs)) else (2,S,evs)
theorem rowTake {w : World} {B : Nat} {A : Option Addr} {n : Nat} {xs : List EvV} (h : RowEv w B A n xs) {k : Nat} (hk : k≤n) : RowEv w B A k (xs.take k):=⟨by rw [List.length_take,← h.1];omega,fun i x hi=>by
  rw [List.getElem?_take] at hi
  split at hi
  · exact h.2 i x hi
  · cases hi⟩
theorem goodTo.succ {l : List Ev} {k : Nat} (h : goodTo l k) {x : Ev} (hx : l[k]? = some x) (h1 : rightE x = true) (h2 : hasE (l.take k) x.d = false) : goodTo l (k + 1):=fun i y hi hy=>by
  by_cases e : i = k
  · subst e
    rw [hx] at hy
    injection hy with hy
    rw [← hy];exact ⟨h1,h2⟩
  · exact h i y (by omega) hy
theorem compact_bad {size : Nat} {S : Sd} {evs l : List Ev} {k : Nat} {x : Ev} (hx : l[k]? = some x) (h : rightE x = false∨hasE (l.take k) x.d = true) : compactD size S evs l = (2,S,evs):=by
  unfold compactD
  rw [if_neg];intro hg;have h9:=hg k x (List.getElem?_eq_some_iff.1 hx).1 hx
  rcases h with h | h
  · rw [h] at h9;cases h9.1
  · rw [h] at h9;cases h9.2
theorem Bods.two {w : World} {base g : Nat} {e1 e2 : Sl} {x1 x2 : List UInt8} (hk : Blk w g 22 #[sv e1,sv e2]) (hg : base≤g) (h1 : OwnB w base e1.1 e1.2.1 e1.2.2 x1) (h2 : OwnB w base e2.1 e2.2.1 e2.2.2 x2) : Bods w base (some ⟨g,0,none⟩) 2 2 [x1,x2] :=
  ⟨[e1,e2],rfl,rfl,⟨rfl,.inr ⟨g,2,_,rfl,hg,hk,Nat.le_refl _,by unfold maxLen;omega,rfl,rfl⟩⟩,fun j e x q1 q2=>by
    match j,q1,q2 with
    | 0,q1,q2=>injection q1 with q1;injection q2 with q2;rw [← q1,← q2];exact h1
    | 1,q1,q2=>injection q1 with q1;injection q2 with q2;rw [← q1,← q2];exact h2
    | j + 2,q1,q2=>simp at q1⟩
theorem build2B (e1 e2 : Sl) (w : World) : (Instr.buildSlice 89 2 #[(0,sv e1),(1,sv e2)]).run Tryz.prog w = .ok (.slice (some ⟨w.heap.size,0,none⟩) 2 2) (w.alloc (.cells #[sv e1,sv e2] 22)):=by
  obtain ⟨A,n,c⟩:=e1;obtain ⟨A',n',c'⟩:=e2
  unfold sv
  kernel_rfl
set_option maxHeartbeats 8000000 in
theorem compact_any (S : Sd) (F : Nat→Prop) (b g size base : Nat) (A : Option Addr) (n c : Nat) (xs : List EvV) (A2 : Option Addr) (n2 c2 : Nat) (l2 : List EvV) (ws : World) (h : StoAt ws F b g size S (.slice A n c)) (he : EvsAt ws F b base A n c xs)
    (hx : ∀ w',Only (fun k=>F k∨k = b) ws w'→RowEv w' w'.heap.size A2 n2 l2) (hm : ∀ y ∈ l2,y.m≤100000) (hn2 : n2≤100000) (hnc : n2≤c2) (hcm : c2≤maxLen) (hB : base≤ws.heap.size) (hs0 : size≤16384) (hl : S.b.length≤16384) (hu : S.upto≤96) (hi : S.inc≤1099511627776) :
    Calls Tryz.prog 21 #[.pointer (some ⟨b,0,none⟩),.slice A2 n2 c2] ws (KeepEnd ws F b g size base A xs (compactD size S (xs.map (·.e)) (l2.map (·.e)))):=by
  have hlt : b < ws.heap.size:=h.2.1.lt;have hf : ∀ k,F k→k < ws.heap.size:=h.1.lt;obtain ⟨w0,hw0⟩ : ∃ w0,w0 = ws.alloc (.cells #[.int .i64 0] 27):=⟨_,rfl⟩
  have hbw : Below ws.heap.size ws w0:=by rw [hw0];exact (Below.refl _ _).alloc (Nat.le_refl _) _
  have k0 : Blk w0 ws.heap.size 27 #[.int .i64 0]:=by rw [hw0];exact Blk.new ws _ _
  have s0:=SE.start (h.below hbw) (he.below hbw)
  have hnF : ¬ F ws.heap.size:=fun q=>by have:=hf _ q;omega
  have HXO:=Lib.hid hx;have HM:=Lib.hid hm;have hsz : ws.heap.size < w0.heap.size:=k0.lt;have HN2:=Lib.hid (hx ws (Only.refl _ _)).1;have c2' : w0.cell? ⟨b,2,none⟩ = some (.int .i64 (S.upto : Nat)):=s0.sw.blk.cell 2;have c3' : w0.cell? ⟨b,3,none⟩ = some (.int .i64 (S.inc : Nat)):=s0.sw.blk.cell 3;have hlb:=s0.sw.blk.lt
  have HU:=Lib.hid fun (w : World)=>told_lit 1 1 (S.upto : Nat) S.upto rfl rfl (by omega) w
  have HI:=Lib.hid fun (w : World)=>told_lit 2 2 (S.inc : Nat) S.inc rfl rfl hi w
  clear h he hx hm
  go_enter_defers Tryz.func21,Tryz.ntmps21
  go_upto_region 4 with fail
  rw [← hw0];clear hw0;refine wp_region_tailF 9 11 (fun L v w=>v 0 = .pointer (some ⟨b,0,none⟩)∧Below w0.heap.size w0 w∧(L 0 = true→v 11 = .pointer (some ⟨b,0,none⟩))∧(L 1 = true→v 12 = .pointer (some ⟨b,0,none⟩))∧(L 2 = true→v 13 = .pointer (some ⟨b,2,none⟩))∧(L 3 = true→v 14 = .int .i64 (S.upto : Nat))∧(L 4 = true→(∃ A1 n1 c1,v 15 = sv (A1,n1,c1)∧OwnB w w0.heap.size A1 n1 c1 (told 1 S.upto)))∧(L 5 = true→v 16 = .pointer (some ⟨b,0,none⟩))∧(L 6 = true→v 17 = .pointer (some ⟨b,0,none⟩))∧(L 7 = true→v 18 = .pointer (some ⟨b,3,none⟩))∧(L 8 = true→v 19 = .int .i64 (S.inc : Nat))∧(L 9 = true→(∃ A1 n1 c1,v 20 = sv (A1,n1,c1)∧OwnB w w0.heap.size A1 n1 c1 (told 2 S.inc)))∧(L 10 = true→(∃ gB : Nat,v 21 = .slice (some ⟨gB,0,none⟩) 2 2∧Bods w w0.heap.size (some ⟨gB,0,none⟩) 2 2 [told 1 S.upto,told 2 S.inc]))) [11,12,13,14,15,16,17,18,19,20,21] (by kernel_rfl) (by kernel_rfl) (by kernel_rfl) (by kernel_rfl) (by kernel_rfl) (by kernel_rfl) ?h0 ?hst ?hend
  case h0 =>
    intro L h0;have h0 : ∀ i,i < 11→L i = false:=h0;exact ⟨rfl,(Below.refl _ _).drew,offF h0 (i:=0) (by decide),offF h0 (i:=1) (by decide),offF h0 (i:=2) (by decide),offF h0 (i:=3) (by decide),offF h0 (i:=4) (by decide),offF h0 (i:=5) (by decide),offF h0 (i:=6) (by decide),offF h0 (i:=7) (by decide),offF h0 (i:=8) (by decide),offF h0 (i:=9) (by decide),offF h0 (i:=10) (by decide)⟩
  case hst =>
    show FactSteps _ _ _ _ [0,1,2,3,4,5,6,7,8,9,10]
    refine @FactSteps.cons _ _ _ _ 0 _ [] _ rfl (by kernel_rfl) ?s0 ?_;rotate_left;refine @FactSteps.cons _ _ _ _ 1 _ [0] _ rfl (by kernel_rfl) ?s1 ?_;rotate_left;refine @FactSteps.cons _ _ _ _ 2 _ [1] _ rfl (by kernel_rfl) ?s2 ?_;rotate_left;refine @FactSteps.cons _ _ _ _ 3 _ [2] _ rfl (by kernel_rfl) ?s3 ?_;rotate_left;refine @FactSteps.cons _ _ _ _ 4 _ [3] _ rfl (by kernel_rfl) ?s4 ?_;rotate_left;refine @FactSteps.cons _ _ _ _ 5 _ [] _ rfl (by kernel_rfl) ?s5 ?_;rotate_left;refine @FactSteps.cons _ _ _ _ 6 _ [5] _ rfl (by kernel_rfl) ?s6 ?_;rotate_left;refine @FactSteps.cons _ _ _ _ 7 _ [6] _ rfl (by kernel_rfl) ?s7 ?_;rotate_left;refine @FactSteps.cons _ _ _ _ 8 _ [7] _ rfl (by kernel_rfl) ?s8 ?_;rotate_left;refine @FactSteps.cons _ _ _ _ 9 _ [8,4] _ rfl (by kernel_rfl) ?s9 ?_;rotate_left;refine @FactSteps.cons _ _ _ _ 10 _ [4,9] _ rfl (by kernel_rfl) ?s10 ?_;rotate_left;exact FactSteps.nil
    case s0 =>
      rintro L a v w hv hg hL hd hcl ⟨e0,hb,f0,f1,f2,f3,f4,f5,f6,f7,f8,f9,f10⟩ K hK;refine step_do rfl ?_;clear hv;go_simp;exact hK.out _ _ ⟨e0,hb,fun _=>rfl,f1,f2,f3,f4,f5,f6,f7,f8,f9,f10⟩
    case s1 =>
      rintro L a v w hv hg hL hd hcl ⟨e0,hb,f0,f1,f2,f3,f4,f5,f6,f7,f8,f9,f10⟩ K hK;have g0:=f0 (hd 0 (by decide));have g0:=f0 (hd 0 (by decide));refine step_do rfl ?_;clear hv;go_simp;exact hK.out _ _ ⟨e0,hb,f0,fun _=>rfl,f2,f3,f4,f5,f6,f7,f8,f9,f10⟩
    case s2 =>
      rintro L a v w hv hg hL hd hcl ⟨e0,hb,f0,f1,f2,f3,f4,f5,f6,f7,f8,f9,f10⟩ K hK;have g1:=f1 (hd 1 (by decide));have g1:=f1 (hd 1 (by decide));refine step_do rfl ?_;clear hv;go_simp;exact hK.out _ _ ⟨e0,hb,f0,f1,fun _=>rfl,f3,f4,f5,f6,f7,f8,f9,f10⟩
    case s3 =>
      rintro L a v w hv hg hL hd hcl ⟨e0,hb,f0,f1,f2,f3,f4,f5,f6,f7,f8,f9,f10⟩ K hK;have g2:=f2 (hd 2 (by decide));have g2:=f2 (hd 2 (by decide));have cs4 : w.cell? ⟨b,2,none⟩ = some (.int .i64 (S.upto : Nat)):=(hb.cell (p:=⟨b,2,none⟩) hlb).trans c2';refine step_do rfl ?_;clear hv;go_simp;exact hK.out _ _ ⟨e0,hb,f0,f1,f2,fun _=>rfl,f4,f5,f6,f7,f8,f9,f10⟩
    case s4 =>
      rintro L a v w hv hg hL hd hcl ⟨e0,hb,f0,f1,f2,f3,f4,f5,f6,f7,f8,f9,f10⟩ K hK;have g3:=f3 (hd 3 (by decide));have hh:=HU.out w;refine step_do rfl ?_;clear hv;go_simp;refine hh.mono ?_;rintro e wy ⟨A1,n1,c1,rfl,o1,bb⟩;exact hK.out _ _ ⟨e0,(hb.trans (bb.mono hb.size)),f0,f1,f2,f3,fun _=>⟨A1,n1,c1,rfl,o1.mono hb.size⟩,f5,f6,f7,f8,(fun h=>(by obtain ⟨A1,n1,c1,e,o⟩:=f9 h;exact ⟨A1,n1,c1,e,o.below bb (Nat.le_refl _)⟩)),(fun h=>(by obtain ⟨gB,e,o⟩:=f10 h;exact ⟨gB,e,o.below bb (Nat.le_refl _)⟩))⟩
    case s5 =>
      rintro L a v w hv hg hL hd hcl ⟨e0,hb,f0,f1,f2,f3,f4,f5,f6,f7,f8,f9,f10⟩ K hK;refine step_do rfl ?_;clear hv;go_simp;exact hK.out _ _ ⟨e0,hb,f0,f1,f2,f3,f4,fun _=>rfl,f6,f7,f8,f9,f10⟩
    case s6 =>
      rintro L a v w hv hg hL hd hcl ⟨e0,hb,f0,f1,f2,f3,f4,f5,f6,f7,f8,f9,f10⟩ K hK;have g5:=f5 (hd 5 (by decide));have g5:=f5 (hd 5 (by decide));refine step_do rfl ?_;clear hv;go_simp;exact hK.out _ _ ⟨e0,hb,f0,f1,f2,f3,f4,f5,fun _=>rfl,f7,f8,f9,f10⟩
    case s7 =>
      rintro L a v w hv hg hL hd hcl ⟨e0,hb,f0,f1,f2,f3,f4,f5,f6,f7,f8,f9,f10⟩ K hK;have g6:=f6 (hd 6 (by decide));have g6:=f6 (hd 6 (by decide));refine step_do rfl ?_;clear hv;go_simp;exact hK.out _ _ ⟨e0,hb,f0,f1,f2,f3,f4,f5,f6,fun _=>rfl,f8,f9,f10⟩
    case s8 =>
      rintro L a v w hv hg hL hd hcl ⟨e0,hb,f0,f1,f2,f3,f4,f5,f6,f7,f8,f9,f10⟩ K hK;have g7:=f7 (hd 7 (by decide));have g7:=f7 (hd 7 (by decide));have cs4 : w.cell? ⟨b,3,none⟩ = some (.int .i64 (S.inc : Nat)):=(hb.cell (p:=⟨b,3,none⟩) hlb).trans c3';refine step_do rfl ?_;clear hv;go_simp;exact hK.out _ _ ⟨e0,hb,f0,f1,f2,f3,f4,f5,f6,f7,fun _=>rfl,f9,f10⟩
    case s9 =>
      rintro L a v w hv hg hL hd hcl ⟨e0,hb,f0,f1,f2,f3,f4,f5,f6,f7,f8,f9,f10⟩ K hK;have g8:=f8 (hd 8 (by decide));have hh:=HI.out w;refine step_do rfl ?_;clear hv;go_simp;refine hh.mono ?_;rintro e wy ⟨A1,n1,c1,rfl,o1,bb⟩;exact hK.out _ _ ⟨e0,(hb.trans (bb.mono hb.size)),f0,f1,f2,f3,(fun h=>(by obtain ⟨A1,n1,c1,e,o⟩:=f4 h;exact ⟨A1,n1,c1,e,o.below bb (Nat.le_refl _)⟩)),f5,f6,f7,f8,fun _=>⟨A1,n1,c1,rfl,o1.mono hb.size⟩,(fun h=>(by obtain ⟨gB,e,o⟩:=f10 h;exact ⟨gB,e,o.below bb (Nat.le_refl _)⟩))⟩
    case s10 =>
      rintro L a v w hv hg hL hd hcl ⟨e0,hb,f0,f1,f2,f3,f4,f5,f6,f7,f8,f9,f10⟩ K hK;obtain ⟨A1,n1,c1,q4,o1⟩:=f4 (hd 4 (by decide));obtain ⟨A2',n2',c2'',q9,o2⟩:=f9 (hd 9 (by decide));have q4:=(hv 15).trans q4;have q9:=(hv 20).trans q9;have bb : Below w.heap.size w (w.alloc (.cells #[sv (A1,n1,c1),sv (A2',n2',c2'')] 22)):=(Below.refl _ _).alloc (Nat.le_refl _) _;refine step_do rfl ?_;refine step_bs (v:=.slice (some ⟨w.heap.size,0,none⟩) 2 2) (w':=w.alloc (.cells #[sv (A1,n1,c1),sv (A2',n2',c2'')] 22)) 89 2 #[(0,.tmp 15),(1,.tmp 20)] rfl (by simp only [List.map_toArray,List.map_cons,List.map_nil,q4,q9];exact build2B _ _ w) ?_;exact hK.out _ _ ⟨e0,(hb.trans (bb.mono hb.size)),f0,f1,f2,f3,(fun h=>(by obtain ⟨A1,n1,c1,e,o⟩:=f4 h;exact ⟨A1,n1,c1,e,o.below bb (Nat.le_refl _)⟩)),f5,f6,f7,f8,(fun h=>(by obtain ⟨A1,n1,c1,e,o⟩:=f9 h;exact ⟨A1,n1,c1,e,o.below bb (Nat.le_refl _)⟩)),fun _=>⟨w.heap.size,rfl,Bods.two (Blk.new w _ _) hb.size (o1.below bb (Nat.le_refl _)) (o2.below bb (Nat.le_refl _))⟩⟩
  case hend =>
  rintro L v w1 hall ⟨e0,hb,f0,f1,f2,f3,f4,f5,f6,f7,f8,f9,f10⟩;have hL : ∀ i,i < 11→L i = true:=hall;have f0:=f0 (hL 0 (by decide));have f1:=f1 (hL 1 (by decide));have f2:=f2 (hL 2 (by decide));have f3:=f3 (hL 3 (by decide));have f4:=f4 (hL 4 (by decide));have f5:=f5 (hL 5 (by decide));have f6:=f6 (hL 6 (by decide));have f7:=f7 (hL 7 (by decide));have f8:=f8 (hL 8 (by decide));have f9:=f9 (hL 9 (by decide));have f10:=f10 (hL 10 (by decide));obtain ⟨A1x,n1x,c1x,q4,_⟩:=f4;obtain ⟨A2x,n2x,c2x,q9,_⟩:=f9;obtain ⟨gB,q10,ob⟩:=f10
  simp only [finA,List.foldl_cons,List.foldl_nil,Act.put,List.setIfInBounds_toArray,List.set_cons_succ,List.set_cons_zero,f0,f1,f2,f3,f5,f6,f7,f8,q4,q9,q10]
  have HB1:=Lib.hid hb;clear e0 f0 f1 f2 f3 f5 f6 f7 f8 hL hall hb q4 q9 q10
  show wpList _ _ _ [_] _ _
  have HS0:=Lib.hid s0;have HOB:=Lib.hid ob;clear ob s0 c2' c3' hlb HU HI
  unfold sv
  go_wp2_with fail
  go_loopw [5,6,24] (fun s _ i wr=>∃ (k : Nat) (A' : Option Addr) (c' : Nat),k≤n2∧i = .int .i64 (k : Nat)∧s = .slice A' (2 + k) c'∧Bods wr w0.heap.size A' (2 + k) c' (recsC S ((l2.map (·.e)).take k))∧goodTo (l2.map (·.e)) k∧Below w0.heap.size w0 wr) (fun _ _ i _=>n2 - (intOf i).toNat)
  case atStart=>exact ⟨0,_,_,by omega,rfl,rfl,HOB.out,fun i x hi=>by omega,HB1.out⟩
  case round =>
  obtain ⟨k,A',c',hk,rfl,rfl,hob,hgd,bw⟩:=hrel;have HOBk:=Lib.hid hob;have HGD:=Lib.hid hgd;have sr:=HS0.out.below bw;have kr:=k0.below bw k0.lt;have hwr : Below ws.heap.size ws wr:=hbw.trans (bw.mono hbw.size);have HSR:=Lib.hid sr;have HBW:=Lib.hid bw;clear hob hgd sr
  by_cases hlt2 : k < n2
  · have hkl : k < l2.length:=by rw [← HN2.out];exact hlt2
    obtain ⟨hok,ad,hA,hab,hcs⟩:=(HXO.out wr (Only.of_below _ hwr)).2 k _ (List.getElem?_eq_getElem hkl);have hmk:=HM.out _ (List.getElem_mem hkl)
    have e1 : (l2.map (·.e))[k]? = some l2[k].e:=by rw [List.getElem?_map,List.getElem?_eq_getElem hkl];rfl
    have htk : (l2.map (·.e)).take (k + 1) = (l2.map (·.e)).take k ++ [l2[k].e]:=by rw [← List.map_take,take_snoc l2 hkl,List.map_append,List.map_take];rfl
    generalize l2[k] = x at *
    subst hA;obtain ⟨cs,hcx⟩ : ∃ cs,cs = x.cs:=⟨_,rfl⟩;rw [← hcx] at hcs;have SZ:=Lib.hid (show cs.size = 14 by rw [hcx];rfl);have OZ:=Lib.hid (show cs.all (·.oneCell') = true by rw [hcx];exact x.one);have X0:=Lib.hid (show cs[0]? = some (.int .i64 x.e.d.1) by rw [hcx];rfl);have X1:=Lib.hid (show cs[1]? = some (.int .i64 x.e.d.2) by rw [hcx];rfl);have HCS:=Lib.hid hcs;have HCX:=Lib.hid hcx;have HOK:=Lib.hid hok;have HE1:=Lib.hid (And.intro e1 htk);have HMK:=Lib.hid hmk
    have hk0 : (0 : Int)≤(k : Int):=by omega
    have hkm : (k : Int) < (n2 : Int):=by omega
    clear hok hcs hcx e1 htk hmk bw
    go_upto_region 8 with first
      | ((with_reducible refine wpList_lda rowE HCS.out SZ.out ?_ ?_);rotate_left;(rfl))
      | ((with_reducible refine wpList_st rowE (Blk.new _ _ _) SZ.out ?_ OZ.out ?_ ?_ ?_);(rfl);rotate_left;(rfl);(rfl);intro w6 k6 g6 z6)
    have bA : Below wr.heap.size wr w6:=new_below g6;obtain ⟨gr,hgr⟩ : ∃ gr,gr = wr.heap.size:=⟨_,rfl⟩;rw [← hgr] at k6 ⊢;have b06:=HBW.out.trans (bA.mono HBW.out.size);have HB6:=Lib.hid b06;have HD6:=Lib.hid (ev_dot k6 X0.out X1.out);have hl6:=k6.lt;have h06 : Below ws.heap.size ws w6:=hwr.trans (bA.mono hwr.size);obtain ⟨R,hR⟩ : ∃ R,R = hasE ((l2.map (·.e)).take k) x.e.d:=⟨_,rfl⟩;have HR:=Lib.hid hR
    have HHAS:=Lib.hid fun (w : World) (hb : Below w6.heap.size w6 w)=>(by
      have hrow:=HXO.out w (Only.of_below _ (h06.trans (hb.mono h06.size)))
      have:=shas_any (some ad) k c2 (l2.take k) x.e.d.1 x.e.d.2 w (rowTake hrow (by omega)) (by omega)
      rw [List.map_take,show ((x.e.d.1,x.e.d.2) : Dt) = x.e.d from rfl,← HR.out] at this
      exact this : Calls Tryz.prog 53 #[.slice (some ad) k c2,.agg #[.int .i64 x.e.d.1,.int .i64 x.e.d.2]] w fun e w''=>e = .returned (.bool R)∧Below w.heap.size w w'')
    have H06:=Lib.hid h06
    unfold maxLen at hcm
    have HBA:=Lib.hid bA;clear hR g6 z6 hgr bA b06 h06 HSR HCS kr;refine wp_region_tailF 9 7 (fun L v w=>v 1 = .slice (some ad) n2 c2∧v 6 = .int .i64 (k : Nat)∧v 7 = .pointer (some ⟨gr,0,none⟩)∧Below w6.heap.size w6 w∧(L 0 = true→v 29 = .slice (some ad) n2 c2)∧(L 1 = true→v 30 = .int .i64 (k : Nat))∧(L 2 = true→v 31 = .slice (some ad) k c2)∧(L 3 = true→v 32 = .pointer (some ⟨gr,0,none⟩))∧(L 4 = true→v 33 = .agg #[.int .i64 x.e.d.1,.int .i64 x.e.d.2])∧(L 5 = true→v 34 = .bool R)∧(L 6 = true→v 35 = .bool (!R))) [29,30,31,32,33,34,35] (by kernel_rfl) (by kernel_rfl) (by kernel_rfl) (by kernel_rfl) (by kernel_rfl) (by kernel_rfl) ?h0 ?hst ?hend
    case h0 =>
      intro L h0;have h0 : ∀ i,i < 7→L i = false:=h0;exact ⟨rfl,rfl,rfl,(Below.refl _ _).drew,offF h0 (i:=0) (by decide),offF h0 (i:=1) (by decide),offF h0 (i:=2) (by decide),offF h0 (i:=3) (by decide),offF h0 (i:=4) (by decide),offF h0 (i:=5) (by decide),offF h0 (i:=6) (by decide)⟩
    case hst =>
      show FactSteps _ _ _ _ [0,1,2,3,4,5,6]
      refine @FactSteps.cons _ _ _ _ 0 _ [] _ rfl (by kernel_rfl) ?s0 ?_;rotate_left;refine @FactSteps.cons _ _ _ _ 1 _ [] _ rfl (by kernel_rfl) ?s1 ?_;rotate_left;refine @FactSteps.cons _ _ _ _ 2 _ [0,1] _ rfl (by kernel_rfl) ?s2 ?_;rotate_left;refine @FactSteps.cons _ _ _ _ 3 _ [] _ rfl (by kernel_rfl) ?s3 ?_;rotate_left;refine @FactSteps.cons _ _ _ _ 4 _ [3] _ rfl (by kernel_rfl) ?s4 ?_;rotate_left;refine @FactSteps.cons _ _ _ _ 5 _ [2,4] _ rfl (by kernel_rfl) ?s5 ?_;rotate_left;refine @FactSteps.cons _ _ _ _ 6 _ [5] _ rfl (by kernel_rfl) ?s6 ?_;rotate_left;exact FactSteps.nil
      case s0 =>
        rintro L a v w hv hg hL hd hcl ⟨e1,e6,e7,hb,f0,f1,f2,f3,f4,f5,f6⟩ K hK;refine step_do rfl ?_;clear hv;go_simp;exact hK.out _ _ ⟨e1,e6,e7,hb,fun _=>rfl,f1,f2,f3,f4,f5,f6⟩
      case s1 =>
        rintro L a v w hv hg hL hd hcl ⟨e1,e6,e7,hb,f0,f1,f2,f3,f4,f5,f6⟩ K hK;refine step_do rfl ?_;clear hv;go_simp;exact hK.out _ _ ⟨e1,e6,e7,hb,f0,fun _=>rfl,f2,f3,f4,f5,f6⟩
      case s2 =>
        rintro L a v w hv hg hL hd hcl ⟨e1,e6,e7,hb,f0,f1,f2,f3,f4,f5,f6⟩ K hK;have g0:=f0 (hd 0 (by decide));have g1:=f1 (hd 1 (by decide));have g0:=f0 (hd 0 (by decide));have g1:=f1 (hd 1 (by decide))
        have p0 : (0 : Int)≤(k : Int):=by omega
        have p3 : (k : Int)≤(c2 : Int):=by omega
        have p4 : k≤c2:=by omega
        refine step_do rfl ?_;clear hv;go_simp;exact hK.out _ _ ⟨e1,e6,e7,hb,f0,f1,fun _=>rfl,f3,f4,f5,f6⟩
      case s3 =>
        rintro L a v w hv hg hL hd hcl ⟨e1,e6,e7,hb,f0,f1,f2,f3,f4,f5,f6⟩ K hK;refine step_do rfl ?_;clear hv;go_simp;exact hK.out _ _ ⟨e1,e6,e7,hb,f0,f1,f2,fun _=>rfl,f4,f5,f6⟩
      case s4 =>
        rintro L a v w hv hg hL hd hcl ⟨e1,e6,e7,hb,f0,f1,f2,f3,f4,f5,f6⟩ K hK;have g3:=f3 (hd 3 (by decide));refine step_do rfl ?_;refine wp_ldr rowDt2 (.tmp 32) rfl ((hv 32).trans g3) (range_keep HD6.out hb hl6) rfl ?_;exact hK.out _ _ ⟨e1,e6,e7,hb,f0,f1,f2,f3,fun _=>rfl,f5,f6⟩
      case s5 =>
        rintro L a v w hv hg hL hd hcl ⟨e1,e6,e7,hb,f0,f1,f2,f3,f4,f5,f6⟩ K hK;have g2:=f2 (hd 2 (by decide));have g4:=f4 (hd 4 (by decide));have hh:=HHAS.out w hb;refine step_do rfl ?_;clear hv;go_simp;refine hh.mono ?_;rintro e wy ⟨rfl,bb⟩;exact hK.out _ _ ⟨e1,e6,e7,(hb.trans (bb.mono hb.size)),f0,f1,f2,f3,f4,fun _=>rfl,f6⟩
      case s6 =>
        rintro L a v w hv hg hL hd hcl ⟨e1,e6,e7,hb,f0,f1,f2,f3,f4,f5,f6⟩ K hK;refine step_do rfl ?_;clear hv;go_simp;exact hK.out _ _ ⟨e1,e6,e7,hb,f0,f1,f2,f3,f4,f5,fun _=>rfl⟩
    case hend =>
    rintro L v w7 hall ⟨e1,e6,e7,hb,f0,f1,f2,f3,f4,f5,f6⟩;have hL : ∀ i,i < 7→L i = true:=hall;have f0:=f0 (hL 0 (by decide));have f1:=f1 (hL 1 (by decide));have f2:=f2 (hL 2 (by decide));have f3:=f3 (hL 3 (by decide));have f4:=f4 (hL 4 (by decide));have f5:=f5 (hL 5 (by decide));have f6:=f6 (hL 6 (by decide))
    simp only [finA,List.foldl_cons,List.foldl_nil,Act.put,List.setIfInBounds_toArray,List.set_cons_succ,List.set_cons_zero,f0,f1,f2,f3,f6,f4,f5]
    have b7:=HB6.out.trans (hb.mono HB6.out.size);have h07 : Below ws.heap.size ws w7:=H06.out.trans (hb.mono H06.out.size);have k7:=k6.below hb k6.lt;have hr7:=HBA.out.trans (hb.mono HBA.out.size);clear e1 e6 e7 f0 f1 f2 f3 f4 f5 f6 hL hall hb
    show wpList _ _ _ [_] _ _
    have HB7:=Lib.hid b7;have H07:=Lib.hid h07;have HS7:=Lib.hid (HS0.out.below b7);have kr7:=k0.below b7 k0.lt;clear HHAS HD6 hl6 b7 h07 k6 HB6 H06;have HOK7:=Lib.hid ((HOK.out.below hr7).more hr7.size);have HOB7:=Lib.hid (HOBk.out.below hr7 (Nat.le_refl _));clear hr7 HBA HOK HOBk
    cases R
    case true =>
      have HD:=Lib.hid (compact_bad (size:=size) (S:=S) (evs:=xs.map (·.e)) HE1.out.1 (.inr HR.out.symm));go_wp2_with fail;refine (must_bad _ _).mono ?_;rintro e w3 ⟨rfl,rfl⟩;go_wp2_with fail;refine leaves_cons (f:=38) (args:=#[.pointer (some ⟨ws.heap.size,0,none⟩)]) (by simp) (by simp [go_sem]) ?_;refine (caught_panic ws.heap.size 2 [] (.int .i64 0) _ (kr7.cell 0) (kr7.free 0)).mono ?_;rintro e u' w'' ⟨rfl,rfl,rfl⟩;have k8:=kr7.alloc (.cells #[.int .i64 2] 113);have c9 : World.cell? _ _ = some (.int .i64 2):=(k8.set_ 0 (.int .i64 2)).cell 0;have s9:=(HS7.out.below ((Below.refl _ _).alloc (Nat.le_refl _) (.cells #[.int .i64 2] 113))).fail hbw hlt hf k8 (by omega) hsz 0 (.int .i64 2);refine ⟨.int .i64 2,by simp [results,Tryz.results21,go_sem,c9],?_⟩;rw [HD.out];exact ⟨rfl,s9⟩
    cases hrt : rightE x.e
    case false =>
      have HD:=Lib.hid (compact_bad (size:=size) (S:=S) (evs:=xs.map (·.e)) HE1.out.1 (.inl hrt));have HT:=Lib.hid (by have:=told3_bad x w7 HOK7.out hrt;rw [← HCX.out] at this;exact this);clear hrt;go_wp2_with fail;refine (must_ok _ _).mono ?_;rintro e w3 ⟨rfl,rfl⟩
      go_wp2_with ((with_reducible refine wpList_ld rowE k7 SZ.out ?_ ?_);rotate_left;(rfl))
      refine HT.out.mono ?_;rintro e w8 ⟨rfl,b8⟩;have k9:=kr7.below b8 kr7.lt;have s8:=HS7.out.below b8;go_wp2_with fail;refine leaves_cons (f:=38) (args:=#[.pointer (some ⟨ws.heap.size,0,none⟩)]) (by simp) (by simp [go_sem]) ?_;refine (caught_panic ws.heap.size 2 [] (.int .i64 0) _ (k9.cell 0) (k9.free 0)).mono ?_;rintro e u' w'' ⟨rfl,rfl,rfl⟩;have k8:=k9.alloc (.cells #[.int .i64 2] 113);have c9 : World.cell? _ _ = some (.int .i64 2):=(k8.set_ 0 (.int .i64 2)).cell 0;have s9:=(s8.below ((Below.refl _ _).alloc (Nat.le_refl _) (.cells #[.int .i64 2] 113))).fail hbw hlt hf k8 (by omega) hsz 0 (.int .i64 2);refine ⟨.int .i64 2,by simp [results,Tryz.results21,go_sem,c9],?_⟩;rw [HD.out];exact ⟨rfl,s9⟩
    have HRT:=Lib.hid hrt;have HT:=Lib.hid (by have:=told3_any x w7 HOK7.out hrt;rw [← HCX.out] at this;exact this);clear hrt;go_wp2_with fail;refine (must_ok _ _).mono ?_;rintro e w3 ⟨rfl,rfl⟩
    go_wp2_with ((with_reducible refine wpList_ld rowE k7 SZ.out ?_ ?_);rotate_left;(rfl))
    refine HT.out.mono ?_;rintro e w8 ⟨A3,n3,c3,rfl,o3,b8⟩;have bal : Below w8.heap.size w8 (w8.alloc (.cells #[.slice A3 n3 c3] 22)):=(Below.refl _ _).alloc (Nat.le_refl _) _;have h7s : w0.heap.size≤w7.heap.size:=HB7.out.size;have HOB8:=Lib.hid ((HOB7.out.below b8 (Nat.le_refl _)).below bal (Nat.le_refl _));have HO3:=Lib.hid ((o3.mono h7s).below bal (Nat.le_refl _));have HRD:=Lib.hid (Rd.made w8 #[.slice A3 n3 c3] 22 (0,0));have hb8:=(HB7.out.trans (b8.mono h7s)).trans (bal.mono (Nat.le_trans h7s b8.size));have HB8:=Lib.hid hb8;have h8s:=b8.size;clear o3 b8 bal hb8 HOB7 k7 kr7
    go_wp2_with (at_builtin;refine wpList_appS rfl (.tmp 37) (.tmp 40) rfl rfl HOB8.out rfl (e:=(A3,n3,c3)) HRD.out HO3.out ?hd2 ?hd3 ?_)
    case hd2=>omega
    case hd3=>simp;omega
    intro A9 c9 w9 ob9 b9;have HOB9:=Lib.hid ob9;have HB9:=Lib.hid (HB8.out.trans b9);clear ob9 b9 HOB8 HO3 HRD;go_wp2_with fail
    go_roundw
    case rel=>exact ⟨k + 1,A9,c9,by omega,by go_num,rfl,by
      have h:=HOB9.out;rw [show recsC S ((l2.map (·.e)).take (k + 1)) = recsC S ((l2.map (·.e)).take k) ++ [told3 x.e] by rw [HE1.out.2];unfold recsC;rw [List.map_append];rfl]
      exact h,HGD.out.succ HE1.out.1 HRT.out HR.out.symm,HB9.out⟩
    case measure=>simp [intOf];omega
  obtain rfl : k = n2:=by omega
  have hkk : ¬ (k : Int) < (k : Int):=by omega
  have hfull : (l2.map (·.e)).take k = l2.map (·.e):=List.take_of_length_le (by rw [List.length_map,← HN2.out];omega)
  have hgd : goodTo (l2.map (·.e)) (l2.map (·.e)).length:=by rw [List.length_map,← HN2.out];exact HGD.out
  have hob:=HOBk.out;rw [hfull] at hob
  have h4096 : (recsC S (l2.map (·.e))).all (·.length≤4096) = true:=by
    rw [List.all_eq_true];intro y hy
    unfold recsC at hy
    rcases List.mem_cons.1 hy with rfl | hy
    · have:=told_len 1 S.upto;exact decide_eq_true (by omega)
    · rcases List.mem_cons.1 hy with rfl | hy
      · have:=told_len 2 S.inc;exact decide_eq_true (by omega)
      · obtain ⟨e,he,rfl⟩:=List.mem_map.1 hy
        obtain ⟨z,hz,rfl⟩:=List.mem_map.1 he;obtain ⟨i,hi,rfl⟩:=List.getElem_of_mem hz;have hp:=((HXO.out ws (Only.refl _ _)).2 i _ (List.getElem?_eq_getElem hi)).1.1;have hr:=(hgd i l2[i].e (by rw [List.length_map];exact hi) (by rw [List.getElem?_map,List.getElem?_eq_getElem hi];rfl)).1
        have:=told3_len hp hr
        exact decide_eq_true (by omega)
  have hrw:=lrewriteD_any A' (2 + k) c' wr.heap.size _ F g size S.b wr HSR.out.sw.disk hs0 hob.rd (Nat.le_refl _) (by omega)
  have hrm : rewriteD size S.b (recsC S (l2.map (·.e))) = if (frms (recsC S (l2.map (·.e)))).length≤size then (0,Db.of (frms (recsC S (l2.map (·.e))))) else (7,S.b):=by unfold rewriteD;rw [if_pos h4096]
  rw [hrm] at hrw;have c0d : wr.cell? ⟨b,0,none⟩ = some (.pointer (some ⟨g,0,none⟩)):=HSR.out.sw.blk.cell 0
  have hcd : compactD size S (xs.map (·.e)) (l2.map (·.e)) = if (frms (recsC S (l2.map (·.e)))).length≤size then (0,{ S with b:=Db.of (frms (recsC S (l2.map (·.e)))) },l2.map (·.e)) else (7,S,xs.map (·.e)):=by unfold compactD;rw [if_pos hgd]
  have kS0:=HSR.out.sw.blk
  by_cases hroom : (frms (recsC S (l2.map (·.e)))).length≤size
  case neg =>
    rw [if_neg hroom] at hrw hcd;have HD:=Lib.hid hcd;have HRW:=Lib.hid hrw;clear hrw hcd hrm hroom hob hgd h4096 hfull kS0;go_wp2_with fail;refine HRW.out.mono ?_;rintro e w4 ⟨hee,d4⟩;obtain rfl : e = .returned (.int .i64 ((7 : Nat) : Int)):=hee;have k4:=d4.kept kr hnF;obtain ⟨F4,s4⟩:=HSR.out.op d4;clear d4;go_wp2_with fail;refine (must_no (by first | with_reducible rfl | assumption | (simp;done) | (simp;omega)) _ _).mono ?_;rintro e w5 ⟨rfl,rfl⟩;go_wp2_with fail;refine leaves_cons (f:=38) (args:=#[.pointer (some ⟨ws.heap.size,0,none⟩)]) (by simp) (by simp [go_sem]) ?_;refine (caught_panic ws.heap.size 7 [] (.int .i64 0) _ (k4.cell 0) (k4.free 0)).mono ?_;rintro e u' w'' ⟨rfl,rfl,rfl⟩;have k8:=k4.alloc (.cells #[.int .i64 7] 113);have c9 : World.cell? _ _ = some (.int .i64 7):=(k8.set_ 0 (.int .i64 7)).cell 0;have s9:=(s4.below ((Below.refl _ _).alloc (Nat.le_refl _) (.cells #[.int .i64 7] 113))).fail hbw hlt hf k8 (by omega) hsz 0 (.int .i64 7);refine ⟨.int .i64 7,by simp [results,Tryz.results21,go_sem,c9],?_⟩;rw [HD.out];exact ⟨rfl,s9⟩
  rw [if_pos hroom] at hrw hcd;have HD:=Lib.hid hcd;have HRW:=Lib.hid hrw;clear hrw hcd hrm hroom hob hgd h4096 hfull kS0;go_wp2_with fail;refine HRW.out.mono ?_;rintro e w4 ⟨hee,d4⟩;obtain rfl : e = .returned (.int .i64 ((0 : Nat) : Int)):=hee;have k4:=d4.kept kr hnF;obtain ⟨F4,s4⟩:=HSR.out.op d4;have hbw4 : Only (fun k=>F k∨k = b) ws w4:=(Only.of_below _ hbw).trans s4.sw.only (Grows.refl _ _);have HS4:=Lib.hid s4;have HOW:=Lib.hid (owns_any A2 k c2 l2 w4 hn2 (HXO.out w4 hbw4) HM.out);have hbase : base≤w4.heap.size:=Nat.le_trans hB hbw4.size;clear d4 s4 HRW;go_wp2_with fail;refine (must_yes (by first | with_reducible rfl | assumption | (simp;done) | (simp;omega)) _ _).mono ?_;rintro e w5 ⟨rfl,rfl⟩;go_wp2_with fail;refine HOW.out.mono ?_;rintro e w5 ⟨Ac,cc,ys,rfl,oc,oy,hye,b5⟩;have s5:=HS4.out.below b5;have kS:=s5.sw.blk;have ke:=k4.below b5 k4.lt;have c4e : w5.cell? ⟨b,4,none⟩ = some (.slice A n c):=kS.cell 4;have u4e:=kS.free 4;have hlb:=kS.lt
  have hEb : ws.heap.size ≠ b:=by omega
  have k10:=kS.set_ 4 (.slice Ac k cc);have ke10:=ke.far (p:=⟨b,4,none⟩) hEb (.slice Ac k cc);have c0e : World.cell? _ ⟨ws.heap.size,0,none⟩ = some (.int .i64 0):=ke10.cell 0;have u0e:=ke10.free 0;have ce0 : w5.cell? ⟨ws.heap.size,0,none⟩ = some (.int .i64 0):=ke.cell 0;have ue0:=ke.free 0;have hle0:=ke.lt
  have hnF4e : ¬ F4 ws.heap.size:=fun q=>by
    rcases HS4.out.sw.grows _ q with y | y
    · exact hnF y
    · omega
  have hfin : EOp ws F b g size base A xs { S with b:=Db.of (frms (recsC S (l2.map (·.e)))) } (l2.map (·.e)) ((w5.setCell ⟨b,4,none⟩ (.slice Ac k cc)).setCell ⟨ws.heap.size,0,none⟩ (.int .i64 0)):=by
    have s4:=HS4.out
    have hev : EvsAt w5 F4 b base Ac k cc ys:=⟨oc.mono hbase,fun y hy=>⟨(oy y hy).1,(oy y hy).2.1.mono hbase,(oy y hy).2.2⟩,fun q hq=>by
      have h9:=(oc.lt q hq).1
      exact ⟨fun y=>by have:=s4.sw.disk.lt q y;omega,by have:=s4.sw.blk.lt;omega⟩,fun y hy q hq=>by
      have h9:=((oy y hy).2.1.lt q hq).1
      exact ⟨fun y=>by have:=s4.sw.disk.lt q y;omega,by have:=s4.sw.blk.lt;omega⟩⟩
    have hbF : ∀ q,F4 q→q ≠ b:=fun q hq e=>s4.sw.nb (by rw [← e];exact hq)
    refine ⟨F4,Ac,k,cc,ys,⟨(s5.sw.disk.keep ⟨by simp [World.setCell],fun q hq=>Below.heap_setCell w5 _ _ q (hbF q hq)⟩).keep ⟨by simp [World.setCell],fun q hq=>Below.heap_setCell _ _ _ q (fun e=>hnF4e (by have e : q = ws.heap.size:=e;rw [← e];exact hq))⟩,k10.far (p:=⟨ws.heap.size,0,none⟩) (fun e=>hEb e.symm) _,s4.sw.nb⟩,(hev.setT kS (by decide) (by decide) 4 _).setT ke10 (by decide) (by decide) 0 _,hye,?_,fun q hq=>(s4.sw.grows q hq).imp id fun y=>by have:=hbw.size;omega,fun q hq=>by
      rcases hq with h | ⟨y,hy,h⟩
      · exact .inr (by have:=(oc.lt q h).1;have:=hbw4.size;omega)
      · exact .inr (by have:=((oy y hy).2.1.lt q h).1;have:=hbw4.size;omega)⟩
    refine Only.setCell (Only.setCell ?_ (.inl (.inr (.inl rfl))) _) (.inr (Nat.le_refl _)) _;exact (hbw4.mono (G:=fun k=>F k∨k = b∨A.map (·.block) = some k) fun k hk=>.inl (by rcases hk with q | q;exact .inl q;exact .inr (.inl q))).then_below (b5.mono hbw4.size)
  have HFIN:=Lib.hid hfin;have HKE:=Lib.hid ke10;clear hfin k10 ke10 oc oy hye b5 s5 hnF4e kS ke HOW;go_wp2_with fail;have c9 : World.cell? _ _ = some (.int .i64 0):=(HKE.out.set_ 0 (.int .i64 0)).cell 0;refine leaves_cons (f:=38) (args:=#[.pointer (some ⟨ws.heap.size,0,none⟩)]) (by simp) (by simp [go_sem]) ?_;refine (caught_none _ _).mono ?_;rintro e u' w'' ⟨rfl,rfl,rfl⟩;refine ⟨.int .i64 0,by simp [results,Tryz.results21,go_sem,c9],?_⟩;rw [HD.out];exact ⟨rfl,HFIN.out⟩
end Sto.Stp
end Go.Proofs.YtfpenfgmpbdakaaGreat

namespace Go.Proofs.YtfpenfgmpbdakaaGreat
set_option linter.unusedVariables false
set_option linter.unusedSimpArgs false
set_option maxRecDepth 100000
open Go.RowKit
open Dot Evt
open Disk
namespace Sto.Stp
open _root_.Go.Proofs.YtfpenfgmpbdakaaGreat.Log (writeM rewriteM RLogEnd rlrewrite_any)
open _root_.Go.Proofs.YtfpenfgmpbdakaaGreat.Frame (frm frms frms_nil frms_cons frms_snoc frms_append frm_length frm_pos Parts AllF)
set_option maxHeartbeats 8000000 in
theorem rcompact_any (S : Sd) (F : Nat→Prop) (b g size base : Nat) (A : Option Addr) (n c : Nat) (xs : List EvV) (A2 : Option Addr) (n2 c2 : Nat) (l2 : List EvV) (ws : World) (h : RStoAt ws F b g size S (.slice A n c)) (he : EvsAt ws F b base A n c xs)
    (hx : ∀ w',Only (fun k=>F k∨k = b) ws w'→RowEv w' w'.heap.size A2 n2 l2) (hm : ∀ y ∈ l2,y.m≤100000) (hn2 : n2≤100000) (hnc : n2≤c2) (hcm : c2≤maxLen) (hB : base≤ws.heap.size) (hs0 : size≤16384) (hl : S.b.length≤16384) (hu : S.upto≤96) (hi : S.inc≤1099511627776) :
    Calls Tryz.prog 23 #[.pointer (some ⟨b,0,none⟩),.slice A2 n2 c2] ws (RKeepEnd ws F b g size base A xs (compactD size S (xs.map (·.e)) (l2.map (·.e)))):=by
  have hlt : b < ws.heap.size:=h.2.1.lt;have hf : ∀ k,F k→k < ws.heap.size:=h.1.lt;have hbw : Below ws.heap.size ws ws:=Below.refl _ _;have s0:=RSE.start h he;have HXO:=Lib.hid hx;have HM:=Lib.hid hm;have HN2:=Lib.hid (hx ws (Only.refl _ _)).1;have c2' : ws.cell? ⟨b,2,none⟩ = some (.int .i64 (S.upto : Nat)):=s0.sw.blk.cell 2;have c3' : ws.cell? ⟨b,3,none⟩ = some (.int .i64 (S.inc : Nat)):=s0.sw.blk.cell 3
  have HU:=Lib.hid fun (w : World)=>rnumber_lit 1 1 (S.upto : Nat) S.upto rfl rfl (by omega) w
  have HI:=Lib.hid fun (w : World)=>rnumber_lit 2 2 (S.inc : Nat) S.inc rfl rfl hi w
  clear h he hx hm
  go_enter Tryz.func23,Tryz.ntmps23
  go_upto_region 1 with fail
  refine wp_region_tailF 9 11 (fun L v w=>v 0 = .pointer (some ⟨b,0,none⟩)∧Below ws.heap.size ws w∧(L 0 = true→v 9 = .pointer (some ⟨b,0,none⟩))∧(L 1 = true→v 10 = .pointer (some ⟨b,0,none⟩))∧(L 2 = true→v 11 = .pointer (some ⟨b,2,none⟩))∧(L 3 = true→v 12 = .int .i64 (S.upto : Nat))∧(L 4 = true→(∃ A1 n1 c1,v 13 = sv (A1,n1,c1)∧OwnB w ws.heap.size A1 n1 c1 (told 1 S.upto)))∧(L 5 = true→v 14 = .pointer (some ⟨b,0,none⟩))∧(L 6 = true→v 15 = .pointer (some ⟨b,0,none⟩))∧(L 7 = true→v 16 = .pointer (some ⟨b,3,none⟩))∧(L 8 = true→v 17 = .int .i64 (S.inc : Nat))∧(L 9 = true→(∃ A1 n1 c1,v 18 = sv (A1,n1,c1)∧OwnB w ws.heap.size A1 n1 c1 (told 2 S.inc)))∧(L 10 = true→(∃ gB : Nat,v 19 = .slice (some ⟨gB,0,none⟩) 2 2∧Bods w ws.heap.size (some ⟨gB,0,none⟩) 2 2 [told 1 S.upto,told 2 S.inc]))) [9,10,11,12,13,14,15,16,17,18,19] (by kernel_rfl) (by kernel_rfl) (by kernel_rfl) (by kernel_rfl) (by kernel_rfl) (by kernel_rfl) ?h0 ?hst ?hend
  case h0 =>
    intro L h0;have h0 : ∀ i,i < 11→L i = false:=h0;exact ⟨rfl,(Below.refl _ _).drew,offF h0 (i:=0) (by decide),offF h0 (i:=1) (by decide),offF h0 (i:=2) (by decide),offF h0 (i:=3) (by decide),offF h0 (i:=4) (by decide),offF h0 (i:=5) (by decide),offF h0 (i:=6) (by decide),offF h0 (i:=7) (by decide),offF h0 (i:=8) (by decide),offF h0 (i:=9) (by decide),offF h0 (i:=10) (by decide)⟩
  case hst =>
    show FactSteps _ _ _ _ [0,1,2,3,4,5,6,7,8,9,10]
    refine @FactSteps.cons _ _ _ _ 0 _ [] _ rfl (by kernel_rfl) ?s0 ?_;rotate_left;refine @FactSteps.cons _ _ _ _ 1 _ [0] _ rfl (by kernel_rfl) ?s1 ?_;rotate_left;refine @FactSteps.cons _ _ _ _ 2 _ [1] _ rfl (by kernel_rfl) ?s2 ?_;rotate_left;refine @FactSteps.cons _ _ _ _ 3 _ [2] _ rfl (by kernel_rfl) ?s3 ?_;rotate_left;refine @FactSteps.cons _ _ _ _ 4 _ [3] _ rfl (by kernel_rfl) ?s4 ?_;rotate_left;refine @FactSteps.cons _ _ _ _ 5 _ [] _ rfl (by kernel_rfl) ?s5 ?_;rotate_left;refine @FactSteps.cons _ _ _ _ 6 _ [5] _ rfl (by kernel_rfl) ?s6 ?_;rotate_left;refine @FactSteps.cons _ _ _ _ 7 _ [6] _ rfl (by kernel_rfl) ?s7 ?_;rotate_left;refine @FactSteps.cons _ _ _ _ 8 _ [7] _ rfl (by kernel_rfl) ?s8 ?_;rotate_left;refine @FactSteps.cons _ _ _ _ 9 _ [8,4] _ rfl (by kernel_rfl) ?s9 ?_;rotate_left;refine @FactSteps.cons _ _ _ _ 10 _ [4,9] _ rfl (by kernel_rfl) ?s10 ?_;rotate_left;exact FactSteps.nil
    case s0 =>
      rintro L a v w hv hg hL hd hcl ⟨e0,hb,f0,f1,f2,f3,f4,f5,f6,f7,f8,f9,f10⟩ K hK;refine step_do rfl ?_;clear hv;go_simp;exact hK.out _ _ ⟨e0,hb,fun _=>rfl,f1,f2,f3,f4,f5,f6,f7,f8,f9,f10⟩
    case s1 =>
      rintro L a v w hv hg hL hd hcl ⟨e0,hb,f0,f1,f2,f3,f4,f5,f6,f7,f8,f9,f10⟩ K hK;have g0:=f0 (hd 0 (by decide));have g0:=f0 (hd 0 (by decide));refine step_do rfl ?_;clear hv;go_simp;exact hK.out _ _ ⟨e0,hb,f0,fun _=>rfl,f2,f3,f4,f5,f6,f7,f8,f9,f10⟩
    case s2 =>
      rintro L a v w hv hg hL hd hcl ⟨e0,hb,f0,f1,f2,f3,f4,f5,f6,f7,f8,f9,f10⟩ K hK;have g1:=f1 (hd 1 (by decide));have g1:=f1 (hd 1 (by decide));refine step_do rfl ?_;clear hv;go_simp;exact hK.out _ _ ⟨e0,hb,f0,f1,fun _=>rfl,f3,f4,f5,f6,f7,f8,f9,f10⟩
    case s3 =>
      rintro L a v w hv hg hL hd hcl ⟨e0,hb,f0,f1,f2,f3,f4,f5,f6,f7,f8,f9,f10⟩ K hK;have g2:=f2 (hd 2 (by decide));have g2:=f2 (hd 2 (by decide));have cs4 : w.cell? ⟨b,2,none⟩ = some (.int .i64 (S.upto : Nat)):=(hb.cell (p:=⟨b,2,none⟩) hlt).trans c2';refine step_do rfl ?_;clear hv;go_simp;exact hK.out _ _ ⟨e0,hb,f0,f1,f2,fun _=>rfl,f4,f5,f6,f7,f8,f9,f10⟩
    case s4 =>
      rintro L a v w hv hg hL hd hcl ⟨e0,hb,f0,f1,f2,f3,f4,f5,f6,f7,f8,f9,f10⟩ K hK;have g3:=f3 (hd 3 (by decide));have hh:=HU.out w;refine step_do rfl ?_;clear hv;go_simp;refine hh.mono ?_;rintro e wy ⟨A1,n1,c1,rfl,o1,bb⟩;exact hK.out _ _ ⟨e0,(hb.trans (bb.mono hb.size)),f0,f1,f2,f3,fun _=>⟨A1,n1,c1,rfl,o1.mono hb.size⟩,f5,f6,f7,f8,(fun h=>(by obtain ⟨A1,n1,c1,e,o⟩:=f9 h;exact ⟨A1,n1,c1,e,o.below bb (Nat.le_refl _)⟩)),(fun h=>(by obtain ⟨gB,e,o⟩:=f10 h;exact ⟨gB,e,o.below bb (Nat.le_refl _)⟩))⟩
    case s5 =>
      rintro L a v w hv hg hL hd hcl ⟨e0,hb,f0,f1,f2,f3,f4,f5,f6,f7,f8,f9,f10⟩ K hK;refine step_do rfl ?_;clear hv;go_simp;exact hK.out _ _ ⟨e0,hb,f0,f1,f2,f3,f4,fun _=>rfl,f6,f7,f8,f9,f10⟩
    case s6 =>
      rintro L a v w hv hg hL hd hcl ⟨e0,hb,f0,f1,f2,f3,f4,f5,f6,f7,f8,f9,f10⟩ K hK;have g5:=f5 (hd 5 (by decide));have g5:=f5 (hd 5 (by decide));refine step_do rfl ?_;clear hv;go_simp;exact hK.out _ _ ⟨e0,hb,f0,f1,f2,f3,f4,f5,fun _=>rfl,f7,f8,f9,f10⟩
    case s7 =>
      rintro L a v w hv hg hL hd hcl ⟨e0,hb,f0,f1,f2,f3,f4,f5,f6,f7,f8,f9,f10⟩ K hK;have g6:=f6 (hd 6 (by decide));have g6:=f6 (hd 6 (by decide));refine step_do rfl ?_;clear hv;go_simp;exact hK.out _ _ ⟨e0,hb,f0,f1,f2,f3,f4,f5,f6,fun _=>rfl,f8,f9,f10⟩
    case s8 =>
      rintro L a v w hv hg hL hd hcl ⟨e0,hb,f0,f1,f2,f3,f4,f5,f6,f7,f8,f9,f10⟩ K hK;have g7:=f7 (hd 7 (by decide));have g7:=f7 (hd 7 (by decide));have cs4 : w.cell? ⟨b,3,none⟩ = some (.int .i64 (S.inc : Nat)):=(hb.cell (p:=⟨b,3,none⟩) hlt).trans c3';refine step_do rfl ?_;clear hv;go_simp;exact hK.out _ _ ⟨e0,hb,f0,f1,f2,f3,f4,f5,f6,f7,fun _=>rfl,f9,f10⟩
    case s9 =>
      rintro L a v w hv hg hL hd hcl ⟨e0,hb,f0,f1,f2,f3,f4,f5,f6,f7,f8,f9,f10⟩ K hK;have g8:=f8 (hd 8 (by decide));have hh:=HI.out w;refine step_do rfl ?_;clear hv;go_simp;refine hh.mono ?_;rintro e wy ⟨A1,n1,c1,rfl,o1,bb⟩;exact hK.out _ _ ⟨e0,(hb.trans (bb.mono hb.size)),f0,f1,f2,f3,(fun h=>(by obtain ⟨A1,n1,c1,e,o⟩:=f4 h;exact ⟨A1,n1,c1,e,o.below bb (Nat.le_refl _)⟩)),f5,f6,f7,f8,fun _=>⟨A1,n1,c1,rfl,o1.mono hb.size⟩,(fun h=>(by obtain ⟨gB,e,o⟩:=f10 h;exact ⟨gB,e,o.below bb (Nat.le_refl _)⟩))⟩
    case s10 =>
      rintro L a v w hv hg hL hd hcl ⟨e0,hb,f0,f1,f2,f3,f4,f5,f6,f7,f8,f9,f10⟩ K hK;obtain ⟨A1,n1,c1,q4,o1⟩:=f4 (hd 4 (by decide));obtain ⟨A2',n2',c2'',q9,o2⟩:=f9 (hd 9 (by decide));have q4:=(hv 13).trans q4;have q9:=(hv 18).trans q9;have bb : Below w.heap.size w (w.alloc (.cells #[sv (A1,n1,c1),sv (A2',n2',c2'')] 22)):=(Below.refl _ _).alloc (Nat.le_refl _) _;refine step_do rfl ?_;refine step_bs (v:=.slice (some ⟨w.heap.size,0,none⟩) 2 2) (w':=w.alloc (.cells #[sv (A1,n1,c1),sv (A2',n2',c2'')] 22)) 89 2 #[(0,.tmp 13),(1,.tmp 18)] rfl (by simp only [List.map_toArray,List.map_cons,List.map_nil,q4,q9];exact build2B _ _ w) ?_;exact hK.out _ _ ⟨e0,(hb.trans (bb.mono hb.size)),f0,f1,f2,f3,(fun h=>(by obtain ⟨A1,n1,c1,e,o⟩:=f4 h;exact ⟨A1,n1,c1,e,o.below bb (Nat.le_refl _)⟩)),f5,f6,f7,f8,(fun h=>(by obtain ⟨A1,n1,c1,e,o⟩:=f9 h;exact ⟨A1,n1,c1,e,o.below bb (Nat.le_refl _)⟩)),fun _=>⟨w.heap.size,rfl,Bods.two (Blk.new w _ _) hb.size (o1.below bb (Nat.le_refl _)) (o2.below bb (Nat.le_refl _))⟩⟩
  case hend =>
  rintro L v w1 hall ⟨e0,hb,f0,f1,f2,f3,f4,f5,f6,f7,f8,f9,f10⟩;have hL : ∀ i,i < 11→L i = true:=hall;have f0:=f0 (hL 0 (by decide));have f1:=f1 (hL 1 (by decide));have f2:=f2 (hL 2 (by decide));have f3:=f3 (hL 3 (by decide));have f4:=f4 (hL 4 (by decide));have f5:=f5 (hL 5 (by decide));have f6:=f6 (hL 6 (by decide));have f7:=f7 (hL 7 (by decide));have f8:=f8 (hL 8 (by decide));have f9:=f9 (hL 9 (by decide));have f10:=f10 (hL 10 (by decide));obtain ⟨A1x,n1x,c1x,q4,_⟩:=f4;obtain ⟨A2x,n2x,c2x,q9,_⟩:=f9;obtain ⟨gB,q10,ob⟩:=f10
  simp only [finA,List.foldl_cons,List.foldl_nil,Act.put,List.setIfInBounds_toArray,List.set_cons_succ,List.set_cons_zero,f0,f1,f2,f3,f5,f6,f7,f8,q4,q9,q10]
  have HB1:=Lib.hid hb;clear e0 f0 f1 f2 f3 f5 f6 f7 f8 hL hall hb q4 q9 q10
  show wpList _ _ _ [_] _ _
  have HS0:=Lib.hid s0;have HOB:=Lib.hid ob;clear ob s0 c2' c3' HU HI
  unfold sv
  go_wp2_with fail
  go_loopw [5,6,22] (fun s _ i wr=>∃ (k : Nat) (A' : Option Addr) (c' : Nat),k≤n2∧i = .int .i64 (k : Nat)∧s = .slice A' (2 + k) c'∧Bods wr ws.heap.size A' (2 + k) c' (recsC S ((l2.map (·.e)).take k))∧goodTo (l2.map (·.e)) k∧Below ws.heap.size ws wr) (fun _ _ i _=>n2 - (intOf i).toNat)
  case atStart=>exact ⟨0,_,_,by omega,rfl,rfl,HOB.out,fun i x hi=>by omega,HB1.out⟩
  case round =>
  obtain ⟨k,A',c',hk,rfl,rfl,hob,hgd,bw⟩:=hrel;have HOBk:=Lib.hid hob;have HGD:=Lib.hid hgd;have HSR:=Lib.hid (HS0.out.below bw);have HBW:=Lib.hid bw;clear hob hgd
  by_cases hlt2 : k < n2
  · have hkl : k < l2.length:=by rw [← HN2.out];exact hlt2
    obtain ⟨hok,ad,hA,hab,hcs⟩:=(HXO.out wr (Only.of_below _ bw)).2 k _ (List.getElem?_eq_getElem hkl);have hmk:=HM.out _ (List.getElem_mem hkl)
    have e1 : (l2.map (·.e))[k]? = some l2[k].e:=by rw [List.getElem?_map,List.getElem?_eq_getElem hkl];rfl
    have htk : (l2.map (·.e)).take (k + 1) = (l2.map (·.e)).take k ++ [l2[k].e]:=by rw [← List.map_take,take_snoc l2 hkl,List.map_append,List.map_take];rfl
    generalize l2[k] = x at *
    subst hA;obtain ⟨cs,hcx⟩ : ∃ cs,cs = x.cs:=⟨_,rfl⟩;rw [← hcx] at hcs;have SZ:=Lib.hid (show cs.size = 14 by rw [hcx];rfl);have OZ:=Lib.hid (show cs.all (·.oneCell') = true by rw [hcx];exact x.one);have X0:=Lib.hid (show cs[0]? = some (.int .i64 x.e.d.1) by rw [hcx];rfl);have X1:=Lib.hid (show cs[1]? = some (.int .i64 x.e.d.2) by rw [hcx];rfl);have HCS:=Lib.hid hcs;have HCX:=Lib.hid hcx;have HOK:=Lib.hid hok;have HE1:=Lib.hid (And.intro e1 htk);have HMK:=Lib.hid hmk
    have hk0 : (0 : Int)≤(k : Int):=by omega
    have hkm : (k : Int) < (n2 : Int):=by omega
    clear hok hcs hcx e1 htk hmk bw
    go_upto_region 5 with first
      | ((with_reducible refine wpList_lda rowE HCS.out SZ.out ?_ ?_);rotate_left;(rfl))
      | ((with_reducible refine wpList_st rowE (Blk.new _ _ _) SZ.out ?_ OZ.out ?_ ?_ ?_);(rfl);rotate_left;(rfl);(rfl);intro w6 k6 g6 z6)
    have bA : Below wr.heap.size wr w6:=new_below g6;obtain ⟨gr,hgr⟩ : ∃ gr,gr = wr.heap.size:=⟨_,rfl⟩;rw [← hgr] at k6 ⊢;have b06:=HBW.out.trans (bA.mono HBW.out.size);have HB6:=Lib.hid b06;have HD6:=Lib.hid (ev_dot k6 X0.out X1.out);have hl6:=k6.lt;obtain ⟨R,hR⟩ : ∃ R,R = hasE ((l2.map (·.e)).take k) x.e.d:=⟨_,rfl⟩;have HR:=Lib.hid hR
    have HHAS:=Lib.hid fun (w : World) (hb : Below w6.heap.size w6 w)=>(by
      have hrow:=HXO.out w (Only.of_below _ (HB6.out.trans (hb.mono HB6.out.size)))
      have:=rhas_any (some ad) k c2 (l2.take k) x.e.d.1 x.e.d.2 w (rowTake hrow (by omega)) (by omega)
      rw [List.map_take,show ((x.e.d.1,x.e.d.2) : Dt) = x.e.d from rfl,← HR.out] at this
      exact this : Calls Tryz.prog 45 #[.slice (some ad) k c2,.agg #[.int .i64 x.e.d.1,.int .i64 x.e.d.2]] w fun e w''=>e = .returned (.bool R)∧Below w.heap.size w w'')
    have hok6 : ∀ (w : World),Below w6.heap.size w6 w→EvOk w w.heap.size x:=fun w hb=>by
      have:=bA.trans (hb.mono bA.size)
      exact (HOK.out.below this).more this.size
    have HRT:=Lib.hid fun (w : World) (hb : Below w6.heap.size w6 w)=>(by
      have hok:=hok6 w hb
      have:=eright07_any x.e hok.1 x.A x.m x.c w hok.2.1 (by have:=HMK.out;omega)
      rw [show ec x.e (.slice x.A x.m x.c) = x.cs from rfl,← HCX.out] at this
      exact this : Calls Tryz.prog 55 #[.agg cs] w fun e w'=>e = .returned (.bool (rightE x.e))∧Below w.heap.size w w')
    have HOK6:=Lib.hid hok6;have HBS:=Lib.hid bA
    unfold maxLen at hcm
    clear hR g6 z6 hgr bA b06 HSR HCS hok6
    cases hrt : rightE x.e
    case false =>
      have HD:=Lib.hid (compact_bad (size:=size) (S:=S) (evs:=xs.map (·.e)) HE1.out.1 (.inl hrt));rw [hrt] at HRT;clear hrt;refine wp_region_tailF 9 10 (fun L v w=>v 7 = .pointer (some ⟨gr,0,none⟩)∧v 1 = .slice (some ad) n2 c2∧v 6 = .int .i64 (k : Nat)∧Below w6.heap.size w6 w∧(L 0 = true→v 27 = .agg cs)∧(L 1 = true→v 28 = .bool false)∧(L 2 = true→v 29 = .bool true)∧(L 3 = true→v 30 = .bool true)∧(L 4 = true→v 31 = undef)∧(L 5 = true→v 32 = undef)∧(L 6 = true→v 33 = undef)∧(L 7 = true→v 34 = undef)∧(L 8 = true→v 35 = undef)∧(L 9 = true→v 36 = undef)) [27,28,29,30,31,32,33,34,35,36] (by kernel_rfl) (by kernel_rfl) (by kernel_rfl) (by kernel_rfl) (by kernel_rfl) (by kernel_rfl) ?h0 ?hst ?hend
      case h0 =>
        intro L h0;have h0 : ∀ i,i < 10→L i = false:=h0;exact ⟨rfl,rfl,rfl,(Below.refl _ _).drew,offF h0 (i:=0) (by decide),offF h0 (i:=1) (by decide),offF h0 (i:=2) (by decide),offF h0 (i:=3) (by decide),offF h0 (i:=4) (by decide),offF h0 (i:=5) (by decide),offF h0 (i:=6) (by decide),offF h0 (i:=7) (by decide),offF h0 (i:=8) (by decide),offF h0 (i:=9) (by decide)⟩
      case hst =>
        show FactSteps _ _ _ _ [0,1,2,3,4,5,6,7,8,9]
        refine @FactSteps.cons _ _ _ _ 0 _ [] _ rfl (by kernel_rfl) ?s0 ?_;rotate_left;refine @FactSteps.cons _ _ _ _ 1 _ [0] _ rfl (by kernel_rfl) ?s1 ?_;rotate_left;refine @FactSteps.cons _ _ _ _ 2 _ [1] _ rfl (by kernel_rfl) ?s2 ?_;rotate_left;refine @FactSteps.cons _ _ _ _ 3 _ [2,1] _ rfl (by kernel_rfl) ?s3 ?_;rotate_left;refine @FactSteps.cons _ _ _ _ 4 _ [3] _ rfl (by kernel_rfl) ?s4 ?_;rotate_left;refine @FactSteps.cons _ _ _ _ 5 _ [3] _ rfl (by kernel_rfl) ?s5 ?_;rotate_left;refine @FactSteps.cons _ _ _ _ 6 _ [4,5,3] _ rfl (by kernel_rfl) ?s6 ?_;rotate_left;refine @FactSteps.cons _ _ _ _ 7 _ [3] _ rfl (by kernel_rfl) ?s7 ?_;rotate_left;refine @FactSteps.cons _ _ _ _ 8 _ [7,3] _ rfl (by kernel_rfl) ?s8 ?_;rotate_left;refine @FactSteps.cons _ _ _ _ 9 _ [6,8,3,3] _ rfl (by kernel_rfl) ?s9 ?_;rotate_left;exact FactSteps.nil
        case s0 =>
          rintro L a v w hv hg hL hd hcl ⟨e7,e1,e6,hb,f0,f1,f2,f3,f4,f5,f6,f7,f8,f9⟩ K hK;refine step_do rfl ?_;refine wp_ld rowE (.tmp 7) rfl ((hv 7).trans e7) (k6.below hb k6.lt) SZ.out ?_;exact hK.out _ _ ⟨e7,e1,e6,hb,fun _=>rfl,f1,f2,f3,f4,f5,f6,f7,f8,f9⟩
        case s1 =>
          rintro L a v w hv hg hL hd hcl ⟨e7,e1,e6,hb,f0,f1,f2,f3,f4,f5,f6,f7,f8,f9⟩ K hK;have g0:=f0 (hd 0 (by decide));have hh:=HRT.out w hb;refine step_do rfl ?_;clear hv;go_simp;refine hh.mono ?_;rintro e wy ⟨rfl,bb⟩;exact hK.out _ _ ⟨e7,e1,e6,(hb.trans (bb.mono hb.size)),f0,fun _=>rfl,f2,f3,f4,f5,f6,f7,f8,f9⟩
        case s2 =>
          rintro L a v w hv hg hL hd hcl ⟨e7,e1,e6,hb,f0,f1,f2,f3,f4,f5,f6,f7,f8,f9⟩ K hK;refine step_do rfl ?_;clear hv;go_simp;exact hK.out _ _ ⟨e7,e1,e6,hb,f0,f1,fun _=>rfl,f3,f4,f5,f6,f7,f8,f9⟩
        case s3 =>
          rintro L a v w hv hg hL hd hcl ⟨e7,e1,e6,hb,f0,f1,f2,f3,f4,f5,f6,f7,f8,f9⟩ K hK;have g2:=f2 (hd 2 (by decide));refine step_do rfl ?_;clear hv;go_simp;exact hK.out _ _ ⟨e7,e1,e6,hb,f0,f1,f2,fun _=>rfl,f4,f5,f6,f7,f8,f9⟩
        case s4 =>
          rintro L a v w hv hg hL hd hcl ⟨e7,e1,e6,hb,f0,f1,f2,f3,f4,f5,f6,f7,f8,f9⟩ K hK;refine step_skip (j:=3) (s:=30) (b:=true) rfl rfl ((hv 30).trans (f3 (hd 3 (by decide)))) (by decide) ?_;exact hK.out _ _ ⟨e7,e1,e6,hb,f0,f1,f2,f3,fun _=>rfl,f5,f6,f7,f8,f9⟩
        case s5 =>
          rintro L a v w hv hg hL hd hcl ⟨e7,e1,e6,hb,f0,f1,f2,f3,f4,f5,f6,f7,f8,f9⟩ K hK;refine step_skip (j:=3) (s:=30) (b:=true) rfl rfl ((hv 30).trans (f3 (hd 3 (by decide)))) (by decide) ?_;exact hK.out _ _ ⟨e7,e1,e6,hb,f0,f1,f2,f3,f4,fun _=>rfl,f6,f7,f8,f9⟩
        case s6 =>
          rintro L a v w hv hg hL hd hcl ⟨e7,e1,e6,hb,f0,f1,f2,f3,f4,f5,f6,f7,f8,f9⟩ K hK;refine step_skip (j:=3) (s:=30) (b:=true) rfl rfl ((hv 30).trans (f3 (hd 3 (by decide)))) (by decide) ?_;exact hK.out _ _ ⟨e7,e1,e6,hb,f0,f1,f2,f3,f4,f5,fun _=>rfl,f7,f8,f9⟩
        case s7 =>
          rintro L a v w hv hg hL hd hcl ⟨e7,e1,e6,hb,f0,f1,f2,f3,f4,f5,f6,f7,f8,f9⟩ K hK;refine step_skip (j:=3) (s:=30) (b:=true) rfl rfl ((hv 30).trans (f3 (hd 3 (by decide)))) (by decide) ?_;exact hK.out _ _ ⟨e7,e1,e6,hb,f0,f1,f2,f3,f4,f5,f6,fun _=>rfl,f8,f9⟩
        case s8 =>
          rintro L a v w hv hg hL hd hcl ⟨e7,e1,e6,hb,f0,f1,f2,f3,f4,f5,f6,f7,f8,f9⟩ K hK;refine step_skip (j:=3) (s:=30) (b:=true) rfl rfl ((hv 30).trans (f3 (hd 3 (by decide)))) (by decide) ?_;exact hK.out _ _ ⟨e7,e1,e6,hb,f0,f1,f2,f3,f4,f5,f6,f7,fun _=>rfl,f9⟩
        case s9 =>
          rintro L a v w hv hg hL hd hcl ⟨e7,e1,e6,hb,f0,f1,f2,f3,f4,f5,f6,f7,f8,f9⟩ K hK;refine step_skip (j:=3) (s:=30) (b:=true) rfl rfl ((hv 30).trans (f3 (hd 3 (by decide)))) (by decide) ?_;exact hK.out _ _ ⟨e7,e1,e6,hb,f0,f1,f2,f3,f4,f5,f6,f7,f8,fun _=>rfl⟩
      case hend =>
      rintro L v w7 hall ⟨e7,e1,e6,hb,f0,f1,f2,f3,f4,f5,f6,f7,f8,f9⟩;have hL : ∀ i,i < 10→L i = true:=hall;have f0:=f0 (hL 0 (by decide));have f1:=f1 (hL 1 (by decide));have f2:=f2 (hL 2 (by decide));have f3:=f3 (hL 3 (by decide));have f4:=f4 (hL 4 (by decide));have f5:=f5 (hL 5 (by decide));have f6:=f6 (hL 6 (by decide));have f7:=f7 (hL 7 (by decide));have f8:=f8 (hL 8 (by decide));have f9:=f9 (hL 9 (by decide))
      simp only [finA,List.foldl_cons,List.foldl_nil,Act.put,List.setIfInBounds_toArray,List.set_cons_succ,List.set_cons_zero,f0,f2,f3,f4,f5,f6,f7,f8,f9,f1]
      have b7:=HB6.out.trans (hb.mono HB6.out.size);clear e7 e1 e6 f0 f1 f2 f3 f4 f5 f6 f7 f8 f9 hL hall hb
      show wpList _ _ _ [_] _ _
      have HS7:=Lib.hid (HS0.out.below b7);clear HHAS HD6 hl6 b7 k6 HB6 HRT HOK6 HOK;go_wp2_with fail;go_ret;rw [HD.out];exact ⟨rfl,HS7.out.fin hbw⟩
    rw [hrt] at HRT;have HRG:=Lib.hid hrt;clear hrt;refine wp_region_tailF 9 10 (fun L v w=>v 7 = .pointer (some ⟨gr,0,none⟩)∧v 1 = .slice (some ad) n2 c2∧v 6 = .int .i64 (k : Nat)∧Below w6.heap.size w6 w∧(L 0 = true→v 27 = .agg cs)∧(L 1 = true→v 28 = .bool true)∧(L 2 = true→v 29 = .bool false)∧(L 3 = true→v 30 = .bool false)∧(L 4 = true→v 31 = .slice (some ad) n2 c2)∧(L 5 = true→v 32 = .int .i64 (k : Nat))∧(L 6 = true→v 33 = .slice (some ad) k c2)∧(L 7 = true→v 34 = .pointer (some ⟨gr,0,none⟩))∧(L 8 = true→v 35 = .agg #[.int .i64 x.e.d.1,.int .i64 x.e.d.2])∧(L 9 = true→v 36 = .bool R)) [27,28,29,30,31,32,33,34,35,36] (by kernel_rfl) (by kernel_rfl) (by kernel_rfl) (by kernel_rfl) (by kernel_rfl) (by kernel_rfl) ?h0 ?hst ?hend
    case h0 =>
      intro L h0;have h0 : ∀ i,i < 10→L i = false:=h0;exact ⟨rfl,rfl,rfl,(Below.refl _ _).drew,offF h0 (i:=0) (by decide),offF h0 (i:=1) (by decide),offF h0 (i:=2) (by decide),offF h0 (i:=3) (by decide),offF h0 (i:=4) (by decide),offF h0 (i:=5) (by decide),offF h0 (i:=6) (by decide),offF h0 (i:=7) (by decide),offF h0 (i:=8) (by decide),offF h0 (i:=9) (by decide)⟩
    case hst =>
      show FactSteps _ _ _ _ [0,1,2,3,4,5,6,7,8,9]
      refine @FactSteps.cons _ _ _ _ 0 _ [] _ rfl (by kernel_rfl) ?s0 ?_;rotate_left;refine @FactSteps.cons _ _ _ _ 1 _ [0] _ rfl (by kernel_rfl) ?s1 ?_;rotate_left;refine @FactSteps.cons _ _ _ _ 2 _ [1] _ rfl (by kernel_rfl) ?s2 ?_;rotate_left;refine @FactSteps.cons _ _ _ _ 3 _ [2,1] _ rfl (by kernel_rfl) ?s3 ?_;rotate_left;refine @FactSteps.cons _ _ _ _ 4 _ [3] _ rfl (by kernel_rfl) ?s4 ?_;rotate_left;refine @FactSteps.cons _ _ _ _ 5 _ [3] _ rfl (by kernel_rfl) ?s5 ?_;rotate_left;refine @FactSteps.cons _ _ _ _ 6 _ [4,5,3] _ rfl (by kernel_rfl) ?s6 ?_;rotate_left;refine @FactSteps.cons _ _ _ _ 7 _ [3] _ rfl (by kernel_rfl) ?s7 ?_;rotate_left;refine @FactSteps.cons _ _ _ _ 8 _ [7,3] _ rfl (by kernel_rfl) ?s8 ?_;rotate_left;refine @FactSteps.cons _ _ _ _ 9 _ [6,8,3,3] _ rfl (by kernel_rfl) ?s9 ?_;rotate_left;exact FactSteps.nil
      case s0 =>
        rintro L a v w hv hg hL hd hcl ⟨e7,e1,e6,hb,f0,f1,f2,f3,f4,f5,f6,f7,f8,f9⟩ K hK;refine step_do rfl ?_;refine wp_ld rowE (.tmp 7) rfl ((hv 7).trans e7) (k6.below hb k6.lt) SZ.out ?_;exact hK.out _ _ ⟨e7,e1,e6,hb,fun _=>rfl,f1,f2,f3,f4,f5,f6,f7,f8,f9⟩
      case s1 =>
        rintro L a v w hv hg hL hd hcl ⟨e7,e1,e6,hb,f0,f1,f2,f3,f4,f5,f6,f7,f8,f9⟩ K hK;have g0:=f0 (hd 0 (by decide));have hh:=HRT.out w hb;refine step_do rfl ?_;clear hv;go_simp;refine hh.mono ?_;rintro e wy ⟨rfl,bb⟩;exact hK.out _ _ ⟨e7,e1,e6,(hb.trans (bb.mono hb.size)),f0,fun _=>rfl,f2,f3,f4,f5,f6,f7,f8,f9⟩
      case s2 =>
        rintro L a v w hv hg hL hd hcl ⟨e7,e1,e6,hb,f0,f1,f2,f3,f4,f5,f6,f7,f8,f9⟩ K hK;refine step_do rfl ?_;clear hv;go_simp;exact hK.out _ _ ⟨e7,e1,e6,hb,f0,f1,fun _=>rfl,f3,f4,f5,f6,f7,f8,f9⟩
      case s3 =>
        rintro L a v w hv hg hL hd hcl ⟨e7,e1,e6,hb,f0,f1,f2,f3,f4,f5,f6,f7,f8,f9⟩ K hK;have g2:=f2 (hd 2 (by decide));refine step_do rfl ?_;clear hv;go_simp;exact hK.out _ _ ⟨e7,e1,e6,hb,f0,f1,f2,fun _=>rfl,f4,f5,f6,f7,f8,f9⟩
      case s4 =>
        rintro L a v w hv hg hL hd hcl ⟨e7,e1,e6,hb,f0,f1,f2,f3,f4,f5,f6,f7,f8,f9⟩ K hK;have g3:=f3 (hd 3 (by decide));refine step_want (j:=3) (s:=30) (b:=false) rfl rfl ((hv 30).trans (f3 (hd 3 (by decide)))) ?_;clear hv;go_simp;exact hK.out _ _ ⟨e7,e1,e6,hb,f0,f1,f2,f3,fun _=>rfl,f5,f6,f7,f8,f9⟩
      case s5 =>
        rintro L a v w hv hg hL hd hcl ⟨e7,e1,e6,hb,f0,f1,f2,f3,f4,f5,f6,f7,f8,f9⟩ K hK;have g3:=f3 (hd 3 (by decide));refine step_want (j:=3) (s:=30) (b:=false) rfl rfl ((hv 30).trans (f3 (hd 3 (by decide)))) ?_;clear hv;go_simp;exact hK.out _ _ ⟨e7,e1,e6,hb,f0,f1,f2,f3,f4,fun _=>rfl,f6,f7,f8,f9⟩
      case s6 =>
        rintro L a v w hv hg hL hd hcl ⟨e7,e1,e6,hb,f0,f1,f2,f3,f4,f5,f6,f7,f8,f9⟩ K hK;have g3:=f3 (hd 3 (by decide));have g4:=f4 (hd 4 (by decide));have g5:=f5 (hd 5 (by decide));have g4:=f4 (hd 4 (by decide));have g5:=f5 (hd 5 (by decide))
        have p0 : (0 : Int)≤(k : Int):=by omega
        have p3 : (k : Int)≤(c2 : Int):=by omega
        have p4 : k≤c2:=by omega
        refine step_want (j:=3) (s:=30) (b:=false) rfl rfl ((hv 30).trans (f3 (hd 3 (by decide)))) ?_;clear hv;go_simp;exact hK.out _ _ ⟨e7,e1,e6,hb,f0,f1,f2,f3,f4,f5,fun _=>rfl,f7,f8,f9⟩
      case s7 =>
        rintro L a v w hv hg hL hd hcl ⟨e7,e1,e6,hb,f0,f1,f2,f3,f4,f5,f6,f7,f8,f9⟩ K hK;have g3:=f3 (hd 3 (by decide));refine step_want (j:=3) (s:=30) (b:=false) rfl rfl ((hv 30).trans (f3 (hd 3 (by decide)))) ?_;clear hv;go_simp;exact hK.out _ _ ⟨e7,e1,e6,hb,f0,f1,f2,f3,f4,f5,f6,fun _=>rfl,f8,f9⟩
      case s8 =>
        rintro L a v w hv hg hL hd hcl ⟨e7,e1,e6,hb,f0,f1,f2,f3,f4,f5,f6,f7,f8,f9⟩ K hK;have g7:=f7 (hd 7 (by decide));refine step_want (j:=3) (s:=30) (b:=false) rfl rfl ((hv 30).trans (f3 (hd 3 (by decide)))) ?_;refine wp_ldr rowDt2 (.tmp 34) rfl ((hv 34).trans g7) (range_keep HD6.out hb hl6) rfl ?_;exact hK.out _ _ ⟨e7,e1,e6,hb,f0,f1,f2,f3,f4,f5,f6,f7,fun _=>rfl,f9⟩
      case s9 =>
        rintro L a v w hv hg hL hd hcl ⟨e7,e1,e6,hb,f0,f1,f2,f3,f4,f5,f6,f7,f8,f9⟩ K hK;have g6:=f6 (hd 6 (by decide));have g8:=f8 (hd 8 (by decide));have hh:=HHAS.out w hb;refine step_want (j:=3) (s:=30) (b:=false) rfl rfl ((hv 30).trans (f3 (hd 3 (by decide)))) ?_;clear hv;go_simp;refine hh.mono ?_;rintro e wy ⟨rfl,bb⟩;exact hK.out _ _ ⟨e7,e1,e6,(hb.trans (bb.mono hb.size)),f0,f1,f2,f3,f4,f5,f6,f7,f8,fun _=>rfl⟩
    case hend =>
    rintro L v w7 hall ⟨e7,e1,e6,hb,f0,f1,f2,f3,f4,f5,f6,f7,f8,f9⟩;have hL : ∀ i,i < 10→L i = true:=hall;have f0:=f0 (hL 0 (by decide));have f1:=f1 (hL 1 (by decide));have f2:=f2 (hL 2 (by decide));have f3:=f3 (hL 3 (by decide));have f4:=f4 (hL 4 (by decide));have f5:=f5 (hL 5 (by decide));have f6:=f6 (hL 6 (by decide));have f7:=f7 (hL 7 (by decide));have f8:=f8 (hL 8 (by decide));have f9:=f9 (hL 9 (by decide))
    simp only [finA,List.foldl_cons,List.foldl_nil,Act.put,List.setIfInBounds_toArray,List.set_cons_succ,List.set_cons_zero,f0,f2,f3,f4,f5,f6,f7,f1,f8,f9]
    have b7:=HB6.out.trans (hb.mono HB6.out.size);have k7:=k6.below hb k6.lt;have HOK7:=Lib.hid (HOK6.out w7 hb);have HOB7:=Lib.hid ((HOBk.out.below (HBS.out.trans (hb.mono HBS.out.size)) (Nat.le_refl _)));clear e7 e1 e6 f0 f1 f2 f3 f4 f5 f6 f7 f8 f9 hL hall hb
    show wpList _ _ _ [_] _ _
    have HB7:=Lib.hid b7;have HS7:=Lib.hid (HS0.out.below b7);clear HHAS HD6 hl6 b7 k6 HB6 HRT HOK6 HOK HOBk
    cases R
    case true =>
      have HD:=Lib.hid (compact_bad (size:=size) (S:=S) (evs:=xs.map (·.e)) HE1.out.1 (.inr HR.out.symm));go_wp2_with fail;go_ret;rw [HD.out];exact ⟨rfl,HS7.out.fin hbw⟩
    have HT:=Lib.hid (by have:=rrecord_any x w7 HOK7.out HRG.out (by have:=HMK.out;omega);rw [← HCX.out] at this;exact this)
    go_wp2_with ((with_reducible refine wpList_ld rowE k7 SZ.out ?_ ?_);rotate_left;(rfl))
    refine HT.out.mono ?_;rintro e w8 ⟨A3,n3,c3,rfl,o3,b8⟩;have bal : Below w8.heap.size w8 (w8.alloc (.cells #[.slice A3 n3 c3] 22)):=(Below.refl _ _).alloc (Nat.le_refl _) _;have h7s : ws.heap.size≤w7.heap.size:=HB7.out.size;have HOB8:=Lib.hid ((HOB7.out.below b8 (Nat.le_refl _)).below bal (Nat.le_refl _));have HO3:=Lib.hid ((o3.mono h7s).below bal (Nat.le_refl _));have HRD:=Lib.hid (Rd.made w8 #[.slice A3 n3 c3] 22 (0,0));have hb8:=(HB7.out.trans (b8.mono h7s)).trans (bal.mono (Nat.le_trans h7s b8.size));have HB8:=Lib.hid hb8;have h8s:=b8.size;clear o3 b8 bal hb8 HOB7 k7
    go_wp2_with (at_builtin;refine wpList_appS rfl (.tmp 38) (.tmp 41) rfl rfl HOB8.out rfl (e:=(A3,n3,c3)) HRD.out HO3.out ?hd2 ?hd3 ?_)
    case hd2=>omega
    case hd3=>simp;omega
    intro A9 c9 w9 ob9 b9;have HOB9:=Lib.hid ob9;have HB9:=Lib.hid (HB8.out.trans b9);clear ob9 b9 HOB8 HO3 HRD;go_wp2_with fail
    go_roundw
    case rel=>exact ⟨k + 1,A9,c9,by omega,by go_num,rfl,by
      have h:=HOB9.out;rw [show recsC S ((l2.map (·.e)).take (k + 1)) = recsC S ((l2.map (·.e)).take k) ++ [told3 x.e] by rw [HE1.out.2];unfold recsC;rw [List.map_append];rfl]
      exact h,HGD.out.succ HE1.out.1 HRG.out HR.out.symm,HB9.out⟩
    case measure=>simp [intOf];omega
  obtain rfl : k = n2:=by omega
  have hkk : ¬ (k : Int) < (k : Int):=by omega
  have hfull : (l2.map (·.e)).take k = l2.map (·.e):=List.take_of_length_le (by rw [List.length_map,← HN2.out];omega)
  have hgd : goodTo (l2.map (·.e)) (l2.map (·.e)).length:=by rw [List.length_map,← HN2.out];exact HGD.out
  have hob:=HOBk.out;rw [hfull] at hob
  have h4096 : (recsC S (l2.map (·.e))).all (·.length≤4096) = true:=by
    rw [List.all_eq_true];intro y hy
    unfold recsC at hy
    rcases List.mem_cons.1 hy with rfl | hy
    · have:=told_len 1 S.upto;exact decide_eq_true (by omega)
    · rcases List.mem_cons.1 hy with rfl | hy
      · have:=told_len 2 S.inc;exact decide_eq_true (by omega)
      · obtain ⟨e,he,rfl⟩:=List.mem_map.1 hy
        obtain ⟨z,hz,rfl⟩:=List.mem_map.1 he;obtain ⟨i,hi,rfl⟩:=List.getElem_of_mem hz;have hp:=((HXO.out ws (Only.refl _ _)).2 i _ (List.getElem?_eq_getElem hi)).1.1;have hr:=(hgd i l2[i].e (by rw [List.length_map];exact hi) (by rw [List.getElem?_map,List.getElem?_eq_getElem hi];rfl)).1
        have:=told3_len hp hr
        exact decide_eq_true (by omega)
  have hrw:=rlrewriteD_any A' (2 + k) c' wr.heap.size _ F g size S.b wr HSR.out.sw.disk hs0 hob.rd (Nat.le_refl _) (by omega)
  have hrm : rewriteD size S.b (recsC S (l2.map (·.e))) = if (frms (recsC S (l2.map (·.e)))).length≤size then (0,Db.of (frms (recsC S (l2.map (·.e))))) else (7,S.b):=by unfold rewriteD;rw [if_pos h4096]
  rw [hrm] at hrw;have c0d : wr.cell? ⟨b,0,none⟩ = some (.pointer (some ⟨g,0,none⟩)):=HSR.out.sw.blk.cell 0
  have hcd : compactD size S (xs.map (·.e)) (l2.map (·.e)) = if (frms (recsC S (l2.map (·.e)))).length≤size then (0,{ S with b:=Db.of (frms (recsC S (l2.map (·.e)))) },l2.map (·.e)) else (7,S,xs.map (·.e)):=by unfold compactD;rw [if_pos hgd]
  by_cases hroom : (frms (recsC S (l2.map (·.e)))).length≤size
  case neg =>
    rw [if_neg hroom] at hrw hcd;have HD:=Lib.hid hcd;have HRW:=Lib.hid hrw;clear hrw hcd hrm hroom hob hgd h4096 hfull;go_wp2_with fail;refine HRW.out.mono ?_;rintro e w4 ⟨hee,d4⟩;obtain rfl : e = .returned (.int .i64 ((7 : Nat) : Int)):=hee;obtain ⟨F4,s4⟩:=HSR.out.op d4;have HS4:=Lib.hid s4;clear d4 s4;go_wp2_with fail;go_ret;rw [HD.out];exact ⟨rfl,HS4.out.fin hbw⟩
  rw [if_pos hroom] at hrw hcd;have HD:=Lib.hid hcd;have HRW:=Lib.hid hrw;clear hrw hcd hrm hroom hob hgd h4096 hfull;go_wp2_with fail;refine HRW.out.mono ?_;rintro e w4 ⟨hee,d4⟩;obtain rfl : e = .returned (.int .i64 ((0 : Nat) : Int)):=hee;obtain ⟨F4,s4⟩:=HSR.out.op d4;have hbw4 : Only (fun k=>F k∨k = b) ws w4:=s4.sw.only;have HS4:=Lib.hid s4;have HOW:=Lib.hid (rcopies07_any A2 k c2 l2 w4 hn2 (HXO.out w4 hbw4) HM.out);have hbase : base≤w4.heap.size:=Nat.le_trans hB hbw4.size;clear d4 s4 HRW;go_wp2_with fail;refine HOW.out.mono ?_;rintro e w5 ⟨Ac,cc,ys,rfl,oc,oy,hye,b5⟩;have s5:=HS4.out.below b5;have kS:=s5.sw.blk;have c4e : w5.cell? ⟨b,4,none⟩ = some (.slice A n c):=kS.cell 4;have u4e:=kS.free 4;have hlb:=kS.lt;have k10:=kS.set_ 4 (.slice Ac k cc)
  have hfin : REOp ws F b g size base A xs { S with b:=Db.of (frms (recsC S (l2.map (·.e)))) } (l2.map (·.e)) (w5.setCell ⟨b,4,none⟩ (.slice Ac k cc)):=by
    have s4:=HS4.out
    have hev : EvsAt w5 F4 b base Ac k cc ys:=⟨oc.mono hbase,fun y hy=>⟨(oy y hy).1,(oy y hy).2.1.mono hbase,(oy y hy).2.2⟩,fun q hq=>by
      have h9:=(oc.lt q hq).1
      exact ⟨fun y=>by have:=s4.sw.disk.lt q y;omega,by have:=s4.sw.blk.lt;omega⟩,fun y hy q hq=>by
      have h9:=((oy y hy).2.1.lt q hq).1
      exact ⟨fun y=>by have:=s4.sw.disk.lt q y;omega,by have:=s4.sw.blk.lt;omega⟩⟩
    have hbF : ∀ q,F4 q→q ≠ b:=fun q hq e=>s4.sw.nb (by rw [← e];exact hq)
    refine ⟨F4,Ac,k,cc,ys,⟨s5.sw.disk.keep ⟨by simp [World.setCell],fun q hq=>Below.heap_setCell w5 _ _ q (hbF q hq)⟩,k10,s4.sw.nb⟩,hev.setT kS (by decide) (by decide) 4 _,hye,?_,fun q hq=>s4.sw.grows q hq,fun q hq=>by
      rcases hq with h | ⟨y,hy,h⟩
      · exact .inr (by have:=(oc.lt q h).1;have:=hbw4.size;omega)
      · exact .inr (by have:=((oy y hy).2.1.lt q h).1;have:=hbw4.size;omega)⟩
    refine Only.setCell ?_ (.inl (.inr (.inl rfl))) _;exact (hbw4.mono (G:=fun k=>F k∨k = b∨A.map (·.block) = some k) fun k hk=>.inl (by rcases hk with q | q;exact .inl q;exact .inr (.inl q))).then_below (b5.mono hbw4.size)
  have HFIN:=Lib.hid hfin;clear hfin k10 oc oy hye b5 s5 kS HOW;go_wp2_with fail;go_ret;rw [HD.out];exact ⟨rfl,HFIN.out⟩
end Sto.Stp
end Go.Proofs.YtfpenfgmpbdakaaGreat

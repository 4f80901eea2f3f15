import Derived.Test.YtfpenfgmpbdakaaGreatFrameRead
import Derived.Test.YtfpenfgmpbdakaaGreatEvNoP
import Derived.Test.YtfpenfgmpbdakaaGreatFrameBods
import Derived.Test.YtfpenfgmpbdakaaGreatFrameAllMath
namespace Go.Proofs.YtfpenfgmpbdakaaGreat
set_option linter.unusedVariables false
set_option linter.unusedSimpArgs false
set_option maxRecDepth 100000
open Go.RowKit
namespace Frame
def AllF (w : World) (bs : List UInt8) (e : Ending) (w' : World) : Prop :=
  ∃ l r A' c',Parts bs l r∧e = .returned (.tuple #[.slice A' l.length c',.int .i64 ((frms l).length : Nat)])∧Bods w' w.heap.size A' l.length c' l∧Below w.heap.size w w'
set_option maxRecDepth 100000 in
set_option maxHeartbeats 400000 in
theorem all_any (a : Addr) (n c : Nat) (bs : List UInt8) (B : Nat) (w : World) (hb : RdB w B (some a) n bs) (hB : B≤w.heap.size) (hl : n≤1099511627776) (hc : n≤c) (hm : c≤maxLen) :
    Calls Tryz.prog 68 #[.slice (some a) n c] w (AllF w bs):=by
  obtain rfl:=hb.1;have k0:=Blk.new w 27 #[.int .i64 0];have hbw : Below w.heap.size w (w.alloc (.cells #[.int .i64 0] 27)):=(Below.refl _ _).alloc (Nat.le_refl _) _
  have hsz : w.heap.size < (w.alloc (.cells #[.int .i64 0] 27)).heap.size:=by simp
  go_enter_defers Tryz.func68,Tryz.ntmps68
  go_wp2_with fail
  generalize w.alloc (.cells #[.int .i64 0] 27) = w0 at *
  go_loopw [2,3] (fun v i wr=>∃ (l : List (List UInt8)) (r : List UInt8) (A' : Option Addr) (c' : Nat),bs = frms l ++ r∧(∀ x ∈ l,x.length≤4096)∧i = .int .i64 ((frms l).length : Nat)∧v = .slice A' l.length c'∧Bods wr w0.heap.size A' l.length c' l∧Below w0.heap.size w0 wr) (fun _ i _=>bs.length - (intOf i).toNat)
  case atStart=>exact ⟨[],bs,none,0,rfl,by simp,rfl,rfl,Bods.nil _ _,Below.refl _ _⟩
  case round =>
    obtain ⟨l,r,A',c',hbs,hxl,rfl,rfl,hbo,hbel⟩:=hrel
    have hlen : (frms l).length + r.length = bs.length:=by rw [hbs,List.length_append]
    have hdr : bs.drop (frms l).length = r:=by rw [hbs,List.drop_left]
    obtain ⟨m,hmm⟩ : ∃ m,m = (frms l).length:=⟨_,rfl⟩;rw [← hmm] at hlen hdr ⊢;have HM:=Lib.hid hmm;have HBS:=Lib.hid hbs;clear hmm hbs
    have hlw : l.length≤bs.length:=by
      have : l.length≤(frms l).length:=by
        clear hlen hdr hxl hbo HM HBS
        induction l with
        | nil=>simp
        | cons x l ih=>rw [frms_cons,List.length_append,List.length_cons];have:=frm_pos x;omega
      have:=HM.out
      omega
    have hr1:=(hb.below ((hbw.trans (hbel.mono (by omega))).mono hB)).drop m;rw [hdr,show bs.length - m = r.length by omega] at hr1;have HDR:=Lib.hid hdr;clear hdr
    have hr2 : RdB wr B (if c = m then some a else some (a.add m)) r.length r:=by
      split
      · have : r = []:=List.eq_nil_of_length_eq_zero (by omega)
        rw [this];exact RdB.nil _ _ _
      · exact hr1
    obtain ⟨A2,hA2⟩ : ∃ A2,A2 = (if c = m then some a else some (a.add m)):=⟨_,rfl⟩;rw [← hA2] at hr2;have hA3:=hA2.symm;clear hA2 hr1
    have le1 : m≤bs.length:=by omega
    have le2 : bs.length - m = r.length:=by omega
    have hB0 : B≤wr.heap.size:=by have:=hbel.size;omega
    have k1:=k0.below hbel k0.lt;have hbw2:=hbw.trans (hbel.mono (by omega))
    rcases hd : dec r with y | ⟨x,z⟩
    · have HD:=Lib.hid hd
      clear hd;go_wp2_with fail;refine (read_any _ _ _ r B _ hr2 hB0 (by omega) (by omega) (by omega)).mono ?_;rintro e w1 ⟨hb1,he⟩;rw [HD.out] at he
      simp only at he
      subst he;have k2:=k1.below hb1 k1.lt;have hb2:=hbw2.trans (hb1.mono hbw2.size);have hbo2:=hbo.below hb1 (Nat.le_refl _);go_wp2_with fail;refine leaves_cons (f:=93) (args:=#[.pointer (some ⟨w.heap.size,0,none⟩)]) (by simp) (by simp [go_sem]) ?_;refine (caught_panic _ _ _ _ _ (k2.cell 0) (k2.free 0)).mono ?_;rintro e u' w'' ⟨rfl,rfl,rfl⟩;have k3:=(k2.alloc (.cells #[.int .i64 (y : Nat)] 156)).set_ 0 (.int .i64 (y : Nat));have c3:=k3.cell 0;have hb3 : Below w.heap.size w ((w1.alloc (.cells #[.int .i64 (y : Nat)] 156)).setCell ⟨w.heap.size,0,none⟩ (.int .i64 (y : Nat))):=(hb2.alloc hb2.size _).setCell (Nat.le_refl _) _;have hbo3:=(hbo2.below ((Below.refl w1.heap.size w1).alloc (Nat.le_refl _) (.cells #[.int .i64 (y : Nat)] 156)) (Nat.le_refl _)).low (p:=⟨w.heap.size,0,none⟩) (by show w.heap.size < _;omega) (.int .i64 (y : Nat));refine ⟨.tuple #[.slice A' l.length c',.int .i64 (m : Nat)],by simp [results,Tryz.results68,go_sem],l,r,A',c',⟨HBS.out,hxl,y,HD.out⟩,?_,hbo3.mono (by omega),hb3⟩;rw [HM.out]
    · have HD:=Lib.hid hd
      obtain ⟨hfx,hx4⟩:=dec_ok hd
      have hfl : (frm x).length + z.length = r.length:=by rw [hfx,List.length_append]
      obtain ⟨q,hq⟩ : ∃ q,q = (frm x).length:=⟨_,rfl⟩;have hpos:=frm_pos x;rw [← hq] at hfl hpos;have HQ:=Lib.hid hq;have HF:=Lib.hid hfx;clear hd hfx hq
      obtain rfl : A2 = some (a.add m):=by rw [← hA3,if_neg (by omega)]
      clear hA3;go_wp2_with fail;refine (read_any _ _ _ r B _ hr2 hB0 (by omega) (by omega) (by omega)).mono ?_;rintro e w1 ⟨hb1,he⟩;rw [HD.out] at he
      simp only at he
      obtain ⟨A3,c3,rfl,hx3⟩:=he;rw [← HQ.out];have k2:=k1.below hb1 k1.lt;have hb2:=hbw2.trans (hb1.mono hbw2.size);have hbl2:=hbel.trans (hb1.mono hbel.size);have hbo2:=hbo.below hb1 (Nat.le_refl _);have hB1 : B≤w1.heap.size:=Nat.le_trans hB0 hb1.size;go_wp2_with fail;refine (clone_any _ _ _ _ _ _ hx3 hB1 (by omega)).mono ?_;rintro e w2 ⟨A4,n4,c4,rfl,ho4,hb4⟩;have k3:=k2.below hb4 k2.lt;have hb3:=hb2.trans (hb4.mono hb2.size);have hbl3:=hbl2.trans (hb4.mono hbl2.size);have hbo3:=hbo2.below hb4 (Nat.le_refl _);have hs2:=hbl2.size;have hs3:=hbl3.size
      go_wp2_with (at_builtin;refine wpList_appS rfl (.tmp 14) (.tmp 17) rfl rfl (hbo3.below ((Below.refl _ _).alloc (Nat.le_refl _) _) (Nat.le_refl _)) (e:=(A4,n4,c4)) rfl (Rd.made _ _ _ _) ((ho4.alloc _).mono hs2) (by omega) ?hz1 ?_)
      case hz1=>simp;omega
      intro A5 c5 w3 hbo5 hb5;have hbl5:=(hbl3.alloc hs3 _).trans hb5;go_wp2_with fail
      go_roundw
      case rel =>
        refine ⟨l ++ [x],z,A5,c5,?_,?_,?_,?_,?_,hbl5⟩
        · rw [frms_snoc,List.append_assoc,← HF.out]
          exact HBS.out
        · intro y hy
          rw [List.mem_append,List.mem_singleton] at hy
          rcases hy with hy | rfl
          · exact hxl y hy
          · exact hx4
        · rw [frms_snoc,List.length_append,← HM.out,← HQ.out]
          rfl
        · simp
        · simpa using hbo5
      case measure=>simp [intOf];omega
end Frame
end Go.Proofs.YtfpenfgmpbdakaaGreat

import Derived.Test.YtcgalmnllegnbaaDotClone
namespace Go.Proofs.Ytcgalmnllegnbaa
set_option linter.unusedVariables false
set_option linter.unusedSimpArgs false
set_option maxRecDepth 100000
open Go.RowKit
open Dot
def nums (l : List Dt) : List Int:=l.flatMap fun d=>[d.1,d.2]
theorem nums_snoc (l : List Dt) (d : Dt) : nums (l ++ [d]) = nums l ++ [d.1,d.2]:=by unfold nums;rw [List.flatMap_append];rfl
set_option maxHeartbeats 1000000 in
theorem each_put1 (gs n c m0 base : Nat) (A : Option Addr) (l : List Dt) (M : List Int) (w : World) (hl : RdD w base A n l) (hn : n≤768) (hm0 : m0≤100) (hbase : base≤gs) (hb0 : base≤w.heap.size)
    (A0 : Option Addr) (c0 : Nat) (hB : Blk w gs 75 #[.slice A0 m0 c0]) (hO : OwnI w base A0 m0 c0 M) (hne : A0.map (·.block) ≠ some gs) :
    Calls Try.prog 73 #[.slice A n c,.func (.func 74) #[] #[.pointer (some ⟨gs,0,none⟩)]] w fun e w'=>e = .returned (.tuple #[])∧∃ A' c',Blk w' gs 75 #[.slice A' (m0 + 2 * n) c']∧OwnI w' base A' (m0 + 2 * n) c' (M ++ nums l)∧A'.map (·.block) ≠ some gs∧Below base w w':=by
  have hen : ∀ (args : Array Value) (w : World),(callFunc 74 args).run Try.prog w = .ok (.enter 74 args) w:=fun _ _=>rfl
  have HN:=Lib.hid hl.1
  go_enter Try.func73,Try.ntmps73
  go_wp2_with fail
  go_loopw [8] (fun i wr=>∃ (k : Nat) (A' : Option Addr) (c' : Nat),k≤n∧i = .int .i64 k∧Blk wr gs 75 #[.slice A' (m0 + 2 * k) c']∧OwnI wr base A' (m0 + 2 * k) c' (M ++ nums (l.take k))∧A'.map (·.block) ≠ some gs∧Below base w wr) (fun i _=>n - (intOf i).toNat)
  case atStart=>exact ⟨0,A0,c0,by omega,rfl,hB,by simpa [nums] using hO,hne,Below.refl _ _⟩
  case round =>
    clear hB hO hne;obtain ⟨k,A1,c1,hk,rfl,hB,hO,hne,hb⟩:=hrel
    by_cases hlt : k < n
    · have hkl : k < l.length:=by rw [← HN.out];exact hlt
      obtain ⟨ad,rfl,hdt⟩:=(hl.below hb).2 k _ (List.getElem?_eq_getElem hkl);have htk : l.take (k + 1) = l.take k ++ [l[k]]:=take_snoc l hkl;have hsn:=nums_snoc (l.take k) l[k];rw [← htk] at hsn
      generalize l[k] = d at *
      obtain ⟨x,q⟩:=d;obtain ⟨q5,q0,q1⟩:=hdt
      simp only at q0 q1 hsn
      have HSN:=Lib.hid hsn;clear hsn htk;obtain ⟨wn,hwn⟩ : ∃ wn,wn = wr.alloc (.cells #[.int .i64 x,.int .i64 q] 46):=⟨_,rfl⟩;obtain ⟨gd,hgd⟩ : ∃ gd,gd = wr.heap.size:=⟨_,rfl⟩
      have kn : Blk wn gd 46 #[.int .i64 x,.int .i64 q]:=by rw [hwn,hgd];exact Blk.new wr _ _
      have hB1 : Blk wn gs 75 #[.slice A1 (m0 + 2 * k) c1]:=by rw [hwn];exact hB.alloc _
      have hO1 : OwnI wn base A1 (m0 + 2 * k) c1 (M ++ nums (l.take k)):=by rw [hwn];exact hO.alloc _
      have hb1 : Below base w wn:=by rw [hwn];exact hb.alloc (by have:=hb.size;omega) _
      have HW:=Lib.hid hwn;have HGD:=Lib.hid hgd;clear hwn hgd
      go_upto_region 3 with fail
      rw [← HW.out,← HGD.out];have t0 : wn.cell? ⟨gd,0,none⟩ = some (.int .i64 x):=kn.cell 0;have t1 : wn.cell? ⟨gd,1,none⟩ = some (.int .i64 q):=kn.cell 1;clear q0 q1 hB hO hb;go_wp2_with fail;refine (put1_app gs (m0 + 2 * k) c1 base x q A1 _ wn hB1 hO1 hne hbase (by omega)).mono ?_;rintro e w5 ⟨rfl,A2,c2,k2,o2,hne2,b2⟩;rw [List.append_assoc,← HSN.out] at o2;have hb2:=hb1.trans b2;clear t0 t1 kn hB1 hO1 hb1 b2 hne;go_wp2_with fail
      go_roundw
      case rel=>exact ⟨k + 1,A2,c2,by omega,by go_num,k2,o2,hne2,hb2⟩
      case measure=>simp [intOf];omega
    · have hkn : k = n:=by omega
      have hkd : decide ((k : Int) < (n : Int)) = false:=decide_eq_false (by omega);subst hkn;rw [HN.out,List.take_length,← HN.out] at hO;go_wp2_with fail
      go_end0
      exact ⟨rfl,A1,c1,hB,hO,hne,hb⟩
end Go.Proofs.Ytcgalmnllegnbaa

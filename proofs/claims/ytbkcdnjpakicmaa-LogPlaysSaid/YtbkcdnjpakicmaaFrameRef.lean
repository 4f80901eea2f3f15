/- The walks of the document's Put of frames. -/
import Derived.Test.YtbkcdnjpakicmaaFramePut
import Derived.Test.YtbkcdnjpakicmaaRef02
namespace Go.Proofs.Ytbkcdnjpakicmaa
open Go.RowKit
namespace Frame
theorem rput_long (A : Option Addr) (n c : Nat) (w : World) (hl : 4096 < n) :
    Calls Try.prog 14 #[.slice A n c] w fun e w' => e = .returned (.tuple #[.slice none 0 0, .int .i64 6]) ∧ w = w' := by
  have hd : decide ((4096 : Int) < (n : Int)) = true := decide_eq_true (by omega)
  go_enter Try.func14, Try.ntmps14
  go_wp2_with fail
  go_ret2
  exact ⟨rfl, rfl⟩
theorem rput_ok (A : Option Addr) (n c : Nat) (bs : List UInt8) (B : Nat) (w : World) (hb : RdB w B A n bs) (hB : B ≤ w.heap.size) (hl : n ≤ 4096) :
    Calls Try.prog 14 #[.slice A n c] w (GiveBE w (frm bs) 0) := by
  obtain rfl := hb.1
  have hd : decide ((4096 : Int) < (bs.length : Int)) = false := decide_eq_false (by omega)
  have hel := Vint.enc_length bs.length
  go_enter Try.func14, Try.ntmps14
  go_wp2_with fail
  refine (Go.Proofs.Ytbkcdnjpakicmaa.rput_ok _ _ _ [1] bs.length _ _ (RdB.made _ [1] _ _ _ ?hx1) (by simp) (by simp) (by omega)).mono ?_
  case hx1 => rfl
  rintro e w1 ⟨A1, n1, c1, rfl, ho1, hb1⟩
  have hbl1 : Below w.heap.size w w1 := ((Below.refl _ _).alloc (Nat.le_refl _) _).trans (hb1.mono (by simp))
  have hr1 := (hb.more hB).below hbl1
  have ho1' := ho1.mono (base' := w.heap.size) (by simp)
  have hn1 := ho1.1
  rw [List.length_append] at hn1
  simp only [List.length_cons, List.length_nil] at hn1
  have hn7 : n1 ≤ 7 := by omega
  clear ho1 hel hn1
  go_wp2_with (at_builtin; refine wpList_appB rfl (.tmp 17) (.tmp 18) rfl rfl ho1' rfl hr1 ?hy0 hbl1.size ?_)
  case hy0 => omega
  intro A2 c2 w2 ho2 _ _ hbl2
  have hb2 := hbl1.trans hbl2
  have hd2 : OwnB w2 w.heap.size A2 (n1 + bs.length) c2 (head bs) := ho2
  clear ho2
  go_wp2_with fail
  refine (Crc.rsum_any _ _ _ _ _ _ hd2.rd (by unfold maxLen; omega)).mono ?_
  rintro e w3 ⟨rfl, rfl⟩
  have hs := Crc.sum_lt (head bs)
  obtain ⟨s, hs0⟩ : ∃ s, s = Crc.sum (head bs) := ⟨_, rfl⟩
  rw [← hs0] at hs ⊢
  have HS0 := Lib.hid hs0
  clear hs0
  go_wp2_with (at_builtin; refine wpList_appB rfl (.tmp 22) (.tmp 34) rfl rfl (hd2.alloc _) rfl (RdB.made _ (be s) _ _ _ ?hz1) ?hz0 ?hz2 ?_)
  case hz1 => simp [be, bv, Vint.toNat_ofNat]; omega
  case hz0 => show n1 + bs.length + 4 ≤ _; omega
  case hz2 => have := hb2.size; simp; omega
  intro A4 c4 w4 ho4 _ _ hbl4
  have hb4 := (hb2.alloc hb2.size _).trans hbl4
  go_wp2_with fail
  go_ret2
  refine ⟨_, _, _, rfl, ?_, hb4⟩
  rw [HS0.out] at ho4
  exact ho4
end Frame
end Go.Proofs.Ytbkcdnjpakicmaa

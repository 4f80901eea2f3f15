/- The walk of alive of the layer of frames. -/
import Derived.Test.YtbkcdnjpakicmaaFrameGet
namespace Go.Proofs.Ytbkcdnjpakicmaa
open Go.RowKit
namespace Frame
theorem frm_nil : ∃ p q r s, frm [] = [1, 0, p, q, r, s] := ⟨_, _, _, _, rfl⟩
theorem dec5 (p q r : UInt8) : dec [1, 0, p, q, r] = .error 3 := by
  have h : Vint.dec [0, p, q, r] = .ok (0, [p, q, r]) := Vint.dec_enc (n := 0) (by decide) [p, q, r]
  exact dec_short h (by omega) (by simp)
set_option maxRecDepth 100000 in
theorem alive04 (w : World) : Calls Try.prog 11 #[] w fun e w' => e = .returned (.bool true) ∧ Below w.heap.size w w' := by
  obtain ⟨p, q, r, s, hfr⟩ := frm_nil
  have hd5 := dec5 p q r
  have hd9 := dec_frm (b := []) (by simp) [9]
  rw [hfr] at hd9
  have H5 := Lib.hid hd5
  have H9 := Lib.hid hd9
  clear hd5 hd9
  go_enter Try.func11, Try.ntmps11
  go_wp2_with fail
  refine (put_ok none 0 0 [] 0 w (RdB.nil _ _ _) (Nat.zero_le _) (by omega)).mono ?_
  rintro e w1 ⟨A1, n1, c1, rfl, ho1, hb1⟩
  rw [hfr] at ho1
  obtain rfl := ho1.1
  obtain ⟨g, rfl, hg1, hg2⟩ := ho1.form (by simp)
  have q0 := ho1.cell (j := 0) (by simp)
  have q1 := ho1.cell (j := 1) (by simp)
  have hle := ownsRow_le ho1.2
  simp only [List.length_cons, List.length_nil] at hle
  have hc5 : 5 ≤ c1 := by omega
  have hm1 := hle.2
  have rd := ho1.rd
  have rd5 : RdB w1 w1.heap.size (some ⟨g, 0, none⟩) 5 [1, 0, p, q, r] := rd.take (k := 5) (by simp)
  have HFR := Lib.hid hfr
  clear hfr hle
  go_upto_region 4 with fail
  go_wp2_with fail
  refine (get_any _ _ _ _ _ _ rd5 (Nat.le_refl _) (by omega) hc5 hm1).mono ?_
  rintro e w2 ⟨hb2, he⟩
  rw [H5.out] at he
  simp only at he
  subst he
  have ho2 := ho1.below hb2 (Nat.le_refl _)
  have hB2 := hb1.trans (hb2.mono hb1.size)
  go_upto_region 5 with fail
  go_wp2_with (at_builtin; refine wpList_appB rfl (.tmp 40) (.tmp 41) rfl rfl (OwnB.made w2 w2.heap.size [] #[] 0 rfl rfl (Nat.le_refl _) (Nat.zero_le _)) rfl (ho2.rd.alloc (Nat.le_refl _) _) ?hx0 (by simp) ?_)
  case hx0 => simp
  intro A3 c3 w3 ho3 _ _ hbl3
  have hB3 : Below w2.heap.size w2 w3 := ((Below.refl _ _).alloc (Nat.le_refl _) _).trans hbl3
  go_wp2_with (at_builtin; refine wpList_appB rfl (.tmp 42) (.tmp 43) rfl rfl (ho3.alloc _) rfl (RdB.made _ [9] _ _ _ (by rfl)) ?hy0 ?hy2 ?_)
  case hy0 => simp
  case hy2 => have := hB3.size; simp; omega
  intro A4 c4 w4 ho4 _ _ hbl4
  have hB4 := (hB3.alloc hB3.size _).trans hbl4
  have hle := ownsRow_le ho4.2
  have r4 := ho4.rd
  have hB4' := hB2.trans (hB4.mono hB2.size)
  go_wp2_with fail
  refine (get_any _ _ _ _ _ _ r4 (Nat.le_refl _) (by omega) hle.1 hle.2).mono ?_
  rintro e w5 ⟨hb5, he⟩
  rw [show dec [1, 0, p, q, r, s, 9] = .ok ([], [9]) from H9.out] at he
  simp only at he
  obtain ⟨A5, c5, A6, c6, rfl, _, _, _⟩ := he
  have hB5 := hB4'.trans (hb5.mono hB4'.size)
  go_wp2_with fail
  go_ret
  exact ⟨rfl, hB5⟩
end Frame
end Go.Proofs.Ytbkcdnjpakicmaa

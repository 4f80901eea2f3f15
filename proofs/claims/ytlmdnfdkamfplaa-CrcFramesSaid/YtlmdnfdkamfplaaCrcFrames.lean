/- CrcFrames: bytes with their sum behind them all have one sum: the whole statement, without a condition. -/
import Derived.Test.YtlmdnfdkamfplaaCrcWalks
import Derived.Test.YtlmdnfdkamfplaaBytes
import Derived.Test.YtlmdnfdkamfplaaShell
namespace Go.Proofs.Ytlmdnfdkamfplaa.CrcFrames
open Go.ChangeShapes Go.WideShapes Go.ChangeAt Go.RowKit
set_option linter.unusedVariables false

theorem whole_any (a0 : Option Addr) (n0 c0 : Nat) (b0 : List UInt8) (B : Nat) (w : World) (hb0 : RdB w B a0 n0 b0) (hB : B ≤ w.heap.size) (hg0 : n0 ≤ 3000) :
    Calls Try.prog 14 #[.slice a0 n0 c0] w fun e w' => e = .returned (.int .u32 (Crc.T (Crc.T (Crc.T (Crc.T Crc.ones))) ^^^ Crc.ones : Nat)) ∧ Below w.heap.size w w' := by
  go_enter Try.func14, Try.ntmps14
  go_wp2_with fail
  refine (Crc.sum_any _ _ _ _ _ _ hb0 (by unfold maxLen; omega)).mono ?_
  rintro e w1 ⟨rfl, rfl⟩
  have hs := Crc.sum_lt b0
  have hf := Lib.hid (Crc.sum_framed b0)
  generalize Crc.sum b0 = s at hs hf ⊢
  go_wp2_with (at_builtin; refine wpList_appB rfl (.tmp 6) (.tmp 7) rfl rfl (OwnB.made w w.heap.size [] #[] 0 rfl rfl (Nat.le_refl _) (Nat.zero_le _)) rfl (hb0.alloc hB _) (by omega) (by simp) ?_)
  intro A' c' w2 ho1 _ _ hbl1
  have hB2 : Below w.heap.size w w2 := ((Below.refl _ _).alloc (Nat.le_refl _) _).trans hbl1
  have hbs : w.heap.size ≤ w2.heap.size := hB2.size
  go_wp2_with (at_builtin; refine wpList_appB rfl (.tmp 8) (.tmp 20) rfl rfl (ho1.alloc _) rfl (RdB.made _ (Crc.bytesOf s) _ _ _ ?hx) (by simp; omega) ?hy ?_)
  case hx => simp [Crc.bytesOf, bv]; omega
  case hy => simp; omega
  intro A2 c2 w3 ho2 _ _ hbl2
  have hB3 : Below w.heap.size w w3 := (hB2.alloc hbs _).trans hbl2
  go_wp2_with fail
  refine (Crc.sum_any _ _ _ _ _ _ ho2.rd (by unfold maxLen; omega)).mono ?_
  rintro e w4 ⟨rfl, rfl⟩
  rw [hf.out]
  go_wp2_with fail
  go_ret
  exact ⟨rfl, hB3⟩

theorem walk (a0 : Option Addr) (n0 c0 : Nat) (b0 : List UInt8) (a1 : Option Addr) (n1 c1 : Nat) (b1 : List UInt8) (w : World) (hb0 : RdB w w.heap.size a0 n0 b0) (hl0 : n0 ≤ maxLen) (hb1 : RdB w w.heap.size a1 n1 b1) (hl1 : n1 ≤ maxLen) :
    Calls Try.prog 6 #[.slice a0 n0 c0, .slice a1 n1 c1] w fun e w' => e = .returned (.bool true) ∧ Below w.heap.size w w' := by
  unfold maxLen at hl0 hl1
  by_cases hg0 : n0 ≤ 3000
  · by_cases hg1 : n1 ≤ 3000
    · have hd0 : decide ((3000 : Int) < (n0 : Int)) = false := by simp; omega
      have hd1 : decide ((3000 : Int) < (n1 : Int)) = false := by simp; omega
      go_enter Try.func6, Try.ntmps6
      go_wp2_with fail
      refine (Crc.alive_any _).mono ?_
      rintro e w1 ⟨rfl, h1⟩
      have hx0 := hb0.below h1
      go_wp2_with fail
      refine (whole_any _ _ _ _ _ _ hx0 h1.size hg0).mono ?_
      rintro e w2 ⟨rfl, h2⟩
      have h12 := h1.trans (h2.mono h1.size)
      have hx1 := hb1.below h12
      go_wp2_with fail
      refine (whole_any _ _ _ _ _ _ hx1 h12.size hg1).mono ?_
      rintro e w3 ⟨rfl, h3⟩
      have h13 := h12.trans (h3.mono h12.size)
      go_wp2_with fail
      go_ret
      exact ⟨rfl, h13⟩
    · have hd0 : decide ((3000 : Int) < (n0 : Int)) = false := by simp; omega
      have hd1 : decide ((3000 : Int) < (n1 : Int)) = true := by simp; omega
      go_enter Try.func6, Try.ntmps6
      go_wp2_with fail
      refine (Crc.alive_any _).mono ?_
      rintro e w1 ⟨rfl, h1⟩
      go_wp2_with fail
      go_ret
      exact ⟨rfl, h1⟩
  · have hd0 : decide ((3000 : Int) < (n0 : Int)) = true := by simp; omega
    go_enter Try.func6, Try.ntmps6
    go_wp2_with fail
    refine (Crc.alive_any _).mono ?_
    rintro e w1 ⟨rfl, h1⟩
    go_wp2_with fail
    go_ret
    exact ⟨rfl, h1⟩

set_option maxRecDepth 100000 in
theorem lifted (os : Os) (started : os.Started) (H : Type) (enc : TypeId × Value → H) :
    ReturnsInHanded {} Try.checked os 6 .any (Rows.crcFramesSpec.pre6 enc Try.prog Try.f6 Rows.crcFramesRow.domain false) (Rows.crcFramesSpec.post enc Try.prog Try.f6 false true false false) := by
  refine returnsInHanded_of_change (C := Try.checked) own started (by kernel_rfl) Try.func6
    (ChangeSpec.witness6 (enc := enc) (C := Try.checked) false ⟨#[], #[.slice none 0 0, .slice none 0 0], []⟩ 8 (by kernel_rfl) (by kernel_rfl) (by kernel_rfl) (by kernel_rfl)) ?_
  intro W base args ds gs before hval0 hW hcnd _
  have hval : ∀ (j : Nat) t v, Try.f6.params[j]? = some t → args[j]? = some v → Value.okWide Try.prog W .any base t v := hval0
  have hW' := hW
  obtain ⟨p, q, hA0, hV, rfl, hfz, hnd⟩ := hW
  have hA : DataW.TrodAll enc Try.prog W 0 (fun _ => true) true Try.f6.params.toList args.toList ds p := hA0
  rw [Try.params6] at hA hval
  obtain ⟨v0, vs0, d0, ds0, p0, q0, hargs, rfl, rfl, h0, r0⟩ := trodAll_cons hA
  obtain ⟨v1, vs1, d1, ds1, p1, q1, rfl, rfl, rfl, h1, r1⟩ := trodAll_cons r0
  obtain ⟨rfl, rfl, rfl⟩ := trodAll_nil r1
  obtain rfl : args = #[v0, v1] := by cases args; simp_all
  obtain ⟨rfl, rfl⟩ := trodVars_none hV
  have lt0 : ∀ x ∈ p0, x.block < W.heap.size := by obtain ⟨m, hm⟩ := h0; exact DataW.trod_lt m _ _ _ hm
  have k0 := h0
  have lt1 : ∀ x ∈ p1, x.block < W.heap.size := by obtain ⟨m, hm⟩ := h1; exact DataW.trod_lt m _ _ _ hm
  have k1 := h1
  obtain ⟨a0, n0, c0, b0, rfl, w0, l0⟩ := open_bytes (hval 0 22 v0 rfl rfl) h0
  obtain ⟨a1, n1, c1, b1, rfl, w1, l1⟩ := open_bytes (hval 1 22 v1 rfl rfl) h1
  clear hA0 hval0
  refine (walk a0 n0 c0 b0 a1 n1 c1 b1 W w0 l0 w1 l1).mono fun e W' ⟨he, bel⟩ => ?_
  subst he
  exact ⟨_, rfl, _, _, _, [], _, [], hW', trodAll_mk1 (shut_bool Try.underlying4 _), (trodAll_cons_mk (Below.trod laidOut (by kernel_rfl) (of_decide_eq_true (by kernel_rfl)) k0 bel lt0) (trodAll_cons_mk (Below.trod laidOut (by kernel_rfl) (of_decide_eq_true (by kernel_rfl)) k1 bel lt1) trodAll_mk0)), rfl, bel.frame _, fun h => by cases h⟩

theorem proved : Rows.CrcFramesSaid :=
  OpenClaim.holds_of_wide 6 Try.f6 rfl rfl rfl rfl rfl rfl rfl ⟨rfl, rfl, rfl, rfl, rfl⟩ rfl rfl rfl rfl rfl (by kernel_rfl) Try.func6 (by kernel_rfl)
    (of_decide_eq_true (by kernel_rfl)) (by unfold Func.isWrapper; first | (rw [if_pos (by decide +kernel)]; kernel_rfl) | (rw [if_neg (by decide +kernel)]; exact ⟨rfl, rfl⟩))
    (fun os started H enc _ => lifted os started H enc)
#print axioms proved
end Go.Proofs.Ytlmdnfdkamfplaa.CrcFrames

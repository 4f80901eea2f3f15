/- FramePuts: any body as a frame, or the error, is the document's; the body stays: the whole statement, without a condition. -/
import Derived.Test.YtbkcdnjpakicmaaFrameAlive
import Derived.Test.YtbkcdnjpakicmaaFrameRef
import Derived.Test.YtbkcdnjpakicmaaShell
namespace Go.Proofs.Ytbkcdnjpakicmaa.FramePuts
open Go.ChangeShapes Go.WideShapes Go.ChangeAt Go.RowKit
set_option linter.unusedVariables false

set_option maxRecDepth 100000 in
theorem walk (a0 : Option Addr) (n0 c0 : Nat) (b0 : List UInt8) (w : World) (hb0 : RdB w w.heap.size a0 n0 b0) (hl0 : n0 ≤ maxLen) :
    Calls Try.prog 3 #[.slice a0 n0 c0] w fun e w' => e = .returned (.bool true) ∧ Below w.heap.size w w' := by
  unfold maxLen at hl0
  by_cases hg : n0 ≤ 5000
  · have hd1 : decide ((5000 : Int) < (n0 : Int)) = false := decide_eq_false (by omega)
    go_enter Try.func3, Try.ntmps3
    go_wp2_with fail
    refine (Frame.alive04 _).mono ?_
    rintro e w1 ⟨rfl, h1⟩
    go_wp2_with fail
    refine (lent_any _ _ _ _ _ _ (hb0.below h1) h1.size (by omega)).mono ?_
    rintro e w2 ⟨g, rfl, hg2, hl2, h2⟩
    have h12 := h1.trans (h2.mono h1.size)
    have hb2 := hb0.below h12
    obtain rfl := hb0.1
    have hr2 := lent_rd hl2
    by_cases hs : b0.length ≤ 4096
    · go_wp2_with fail
      refine (Frame.put_ok _ _ _ b0 _ _ hr2 (Nat.le_refl _) hs).mono ?_
      rintro e w3 ⟨A3, n3, c3, rfl, ho3, h3⟩
      have h13 := h12.trans (h3.mono h12.size)
      have hb3 := hb0.below h13
      go_wp2_with fail
      refine (Frame.rput_ok _ _ _ b0 _ _ hb3 h13.size hs).mono ?_
      rintro e w4 ⟨A4, n4, c4, rfl, ho4, h4⟩
      have ho3b := ho3.below h4 (Nat.le_refl _)
      have h14 := h13.trans (h4.mono h13.size)
      have hb4 := hb0.below h14
      have hl4 := (hl2.below h3 hl2.lt).below h4 (by have := h3.size; have := hl2.lt; omega)
      have hfl := Frame.frm_length b0
      have hel := Vint.enc_length b0.length
      have hn3 := ho3.1
      have HN := Lib.hid hn3
      have hn9 : n3 ≤ 9223372036854775807 := by omega
      clear hn3 hfl hel
      go_wp2_with fail
      refine (same_eq _ _ _ _ _ _ _ _ _ _ ho3b.rd ho4.rd hn9).mono ?_
      rintro e w5 ⟨rfl, m5, rfl⟩
      have h15 := below_drewN h14 m5
      have hb5 : RdB (w4.drewN m5) w.heap.size a0 b0.length b0 := hb4
      have hl5 : Blk (w4.drewN m5) g 5 (lentL b0 4).toArray := hl4
      generalize w4.drewN m5 = w5 at *
      go_wp2_with fail
      refine (kept_any g _ _ _ b0 _ _ hl5 hb5 (by omega)).mono ?_
      rintro e w6 ⟨rfl, m6, rfl⟩
      go_wp2_with fail
      go_ret
      exact ⟨rfl, below_drewN h15 _⟩
    · go_wp2_with fail
      refine (Frame.put_long _ _ _ _ (by omega)).mono ?_
      rintro e w3 ⟨rfl, rfl⟩
      go_wp2_with fail
      refine (Frame.rput_long _ _ _ _ (by omega)).mono ?_
      rintro e w3 ⟨rfl, rfl⟩
      go_wp2_with fail
      refine (same_eq _ _ _ _ _ _ [] _ _ _ (RdB.nil _ 0 _) (RdB.nil _ 0 _) (by omega)).mono ?_
      rintro e w5 ⟨rfl, m5, rfl⟩
      have h15 := below_drewN h12 m5
      have hb5 : RdB (w2.drewN m5) w.heap.size a0 b0.length b0 := hb2
      have hl5 : Blk (w2.drewN m5) g 5 (lentL b0 4).toArray := hl2
      generalize w2.drewN m5 = w5 at *
      go_wp2_with fail
      refine (kept_any g _ _ _ b0 _ _ hl5 hb5 (by omega)).mono ?_
      rintro e w6 ⟨rfl, m6, rfl⟩
      go_wp2_with fail
      go_ret
      exact ⟨rfl, below_drewN h15 _⟩
  · have hd1 : decide ((5000 : Int) < (n0 : Int)) = true := decide_eq_true (by omega)
    go_enter Try.func3, Try.ntmps3
    go_wp2_with fail
    refine (Frame.alive04 _).mono ?_
    rintro e w1 ⟨rfl, h1⟩
    go_wp2_with fail
    go_ret
    exact ⟨rfl, h1⟩

set_option maxRecDepth 100000 in
theorem lifted (os : Os) (started : os.Started) (H : Type) (enc : TypeId × Value → H) :
    ReturnsInHanded {} Try.checked os 3 .any (Rows.framePutsSpec.pre6 enc Try.prog Try.f3 Rows.framePutsRow.domain false) (Rows.framePutsSpec.post enc Try.prog Try.f3 false true false false) := by
  refine returnsInHanded_of_change (C := Try.checked) own started (by kernel_rfl) Try.func3
    (ChangeSpec.witness6 (enc := enc) (C := Try.checked) false ⟨#[], #[.slice none 0 0], []⟩ 8 (by kernel_rfl) (by kernel_rfl) (by kernel_rfl) (by kernel_rfl)) ?_
  intro W base args ds gs before hval0 hW hcnd _
  have hval : ∀ (j : Nat) t v, Try.f3.params[j]? = some t → args[j]? = some v → Value.okWide Try.prog W .any base t v := hval0
  have hW' := hW
  obtain ⟨p, q, hA0, hV, rfl, hfz, hnd⟩ := hW
  have hA : DataW.TrodAll enc Try.prog W 0 (fun _ => true) true Try.f3.params.toList args.toList ds p := hA0
  rw [Try.params3] at hA hval
  obtain ⟨v0, vs0, d0, ds0, p0, q0, hargs, rfl, rfl, h0, r0⟩ := trodAll_cons hA
  obtain ⟨rfl, rfl, rfl⟩ := trodAll_nil r0
  obtain rfl : args = #[v0] := by cases args; simp_all
  obtain ⟨rfl, rfl⟩ := trodVars_none hV
  have lt0 : ∀ x ∈ p0, x.block < W.heap.size := by obtain ⟨m, hm⟩ := h0; exact DataW.trod_lt m _ _ _ hm
  have k0 := h0
  obtain ⟨a0, n0, c0, b0, rfl, w0, l0⟩ := open_bytes (hval 0 22 v0 rfl rfl) h0
  clear hA0 hval0
  refine (walk a0 n0 c0 b0 W w0 l0).mono fun e W' ⟨he, bel⟩ => ?_
  subst he
  exact ⟨_, rfl, _, _, _, [], _, [], hW', trodAll_mk1 (shut_bool Try.underlying4 _), (trodAll_cons_mk (Below.trod laidOut (by kernel_rfl) (of_decide_eq_true (by kernel_rfl)) k0 bel lt0) trodAll_mk0), rfl, bel.frame _, fun h => by cases h⟩

theorem proved : Rows.FramePutsSaid :=
  OpenClaim.holds_of_wide 3 Try.f3 rfl rfl rfl rfl rfl rfl rfl ⟨rfl, rfl, rfl, rfl, rfl⟩ rfl rfl rfl rfl rfl (by kernel_rfl) Try.func3 (by kernel_rfl)
    (of_decide_eq_true (by kernel_rfl)) (by unfold Func.isWrapper; first | (rw [if_pos (by decide +kernel)]; kernel_rfl) | (rw [if_neg (by decide +kernel)]; exact ⟨rfl, rfl⟩))
    (fun os started H enc _ => lifted os started H enc)
#print axioms proved
end Go.Proofs.Ytbkcdnjpakicmaa.FramePuts

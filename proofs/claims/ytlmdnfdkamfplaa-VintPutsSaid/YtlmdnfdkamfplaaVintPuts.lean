/- VintPuts: any number behind any bytes, or the error, is the document's; the bytes that are handed in stay: the whole statement, without a condition. -/
import Derived.Test.YtlmdnfdkamfplaaVintAlive
import Derived.Test.YtlmdnfdkamfplaaShell
namespace Go.Proofs.Ytlmdnfdkamfplaa.VintPuts
open Go.ChangeShapes Go.WideShapes Go.ChangeAt Go.RowKit
set_option linter.unusedVariables false

set_option maxRecDepth 100000 in
set_option maxHeartbeats 1000000 in
theorem walk (a0 : Option Addr) (n0 c0 : Nat) (b0 : List UInt8) (x : Int) (w : World) (hb0 : RdB w w.heap.size a0 n0 b0) (hl0 : n0 ≤ maxLen) (hx0 : -9223372036854775808 ≤ x) (hx1 : x ≤ 9223372036854775807) :
    Calls Try.prog 7 #[.slice a0 n0 c0, .int .i64 x] w fun e w' => e = .returned (.bool true) ∧ Below w.heap.size w w' := by
  unfold maxLen at hl0
  by_cases hg : n0 ≤ 1000
  · have hd1 : decide ((1000 : Int) < (n0 : Int)) = false := decide_eq_false (by omega)
    by_cases hbad : x < 0 ∨ 1099511627776 < x
    · go_enter Try.func7, Try.ntmps7
      go_wp2_with fail
      refine (alive02 _).mono ?_
      rintro e w1 ⟨rfl, h1⟩
      go_wp2_with fail
      refine (lent_any _ _ _ _ _ _ (hb0.below h1) h1.size (by omega)).mono ?_
      rintro e w2 ⟨g, rfl, hg2, hl2, h2⟩
      have h12 := h1.trans (h2.mono h1.size)
      have hb2 := hb0.below h12
      go_wp2_with fail
      refine (put_bad _ _ _ _ _ hbad).mono ?_
      rintro e w3 ⟨rfl, rfl⟩
      go_wp2_with fail
      refine (rput_bad _ _ _ _ _ hbad).mono ?_
      rintro e w3 ⟨rfl, rfl⟩
      go_wp2_with fail
      refine (same_eq _ _ _ _ _ _ [] _ _ _ (RdB.nil _ 0 _) (RdB.nil _ 0 _) (by omega)).mono ?_
      rintro e w3 ⟨rfl, m, rfl⟩
      go_wp2_with fail
      have hl3 : Blk (w2.drewN m) g 5 (lentL b0 4).toArray := hl2
      have hb3 : RdB (w2.drewN m) w.heap.size a0 n0 b0 := hb2
      have h13 := below_drewN h12 m
      generalize w2.drewN m = w3 at *
      go_loop [41] (fun i => i = .int .i64 0) (fun _ => 0)
      case atStart => exact rfl
      case round =>
        obtain rfl := hrel
        go_wp2_with fail
        refine (kept_any g _ _ _ b0 _ _ hl3 hb3 (by omega)).mono ?_
        rintro e w4 ⟨rfl, m4, rfl⟩
        go_wp2_with fail
        go_ret
        exact ⟨rfl, below_drewN h13 _⟩
    · obtain ⟨y, rfl⟩ := Int.eq_ofNat_of_zero_le (show 0 ≤ x by omega)
      have hy : y ≤ 1099511627776 := by omega
      clear hbad hx0 hx1
      have hel := Vint.enc_length y
      have hbl : b0.length ≤ 1000 := by rw [← hb0.1]; exact hg
      go_enter Try.func7, Try.ntmps7
      go_wp2_with fail
      refine (alive02 _).mono ?_
      rintro e w1 ⟨rfl, h1⟩
      go_wp2_with fail
      refine (lent_any _ _ _ _ _ _ (hb0.below h1) h1.size (by omega)).mono ?_
      rintro e w2 ⟨g, rfl, hg2, hl2, h2⟩
      have h12 := h1.trans (h2.mono h1.size)
      have hb2 := hb0.below h12
      go_wp2_with fail
      refine (put_ok _ _ _ b0 _ _ _ (lent_rd hl2) (Nat.le_refl _) (by omega) hy).mono ?_
      rintro e w3 ⟨A3, n3, c3, rfl, ho3, h3⟩
      have h13 := h12.trans (h3.mono h12.size)
      have hb3 := hb0.below h13
      have hl3 := hl2.below h3 hl2.lt
      go_wp2_with fail
      refine (rput_ok _ _ _ b0 _ _ _ hb3 h13.size (by omega) hy).mono ?_
      rintro e w4 ⟨A4, n4, c4, rfl, ho4, h4⟩
      have h14 := h13.trans (h4.mono h13.size)
      have hb4 := hb0.below h14
      have hl4 := hl3.below h4 hl3.lt
      have ho34 := ho3.below h4 (Nat.le_refl _)
      have hn3 : n3 ≤ 1006 := by rw [ho3.1, List.length_append, ← hb0.1]; omega
      have s4 : g < w2.heap.size := hl2.lt
      go_wp2_with fail
      refine (same_eq _ _ _ _ _ _ _ _ _ _ ho34.rd ho4.rd (by omega)).mono ?_
      rintro e w5 ⟨rfl, m, rfl⟩
      have hl5 : Blk (w4.drewN m) g 5 (lentL b0 4).toArray := hl4
      have hb5 : RdB (w4.drewN m) w.heap.size a0 n0 b0 := hb4
      have ho5 : OwnB (w4.drewN m) w2.heap.size A3 n3 c3 (b0 ++ Vint.enc y) := ho34
      have h15 := below_drewN h14 m
      clear hl4 hb4 ho34 ho4 h14 hl3 hb3 ho3 h13 hb2 hl2 h4 h3
      generalize w4.drewN m = w5 at *
      generalize b0 ++ Vint.enc y = bs at ho5
      go_wp2_with fail
      go_loopw [41] (fun i wr => ∃ (k : Nat) (bs : List UInt8), k ≤ n3 ∧ i = .int .i64 k ∧ OwnB wr w2.heap.size A3 n3 c3 bs ∧ Below w2.heap.size w5 wr) (fun i _ => n3 - (intOf i).toNat)
      case atStart => exact ⟨0, bs, by omega, rfl, ho5, Below.refl _ _⟩
      case round =>
        obtain ⟨k, bs2, hk, rfl, hok, hbk⟩ := hrel
        by_cases hlt : k < n3
        · obtain ⟨g3, rfl, hg3, _⟩ := hok.form (by omega)
          have hkl : k < bs2.length := by rw [← hok.1]; exact hlt
          have hc := hok.cell hkl
          have hf := hok.free k
          obtain ⟨z, hz⟩ : ∃ z, z = bs2[k] := ⟨_, rfl⟩
          rw [← hz] at hc
          clear hz
          have a1 := u8_next z
          go_wp2_with fail
          go_roundw
          case rel => exact ⟨k + 1, _, by omega, by go_num, hok.set_ k (UInt8.ofNat (z.toNat + 1)), hbk.setCell hg3 _⟩
          case measure => simp [intOf]; omega
        · go_wp2_with fail
          have hlk := hl5.below hbk s4
          have h1k := h15.trans (hbk.mono h12.size)
          refine (kept_any g _ _ _ b0 _ _ hlk (hb0.below h1k) (by omega)).mono ?_
          rintro e w4 ⟨rfl, m4, rfl⟩
          go_wp2_with fail
          go_ret
          exact ⟨rfl, below_drewN h1k _⟩
  · have hd1 : decide ((1000 : Int) < (n0 : Int)) = true := decide_eq_true (by omega)
    go_enter Try.func7, Try.ntmps7
    go_wp2_with fail
    refine (alive02 _).mono ?_
    rintro e w1 ⟨rfl, h1⟩
    go_wp2_with fail
    go_ret
    exact ⟨rfl, h1⟩
set_option maxRecDepth 100000 in
theorem lifted (os : Os) (started : os.Started) (H : Type) (enc : TypeId × Value → H) :
    ReturnsInHanded {} Try.checked os 7 .any (Rows.vintPutsSpec.pre6 enc Try.prog Try.f7 Rows.vintPutsRow.domain false) (Rows.vintPutsSpec.post enc Try.prog Try.f7 false true false false) := by
  refine returnsInHanded_of_change (C := Try.checked) own started (by kernel_rfl) Try.func7
    (ChangeSpec.witness6 (enc := enc) (C := Try.checked) false ⟨#[], #[.slice none 0 0, .int .i64 0], []⟩ 8 (by kernel_rfl) (by kernel_rfl) (by kernel_rfl) (by kernel_rfl)) ?_
  intro W base args ds gs before hval0 hW hcnd _
  have hval : ∀ (j : Nat) t v, Try.f7.params[j]? = some t → args[j]? = some v → Value.okWide Try.prog W .any base t v := hval0
  have hW' := hW
  obtain ⟨p, q, hA0, hV, rfl, hfz, hnd⟩ := hW
  have hA : DataW.TrodAll enc Try.prog W 0 (fun _ => true) true Try.f7.params.toList args.toList ds p := hA0
  rw [Try.params7] at hA hval
  obtain ⟨v0, vs0, d0, ds0, p0, q0, hargs, rfl, rfl, h0, r0⟩ := trodAll_cons hA
  obtain ⟨v1, vs1, d1, ds1, p1, q1, rfl, rfl, rfl, h1, r1⟩ := trodAll_cons r0
  obtain ⟨rfl, rfl, rfl⟩ := trodAll_nil r1
  obtain rfl : args = #[v0, v1] := by cases args; simp_all
  obtain ⟨rfl, rfl⟩ := trodVars_none hV
  have lt0 : ∀ x ∈ p0, x.block < W.heap.size := by obtain ⟨m, hm⟩ := h0; exact DataW.trod_lt m _ _ _ hm
  have k0 := h0
  have lt1 : ∀ x ∈ p1, x.block < W.heap.size := by obtain ⟨m, hm⟩ := h1; exact DataW.trod_lt m _ _ _ hm
  have k1 := h1
  obtain ⟨a0, n0, c0, b0, rfl, w0, l0⟩ := open_bytes (hval 0 22 v0 rfl rfl) h0
  obtain ⟨x1, rfl, rfl, rfl, wf1⟩ := open_int Try.underlying3 (hval 1 3 v1 rfl rfl) h1
  have hb1 : -9223372036854775808 ≤ x1 ∧ x1 ≤ 9223372036854775807 := by
    have hmin : IntKind.i64.min = -9223372036854775808 := rfl
    have hmax : IntKind.i64.max = 9223372036854775807 := rfl
    simp only [Lit.wf, Bool.and_eq_true, decide_eq_true_eq] at wf1
    omega
  clear hA0 hval0
  refine (walk a0 n0 c0 b0 x1 W w0 l0 hb1.1 hb1.2).mono fun e W' ⟨he, bel⟩ => ?_
  subst he
  exact ⟨_, rfl, _, _, _, [], _, [], hW', trodAll_mk1 (shut_bool Try.underlying4 _), (trodAll_cons_mk (Below.trod laidOut (by kernel_rfl) (of_decide_eq_true (by kernel_rfl)) k0 bel lt0) (trodAll_cons_mk (Below.trod laidOut (by kernel_rfl) (of_decide_eq_true (by kernel_rfl)) k1 bel lt1) trodAll_mk0)), rfl, bel.frame _, fun h => by cases h⟩

theorem proved : Rows.VintPutsSaid :=
  OpenClaim.holds_of_wide 7 Try.f7 rfl rfl rfl rfl rfl rfl rfl ⟨rfl, rfl, rfl, rfl, rfl⟩ rfl rfl rfl rfl rfl (by kernel_rfl) Try.func7 (by kernel_rfl)
    (of_decide_eq_true (by kernel_rfl)) (by unfold Func.isWrapper; first | (rw [if_pos (by decide +kernel)]; kernel_rfl) | (rw [if_neg (by decide +kernel)]; exact ⟨rfl, rfl⟩))
    (fun os started H enc _ => lifted os started H enc)
#print axioms proved
end Go.Proofs.Ytlmdnfdkamfplaa.VintPuts

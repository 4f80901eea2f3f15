/- DiskSwaps: a swap is done whole, or not at all: the whole statement, without a condition. -/
import Derived.Test.YtpnnhghgngkboaaDiskAlive
import Derived.Test.YtpnnhghgngkboaaStep
namespace Go.Proofs.Ytpnnhghgngkboaa.DiskSwaps
open Go.ChangeShapes Go.WideShapes Go.ChangeAt Go.RowKit Go.Deep
open Disk
set_option linter.unusedVariables false

theorem cellsQ : (Try.prog).cellsOf 53 = 4 := by kernel_rfl
/-- The struct that came in. -/
theorem open_q {H : Type} {enc : TypeId × Value → H} {W : World} {base : Nat} {sp : Nat → Bool} {held : Bool} {r : Reach} {b0 : Nat} {v : Value} {d : DataW H} {p : List MemPlace}
    (hv : Value.okWide Try.prog W r b0 53 v) (h : DataW.Trod enc Try.prog W base sp held 53 v d p) :
    ∃ (a0 : Option Addr) (n0 c0 : Nat) (b0 : List UInt8) (a1 : Option Addr) (n1 c1 : Nat) (b1 : List UInt8) (a2 : Option Addr) (n2 c2 : Nat) (b2 : List UInt8) (z : Int), v = .agg #[.slice a0 n0 c0, .slice a1 n1 c1, .slice a2 n2 c2, .int .i64 z] ∧
      RdB W W.heap.size a0 n0 b0 ∧ RdB W W.heap.size a1 n1 b1 ∧ RdB W W.heap.size a2 n2 b2 ∧ (n0 ≤ c0 ∧ c0 ≤ maxLen) ∧ (n1 ≤ c1 ∧ c1 ≤ maxLen) ∧ (n2 ≤ c2 ∧ c2 ≤ maxLen) ∧ -9223372036854775808 ≤ z ∧ z ≤ 9223372036854775807 := by
  obtain ⟨cs, rfl, hsz⟩ := okWide_struct Try.underlying53 hv
  rw [cellsQ] at hsz
  obtain ⟨fuel, hf0⟩ := h
  have hf : DataW.trod enc Try.prog W base sp held fuel 53 cs.toList = some (d, p) := hf0
  obtain ⟨_, _, g0⟩ := rd_field Try.underlying53 hf 0 32 0 1 rfl cellsBs
  obtain ⟨_, _, g1⟩ := rd_field Try.underlying53 hf 1 32 1 1 rfl cellsBs
  obtain ⟨_, _, g2⟩ := rd_field Try.underlying53 hf 2 32 2 1 rfl cellsBs
  obtain ⟨_, _, g3⟩ := rd_field Try.underlying53 hf 3 3 3 1 rfl cellsI
  clear hf hf0
  obtain ⟨l⟩ := cs
  match l, hsz with
  | [v0, v1, v2, v3], _ =>
    obtain ⟨a0, n0, c0, b0, e0, r0, l0⟩ := rd_bytes g0
    obtain ⟨a1, n1, c1, b1, e1, r1, l1⟩ := rd_bytes g1
    obtain ⟨a2, n2, c2, b2, e2, r2, l2⟩ := rd_bytes g2
    obtain ⟨z, e3, hz⟩ := rd_int g3
    injection e0 with e0 _
    injection e1 with e1 _
    injection e2 with e2 _
    injection e3 with e3 _
    subst e0 e1 e2 e3
    exact ⟨a0, n0, c0, b0, a1, n1, c1, b1, a2, n2, c2, b2, z, rfl, r0, r1, r2, l0, l1, l2, hz⟩

/-- what is there behind a swap, an append and a crash -/
theorem crash_zero (was next more : List UInt8) : afterL was (([] ++ [(true, next)]) ++ [(false, more)]) 0 = was := after_zero _ _
theorem crash_pos (was next more : List UInt8) (k : Nat) : afterL was (([] ++ [(true, next)]) ++ [(false, more)]) (k + 1) = next ++ more.take k := by
  simp only [List.nil_append, List.cons_append, afterL, units, doW]
  simp
  rw [← List.take_take, List.take_length]
  by_cases h : 0 < min k more.length
  · rw [if_pos h]
  · rw [if_neg h]
    have : more.take k = [] := by
      rw [List.take_eq_nil_iff]
      rcases Nat.eq_zero_or_pos k with h1 | h1
      · exact .inl h1
      · exact .inr (List.length_eq_zero_iff.1 (by omega))
    rw [this, List.append_nil]

set_option maxRecDepth 100000 in
set_option maxHeartbeats 2000000 in
theorem walk (a0 : Option Addr) (n0 c0 : Nat) (b0 : List UInt8) (a1 : Option Addr) (n1 c1 : Nat) (b1 : List UInt8) (a2 : Option Addr) (n2 c2 : Nat) (b2 : List UInt8) (z : Int) (w : World) (r0 : RdB w w.heap.size a0 n0 b0) (r1 : RdB w w.heap.size a1 n1 b1) (r2 : RdB w w.heap.size a2 n2 b2)
    (l0 : n0 ≤ c0 ∧ c0 ≤ maxLen) (l1 : n1 ≤ c1 ∧ c1 ≤ maxLen) (l2 : n2 ≤ c2 ∧ c2 ≤ maxLen) (hz : -9223372036854775808 ≤ z ∧ z ≤ 9223372036854775807) :
    Calls Try.prog 5 #[.agg #[.slice a0 n0 c0, .slice a1 n1 c1, .slice a2 n2 c2, .int .i64 z]] w fun e w' => e = .returned (.bool true) ∧ Below w.heap.size w w' := by
  unfold maxLen at l0 l1 l2
  obtain ⟨wb, hwb⟩ : ∃ wb, wb = w.alloc (.cells #[.slice a0 n0 c0, .slice a1 n1 c1, .slice a2 n2 c2, .int .i64 z] 53) := ⟨_, rfl⟩
  have hb0 : Below w.heap.size w wb := by rw [hwb]; exact (Below.refl _ _).alloc (Nat.le_refl _) _
  have hk0 : Blk wb w.heap.size 53 #[.slice a0 n0 c0, .slice a1 n1 c1, .slice a2 n2 c2, .int .i64 z] := by rw [hwb]; exact Blk.new w _ _
  have HW := Lib.hid hwb
  clear hwb
  by_cases g0 : n0 ≤ 1000
  case neg =>
    have d0 : decide ((1000 : Int) < (n0 : Int)) = true := decide_eq_true (by omega)
    go_enter Try.func5, Try.ntmps5
    go_wp2_with fail
    rw [← HW.out]
    refine (alive13 _).mono ?_
    rintro e w1 ⟨rfl, h1⟩
    have hk1 := hk0.below h1 hk0.lt
    have q0 := hk1.cell 0
    have q1 := hk1.cell 1
    have q2 := hk1.cell 2
    have q3 := hk1.cell 3
    go_wp2_with fail
    go_quiet (fail)
    go_wp2_with fail
    go_ret
    exact ⟨rfl, below_drewN (hb0.trans (h1.mono hb0.size)) _⟩
  by_cases g1 : n1 ≤ 1000
  case neg =>
    have d0 : decide ((1000 : Int) < (n0 : Int)) = false := decide_eq_false (by omega)
    have d1 : decide ((1000 : Int) < (n1 : Int)) = true := decide_eq_true (by omega)
    go_enter Try.func5, Try.ntmps5
    go_wp2_with fail
    rw [← HW.out]
    refine (alive13 _).mono ?_
    rintro e w1 ⟨rfl, h1⟩
    have hk1 := hk0.below h1 hk0.lt
    have q0 := hk1.cell 0
    have q1 := hk1.cell 1
    have q2 := hk1.cell 2
    have q3 := hk1.cell 3
    go_wp2_with fail
    go_quiet (fail)
    go_wp2_with fail
    go_ret
    exact ⟨rfl, below_drewN (hb0.trans (h1.mono hb0.size)) _⟩
  by_cases g2 : n2 ≤ 1000
  case neg =>
    have d0 : decide ((1000 : Int) < (n0 : Int)) = false := decide_eq_false (by omega)
    have d1 : decide ((1000 : Int) < (n1 : Int)) = false := decide_eq_false (by omega)
    have d2 : decide ((1000 : Int) < (n2 : Int)) = true := decide_eq_true (by omega)
    go_enter Try.func5, Try.ntmps5
    go_wp2_with fail
    rw [← HW.out]
    refine (alive13 _).mono ?_
    rintro e w1 ⟨rfl, h1⟩
    have hk1 := hk0.below h1 hk0.lt
    have q0 := hk1.cell 0
    have q1 := hk1.cell 1
    have q2 := hk1.cell 2
    have q3 := hk1.cell 3
    go_wp2_with fail
    go_quiet (fail)
    go_wp2_with fail
    go_ret
    exact ⟨rfl, below_drewN (hb0.trans (h1.mono hb0.size)) _⟩
  have d0 : decide ((1000 : Int) < (n0 : Int)) = false := decide_eq_false (by omega)
  have d1 : decide ((1000 : Int) < (n1 : Int)) = false := decide_eq_false (by omega)
  have d2 : decide ((1000 : Int) < (n2 : Int)) = false := decide_eq_false (by omega)
  have e0 : b0.length ≤ 1000 := by rw [← r0.1]; exact g0
  have e1 : b1.length ≤ 1000 := by rw [← r1.1]; exact g1
  have e2 : b2.length ≤ 1000 := by rw [← r2.1]; exact g2
  go_enter Try.func5, Try.ntmps5
  go_wp2_with fail
  rw [← HW.out]
  refine (alive13 _).mono ?_
  rintro e w1 ⟨rfl, h1⟩
  have hk1 := hk0.below h1 hk0.lt
  have q0 := hk1.cell 0
  have q1 := hk1.cell 1
  have q2 := hk1.cell 2
  have q3 := hk1.cell 3
  go_wp2_with fail
  go_quiet (fail)
  clear q0 q1 q2 q3
  have B1 := below_drewN (hb0.trans (h1.mono hb0.size)) nq
  clear hk1 h1 hk0 hb0
  go_wp2_with fail
  refine (dnew_any 5000 _ (by omega) (by omega)).mono ?_
  rintro e w2 ⟨g, F1, rfl, hD1, hF1, hb1⟩
  have L1 := DL.of_new B1 hD1 hF1 hb1
  clear hD1 hF1 hb1 B1
  go_wp2_with fail
  refine (append_any _ _ _ _ b0 F1 g 5000 [] [] _ L1.1 (by simp [mass]) (by simp) (by omega) (r0.below L1.2.2) (by rw [show readL [] [] = ([] : List UInt8) from rfl]; simp; omega)).mono ?_
  rintro e w3 ⟨rfl, h3⟩
  obtain ⟨F2, L2, _, _⟩ := L1.op h3
  clear h3 L1
  have m2 : ([] : List UInt8).length + mass ([] ++ [(false, b0)]) ≤ 1000 := by simp [mass]; omega
  go_wp2_with fail
  refine (sync_any F2 g 5000 _ _ _ L2.1 (by omega) (by simp)).mono ?_
  rintro e w4 ⟨rfl, h4⟩
  obtain ⟨F3, L3, _, _⟩ := L2.op h4
  rw [show readL [] ([] ++ [(false, b0)]) = b0 by rw [read_app]; rfl] at L3
  clear h4 L2 m2
  go_wp2_with fail
  refine (swap_any _ _ _ _ b1 F3 g 5000 b0 [] _ L3.1 (by simp) (by omega) (r1.below L3.2.2) (by omega)).mono ?_
  rintro e w5 ⟨rfl, h5⟩
  obtain ⟨F4, L4, _, _⟩ := L3.op h5
  clear h5 L3
  have m4 : b0.length + mass ([] ++ [(true, b1)]) ≤ 2000 := by simp [mass]; omega
  go_wp2_with fail
  refine (append_any _ _ _ _ b2 F4 g 5000 b0 _ _ L4.1 (by omega) (by simp) (by omega) (r2.below L4.2.2) (by rw [read_swap]; omega)).mono ?_
  rintro e w6 ⟨rfl, h6⟩
  obtain ⟨F5, L5, _, _⟩ := L4.op h6
  clear h6 L4 m4
  have m5 : b0.length + mass (([] ++ [(true, b1)]) ++ [(false, b2)]) ≤ 3000 := by simp [mass]; omega
  have w5l : (([] ++ [(true, b1)]) ++ [(false, b2)] : List W).length ≤ 2 := by simp
  by_cases hzp : z < 1
  · have t1 : decide (z < 1) = true := decide_eq_true hzp
    have hfin : ∀ e w', (e = Ending.returned (.tuple #[]) ∧ DiskOp w6 F5 g 5000 (afterL b0 (([] ++ [(true, b1)]) ++ [(false, b2)]) 0) [] w') → True := fun _ _ _ => trivial
    have hcr : Calls Try.prog 19 #[.pointer (some ⟨g, 0, none⟩), .int .i64 z] w6 fun e w' => e = .returned (.tuple #[]) ∧ DiskOp w6 F5 g 5000 (afterL b0 (([] ++ [(true, b1)]) ++ [(false, b2)]) 0) [] w' := by
      by_cases hzn : z < 0
      · exact crash_neg z F5 g 5000 _ _ _ L5.1 (by omega) (by omega) hzn
      · obtain rfl : z = ((0 : Nat) : Int) := by omega
        exact crash_nat 0 F5 g 5000 _ _ _ L5.1 (by omega) (by omega) (by omega)
    rw [crash_zero] at hcr
    go_wp2_with fail
    refine hcr.mono ?_
    rintro e w7 ⟨rfl, h7⟩
    obtain ⟨F6, L6, _, _⟩ := L5.op h7
    clear h7 L5 hcr hfin
    go_wp2_with fail
    refine (read_any F6 g 5000 _ _ _ L6.1 (by simp [mass]; omega) (by simp)).mono ?_
    rintro e w8 ⟨A8, n8, c8, rfl, o8, h8⟩
    rw [show readL b0 [] = b0 from rfl] at o8
    have L7 := L6.below h8
    clear h8 L6
    go_wp2_with fail
    refine (same_eq _ _ _ _ _ _ b0 _ _ _ o8.rd (r0.below L7.2.2) (by rw [o8.1]; omega)).mono ?_
    rintro e w9 ⟨rfl, m9, rfl⟩
    have B9 := below_drewN L7.2.2 m9
    go_wp2_with fail
    go_ret
    exact ⟨rfl, B9⟩
  · obtain ⟨k, rfl⟩ : ∃ k : Nat, z = ((k + 1 : Nat) : Int) := ⟨(z - 1).toNat, by omega⟩
    have t1 : decide (((k + 1 : Nat) : Int) < 1) = false := decide_eq_false (by omega)
    have hcr := crash_nat (k + 1) F5 g 5000 _ _ _ L5.1 (by omega) (by omega) (by omega)
    rw [crash_pos] at hcr
    go_wp2_with fail
    refine hcr.mono ?_
    rintro e w7 ⟨rfl, h7⟩
    obtain ⟨F6, L6, _, _⟩ := L5.op h7
    clear h7 L5 hcr
    have m6 : (b1 ++ b2.take k).length ≤ 2000 := by simp; omega
    go_wp2_with fail
    refine (read_any F6 g 5000 _ _ _ L6.1 (by simp only [mass]; omega) (by simp)).mono ?_
    rintro e w8 ⟨A8, n8, c8, rfl, o8, h8⟩
    rw [show readL (b1 ++ b2.take k) [] = b1 ++ b2.take k from rfl] at o8
    have L7 := L6.below h8
    clear h8 L6
    go_wp2_with fail
    have ew : IntKind.i64.wrap (k : Int) = (k : Int) := IntWalk.i64_in _ (by omega)
    obtain ⟨m, hm⟩ : ∃ m, m = min k n2 := ⟨_, rfl⟩
    have em : (if n2 < k then (n2 : Int) else (k : Int)) = (m : Int) := by split <;> omega
    have hm1 : m ≤ n2 := by omega
    have hm2 : m ≤ c2 := by omega
    have htk : b2.take k = b2.take m := by rw [hm, r2.1, ← List.take_take, List.take_length]
    rw [htk] at o8 m6
    clear htk hm
    have B8 := ((L7.2.2.alloc L7.2.2.size (.cells #[] 5))).drew
    have O0 := (OwnB.made w8 w8.heap.size [] #[] 0 rfl rfl (Nat.le_refl _) (by decide)).drew
    have Z0 : (w8.alloc (.cells #[] 5)).drew.heap.size = w8.heap.size + 1 := by simp
    have Y0 := L7.2.2.size
    have R0 := o8.rd.below (((Below.refl _ w8).alloc (Nat.le_refl _) (.cells #[] 5))).drew
    go_region_law (first
      | (refine step_appB rfl (.tmp 61) (.tmp 62) rfl (by rfl) O0 (by rfl) (r1.below B8) (by omega) (by omega) ?_; intro A' c' w' own grown moved below; rw [Nat.zero_add, List.nil_append] at own)
      | (refine step_appB rfl (.tmp 63) (.tmp 70) rfl (by rfl) own (by rfl) ((r2.below (B8.trans (below.mono Y0))).take (k := m) hm1) (by omega) (Nat.le_trans (by omega) below.size) ?_; intro A2 c2 w2 own2 grown2 moved2 below2)
      | (go_simp; go_at_call 14; refine (same_eq _ _ _ _ _ _ (b1 ++ b2.take m) _ _ _ (R0.below (below.trans below2)) own2.rd (by rw [o8.1]; omega)).mono ?_; rintro e w9 ⟨rfl, m9, rfl⟩))
    all_goals
      go_wp2_with fail
      go_ret
      exact ⟨rfl, below_drewN (B8.trans ((below.trans below2).mono Y0)) _⟩
set_option maxRecDepth 100000 in
theorem lifted (os : Os) (started : os.Started) (H : Type) (enc : TypeId × Value → H) :
    ReturnsInHanded {} Try.checked os 5 .any (Rows.diskSwapsSpec.pre6 enc Try.prog Try.f5 Rows.diskSwapsRow.domain false) (Rows.diskSwapsSpec.post enc Try.prog Try.f5 false true false false) := by
  refine returnsInHanded_of_change (C := Try.checked) own started (by kernel_rfl) Try.func5
    (ChangeSpec.witness6 (enc := enc) (C := Try.checked) false ⟨#[], #[.agg #[.slice none 0 0, .slice none 0 0, .slice none 0 0, .int .i64 0]], []⟩ 8 (by kernel_rfl) (by kernel_rfl) (by kernel_rfl) (by kernel_rfl)) ?_
  intro W base args ds gs before hval0 hW hcnd _
  have hval : ∀ (j : Nat) t v, Try.f5.params[j]? = some t → args[j]? = some v → Value.okWide Try.prog W .any base t v := hval0
  have hW' := hW
  obtain ⟨p, q, hA0, hV, rfl, hfz, hnd⟩ := hW
  have hA : DataW.TrodAll enc Try.prog W 0 (fun _ => true) true Try.f5.params.toList args.toList ds p := hA0
  rw [Try.params5] at hA hval
  obtain ⟨v0, vs0, d0, ds0, p0, q0, hargs, rfl, rfl, h0, r0⟩ := trodAll_cons hA
  obtain ⟨rfl, rfl, rfl⟩ := trodAll_nil r0
  obtain rfl : args = #[v0] := by cases args; simp_all
  obtain ⟨rfl, rfl⟩ := trodVars_none hV
  have lt0 : ∀ x ∈ p0, x.block < W.heap.size := by obtain ⟨m, hm⟩ := h0; exact DataW.trod_lt m _ _ _ hm
  have k0 := h0
  obtain ⟨a0, n0, c0, s0, a1, n1, c1, s1, a2, n2, c2, s2, z, rfl, rs, rt, ru, ls, lt, lu, hz⟩ := open_q (hval 0 53 v0 rfl rfl) h0
  clear hA0 hval0
  refine (walk a0 n0 c0 s0 a1 n1 c1 s1 a2 n2 c2 s2 z W rs rt ru ls lt lu hz).mono fun e W' ⟨he, bel⟩ => ?_
  subst he
  exact ⟨_, rfl, _, _, _, [], _, [], hW', trodAll_mk1 (shut_bool Try.underlying4 _), (trodAll_cons_mk (Below.trod laidOut (by kernel_rfl) (of_decide_eq_true (by kernel_rfl)) k0 bel lt0) trodAll_mk0), rfl, bel.frame _, fun h => by cases h⟩

theorem proved : Rows.DiskSwapsSaid :=
  OpenClaim.holds_of_wide 5 Try.f5 rfl rfl rfl rfl rfl rfl rfl ⟨rfl, rfl, rfl, rfl, rfl⟩ rfl rfl rfl rfl rfl (by kernel_rfl) Try.func5 (by kernel_rfl)
    (of_decide_eq_true (by kernel_rfl)) (by unfold Func.isWrapper; first | (rw [if_pos (by decide +kernel)]; kernel_rfl) | (rw [if_neg (by decide +kernel)]; exact ⟨rfl, rfl⟩))
    (fun os started H enc _ => lifted os started H enc)
#print axioms proved
end Go.Proofs.Ytpnnhghgngkboaa.DiskSwaps

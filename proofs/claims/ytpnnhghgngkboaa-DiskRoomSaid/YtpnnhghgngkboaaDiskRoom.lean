/- DiskRoom: what fits is taken, what doesn't is refused and leaves all: the whole statement, without a condition. -/
import Derived.Test.YtpnnhghgngkboaaDiskMore
namespace Go.Proofs.Ytpnnhghgngkboaa.DiskRoom
open Go.ChangeShapes Go.WideShapes Go.ChangeAt Go.RowKit Go.Deep
open Disk
set_option linter.unusedVariables false

/-- Steps that came in. -/
theorem open_ops {H : Type} {enc : TypeId × Value → H} {W : World} {base : Nat} {sp : Nat → Bool} {held : Bool} {r : Reach} {b0 : Nat} {v : Value} {d : DataW H} {p : List MemPlace}
    (hv : Value.okWide Try.prog W r b0 22 v) (h : DataW.Trod enc Try.prog W base sp held 22 v d p) :
    ∃ (a : Option Addr) (n c : Nat) (l : List Op13), v = .slice a n c ∧ OpsAt W a n l ∧ n ≤ c ∧ c ≤ maxLen := by
  obtain ⟨a0, len0, cap0, rfl⟩ := okWide_slice Try.underlying22 hv
  obtain ⟨fuel, hf⟩ := h
  obtain ⟨a, n, c, l, h1, h2⟩ := rd_ops hf
  simp [Value.cells] at h1
  obtain ⟨rfl, rfl, rfl⟩ := h1
  exact ⟨_, _, _, l, rfl, h2⟩

theorem step1 (size : Nat) (lasts : List UInt8) (ws : List W) (o : Op13) (h : o.kind = 1) : (stepM size lasts ws o).1 = 0 ↔ o.bs.length + (readL lasts ws).length ≤ size := by unfold stepM; rw [if_pos h]; split <;> simp [*]
theorem step2 (size : Nat) (lasts : List UInt8) (ws : List W) (o : Op13) (h : o.kind = 2) : (stepM size lasts ws o).1 = 0 ↔ o.bs.length ≤ size := by unfold stepM; rw [if_neg (by omega), if_pos h]; split <;> simp [*]
theorem step3 (size : Nat) (lasts : List UInt8) (ws : List W) (o : Op13) (h : o.kind = 3) : stepM size lasts ws o = (0, readL lasts ws, []) := by unfold stepM; rw [if_neg (by omega), if_neg (by omega), if_pos h]
theorem step4 (size : Nat) (lasts : List UInt8) (ws : List W) (o : Op13) (h1 : o.kind ≠ 1) (h2 : o.kind ≠ 2) : (stepM size lasts ws o).1 = 0 := by
  unfold stepM; rw [if_neg h1, if_neg h2]; split
  · rfl
  · split <;> rfl
theorem wraps (size k : Nat) (h : size ≤ 16384) (hk : k ≤ size) : IntKind.i64.wrap (((size : Int) - (k : Int)) + (k : Int)) = (size : Int) := by rw [show ((size : Int) - (k : Int)) + (k : Int) = (size : Int) by omega]; exact IntWalk.i64_in _ (by omega)

set_option maxRecDepth 100000 in
set_option maxHeartbeats 4000000 in
theorem walk (z : Int) (a : Option Addr) (n c : Nat) (l : List Op13) (w : World) (hz0 : -9223372036854775808 ≤ z) (hz1 : z ≤ 9223372036854775807) (hl : OpsAt w a n l) (hn : n ≤ c) (hc : c ≤ maxLen) :
    Calls Try.prog 6 #[.int .i64 z, .slice a n c] w fun e w' => e = .returned (.bool true) ∧ Below w.heap.size w w' := by
  have HL := Lib.hid hl.1
  by_cases hbig : 200 < n
  case pos =>
    go_enter Try.func6, Try.ntmps6
    go_wp2_with fail
    refine (alive13 _).mono ?_
    rintro e w1 ⟨rfl, h1⟩
    go_wp2_with fail
    refine (great_long a n c l _ (hl.below h1) hc hn hbig).mono ?_
    rintro e w2 ⟨rfl, h2⟩
    go_wp2_with fail
    go_ret
    exact ⟨rfl, h1.trans (h2.mono h1.size)⟩
  by_cases hsum : 20000 < opsSum l
  case pos =>
    have hd := Lib.hid (decide_eq_true hsum)
    go_enter Try.func6, Try.ntmps6
    go_wp2_with fail
    refine (alive13 _).mono ?_
    rintro e w1 ⟨rfl, h1⟩
    go_wp2_with fail
    refine (great_short a n c l _ (hl.below h1) (by omega)).mono ?_
    rw [hd.out]
    rintro e w2 ⟨rfl, h2⟩
    go_wp2_with fail
    go_ret
    exact ⟨rfl, h1.trans (h2.mono h1.size)⟩
  have hd := Lib.hid (decide_eq_false hsum)
  by_cases hz : z < 1 ∨ 16384 < z
  case pos =>
    have hd2 : (z < 1) ∨ (decide (z < 1) = false ∧ decide (16384 < z) = true) := by
      rcases Int.lt_or_le z 1 with h | h
      · exact .inl h
      · exact .inr ⟨decide_eq_false (by omega), decide_eq_true (by omega)⟩
    rcases hd2 with hd2 | ⟨d1, d2⟩
    · have d1 : decide (z < 1) = true := decide_eq_true hd2
      go_enter Try.func6, Try.ntmps6
      go_wp2_with fail
      refine (alive13 _).mono ?_
      rintro e w1 ⟨rfl, h1⟩
      go_wp2_with fail
      refine (great_short a n c l _ (hl.below h1) (by omega)).mono ?_
      rw [hd.out]
      rintro e w2 ⟨rfl, h2⟩
      go_wp2_with fail
      refine (dnew_bad z _ hz).mono ?_
      rintro e w3 ⟨rfl, rfl⟩
      go_wp2_with fail
      go_ret
      exact ⟨rfl, h1.trans (h2.mono h1.size)⟩
    · go_enter Try.func6, Try.ntmps6
      go_wp2_with fail
      refine (alive13 _).mono ?_
      rintro e w1 ⟨rfl, h1⟩
      go_wp2_with fail
      refine (great_short a n c l _ (hl.below h1) (by omega)).mono ?_
      rw [hd.out]
      rintro e w2 ⟨rfl, h2⟩
      go_wp2_with fail
      refine (dnew_bad z _ hz).mono ?_
      rintro e w3 ⟨rfl, rfl⟩
      go_wp2_with fail
      go_ret
      exact ⟨rfl, h1.trans (h2.mono h1.size)⟩
  obtain ⟨size, rfl⟩ := Int.eq_ofNat_of_zero_le (show 0 ≤ z by omega)
  have hs1 : 1 ≤ size := by omega
  have hs2 : size ≤ 16384 := by omega
  clear hz hz0 hz1 hsum
  go_enter Try.func6, Try.ntmps6
  go_wp2_with fail
  refine (alive13 _).mono ?_
  rintro e w1 ⟨rfl, h1⟩
  go_wp2_with fail
  refine (great_short a n c l _ (hl.below h1) (by omega)).mono ?_
  rw [hd.out]
  rintro e w2 ⟨rfl, h2⟩
  have h12 := h1.trans (h2.mono h1.size)
  clear h1 h2
  go_wp2_with fail
  refine (dnew_any size _ hs1 hs2).mono ?_
  rintro e w3 ⟨g, F1, rfl, hD1, hF1, hb1⟩
  have L1 := DL.of_new h12 hD1 hF1 hb1
  clear hD1 hF1 hb1 h12
  go_wp2_with fail
  go_loopw [31] (fun i wr => ∃ (k : Nat) (F : Nat → Prop) (lasts : List UInt8) (ws : List W), k ≤ n ∧ i = .int .i64 k ∧ DL w F g size lasts ws wr ∧ Fits size lasts ws ∧ lasts.length + mass ws ≤ (k + 1) * 16384 ∧ ws.length ≤ k) (fun i _ => n - (intOf i).toNat)
  case atStart => exact ⟨0, F1, [], [], by omega, rfl, L1, Fits.empty _, by simp [mass], by simp⟩
  case round =>
    clear L1
    obtain ⟨k, F, lasts, ws, hk, rfl, L, hF, hms, hwl⟩ := hrel
    by_cases hlt : k < n
    · have hkl : k < l.length := by rw [← HL.out]; exact hlt
      obtain ⟨ad, A, m, c', rfl, q0, q1, q2, q3, q4, q5, q6, q7⟩ := hl.keep L.2.2 k _ (List.getElem?_eq_getElem hkl)
      generalize l[k] = o at q0 q1 q2 q3 q6 q7
      have hms2 : lasts.length + mass ws ≤ 4000000 := by omega
      obtain ⟨wv, hwv⟩ : ∃ wv, wv = wr.alloc (.cells #[.int .i64 o.kind, .int .i64 o.num, .slice A m c'] 34) := ⟨_, rfl⟩
      have hb1 : Below wr.heap.size wr wv := by rw [hwv]; exact (Below.refl _ _).alloc (Nat.le_refl _) _
      have hv : Blk wv wr.heap.size 34 #[.int .i64 o.kind, .int .i64 o.num, .slice A m c'] := by rw [hwv]; exact Blk.new wr _ _
      have HWV := Lib.hid hwv
      clear hwv
      have hFlt := L.1.lt
      have L2 := L.below hb1
      go_wp2_with fail
      rw [← HWV.out]
      refine (read_any F g size lasts ws _ L2.1 (by omega) (by omega)).mono ?_
      rintro e w4 ⟨A4, n4, c4, rfl, o4, h4⟩
      have L3 := L2.below h4
      have hv4 := hv.below h4 hv.lt
      have v4 : wr.heap.size < wv.heap.size := hv.lt
      have hbr4 := hb1.trans (h4.mono hb1.size)
      have hbr4 := hb1.trans (h4.mono hb1.size)
      have hbr4 := hb1.trans (h4.mono hb1.size)
      have hbr4 := hb1.trans (h4.mono hb1.size)
      clear h4 hv L2 hb1
      go_wp2_with fail
      refine (room_any F g size lasts ws _ L3.1 (by omega) (by omega) (by omega)).mono ?_
      rintro e w5 ⟨rfl, h5⟩
      have L4 := L3.below h5
      have hv5 := hv4.below h5 hv4.lt
      have o5 := o4.below h5 (Nat.le_refl _)
      have hbr := (hbr4.trans (h5.mono hbr4.size)).mono L.2.2.size
      have hbr := (hbr4.trans (h5.mono hbr4.size)).mono L.2.2.size
      have hbr := (hbr4.trans (h5.mono hbr4.size)).mono L.2.2.size
      have hbr := (hbr4.trans (h5.mono hbr4.size)).mono L.2.2.size
      clear h5 hv4 L3 o4
      have t0 := hv5.cell 0
      have t1 := hv5.cell 1
      have t2 := hv5.cell 2
      go_wp2_with fail
      refine (do_any o A m c' _ F g size lasts ws _ L4.1 (by omega) (by omega) (by omega) (q3.below hbr) q7.1 q7.2).mono ?_
      rintro e w6 ⟨rfl, h6⟩
      obtain ⟨F2, L6, ho, hg⟩ := L4.op h6
      clear h6 L4
      have f2 := step_fits o hF
      have m2 := stepM_mass size lasts ws o
      have hv6 := hv5.only ho (fun h => by have := hFlt _ h; omega)
      have o6 := o5.only ho (fun k h => by have := hFlt k h; omega)
      clear ho hg hv5 o5 t0 t1 t2
      have t0 := hv6.cell 0
      have t1 := hv6.cell 1
      have t2 := hv6.cell 2
      clear hv6
      have hm : m = o.bs.length := q3.1
      have href := step_refused (size := size) (b := lasts) (ws := ws) (o := o)
      have hk1 : o.kind = 1 → ((stepM size lasts ws o).1 = 0 ↔ o.bs.length + (readL lasts ws).length ≤ size) := step1 _ _ _ _
      have hk2 : o.kind = 2 → ((stepM size lasts ws o).1 = 0 ↔ o.bs.length ≤ size) := step2 _ _ _ _
      have hk3 : o.kind = 3 → stepM size lasts ws o = (0, readL lasts ws, []) := step3 _ _ _ _
      have hk4 : o.kind ≠ 1 → o.kind ≠ 2 → (stepM size lasts ws o).1 = 0 := step4 _ _ _ _
      generalize stepM size lasts ws o = r at *
      obtain ⟨x, l2, ws2⟩ := r
      simp only at hk1 hk2 hk4 f2 m2 L6 href ⊢
      have m3 : l2.length + mass ws2 ≤ (k + 1 + 1) * 16384 := by have := m2.1; omega
      have m4 : ws2.length ≤ k + 1 := by have := m2.2; omega
      clear m2
      have m5 : l2.length + mass ws2 ≤ 4000000 := by omega
      have m6 : ws2.length ≤ 4000000 := by omega
      have hrl := f2.read
      have ew := wraps size _ hs2 hrl
      have en : decide ((size : Int) - ((readL l2 ws2).length : Int) < 0) = false := decide_eq_false (by omega)
      have hrl0 := hF.read
      obtain ⟨kind, num, bs⟩ := o
      simp only at hk1 hk2 hk3 hk4 t0 t1 hm
      subst hm
      by_cases k1 : kind = 1
      · subst k1
        have hk := hk1 rfl
        clear hk1 hk2 hk3 hk4
        by_cases hx : x = 0
        · subst hx
          have d1 : decide ((bs.length : Int) ≤ (size : Int) - ((readL lasts ws).length : Int)) = true := decide_eq_true (by have := hk.1 rfl; omega)
          clear hk href
          go_wp2_with fail
          refine (room_any F2 g size l2 ws2 _ L6.1 (Nat.le_trans m5 (by decide)) (Nat.le_trans m6 (by decide)) (by omega)).mono ?_
          rintro e w8 ⟨rfl, h8⟩
          have L7 := L6.below h8
          clear L6
          go_wp2_with fail
          refine (read_any F2 g size l2 ws2 _ L7.1 (Nat.le_trans m5 (by decide)) (Nat.le_trans m6 (by decide))).mono ?_
          rintro e w9 ⟨A9, n9, c9, rfl, o9, h9⟩
          obtain rfl := o9.1
          have L8 := L7.below h9
          clear L7 h8 h9
          go_wp2_with fail
          refine (room_any F2 g size l2 ws2 _ L8.1 (Nat.le_trans m5 (by decide)) (Nat.le_trans m6 (by decide)) (by omega)).mono ?_
          rintro e w10 ⟨rfl, h10⟩
          have L9 := L8.below h10
          clear L8 h10
          go_wp2_with fail
          go_roundw
          case rel => exact ⟨k + 1, F2, l2, ws2, by omega, by go_num, L9, f2, m3, m4⟩
          case measure => simp [intOf]; omega
        · have d1 : decide ((bs.length : Int) ≤ (size : Int) - ((readL lasts ws).length : Int)) = false := decide_eq_false (by have : ¬ (bs.length + (readL lasts ws).length ≤ size) := fun h => hx (hk.2 h); omega)
          have hq := href hx
          injection hq with hq1 hq2
          injection hq2 with hq2 hq3
          subst hq1 hq2 hq3
          clear hk href hx
          go_wp2_with fail
          refine (read_any F2 g size l2 ws2 _ L6.1 (Nat.le_trans m5 (by decide)) (Nat.le_trans m6 (by decide))).mono ?_
          rintro e w7 ⟨A7, n7, c7, rfl, o7, h7⟩
          have o6' := o6.below h7 (Nat.le_refl _)
          have L5b := L6.below h7
          clear h7 L6 o6
          go_wp2_with fail
          refine (same_eq _ _ _ _ _ _ (readL l2 ws2) _ _ _ o7.rd o6'.rd (by rw [o7.1]; omega)).mono ?_
          rintro e w7b ⟨rfl, m7, rfl⟩
          have L6 : DL w F2 g size l2 ws2 (w7.drewN m7) := ⟨L5b.1.keep (Keeps.of_below (below_drewN (Below.refl _ _) _) L5b.1.lt), L5b.2.1, below_drewN L5b.2.2 _⟩
          clear o7 o6' L5b
          go_wp2_with fail
          refine (room_any F2 g size l2 ws2 _ L6.1 (Nat.le_trans m5 (by decide)) (Nat.le_trans m6 (by decide)) (by omega)).mono ?_
          rintro e w8 ⟨rfl, h8⟩
          have L7 := L6.below h8
          clear L6
          go_wp2_with fail
          refine (read_any F2 g size l2 ws2 _ L7.1 (Nat.le_trans m5 (by decide)) (Nat.le_trans m6 (by decide))).mono ?_
          rintro e w9 ⟨A9, n9, c9, rfl, o9, h9⟩
          obtain rfl := o9.1
          have L8 := L7.below h9
          clear L7 h8 h9
          go_wp2_with fail
          refine (room_any F2 g size l2 ws2 _ L8.1 (Nat.le_trans m5 (by decide)) (Nat.le_trans m6 (by decide)) (by omega)).mono ?_
          rintro e w10 ⟨rfl, h10⟩
          have L9 := L8.below h10
          clear L8 h10
          go_wp2_with fail
          go_roundw
          case rel => exact ⟨k + 1, F2, l2, ws2, by omega, by go_num, L9, f2, m3, m4⟩
          case measure => simp [intOf]; omega
      · by_cases k2 : kind = 2
        · subst k2
          have hk := hk2 rfl
          clear hk1 hk2 hk3 hk4 k1
          by_cases hx : x = 0
          · subst hx
            have d1 : decide (bs.length ≤ size) = true := decide_eq_true (by have := hk.1 rfl; omega)
            clear hk href
            go_wp2_with fail
            refine (room_any F2 g size l2 ws2 _ L6.1 (Nat.le_trans m5 (by decide)) (Nat.le_trans m6 (by decide)) (by omega)).mono ?_
            rintro e w8 ⟨rfl, h8⟩
            have L7 := L6.below h8
            clear L6
            go_wp2_with fail
            refine (read_any F2 g size l2 ws2 _ L7.1 (Nat.le_trans m5 (by decide)) (Nat.le_trans m6 (by decide))).mono ?_
            rintro e w9 ⟨A9, n9, c9, rfl, o9, h9⟩
            obtain rfl := o9.1
            have L8 := L7.below h9
            clear L7 h8 h9
            go_wp2_with fail
            refine (room_any F2 g size l2 ws2 _ L8.1 (Nat.le_trans m5 (by decide)) (Nat.le_trans m6 (by decide)) (by omega)).mono ?_
            rintro e w10 ⟨rfl, h10⟩
            have L9 := L8.below h10
            clear L8 h10
            go_wp2_with fail
            go_roundw
            case rel => exact ⟨k + 1, F2, l2, ws2, by omega, by go_num, L9, f2, m3, m4⟩
            case measure => simp [intOf]; omega
          · have d1 : decide (bs.length ≤ size) = false := decide_eq_false (by have : ¬ (bs.length ≤ size) := fun h => hx (hk.2 h); omega)
            have hq := href hx
            injection hq with hq1 hq2
            injection hq2 with hq2 hq3
            subst hq1 hq2 hq3
            clear hk href hx
            go_wp2_with fail
            refine (read_any F2 g size l2 ws2 _ L6.1 (Nat.le_trans m5 (by decide)) (Nat.le_trans m6 (by decide))).mono ?_
            rintro e w7 ⟨A7, n7, c7, rfl, o7, h7⟩
            have o6' := o6.below h7 (Nat.le_refl _)
            have L5b := L6.below h7
            clear h7 L6 o6
            go_wp2_with fail
            refine (same_eq _ _ _ _ _ _ (readL l2 ws2) _ _ _ o7.rd o6'.rd (by rw [o7.1]; omega)).mono ?_
            rintro e w7b ⟨rfl, m7, rfl⟩
            have L6 : DL w F2 g size l2 ws2 (w7.drewN m7) := ⟨L5b.1.keep (Keeps.of_below (below_drewN (Below.refl _ _) _) L5b.1.lt), L5b.2.1, below_drewN L5b.2.2 _⟩
            clear o7 o6' L5b
            go_wp2_with fail
            refine (room_any F2 g size l2 ws2 _ L6.1 (Nat.le_trans m5 (by decide)) (Nat.le_trans m6 (by decide)) (by omega)).mono ?_
            rintro e w8 ⟨rfl, h8⟩
            have L7 := L6.below h8
            clear L6
            go_wp2_with fail
            refine (read_any F2 g size l2 ws2 _ L7.1 (Nat.le_trans m5 (by decide)) (Nat.le_trans m6 (by decide))).mono ?_
            rintro e w9 ⟨A9, n9, c9, rfl, o9, h9⟩
            obtain rfl := o9.1
            have L8 := L7.below h9
            clear L7 h8 h9
            go_wp2_with fail
            refine (room_any F2 g size l2 ws2 _ L8.1 (Nat.le_trans m5 (by decide)) (Nat.le_trans m6 (by decide)) (by omega)).mono ?_
            rintro e w10 ⟨rfl, h10⟩
            have L9 := L8.below h10
            clear L8 h10
            go_wp2_with fail
            go_roundw
            case rel => exact ⟨k + 1, F2, l2, ws2, by omega, by go_num, L9, f2, m3, m4⟩
            case measure => simp [intOf]; omega
        · have hx := hk4 k1 k2
          subst hx
          clear href hk1 hk2 hk4
          by_cases k3 : kind = 3
          · subst k3
            have hq := hk3 rfl
            injection hq with _ hq2
            injection hq2 with hq2 hq3
            subst hq2 hq3
            clear hk3 k1 k2
            go_wp2_with fail
            refine (waiting_any F2 g size _ _ _ L6.1 (by simp [mass]) (by simp)).mono ?_
            rintro e w7 ⟨rfl, h7⟩
            have L5b := L6.below h7
            have o6b := o6.below h7 (Nat.le_refl _)
            clear h7 L6 o6
            go_wp2_with fail
            refine (read_any F2 g size _ _ _ L5b.1 (by omega) (by simp)).mono ?_
            rintro e w7b ⟨A7, n7, c7, rfl, o7, h7⟩
            have o6c := o6b.below h7 (Nat.le_refl _)
            have L5c := L5b.below h7
            clear h7 L5b o6b
            go_wp2_with fail
            refine (same_eq _ _ _ _ _ _ (readL lasts ws) _ _ _ o7.rd o6c.rd (by rw [o7.1]; exact Nat.le_trans hrl0 (by omega))).mono ?_
            rintro e w7c ⟨rfl, m7, rfl⟩
            have L6 : DL w F2 g size (readL lasts ws) [] (w7b.drewN m7) := ⟨L5c.1.keep (Keeps.of_below (below_drewN (Below.refl _ _) _) L5c.1.lt), L5c.2.1, below_drewN L5c.2.2 _⟩
            clear o7 o6c L5c
            go_wp2_with fail
            refine (room_any F2 g size (readL lasts ws) [] _ L6.1 (Nat.le_trans m5 (by decide)) (by simp) (by omega)).mono ?_
            rintro e w8 ⟨rfl, h8⟩
            have L7 := L6.below h8
            clear L6
            go_wp2_with fail
            refine (read_any F2 g size (readL lasts ws) [] _ L7.1 (Nat.le_trans m5 (by decide)) (by simp)).mono ?_
            rintro e w9 ⟨A9, n9, c9, rfl, o9, h9⟩
            obtain rfl := o9.1
            have L8 := L7.below h9
            clear L7 h8 h9
            go_wp2_with fail
            refine (room_any F2 g size (readL lasts ws) [] _ L8.1 (Nat.le_trans m5 (by decide)) (by simp) (by omega)).mono ?_
            rintro e w10 ⟨rfl, h10⟩
            have L9 := L8.below h10
            clear L8 h10
            go_wp2_with fail
            go_roundw
            case rel => exact ⟨k + 1, F2, readL lasts ws, [], by omega, by go_num, L9, f2, m3, m4⟩
            case measure => simp [intOf]; omega
          · have e1 : (kind == 1) = false := by rw [beq_eq_false_iff_ne]; exact k1
            have e2 : (kind == 2) = false := by rw [beq_eq_false_iff_ne]; exact k2
            have e3 : (kind == 3) = false := by rw [beq_eq_false_iff_ne]; exact k3
            clear hk3 k1 k2 k3
            go_wp2_with fail
            refine (room_any F2 g size l2 ws2 _ L6.1 (Nat.le_trans m5 (by decide)) (Nat.le_trans m6 (by decide)) (by omega)).mono ?_
            rintro e w8 ⟨rfl, h8⟩
            have L7 := L6.below h8
            clear L6
            go_wp2_with fail
            refine (read_any F2 g size l2 ws2 _ L7.1 (Nat.le_trans m5 (by decide)) (Nat.le_trans m6 (by decide))).mono ?_
            rintro e w9 ⟨A9, n9, c9, rfl, o9, h9⟩
            obtain rfl := o9.1
            have L8 := L7.below h9
            clear L7 h8 h9
            go_wp2_with fail
            refine (room_any F2 g size l2 ws2 _ L8.1 (Nat.le_trans m5 (by decide)) (Nat.le_trans m6 (by decide)) (by omega)).mono ?_
            rintro e w10 ⟨rfl, h10⟩
            have L9 := L8.below h10
            clear L8 h10
            go_wp2_with fail
            go_roundw
            case rel => exact ⟨k + 1, F2, l2, ws2, by omega, by go_num, L9, f2, m3, m4⟩
            case measure => simp [intOf]; omega
    · go_wp2_with fail
      go_ret
      exact ⟨rfl, L.2.2⟩
set_option maxRecDepth 100000 in
theorem lifted (os : Os) (started : os.Started) (H : Type) (enc : TypeId × Value → H) :
    ReturnsInHanded {} Try.checked os 6 .any (Rows.diskRoomSpec.pre6 enc Try.prog Try.f6 Rows.diskRoomRow.domain false) (Rows.diskRoomSpec.post enc Try.prog Try.f6 false true false false) := by
  refine returnsInHanded_of_change (C := Try.checked) own started (by kernel_rfl) Try.func6
    (ChangeSpec.witness6 (enc := enc) (C := Try.checked) false ⟨#[], #[.int .i64 0, .slice none 0 0], []⟩ 8 (by kernel_rfl) (by kernel_rfl) (by kernel_rfl) (by kernel_rfl)) ?_
  intro W base args ds gs before hval0 hW hcnd _
  have hval : ∀ (j : Nat) t v, Try.f6.params[j]? = some t → args[j]? = some v → Value.okWide Try.prog W .any base t v := hval0
  have hW' := hW
  obtain ⟨p, q, hA0, hV, rfl, hfz, hnd⟩ := hW
  have hA : DataW.TrodAll enc Try.prog W 0 (fun _ => true) true Try.f6.params.toList args.toList ds p := hA0
  rw [Try.params6] at hA hval
  obtain ⟨v0, vs0, d0, ds0, p0, q0, hargs, rfl, rfl, h0, r0⟩ := trodAll_cons hA
  obtain ⟨v1, vs1, d1, ds1, p1, q1, rfl, rfl, rfl, h1, r1⟩ := trodAll_cons r0
  obtain ⟨rfl, rfl, rfl⟩ := trodAll_nil r1
  obtain rfl : args = #[v0, v1] := by cases args; simp_all
  obtain ⟨rfl, rfl⟩ := trodVars_none hV
  have lt0 : ∀ x ∈ p0, x.block < W.heap.size := by obtain ⟨m, hm⟩ := h0; exact DataW.trod_lt m _ _ _ hm
  have k0 := h0
  have lt1 : ∀ x ∈ p1, x.block < W.heap.size := by obtain ⟨m, hm⟩ := h1; exact DataW.trod_lt m _ _ _ hm
  have k1 := h1
  obtain ⟨x0, rfl, rfl, rfl, wf0⟩ := open_int Try.underlying3 (hval 0 3 v0 rfl rfl) h0
  have hb0 : -9223372036854775808 ≤ x0 ∧ x0 ≤ 9223372036854775807 := by
    have hmin : IntKind.i64.min = -9223372036854775808 := rfl
    have hmax : IntKind.i64.max = 9223372036854775807 := rfl
    simp only [Lit.wf, Bool.and_eq_true, decide_eq_true_eq] at wf0
    omega
  obtain ⟨a1, n1, c1, l1, rfl, w1, p1, m1⟩ := open_ops (hval 1 22 v1 rfl rfl) h1
  clear hA0 hval0
  refine (walk x0 a1 n1 c1 l1 W hb0.1 hb0.2 w1 p1 m1).mono fun e W' ⟨he, bel⟩ => ?_
  subst he
  exact ⟨_, rfl, _, _, _, [], _, [], hW', trodAll_mk1 (shut_bool Try.underlying4 _), (trodAll_cons_mk (Below.trod laidOut (by kernel_rfl) (of_decide_eq_true (by kernel_rfl)) k0 bel lt0) (trodAll_cons_mk (Below.trod laidOut (by kernel_rfl) (of_decide_eq_true (by kernel_rfl)) k1 bel lt1) trodAll_mk0)), rfl, bel.frame _, fun h => by cases h⟩

theorem proved : Rows.DiskRoomSaid :=
  OpenClaim.holds_of_wide 6 Try.f6 rfl rfl rfl rfl rfl rfl rfl ⟨rfl, rfl, rfl, rfl, rfl⟩ rfl rfl rfl rfl rfl (by kernel_rfl) Try.func6 (by kernel_rfl)
    (of_decide_eq_true (by kernel_rfl)) (by unfold Func.isWrapper; first | (rw [if_pos (by decide +kernel)]; kernel_rfl) | (rw [if_neg (by decide +kernel)]; exact ⟨rfl, rfl⟩))
    (fun os started H enc _ => lifted os started H enc)
#print axioms proved
end Go.Proofs.Ytpnnhghgngkboaa.DiskRoom

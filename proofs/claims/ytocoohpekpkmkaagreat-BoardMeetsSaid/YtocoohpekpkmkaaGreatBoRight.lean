/- The walks of board's small functions, and of Right. -/
import Derived.Test.YtocoohpekpkmkaaGreatBoMem
namespace Go.Proofs.YtocoohpekpkmkaaGreat
set_option linter.unusedVariables false
set_option linter.unusedSimpArgs false
open Go.RowKit
open Reg (La Vl)
theorem within30_any (n lo hi : Int) (w : World) : Calls Tryz.prog 40 #[.int .i64 n, .int .i64 lo, .int .i64 hi] w fun e w' => e = .returned (.bool (if hi < n then hi == n else if n < lo then lo == n else true)) ∧ w = w' := by
  have hs := satw29_any n lo hi w
  obtain ⟨R, hR⟩ : ∃ R, R = (if hi < n then hi == n else if n < lo then lo == n else true) := ⟨_, rfl⟩
  rw [← hR]
  have hz : ((if hi < n then hi else if n < lo then lo else n) == n) = (if hi < n then hi == n else if n < lo then lo == n else true) := by
    split
    · rfl
    · split
      · rfl
      · simp
  rw [← hz] at hR
  clear hz
  generalize (if hi < n then hi else if n < lo then lo else n) = z at hs hR
  have HR := Lib.hid hR
  clear hR
  go_enter Tryz.func40, Tryz.ntmps40
  go_wp2_with fail
  refine hs.mono ?_
  rintro e w1 ⟨rfl, rfl⟩
  go_wp2_with fail
  go_ret
  rw [HR.out]
  exact ⟨rfl, rfl⟩
theorem within_in (n lo hi : Int) (h : lo ≤ hi) : (if hi < n then hi == n else if n < lo then lo == n else true) = Reg.inB n lo hi := by
  rw [Bool.eq_iff_iff, Reg.inB_iff]
  by_cases h1 : hi < n
  · rw [if_pos h1, beq_iff_eq]; omega
  · rw [if_neg h1]
    by_cases h2 : n < lo
    · rw [if_pos h2, beq_iff_eq]; omega
    · rw [if_neg h2]
      constructor
      · intro _; omega
      · intro _; rfl
theorem withinB_any (n lo hi : Int) (w : World) (h : lo ≤ hi) {b : Bool} (hb : Reg.inB n lo hi = b) : Calls Tryz.prog 40 #[.int .i64 n, .int .i64 lo, .int .i64 hi] w fun e w' => e = .returned (.bool b) ∧ w = w' := by
  have := within30_any n lo hi w
  rwa [within_in n lo hi h, hb] at this
theorem nodeB_any (n : Int) (w : World) {b : Bool} (hb : Reg.inB n 0 7 = b) : Calls Tryz.prog 39 #[.int .i64 n] w fun e w' => e = .returned (.bool b) ∧ w = w' := by
  go_enter Tryz.func39, Tryz.ntmps39
  go_wp2_with fail
  refine (withinB_any n 0 7 w (by omega) hb).mono ?_
  rintro e w1 ⟨rfl, rfl⟩
  go_wp2_with fail
  go_ret
  exact ⟨rfl, rfl⟩
set_option maxRecDepth 100000 in
set_option maxHeartbeats 2000000 in
theorem planned_any (q : La) (w : World) : Calls Tryz.prog 32 #[v3 q] w fun e w' => e = .returned (.bool (Bo.planB q)) ∧ Below w.heap.size w w' := by
  obtain ⟨x, y, z⟩ := q
  obtain ⟨R, hR⟩ : ∃ R, R = Bo.planB (x, y, z) := ⟨_, rfl⟩
  rw [← hR]
  have HR := Lib.hid hR
  unfold v3
  simp only
  by_cases hz : x = 0 ∧ y = 0 ∧ z = 0
  · obtain ⟨rfl, rfl, rfl⟩ := hz
    have hr : R = true := hR
    clear hR HR
    subst hr
    go_enter Tryz.func32, Tryz.ntmps32
    go_wp2_with fail
    go_ret
    exact ⟨rfl, (Below.refl _ _).alloc (Nat.le_refl _) _⟩
  obtain ⟨b1, hb1⟩ : ∃ b1, Reg.inB x 1 1099511627776 = b1 := ⟨_, rfl⟩
  obtain ⟨b2, hb2⟩ : ∃ b2, Reg.inB y 0 7 = b2 := ⟨_, rfl⟩
  obtain ⟨b3, hb3⟩ : ∃ b3, Reg.inB z 0 1000 = b3 := ⟨_, rfl⟩
  have hr : R = (b1 && b2 && b3) := by
    rw [hR]
    unfold Bo.planB
    rw [hb1, hb2, hb3, decide_eq_false (fun h => hz (by injection h with h1 h2; injection h2 with h2 h3; exact ⟨h1, h2, h3⟩)), Bool.false_or]
  have H1 := Lib.hid fun w => withinB_any x 1 1099511627776 w (by omega) hb1
  have H2 := Lib.hid fun w => nodeB_any y w hb2
  have H3 := Lib.hid fun w => withinB_any z 0 1000 w (by omega) hb3
  clear hR hb1 hb2 hb3
  have hcase : ¬ x = 0 ∨ (x = 0 ∧ ¬ y = 0) ∨ (x = 0 ∧ y = 0 ∧ ¬ z = 0) := by
    by_cases e1 : x = 0
    · by_cases e2 : y = 0
      · exact Or.inr (Or.inr ⟨e1, e2, fun e3 => hz ⟨e1, e2, e3⟩⟩)
      · exact Or.inr (Or.inl ⟨e1, e2⟩)
    · exact Or.inl e1
  clear hz
  rcases hcase with hx | ⟨rfl, hx⟩ | ⟨rfl, rfl, hx⟩
  all_goals
    cases b1
    case false =>
      have hr2 : R = false := hr
      clear hr
      subst hr2
      go_enter Tryz.func32, Tryz.ntmps32
      go_wp2_with fail
      refine (H1.out _).mono ?_
      rintro e w1 ⟨rfl, rfl⟩
      go_wp2_with fail
      go_ret
      exact ⟨rfl, (Below.refl _ _).alloc (Nat.le_refl _) _⟩
    case true =>
      cases b2
      case false =>
        have hr2 : R = false := hr
        clear hr
        subst hr2
        go_enter Tryz.func32, Tryz.ntmps32
        go_wp2_with fail
        refine (H1.out _).mono ?_
        rintro e w1 ⟨rfl, rfl⟩
        go_wp2_with fail
        refine (H2.out _).mono ?_
        rintro e w1 ⟨rfl, rfl⟩
        go_wp2_with fail
        go_ret
        exact ⟨rfl, (Below.refl _ _).alloc (Nat.le_refl _) _⟩
      case true =>
        have hr2 : R = b3 := by rw [hr]; simp
        clear hr
        subst hr2
        go_enter Tryz.func32, Tryz.ntmps32
        go_wp2_with fail
        refine (H1.out _).mono ?_
        rintro e w1 ⟨rfl, rfl⟩
        go_wp2_with fail
        refine (H2.out _).mono ?_
        rintro e w1 ⟨rfl, rfl⟩
        go_wp2_with fail
        refine (H3.out _).mono ?_
        rintro e w1 ⟨rfl, rfl⟩
        go_wp2_with fail
        go_ret
        exact ⟨rfl, (Below.refl _ _).alloc (Nat.le_refl _) _⟩
theorem unplanned_any (q : La) (w : World) : Calls Tryz.prog 31 #[v3 q] w fun e w' => e = .returned (.bool (!Bo.planB q)) ∧ Below w.heap.size w w' := by
  have hp := fun w => planned_any q w
  generalize Bo.planB q = R at *
  obtain ⟨x, y, z⟩ := q
  unfold v3 at *
  simp only at *
  have HP := Lib.hid hp
  clear hp
  go_enter Tryz.func31, Tryz.ntmps31
  go_wp2_with fail
  refine (HP.out _).mono ?_
  rintro e w1 ⟨rfl, b1⟩
  have gb := ((Below.refl w.heap.size w).alloc (Nat.le_refl _) _).trans (b1.mono (by simp))
  clear b1
  go_wp2_with fail
  go_ret
  exact ⟨rfl, gb⟩
theorem negval_any (v : Vl) (w : World) : Calls Tryz.prog 34 #[v3 v] w fun e w' => e = .returned (.bool (decide (v.2.2 < 0))) ∧ Below w.heap.size w w' := by
  obtain ⟨x, y, z⟩ := v
  unfold v3
  simp only
  go_enter Tryz.func34, Tryz.ntmps34
  go_wp2_with fail
  go_ret
  exact ⟨rfl, (Below.refl _ _).alloc (Nat.le_refl _) _⟩
theorem all_of {α : Type} {l : List α} {p : α → Bool} (h : ∀ (j : Nat) (x : α), l[j]? = some x → p x = true) : l.all p = true := by
  rw [List.all_eq_true]
  intro x hx
  obtain ⟨j, hj⟩ := List.mem_iff_getElem?.1 hx
  exact h j x hj
theorem all_bad {α : Type} {l : List α} {p : α → Bool} {j : Nat} {x : α} (h : l[j]? = some x) (hp : p x = false) : l.all p = false := by
  rw [← Bool.not_eq_true, List.all_eq_true]
  intro h2
  have := h2 x (List.mem_of_getElem? h)
  rw [hp] at this
  cases this
set_option maxRecDepth 100000 in
set_option maxHeartbeats 2000000 in
/-- slices.ContainsFunc over a board's plans -/
theorem anyPlan_any (g : Nat) (p : List La) (hp : p.length = 8) (w : World) (hr : w.rangeAt g 16 (plansC p)) (hg : g < w.heap.size) :
    Calls Tryz.prog 30 #[.slice (some ⟨g, 16, none⟩) 8 8, .func (.func 31) #[] #[]] w fun e w' => e = .returned (.bool (!p.all Bo.planB)) ∧ Below w.heap.size w w' := by
  have hix : Calls Tryz.prog 67 #[.slice (some ⟨g, 16, none⟩) 8 8, .func (.func 31) #[] #[]] w fun e w' => (∃ z : Int, e = .returned (.int .i64 z) ∧ decide (0 ≤ z) = !p.all Bo.planB) ∧ Below w.heap.size w w' := by
    obtain ⟨R, hR⟩ : ∃ R, R = p.all Bo.planB := ⟨_, rfl⟩
    rw [← hR]
    have HR := Lib.hid hR
    have HP := Lib.hid hp
    have HRG := Lib.hid hr
    clear hR hp hr
    go_enter Tryz.func67, Tryz.ntmps67
    go_wp2_with fail
    go_loopw [8] (fun i wr => ∃ k : Nat, k ≤ 8 ∧ i = .int .i64 k ∧ (∀ j x, j < k → p[j]? = some x → Bo.planB x = true) ∧ Below w.heap.size w wr) (fun i _ => 8 - (intOf i).toNat)
    case atStart => exact ⟨0, by omega, rfl, fun j x hj => by omega, Below.refl _ _⟩
    case round =>
      obtain ⟨k, hk, rfl, hall, gb⟩ := hrel
      have HA := Lib.hid hall
      clear hall
      by_cases hlt : k < 8
      · have hk0 : (0 : Int) ≤ (k : Int) := by omega
        have hk8 : (k : Int) < 8 := by omega
        have hpk : p[k]? = some (p.getD k (0, 0, 0)) := by rw [List.getD_eq_getElem?_getD, List.getElem?_eq_getElem (by rw [HP.out]; exact hlt)]; rfl
        have hc := fun w => unplanned_any (p.getD k (0, 0, 0)) w
        have hrg : wr.rangeAt g (16 + k * 3) (pc (p.getD k (0, 0, 0))) := fun j v hv => by
          have hj : j < 3 := (List.getElem?_eq_some_iff.1 hv).1
          have h1 := HRG.out (k * 3 + j) v (by rw [plansC_at _ k j (by rw [HP.out]; exact hlt) hj]; exact hv)
          rw [Nat.add_assoc]
          exact (gb.cell (p := ⟨g, 16 + (k * 3 + j), none⟩) hg).trans h1
        generalize p.getD k (0, 0, 0) = d at *
        obtain ⟨x, y, z⟩ := d
        have c0 : wr.cell? ⟨g, 16 + k * 3, none⟩ = some (.int .i64 x) := hrg 0 _ rfl
        have c1 : wr.cell? ⟨g, 16 + k * 3 + 1, none⟩ = some (.int .i64 y) := hrg 1 _ rfl
        have c2 : wr.cell? ⟨g, 16 + k * 3 + 2, none⟩ = some (.int .i64 z) := hrg 2 _ rfl
        have HPK := Lib.hid hpk
        unfold v3 at hc
        simp only at hc
        obtain ⟨bq, hbq⟩ : ∃ bq, bq = Bo.planB (x, y, z) := ⟨_, rfl⟩
        rw [← hbq] at hc
        have HBQ := Lib.hid hbq
        have HC := Lib.hid hc
        clear hrg hpk hc hbq
        go_wp2_with fail
        refine (HC.out _).mono ?_
        rintro e w1 ⟨rfl, b1⟩
        have gb1 := gb.trans (b1.mono gb.size)
        clear b1 c0 c1 c2 gb
        cases bq
        · have hr : R = false := by rw [HR.out]; exact all_bad HPK.out HBQ.out.symm
          subst hr
          go_wp2_with fail
          go_ret
          exact ⟨⟨_, rfl, by simp⟩, gb1⟩
        · go_wp2_with fail
          go_roundw
          case rel => exact ⟨k + 1, by omega, by go_num, fun j x hj hx => by
            by_cases e : j = k
            · subst e; rw [HPK.out] at hx; injection hx with hx; subst hx; exact HBQ.out.symm
            · exact HA.out j x (by omega) hx, gb1⟩
          case measure => simp [intOf]; omega
      · obtain rfl : k = 8 := by omega
        have hr : R = true := by
          rw [HR.out]
          refine all_of fun j x hx => HA.out j x ?_ hx
          have := (List.getElem?_eq_some_iff.1 hx).1
          rw [HP.out] at this
          exact this
        subst hr
        go_wp2_with fail
        go_ret
        exact ⟨⟨_, rfl, by simp⟩, gb⟩
  have HIX := Lib.hid hix
  clear hix hr hp hg
  generalize p.all Bo.planB = R at *
  go_enter Tryz.func30, Tryz.ntmps30
  go_wp2_with fail
  refine HIX.out.mono ?_
  rintro e w1 ⟨⟨z, rfl, hz⟩, b1⟩
  have HZ := Lib.hid hz
  clear hz
  go_wp2_with fail
  go_ret
  exact ⟨by show Ending.returned (.bool (decide (0 ≤ z))) = _; rw [HZ.out], b1⟩
set_option maxRecDepth 100000 in
set_option maxHeartbeats 2000000 in
/-- slices.ContainsFunc over a board's notes -/
theorem anyVal_any (A : Option Addr) (n c B : Nat) (l : List Vl) (w : World) (hl : RdV w B A n l) (hB : B ≤ w.heap.size) (hn : n ≤ 100000) :
    Calls Tryz.prog 33 #[.slice A n c, .func (.func 34) #[] #[]] w fun e w' => e = .returned (.bool (!l.all fun v => decide (0 ≤ v.2.2))) ∧ Below w.heap.size w w' := by
  have hix : Calls Tryz.prog 68 #[.slice A n c, .func (.func 34) #[] #[]] w fun e w' => (∃ z : Int, e = .returned (.int .i64 z) ∧ decide (0 ≤ z) = !l.all fun v => decide (0 ≤ v.2.2)) ∧ Below w.heap.size w w' := by
    obtain ⟨R, hR⟩ : ∃ R, R = l.all fun v => decide (0 ≤ v.2.2) := ⟨_, rfl⟩
    rw [← hR]
    have HR := Lib.hid hR
    have HN := Lib.hid hl.1
    have HRK := Lib.hid fun (w' : World) (hb : Below w.heap.size w w') => hl.below (hb.mono hB)
    clear hR hl
    go_enter Tryz.func68, Tryz.ntmps68
    go_wp2_with fail
    go_loopw [8] (fun i wr => ∃ k : Nat, k ≤ n ∧ i = .int .i64 k ∧ (∀ j x, j < k → l[j]? = some x → decide (0 ≤ x.2.2) = true) ∧ Below w.heap.size w wr) (fun i _ => n - (intOf i).toNat)
    case atStart => exact ⟨0, by omega, rfl, fun j x hj => by omega, Below.refl _ _⟩
    case round =>
      obtain ⟨k, hk, rfl, hall, gb⟩ := hrel
      have HA := Lib.hid hall
      clear hall
      by_cases hlt : k < n
      · have hkl : k < l.length := by rw [← HN.out]; exact hlt
        obtain ⟨ad, hA, q5, q0, q1, q2⟩ := (HRK.out wr gb).2 k _ (List.getElem?_eq_getElem hkl)
        have hpk : l[k]? = some l[k] := List.getElem?_eq_getElem hkl
        have hc := fun w => negval_any l[k] w
        have hk0 : (0 : Int) ≤ (k : Int) := by omega
        have hkn : (k : Int) < (n : Int) := by omega
        generalize l[k] = d at *
        obtain ⟨x, y, z⟩ := d
        simp only at q0 q1 q2
        subst hA
        have HPK := Lib.hid hpk
        unfold v3 at hc
        simp only at hc
        obtain ⟨bq, hbq⟩ : ∃ bq, bq = decide (z < 0) := ⟨_, rfl⟩
        rw [← hbq] at hc
        have HBQ := Lib.hid hbq
        have HC := Lib.hid hc
        clear hpk hc hbq
        go_wp2_with fail
        refine (HC.out _).mono ?_
        rintro e w1 ⟨rfl, b1⟩
        have gb1 := gb.trans (b1.mono gb.size)
        clear b1 q0 q1 q2 gb
        cases bq
        · go_wp2_with fail
          go_roundw
          case rel => exact ⟨k + 1, by omega, by go_num, fun j x hj hx => by
            by_cases e : j = k
            · subst e; rw [HPK.out] at hx; injection hx with hx; subst hx; have := of_decide_eq_false HBQ.out.symm; exact decide_eq_true (by show 0 ≤ z; omega)
            · exact HA.out j x (by omega) hx, gb1⟩
          case measure => simp [intOf]; omega
        · have hr : R = false := by rw [HR.out]; exact all_bad HPK.out (decide_eq_false (by have := of_decide_eq_true HBQ.out.symm; show ¬ 0 ≤ z; omega))
          subst hr
          go_wp2_with fail
          go_ret
          exact ⟨⟨_, rfl, by simp⟩, gb1⟩
      · obtain rfl : k = n := by omega
        have hr : R = true := by
          rw [HR.out]
          refine all_of fun j x hx => HA.out j x ?_ hx
          have := (List.getElem?_eq_some_iff.1 hx).1
          rw [← HN.out] at this
          exact this
        subst hr
        go_wp2_with fail
        go_ret
        exact ⟨⟨_, rfl, by simp⟩, gb⟩
  have HIX := Lib.hid hix
  clear hix hl hB hn
  generalize (l.all fun v => decide (0 ≤ v.2.2)) = R at *
  go_enter Tryz.func33, Tryz.ntmps33
  go_wp2_with fail
  refine HIX.out.mono ?_
  rintro e w1 ⟨⟨z, rfl, hz⟩, b1⟩
  have HZ := Lib.hid hz
  clear hz
  go_wp2_with fail
  go_ret
  exact ⟨by show Ending.returned (.bool (decide (0 ≤ z))) = _; rw [HZ.out], b1⟩
end Go.Proofs.YtocoohpekpkmkaaGreat

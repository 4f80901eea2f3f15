/- The walks of slices.Index and slices.Contains over values, of news and kept. -/
import Derived.Test.YtocoohpekpkmkaaRegMem
import Derived.Test.YtocoohpekpkmkaaQuiet
namespace Go.Proofs.Ytocoohpekpkmkaa
set_option linter.unusedVariables false
set_option linter.unusedSimpArgs false
open Go.RowKit
open Reg
set_option maxHeartbeats 1000000 in
theorem index29_any (A : Option Addr) (n c B : Nat) (l : List Vl) (v : Vl) (w : World) (hl : RdV w B A n l) (hn : n ≤ 100000) (hB : B ≤ w.heap.size) :
    Calls Try.prog 94 #[.slice A n c, v3 v] w fun e w' => (∃ z : Int, e = .returned (.int .i64 z) ∧ decide (0 ≤ z) = decide (v ∈ l)) ∧ Below w.heap.size w w' := by
  have HN := Lib.hid hl.1
  have HNB := Lib.hid hn
  have HRK := Lib.hid fun (w' : World) (hb : Below w.heap.size w w') => hl.below (hb.mono hB)
  have HB := Lib.hid hB
  obtain ⟨R, hR⟩ : ∃ R, R = decide (v ∈ l) := ⟨_, rfl⟩
  rw [← hR]
  have HR := Lib.hid hR
  clear hR hn hl hB
  obtain ⟨x, s, z⟩ := v
  unfold v3
  simp only
  go_enter Try.func94, Try.ntmps94
  go_upto_region 1 with fail
  refine nameW ?_
  intro wv hwv
  have k0 : Blk wv w.heap.size 49 #[.int .i64 x, .int .i64 s, .int .i64 z] := by rw [hwv]; exact Blk.new w _ _
  have gb : Below w.heap.size w wv := by rw [hwv]; exact (Below.refl _ _).alloc (Nat.le_refl _) _
  clear hwv
  go_wp2_with fail
  go_loopw [8] (fun i wr => ∃ k : Nat, k ≤ n ∧ i = .int .i64 k ∧ (∀ j, j < k → l[j]? ≠ some (x, s, z)) ∧ Blk wr w.heap.size 49 #[.int .i64 x, .int .i64 s, .int .i64 z] ∧ Below w.heap.size w wr) (fun i _ => n - (intOf i).toNat)
  case atStart => exact ⟨0, by omega, rfl, fun j hj => by omega, k0, gb⟩
  case round =>
    clear k0 gb
    obtain ⟨k, hk, rfl, hall, kb, gb⟩ := hrel
    have HA := Lib.hid hall
    clear hall
    by_cases hlt : k < n
    · have hkl : k < l.length := by rw [← HN.out]; exact hlt
      have hkb : k < 100000 := by have := HNB.out; omega
      obtain ⟨ad, hA, q5, q0, q1, q2⟩ := (HRK.out wr gb).2 k _ (List.getElem?_eq_getElem hkl)
      have e1 : l[k]? = some l[k] := List.getElem?_eq_getElem hkl
      have hmem : l[k] ∈ l := List.getElem_mem hkl
      generalize l[k] = d at *
      obtain ⟨x1, s1, z1⟩ := d
      simp only at q0 q1 q2
      subst hA
      have E1 := Lib.hid e1
      have HM := Lib.hid hmem
      have hk0 : (0 : Int) ≤ (k : Int) := by omega
      have hkn : (k : Int) < (n : Int) := by omega
      have t0 : wr.cell? ⟨w.heap.size, 0, none⟩ = some (.int .i64 x) := kb.cell 0
      have t1 : wr.cell? ⟨w.heap.size, 1, none⟩ = some (.int .i64 s) := kb.cell 1
      have t2 : wr.cell? ⟨w.heap.size, 2, none⟩ = some (.int .i64 z) := kb.cell 2
      clear e1 hmem
      by_cases he : (x, s, z) = ((x1, s1, z1) : Vl)
      · have hr : R = true := by rw [HR.out, he]; exact decide_eq_true HM.out
        obtain ⟨rfl, h2⟩ := Prod.mk.inj he
        obtain ⟨rfl, rfl⟩ := Prod.mk.inj h2
        subst hr
        clear he h2
        go_upto_region 4 with fail
        go_quiet (fail)
        go_wp2_with fail
        go_ret
        exact ⟨⟨_, rfl, decide_eq_true hk0⟩, below_drewN gb _⟩
      · have HNE := Lib.hid he
        have fin : ∀ j, j < k + 1 → l[j]? ≠ some (x, s, z) := fun j hj => by
          by_cases e : j = k
          · subst e
            rw [E1.out]
            intro h
            exact HNE.out (Option.some.inj h).symm
          · exact HA.out j (by omega)
        have FIN := Lib.hid fin
        clear fin
        by_cases ex : x = x1
        · subst ex
          by_cases es : s = s1
          · subst es
            have ez : ¬ z = z1 := fun h => he (by rw [h])
            clear he
            go_upto_region 4 with fail
            go_quiet (fail)
            go_wp2_with fail
            go_roundw
            case rel => exact ⟨k + 1, by omega, by go_num, FIN.out, kb, below_drewN gb _⟩
            case measure => simp [intOf]; omega
          · clear he
            go_upto_region 4 with fail
            go_quiet (fail)
            go_wp2_with fail
            go_roundw
            case rel => exact ⟨k + 1, by omega, by go_num, FIN.out, kb, below_drewN gb _⟩
            case measure => simp [intOf]; omega
        · clear he
          go_upto_region 4 with fail
          go_quiet (fail)
          go_wp2_with fail
          go_roundw
          case rel => exact ⟨k + 1, by omega, by go_num, FIN.out, kb, below_drewN gb _⟩
          case measure => simp [intOf]; omega
    · obtain rfl : k = n := by omega
      have hr : R = false := by
        rw [HR.out]
        refine decide_eq_false (fun h => ?_)
        obtain ⟨j, hj, e⟩ := List.getElem_of_mem h
        exact HA.out j (by rw [HN.out]; exact hj) (by rw [List.getElem?_eq_getElem hj, e])
      subst hr
      go_wp2_with fail
      go_ret
      exact ⟨⟨_, rfl, rfl⟩, gb⟩
theorem contains29_any (A : Option Addr) (n c B : Nat) (l : List Vl) (v : Vl) (w : World) (hl : RdV w B A n l) (hn : n ≤ 100000) (hB : B ≤ w.heap.size) :
    Calls Try.prog 49 #[.slice A n c, v3 v] w fun e w' => e = .returned (.bool (decide (v ∈ l))) ∧ Below w.heap.size w w' := by
  have hi := fun w' (hb : Below w.heap.size w w') => index29_any A n c B l v w' (hl.below (hb.mono hB)) hn (by have := hb.size; omega)
  have HI := Lib.hid hi
  clear hi hl hn hB
  generalize decide (v ∈ l) = R at *
  obtain ⟨x, s, z⟩ := v
  unfold v3 at *
  simp only at *
  go_enter Try.func49, Try.ntmps49
  go_upto_region 1 with fail
  refine nameW ?_
  intro wv hwv
  have k0 : Blk wv w.heap.size 49 #[.int .i64 x, .int .i64 s, .int .i64 z] := by rw [hwv]; exact Blk.new w _ _
  have gb : Below w.heap.size w wv := by rw [hwv]; exact (Below.refl _ _).alloc (Nat.le_refl _) _
  clear hwv
  have t0 : wv.cell? ⟨w.heap.size, 0, none⟩ = some (.int .i64 x) := k0.cell 0
  have t1 : wv.cell? ⟨w.heap.size, 1, none⟩ = some (.int .i64 s) := k0.cell 1
  have t2 : wv.cell? ⟨w.heap.size, 2, none⟩ = some (.int .i64 z) := k0.cell 2
  go_wp2_with fail
  refine (HI.out wv gb).mono ?_
  rintro e w1 ⟨⟨q, rfl, hq⟩, b1⟩
  go_wp2_with fail
  go_ret
  exact ⟨by rw [← hq]; rfl, gb.trans (b1.mono gb.size)⟩
end Go.Proofs.Ytocoohpekpkmkaa

/- The walk of the document's Same of registers. -/
import Derived.Test.YtocoohpekpkmkaaRegEq
import Derived.Test.YtocoohpekpkmkaaQuiet
import Derived.BigQuiet
namespace Go.Proofs.Ytocoohpekpkmkaa
set_option linter.unusedVariables false
set_option linter.unusedSimpArgs false
open Go.RowKit
open Reg
set_option maxRecDepth 100000 in
set_option maxHeartbeats 2000000 in
theorem same29_any (U1 U2 : List Int) (hU1 : U1.length = 8) (hU2 : U2.length = 8) (w1 : Wf U1) (w2 : Wf U2) (A1 A2 : Option Addr) (n1 c1 n2 c2 : Nat) (l1 l2 : List Vl) (w : World) (h1 : RdV w w.heap.size A1 n1 l1) (h2 : RdV w w.heap.size A2 n2 l2) (hm : n1 ≤ 1000000) :
    Calls Try.prog 16 #[.agg (uc U1 (.slice A1 n1 c1)), .agg (uc U2 (.slice A2 n2 c2))] w fun e w' => e = .returned (.bool (decide (U1 = U2) && decide (l1 = l2))) ∧ Below w.heap.size w w' := by
  obtain ⟨R, hR⟩ : ∃ R, R = (decide (U1 = U2) && decide (l1 = l2)) := ⟨_, rfl⟩
  rw [← hR]
  have HR := Lib.hid hR
  have W1 := Lib.hid w1
  have W2 := Lib.hid w2
  have HU1 := Lib.hid hU1
  have HU2 := Lib.hid hU2
  have HL1 := Lib.hid (show (U1.map (Value.int .i64)).length = 8 by rw [List.length_map, hU1])
  have HL2 := Lib.hid (show (U2.map (Value.int .i64)).length = 8 by rw [List.length_map, hU2])
  have H1 := Lib.hid h1.1
  have H2 := Lib.hid h2.1
  have HR1 := Lib.hid fun (w' : World) (hb : Below w.heap.size w w') => h1.below hb
  have HR2 := Lib.hid fun (w' : World) (hb : Below w.heap.size w w') => h2.below hb
  clear hR w1 w2 hU1 hU2 h1 h2
  go_enter Try.func16, Try.ntmps16
  go_upto_region 1 with fail
  refine nameW ?_
  intro wv hwv
  obtain ⟨b, hb⟩ : ∃ b, b = w.heap.size := ⟨_, rfl⟩
  rw [← hb]
  have k1 : Blk wv b 25 (uc U1 (.slice A1 n1 c1)) := by rw [hwv, hb]; exact (Blk.new w _ _).alloc _
  have k2 : Blk wv (b + 1) 25 (uc U2 (.slice A2 n2 c2)) := by
    have h := Blk.new (w.alloc (.cells (uc U1 (.slice A1 n1 c1)) 25)) 25 (uc U2 (.slice A2 n2 c2))
    rw [hwv, hb]
    simpa using h
  have gb : Below w.heap.size w wv := by rw [hwv]; exact ((Below.refl _ _).alloc (Nat.le_refl _) _).alloc (by simp) _
  have r1 := uc_range k1
  have r2 := uc_range k2
  have t1 : wv.cell? ⟨b, 8, none⟩ = some (.slice A1 n1 c1) := (k1.cell _).trans (uc_last HU1.out _)
  have t2 : wv.cell? ⟨b + 1, 8, none⟩ = some (.slice A2 n2 c2) := (k2.cell _).trans (uc_last HU2.out _)
  have HGB := Lib.hid gb
  have HD1 := Lib.hid (HR1.out wv gb)
  have HD2 := Lib.hid (HR2.out wv gb)
  clear hwv hb k1 k2 gb HR1 HR2
  by_cases hUU : U1 = U2
  case neg =>
    have hf : R = false := by rw [HR.out, decide_eq_false hUU]; rfl
    subst hf
    have hud : decide (U1 = U2) = false := decide_eq_false hUU
    go_wp2_with first
      | ((with_reducible refine wpList_ldm row8 r1 HL1.out ?_ ?_); rotate_left; (rfl); rw [show (U1.map (Value.int .i64)).toArray = uI U1 from rfl])
      | ((with_reducible refine wpList_ldm row8 r2 HL2.out ?_ ?_); rotate_left; (rfl); rw [show (U2.map (Value.int .i64)).toArray = uI U2 from rfl])
      | ((with_reducible refine wpList_ne8 HU1.out HU2.out W1.out W2.out ?_ ?_ ?_); rotate_left; (rfl); (rfl); rw [hud])
    go_ret
    exact ⟨rfl, HGB.out⟩
  subst hUU
  by_cases hn : n1 = n2
  case neg =>
    have hf : R = false := by
      rw [HR.out]
      have : decide (l1 = l2) = false := decide_eq_false (fun e => hn (by rw [H1.out, H2.out, e]))
      rw [this, Bool.and_false]
    subst hf
    have hnd : ¬ (n1 : Int) = (n2 : Int) := by omega
    go_wp2_with first
      | ((with_reducible refine wpList_ldm row8 r1 HL1.out ?_ ?_); rotate_left; (rfl); rw [show (U1.map (Value.int .i64)).toArray = uI U1 from rfl])
      | ((with_reducible refine wpList_ldm row8 r2 HL2.out ?_ ?_); rotate_left; (rfl); rw [show (U1.map (Value.int .i64)).toArray = uI U1 from rfl])
      | ((with_reducible refine wpList_ne8 HU1.out HU2.out W1.out W2.out ?_ ?_ ?_); rotate_left; (rfl); (rfl); rw [decide_eq_true (rfl : U1 = U1)])
    go_ret
    exact ⟨rfl, HGB.out⟩
  subst hn
  have hR2 : R = decide (l1 = l2) := by rw [HR.out, decide_eq_true (rfl : U1 = U1), Bool.true_and]
  have HR := Lib.hid hR2
  clear hR2
  go_wp2_with first
    | ((with_reducible refine wpList_ldm row8 r1 HL1.out ?_ ?_); rotate_left; (rfl); rw [show (U1.map (Value.int .i64)).toArray = uI U1 from rfl])
    | ((with_reducible refine wpList_ldm row8 r2 HL2.out ?_ ?_); rotate_left; (rfl); rw [show (U1.map (Value.int .i64)).toArray = uI U1 from rfl])
    | ((with_reducible refine wpList_ne8 HU1.out HU2.out W1.out W2.out ?_ ?_ ?_); rotate_left; (rfl); (rfl); rw [decide_eq_true (rfl : U1 = U1)])
  go_loopw [23] (fun i wr => ∃ k m : Nat, k ≤ n1 ∧ i = .int .i64 k ∧ (∀ j, j < k → l1[j]? = l2[j]?) ∧ wr = wv.drewN m) (fun i _ => n1 - (intOf i).toNat)
  case atStart => exact ⟨0, 0, by omega, rfl, fun j hj => by omega, rfl⟩
  case round =>
    obtain ⟨k, m, hk, rfl, hall, rfl⟩ := hrel
    have HA := Lib.hid hall
    clear hall
    have t1' : (wv.drewN m).cell? ⟨b, 8, none⟩ = some (.slice A1 n1 c1) := t1
    have t2' : (wv.drewN m).cell? ⟨b + 1, 8, none⟩ = some (.slice A2 n1 c2) := t2
    by_cases hlt : k < n1
    · have hkl1 : k < l1.length := by rw [← H1.out]; exact hlt
      have hkl2 : k < l2.length := by rw [← H2.out]; exact hlt
      obtain ⟨ad1, rfl, q5, q0, q1, q2⟩ := HD1.out.2 k _ (List.getElem?_eq_getElem hkl1)
      obtain ⟨ad2, rfl, p5, p0, p1, p2⟩ := HD2.out.2 k _ (List.getElem?_eq_getElem hkl2)
      have e1 : l1[k]? = some l1[k] := List.getElem?_eq_getElem hkl1
      have e2 : l2[k]? = some l2[k] := List.getElem?_eq_getElem hkl2
      generalize l1[k] = d1 at *
      generalize l2[k] = d2 at *
      obtain ⟨x1, y1, z1⟩ := d1
      obtain ⟨x2, y2, z2⟩ := d2
      simp only at q0 q1 q2 p0 p1 p2
      have E1 := Lib.hid e1
      have E2 := Lib.hid e2
      have hk0 : (0 : Int) ≤ (k : Int) := by omega
      have hkn : (k : Int) < (n1 : Int) := by omega
      have q0' : (wv.drewN m).cell? (ad1.add (k * 3)) = some (.int .i64 x1) := q0
      have q1' : (wv.drewN m).cell? ⟨(ad1.add (k * 3)).block, (ad1.add (k * 3)).off + 1, none⟩ = some (.int .i64 y1) := q1
      have q2' : (wv.drewN m).cell? ⟨(ad1.add (k * 3)).block, (ad1.add (k * 3)).off + 2, none⟩ = some (.int .i64 z1) := q2
      have p0' : (wv.drewN m).cell? (ad2.add (k * 3)) = some (.int .i64 x2) := p0
      have p1' : (wv.drewN m).cell? ⟨(ad2.add (k * 3)).block, (ad2.add (k * 3)).off + 1, none⟩ = some (.int .i64 y2) := p1
      have p2' : (wv.drewN m).cell? ⟨(ad2.add (k * 3)).block, (ad2.add (k * 3)).off + 2, none⟩ = some (.int .i64 z2) := p2
      have hneq : ¬ (x1 = x2 ∧ y1 = y2 ∧ z1 = z2) → R = false := fun h => by
        rw [HR.out]
        refine decide_eq_false (fun e => ?_)
        have h3 := E1.out
        rw [e, E2.out] at h3
        injection h3 with h3
        injection h3 with h3 h4
        injection h4 with h4 h5
        exact h ⟨h3.symm, h4.symm, h5.symm⟩
      have HNE := Lib.hid hneq
      clear e1 e2 hneq
      by_cases ex : x1 = x2
      · by_cases ey : y1 = y2
        · by_cases ez : z1 = z2
          · subst ex ey ez
            go_upto_region 6 with fail
            go_quiet (fail)
            go_wp2_with fail
            go_roundw
            case rel => exact ⟨k + 1, m + nq, by omega, by go_num, fun j hj => by
              by_cases e : j = k
              · subst e; rw [E1.out, E2.out]
              · exact HA.out j (by omega), rfl⟩
            case measure => simp [intOf]; omega
          · have hf := HNE.out (fun h => ez h.2.2)
            subst hf ex ey
            go_upto_region 6 with fail
            go_quiet (fail)
            go_wp2_with fail
            go_ret
            exact ⟨rfl, below_drewN HGB.out _⟩
        · have hf := HNE.out (fun h => ey h.2.1)
          subst hf ex
          go_upto_region 6 with fail
          go_quiet (fail)
          go_wp2_with fail
          go_ret
          exact ⟨rfl, below_drewN HGB.out _⟩
      · have hf := HNE.out (fun h => ex h.1)
        subst hf
        go_upto_region 6 with fail
        go_quiet (fail)
        go_wp2_with fail
        go_ret
        exact ⟨rfl, below_drewN HGB.out _⟩
    · have hf : R = true := by
        rw [HR.out]
        refine decide_eq_true (List.ext_getElem? fun i => ?_)
        by_cases hi : i < n1
        · exact HA.out i (by omega)
        · rw [List.getElem?_eq_none (by have := H1.out; omega), List.getElem?_eq_none (by have := H2.out; omega)]
      subst hf
      go_wp2_with fail
      go_ret
      exact ⟨rfl, below_drewN HGB.out _⟩
end Go.Proofs.Ytocoohpekpkmkaa

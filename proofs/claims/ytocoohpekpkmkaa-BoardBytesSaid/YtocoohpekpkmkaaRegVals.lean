/- The walks of Values, and of the document's Ints. -/
import Derived.Test.YtocoohpekpkmkaaRegPut
import Derived.Test.YtocoohpekpkmkaaInts
namespace Go.Proofs.Ytocoohpekpkmkaa
set_option linter.unusedVariables false
set_option linter.unusedSimpArgs false
open Go.RowKit
open Reg
theorem fieldM {U : List Int} (h : U.length = 8) (A : Option Addr) (n c' : Nat) (w : World) : (Instr.field 31 (.agg (uc U (.slice A n c'))) 1).run Try.prog w = .ok (.slice A n c') w := by
  obtain ⟨a, b, c, d, e, f, g, i, rfl⟩ := eight h
  kernel_rfl
set_option maxHeartbeats 1000000 in
theorem ints29_any (A A2 : Option Addr) (n c n2 c2 B : Nat) (l l2 : List Int) (w : World) (h1 : RdI w B A n l) (h2 : RdI w B A2 n2 l2) (hn : n ≤ 1000000) :
    Calls Try.prog 19 #[.slice A n c, .slice A2 n2 c2] w fun e w' => e = .returned (.bool (decide (l = l2))) ∧ ∃ m, w' = w.drewN m := by
  have H1 := Lib.hid h1.1
  have H2 := Lib.hid h2.1
  obtain ⟨R, hR⟩ : ∃ R, R = decide (l = l2) := ⟨_, rfl⟩
  rw [← hR]
  have HR := Lib.hid hR
  clear hR
  by_cases hnn : n = n2
  case neg =>
    have hf : R = false := by
      rw [HR.out]
      exact decide_eq_false (fun e => hnn (by rw [H1.out, H2.out, e]))
    subst hf
    have hnd : ¬ (n : Int) = (n2 : Int) := by omega
    go_enter Try.func19, Try.ntmps19
    go_wp2_with fail
    go_ret
    exact ⟨rfl, 0, rfl⟩
  subst hnn
  go_enter Try.func19, Try.ntmps19
  go_wp2_with fail
  go_loopw [13] (fun i wr => ∃ k m : Nat, k ≤ n ∧ i = .int .i64 k ∧ (∀ j, j < k → l[j]? = l2[j]?) ∧ wr = w.drewN m) (fun i _ => n - (intOf i).toNat)
  case atStart => exact ⟨0, 0, by omega, rfl, fun j hj => by omega, rfl⟩
  case round =>
    obtain ⟨k, m, hk, rfl, hall, rfl⟩ := hrel
    have HA := Lib.hid hall
    clear hall
    by_cases hlt : k < n
    · have hkl1 : k < l.length := by rw [← H1.out]; exact hlt
      have hkl2 : k < l2.length := by rw [← H2.out]; exact hlt
      obtain ⟨a1, rfl, q5, q0⟩ := h1.at_ hkl1
      obtain ⟨a2, rfl, p5, p0⟩ := h2.at_ hkl2
      have e1 : l[k]? = some l[k] := List.getElem?_eq_getElem hkl1
      have e2 : l2[k]? = some l2[k] := List.getElem?_eq_getElem hkl2
      generalize l[k] = x1 at *
      generalize l2[k] = x2 at *
      have E1 := Lib.hid e1
      have E2 := Lib.hid e2
      have hk0 : (0 : Int) ≤ (k : Int) := by omega
      have hkn : (k : Int) < (n : Int) := by omega
      have q0' : (w.drewN m).cell? (a1.add k) = some (.int .i64 x1) := q0
      have p0' : (w.drewN m).cell? (a2.add k) = some (.int .i64 x2) := p0
      clear e1 e2
      by_cases ex : x1 = x2
      · subst ex
        go_upto_region 6 with fail
        go_quiet (fail)
        go_wp2_with fail
        go_roundw
        case rel => exact ⟨k + 1, m + nq, by omega, by go_num, fun j hj => by
          by_cases e : j = k
          · subst e; rw [E1.out, E2.out]
          · exact HA.out j (by omega), rfl⟩
        case measure => simp [intOf]; omega
      · have hf : R = false := by
          rw [HR.out]
          refine decide_eq_false (fun e => ?_)
          have h3 := E1.out
          rw [e, E2.out] at h3
          injection h3 with h3
          exact ex h3.symm
        subst hf
        go_upto_region 6 with fail
        go_quiet (fail)
        go_wp2_with fail
        go_ret
        exact ⟨rfl, m + nq, by simp⟩
    · have hf : R = true := by
        rw [HR.out]
        refine decide_eq_true (List.ext_getElem? fun j => ?_)
        by_cases hj : j < n
        · exact HA.out j (by omega)
        · rw [List.getElem?_eq_none (by rw [← H1.out]; omega), List.getElem?_eq_none (by rw [← H2.out]; omega)]
      subst hf
      obtain rfl : k = n := by omega
      go_wp2_with fail
      go_ret
      exact ⟨rfl, m, rfl⟩
set_option maxRecDepth 100000 in
set_option maxHeartbeats 2000000 in
theorem values29_any (U : List Int) (hU : U.length = 8) (A : Option Addr) (n c : Nat) (l : List Vl) (w : World) (hl : RdV w w.heap.size A n l) (hn : n ≤ 100000) :
    Calls Try.prog 20 #[.agg (uc U (.slice A n c))] w fun e w' => ∃ A' m c', e = .returned (.slice A' m c') ∧ OwnI w' w.heap.size A' m c' (valuesM U l) ∧ Below w.heap.size w w' := by
  obtain ⟨B, hB⟩ : ∃ B, B = w.heap.size := ⟨_, rfl⟩
  have hO := fun (w' : World) (hb : Below B w w') => own29_any U hU A n c l w' B ((hB ▸ hl : RdV w B A n l).below hb) (by have := hb.size; omega) hn
  unfold valuesM
  have HO := Lib.hid hO
  have HS := Lib.hid (uc_size hU (.slice A n c))
  generalize ownM U l = R at *
  clear hO hl hn hU
  go_enter Try.func20, Try.ntmps20
  go_upto_region 1 with fail
  refine nameW ?_
  intro wv hwv
  have kb : Blk wv B 31 (uc U (.slice A n c)) := by rw [hwv, hB]; exact Blk.new w _ _
  have gb : Below B w wv := by rw [hwv, hB]; exact (Below.refl _ _).alloc (Nat.le_refl _) _
  have HB := Lib.hid hB
  rw [← hB]
  clear hwv hB
  have gbs := gb.size
  go_upto_region 1 with fail
  go_wp2_with ((with_reducible refine wpList_ld rowM kb HS.out ?_ ?_); rotate_left; (rfl))
  refine (HO.out wv gb).mono ?_
  rintro e w1 ⟨A1, m1, c1, rfl, r1, hm1, h8, b1⟩
  have gb1 := gb.trans (b1.mono (by have := kb.lt; omega))
  have hfx := fun w => fieldM h8 A1 m1 c1 w
  have HN := Lib.hid r1.1
  have HRK := Lib.hid fun (w' : World) (hb : Below B w1 w') => r1.below hb
  have HMB := Lib.hid hm1
  clear b1 kb gb r1 hm1 HO
  go_wp2_with fail
  go_loopw [2, 9] (fun s i wr => ∃ (k : Nat) (A' : Option Addr) (c' : Nat), k ≤ m1 ∧ i = .int .i64 k ∧ s = .slice A' k c' ∧ OwnI wr B A' k c' ((R.2.take k).map (·.2.2)) ∧ Below B w1 wr) (fun _ i _ => m1 - (intOf i).toNat)
  case atStart => exact ⟨0, none, 0, by omega, rfl, rfl, OwnI.nil _ _, Below.refl _ _⟩
  case round =>
    obtain ⟨k, A', c', hk, rfl, rfl, ho, gb⟩ := hrel
    by_cases hlt : k < m1
    · have hkl : k < R.2.length := by rw [← HN.out]; exact hlt
      have hkb : k < 100000 := by have := HMB.out; omega
      obtain ⟨ad, hA, q5, q0, q1, q2⟩ := (HRK.out wr gb).2 k _ (List.getElem?_eq_getElem hkl)
      have hsn : (R.2.take (k + 1)).map (·.2.2) = (R.2.take k).map (·.2.2) ++ [R.2[k].2.2] := by rw [take_snoc R.2 hkl, List.map_append]; rfl
      generalize R.2[k] = d at *
      obtain ⟨x, s, z⟩ := d
      simp only at q0 q1 q2 hsn
      subst hA
      have HSN := Lib.hid hsn
      have hk0 : (0 : Int) ≤ (k : Int) := by omega
      have hkn : (k : Int) < (m1 : Int) := by omega
      have hbs : B ≤ wr.heap.size := by have := gb.size; have := gb1.size; have := HB.out; omega
      clear hsn
      go_upto_region 4 with fail
      refine nameW ?_
      intro wn hwn
      have kd : Blk wn wr.heap.size 49 #[.int .i64 x, .int .i64 s, .int .i64 z] := by rw [hwn]; exact Blk.new wr _ _
      have bn : Below wr.heap.size wr wn := by rw [hwn]; exact (Below.refl _ _).alloc (Nat.le_refl _) _
      have ho1 := ho.below bn (Nat.le_refl _)
      have gb2 := gb.trans (bn.mono hbs)
      have t2 : wn.cell? ⟨wr.heap.size, 2, none⟩ = some (.int .i64 z) := kd.cell 2
      have hwb := kd.lt
      clear hwn bn ho gb q0 q1 q2
      go_wp2_with (at_builtin; refine wpList_appI rfl (.tmp 13) (.tmp 16) rfl rfl (ho1.alloc _) (news := [z]) rfl ⟨rfl, Rd.made _ _ _ _⟩ ?h2 ?h3 ?h4)
      case h2 => omega
      case h3 => simp; omega
      intro A2 c2 w2 o2 g2 m2 b2
      have gb3 := (gb2.alloc (by omega) (.cells #[.int .i64 z] 3)).trans b2
      clear g2 m2 b2
      go_wp2_with fail
      go_roundw
      case rel => exact ⟨k + 1, A2, c2, by omega, by go_num, rfl, by rw [HSN.out, List.map_take]; exact o2, gb3⟩
      case measure => simp [intOf]; omega
    · obtain rfl : k = m1 := by omega
      have ho := ho
      rw [List.take_of_length_le (by rw [← HN.out]; exact Nat.le_refl _)] at ho
      go_wp2_with fail
      go_ret
      obtain rfl := HB.out
      exact ⟨A', k, c', rfl, ho, gb1.trans gb⟩
end Go.Proofs.Ytocoohpekpkmkaa

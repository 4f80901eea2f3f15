/- The walks of the document's Values and Same. -/
import Derived.Test.YtocoohpekpkmkaaRegVals
namespace Go.Proofs.Ytocoohpekpkmkaa
set_option linter.unusedVariables false
set_option linter.unusedSimpArgs false
open Go.RowKit
open Reg
theorem fieldRM {U : List Int} (h : U.length = 8) (A : Option Addr) (n c' : Nat) (w : World) : (Instr.field 25 (.agg (uc U (.slice A n c'))) 1).run Try.prog w = .ok (.slice A n c') w := by
  obtain ⟨a, b, c, d, e, f, g, i, rfl⟩ := eight h
  kernel_rfl
set_option maxRecDepth 100000 in
set_option maxHeartbeats 2000000 in
theorem rvalues29_any (U : List Int) (hU : U.length = 8) (A : Option Addr) (n c : Nat) (l : List Vl) (w : World) (hl : RdV w w.heap.size A n l) (hn : n ≤ 100000) :
    Calls Try.prog 21 #[.agg (uc U (.slice A n c))] w fun e w' => ∃ A' m c', e = .returned (.slice A' m c') ∧ OwnI w' w.heap.size A' m c' (valuesM U l) ∧ Below w.heap.size w w' := by
  obtain ⟨B, hB⟩ : ∃ B, B = w.heap.size := ⟨_, rfl⟩
  have hO := fun (w' : World) (hb : Below B w w') => rown29_any U hU A n c l w' B ((hB ▸ hl : RdV w B A n l).below hb) (by have := hb.size; omega) hn
  unfold valuesM
  have HO := Lib.hid hO
  have HS := Lib.hid (uc_size hU (.slice A n c))
  generalize ownM U l = R at *
  clear hO hl hn hU
  go_enter Try.func21, Try.ntmps21
  go_upto_region 1 with fail
  refine nameW ?_
  intro wv hwv
  have kb : Blk wv B 25 (uc U (.slice A n c)) := by rw [hwv, hB]; exact Blk.new w _ _
  have gb : Below B w wv := by rw [hwv, hB]; exact (Below.refl _ _).alloc (Nat.le_refl _) _
  have HB := Lib.hid hB
  rw [← hB]
  clear hwv hB
  have gbs := gb.size
  go_upto_region 1 with fail
  go_wp2_with ((with_reducible refine wpList_ld rowRM kb HS.out ?_ ?_); rotate_left; (rfl))
  refine (HO.out wv gb).mono ?_
  rintro e w1 ⟨A1, m1, c1, rfl, r1, hm1, h8, b1⟩
  have gb1 := gb.trans (b1.mono (by have := kb.lt; omega))
  have hfx := fun w => fieldRM h8 A1 m1 c1 w
  have HN := Lib.hid r1.1
  have HRK := Lib.hid fun (w' : World) (hb : Below B w1 w') => r1.below hb
  have HMB := Lib.hid hm1
  clear b1 kb gb r1 hm1 HO
  go_wp2_with fail
  go_loopw [3, 10] (fun s i wr => ∃ (k : Nat) (A' : Option Addr) (c' : Nat), k ≤ m1 ∧ i = .int .i64 k ∧ s = .slice A' k c' ∧ OwnI wr B A' k c' ((R.2.take k).map (·.2.2)) ∧ Below B w1 wr) (fun _ i _ => m1 - (intOf i).toNat)
  case atStart => exact ⟨0, none, 0, by omega, rfl, rfl, OwnI.nil _ _, Below.refl _ _⟩
  case round =>
    obtain ⟨k, A', c', hk, rfl, rfl, ho, gb⟩ := hrel
    by_cases hlt : k < m1
    · have hkl : k < R.2.length := by rw [← HN.out]; exact hlt
      have hkb : k < 100000 := by have := HMB.out; omega
      obtain ⟨ad, hA, q5, q0, q1, q2⟩ := (HRK.out wr gb).2 k _ (List.getElem?_eq_getElem hkl)
      have hsn : (R.2.take (k + 1)).map (·.2.2) = (R.2.take k).map (·.2.2) ++ [R.2[k].2.2] := by rw [take_snoc R.2 hkl, List.map_append]; rfl
      generalize R.2[k] = d at *
      obtain ⟨x, s, z⟩ := d
      simp only at q0 q1 q2 hsn
      subst hA
      have HSN := Lib.hid hsn
      have hk0 : (0 : Int) ≤ (k : Int) := by omega
      have hkn : (k : Int) < (m1 : Int) := by omega
      have hbs : B ≤ wr.heap.size := by have := gb.size; have := gb1.size; have := HB.out; omega
      clear hsn
      go_upto_region 5 with fail
      refine nameW ?_
      intro wn hwn
      have kd : Blk wn wr.heap.size 105 #[.int .i64 x, .int .i64 s, .int .i64 z] := by rw [hwn]; exact Blk.new wr _ _
      have bn : Below wr.heap.size wr wn := by rw [hwn]; exact (Below.refl _ _).alloc (Nat.le_refl _) _
      have ho1 := ho.below bn (Nat.le_refl _)
      have gb2 := gb.trans (bn.mono hbs)
      have t2 : wn.cell? ⟨wr.heap.size, 2, none⟩ = some (.int .i64 z) := kd.cell 2
      have hwb := kd.lt
      clear hwn bn ho gb q0 q1 q2
      go_wp2_with (at_builtin; refine wpList_appI rfl (.tmp 14) (.tmp 17) rfl rfl (ho1.alloc _) (news := [z]) rfl ⟨rfl, Rd.made _ _ _ _⟩ ?h2 ?h3 ?h4)
      case h2 => omega
      case h3 => simp; omega
      intro A2 c2 w2 o2 g2 m2 b2
      have gb3 := (gb2.alloc (by omega) (.cells #[.int .i64 z] 3)).trans b2
      clear g2 m2 b2
      go_wp2_with fail
      go_roundw
      case rel => exact ⟨k + 1, A2, c2, by omega, by go_num, rfl, by rw [HSN.out, List.map_take]; exact o2, gb3⟩
      case measure => simp [intOf]; omega
    · obtain rfl : k = m1 := by omega
      have ho := ho
      rw [List.take_of_length_le (by rw [← HN.out]; exact Nat.le_refl _)] at ho
      go_wp2_with fail
      go_ret
      obtain rfl := HB.out
      exact ⟨A', k, c', rfl, ho, gb1.trans gb⟩
end Go.Proofs.Ytocoohpekpkmkaa

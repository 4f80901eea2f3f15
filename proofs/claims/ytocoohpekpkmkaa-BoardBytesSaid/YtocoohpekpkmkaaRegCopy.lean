/- The law's copies of a register: To, From (printed by gen/regcopy.py). -/
import Derived.Test.YtocoohpekpkmkaaRegMem
import Derived.Test.YtocoohpekpkmkaaQuiet
namespace Go.Proofs.Ytocoohpekpkmkaa
set_option linter.unusedVariables false
set_option linter.unusedSimpArgs false
open Go.RowKit
open Reg
theorem uc_set8 {U : List Int} (h : U.length = 8) (s t : Value) : (uc U s).setIfInBounds 8 t = uc U t := by
  obtain ⟨a, b, c, d, e, f, g, i, rfl⟩ := eight h
  rfl
def z8 : List Int := [0, 0, 0, 0, 0, 0, 0, 0]
theorem wpList_bdV {P : Program} {ops : Array Oper} {rest : List Oper} {o : Oper} {a : Act} {w w' : World} {v : Value} {Q : Exit → Act → World → Prop} (hg : o.guard = none) (t : TypeId) (parts : Array (Nat × Operand)) (ho : o.op = .build t parts)
    (hrun : (Instr.build t (parts.map fun (i, x) => (i, a.eval x))).run P w = .ok v w') (h : wpList P ops Q rest (a.put o.dst v) w') : wpList P ops Q (o :: rest) a w := by
  refine wpList_plain hg fun K hK => ?_
  unfold Oper.wp execOp
  simp only [ho, Sem.run_bind, hrun, Result.andThen_ok]
  exact hK _ _ h
theorem buildM {U : List Int} (h : U.length = 8) (w : World) : (Instr.build 31 #[(0, .agg (uI U))]).run Try.prog w = .ok (.agg (uc U (.slice none 0 0))) w := by
  obtain ⟨a, b, c, d, e, f, g, i, rfl⟩ := eight h
  kernel_rfl
theorem buildRM {U : List Int} (h : U.length = 8) (w : World) : (Instr.build 25 #[(0, .agg (uI U))]).run Try.prog w = .ok (.agg (uc U (.slice none 0 0))) w := by
  obtain ⟨a, b, c, d, e, f, g, i, rfl⟩ := eight h
  kernel_rfl
/-- a register's copy -/
def CopyV (T : TypeId) (w : World) (U : List Int) (l : List Vl) (e : Ending) (w' : World) : Prop := ∃ A m c, e = .returned (.agg (uc U (.slice A m c))) ∧ OwnV T w' w.heap.size A m c l ∧ Below w.heap.size w w'
set_option maxRecDepth 100000 in
set_option maxHeartbeats 2000000 in
theorem to29_any (U : List Int) (hU : U.length = 8) (A : Option Addr) (n c : Nat) (l : List Vl) (w : World) (hl : RdV w w.heap.size A n l) (hn : n ≤ 100000) :
    Calls Try.prog 10 #[.agg (uc U (.slice A n c))] w (CopyV 49 w U l) := by
  unfold CopyV
  have HU := Lib.hid hU
  have HN := Lib.hid hl.1
  have HNB := Lib.hid hn
  have HL := Lib.hid (show (U.map (Value.int .i64)).length = 8 by rw [List.length_map, hU])
  have HBD := Lib.hid fun w => buildM hU w
  have HSZ := Lib.hid (uc_size hU (.slice none 0 0))
  have H1C := Lib.hid (uc_one (U := U) (s := .slice none 0 0) rfl)
  have HRK := Lib.hid fun (w' : World) (hb : Below w.heap.size w w') => hl.below hb
  clear hU hn hl
  go_enter Try.func10, Try.ntmps10
  go_upto_region 1 with fail
  refine nameW ?_
  intro wv hwv
  obtain ⟨B, hB⟩ : ∃ B, B = w.heap.size := ⟨_, rfl⟩
  rw [← hB] at HRK ⊢
  have kb : Blk wv B 25 (uc U (.slice A n c)) := by rw [hwv, hB]; exact (Blk.new w _ _).alloc _
  have kz : Blk wv (B + 1) 31 (uc z8 (.slice none 0 0)) := by
    have h := Blk.new (w.alloc (.cells (uc U (.slice A n c)) 25)) 31 (uc z8 (.slice none 0 0))
    have hz : uc z8 (.slice none 0 0) = #[.int .i64 0, .int .i64 0, .int .i64 0, .int .i64 0, .int .i64 0, .int .i64 0, .int .i64 0, .int .i64 0, .slice none 0 0] := by kernel_rfl
    rw [hz] at h ⊢
    rw [hwv, hB]
    simpa using h
  have gb : Below B w wv := by rw [hwv, hB]; exact ((Below.refl _ _).alloc (Nat.le_refl _) _).alloc (by simp) _
  have r0 := uc_range kb
  obtain ⟨g, hg⟩ : ∃ g, g = wv.heap.size := ⟨_, rfl⟩
  have hBg : B + 1 < g := by rw [hg]; exact kz.lt
  clear hwv
  have HB := Lib.hid hB
  clear hB
  go_upto_region 2 with first
    | ((with_reducible refine wpList_ldm row8 r0 HL.out ?_ ?_); rotate_left; (rfl); rw [show (U.map (Value.int .i64)).toArray = uI U from rfl])
    | ((refine wpList_bdV (v := .agg (uc U (.slice none 0 0))) (w' := wv) rfl 31 #[(0, .tmp 7)] rfl ?_ ?_); (simp only [List.map_toArray, List.map_cons, List.map_nil]; exact HBD.out wv))
    | ((with_reducible refine wpList_st rowM (Blk.new _ _ _) HSZ.out ?_ H1C.out ?_ ?_ ?_); (rfl); rotate_left; (rfl); (rfl); intro w2 k2 g2 z2)
  rw [← hg] at k2 g2 ⊢
  have gB : Below B wv w2 := (((Below.refl _ _).alloc (by omega) _).grown g2 (by simp; omega) (fun q hq => by injection hq with hq; omega))
  have gb2 := gb.trans gB
  have kb2 := kb.below (B := g) (((Below.refl _ _).alloc (by omega) _).grown g2 (by simp; omega) (fun q hq => by injection hq with hq; omega)) (by omega)
  have kz2 := kz.below (B := g) (((Below.refl _ _).alloc (by omega) _).grown g2 (by simp; omega) (fun q hq => by injection hq with hq; omega)) (by omega)
  have t8 : w2.cell? ⟨B, 8, none⟩ = some (.slice A n c) := (kb2.cell 8).trans (uc_last HU.out _)
  clear g2 z2 gB gb kb kz r0 hg kb2
  go_wp2_with fail
  go_loopw [12] (fun i wr => ∃ (k : Nat) (A' : Option Addr) (c' : Nat), k ≤ n ∧ i = .int .i64 k ∧ Blk wr g 31 (uc U (.slice A' k c')) ∧ OwnV 49 wr B A' k c' (l.take k) ∧ A'.map (·.block) ≠ some g ∧ A'.map (·.block) ≠ some (B + 1) ∧ Blk wr (B + 1) 31 (uc z8 (.slice none 0 0)) ∧ Below B w wr) (fun i _ => n - (intOf i).toNat)
  case atStart => exact ⟨0, none, 0, by omega, rfl, k2, OwnV.nil _ _ _, by simp, by simp, kz2, gb2⟩
  case round =>
    clear k2 kz2 gb2 t8
    obtain ⟨k, A', c', hk, rfl, kg, ho, hne, hnz, kz, gb⟩ := hrel
    by_cases hlt : k < n
    · have hkl : k < l.length := by rw [← HN.out]; exact hlt
      have hkb : k < 100000 := by have := HNB.out; omega
      obtain ⟨ad, hA, q5, q0, q1, q2⟩ := (HRK.out wr gb).2 k _ (List.getElem?_eq_getElem hkl)
      have hsn := take_snoc l hkl
      generalize l[k] = d at *
      obtain ⟨x, s, z⟩ := d
      simp only at q0 q1 q2
      subst hA
      have HSN := Lib.hid hsn
      have hk0 : (0 : Int) ≤ (k : Int) := by omega
      have hkn : (k : Int) < (n : Int) := by omega
      have hgs := kg.lt
      clear hsn
      go_upto_region 5 with fail
      refine nameW ?_
      intro wn hwn
      have kd : Blk wn wr.heap.size 105 #[.int .i64 x, .int .i64 s, .int .i64 z] := by rw [hwn]; exact Blk.new wr _ _
      have bn : Below wr.heap.size wr wn := by rw [hwn]; exact (Below.refl _ _).alloc (Nat.le_refl _) _
      have kg1 := kg.below bn (by omega)
      have kz1 := kz.below bn (by have := kz.lt; omega)
      have ho1 := ho.below bn (by omega)
      have hBs : B ≤ wr.heap.size := by omega
      have gb1 := gb.trans (bn.mono hBs)
      have c8 : wn.cell? ⟨g, 8, none⟩ = some (.slice A' k c') := (kg1.cell 8).trans (uc_last HU.out _)
      have t0 : wn.cell? ⟨wr.heap.size, 0, none⟩ = some (.int .i64 x) := kd.cell 0
      have t1 : wn.cell? ⟨wr.heap.size, 1, none⟩ = some (.int .i64 s) := kd.cell 1
      have t2 : wn.cell? ⟨wr.heap.size, 2, none⟩ = some (.int .i64 z) := kd.cell 2
      have hwb : wr.heap.size < wn.heap.size := kd.lt
      clear hwn bn kg kz ho gb q0 q1 q2
      go_wp2_with (at_builtin; refine wpList_appV rfl (.tmp 17) (.tmp 19) rfl rfl (ho1.alloc _) (news := [(x, s, z)]) rfl (Rd.made _ _ _ _) rfl ?h2 ?h3 ?h4)
      case h2 => omega
      case h3 => simp; omega
      intro A2 c2 w2 o2 g2 m2 b2
      have kg2 : Blk w2 g 31 (uc U (.slice A' k c')) := (kg1.alloc _).grown g2 hne
      have kz2 : Blk w2 (B + 1) 31 (uc z8 (.slice none 0 0)) := (kz1.alloc _).grown g2 hnz
      have hgn := kg1.lt
      have hne2 : A2.map (·.block) ≠ some g := by
        rcases m2 with h | h
        · rw [h]; exact hne
        · rw [h]
          intro e
          injection e with e
          try simp at e
          omega
      have hnz2 : A2.map (·.block) ≠ some (B + 1) := by
        rcases m2 with h | h
        · rw [h]; exact hnz
        · rw [h]
          intro e
          injection e with e
          try simp at e
          omega
      have c82 : w2.cell? ⟨g, 8, none⟩ = some (.slice A' k c') := (kg2.cell 8).trans (uc_last HU.out _)
      have f82 := kg2.free 8
      have bw := ((gb1.alloc (by omega) (.cells #[.int .i64 x, .int .i64 s, .int .i64 z] 49)).trans b2).setCell (p := ⟨g, 8, none⟩) (by simp; omega) (.slice A2 (k + 1) c2)
      have o3 := o2.setFar (p := ⟨g, 8, none⟩) hne2 (.slice A2 (k + 1) c2)
      have k3 := kg2.set_ 8 (.slice A2 (k + 1) c2)
      rw [uc_set8 HU.out] at k3
      have z3 : Blk (w2.setCell ⟨g, 8, none⟩ (.slice A2 (k + 1) c2)) (B + 1) 31 (uc z8 (.slice none 0 0)) := kz2.below (B := B + 2) ((Below.refl _ _).setCell (p := ⟨g, 8, none⟩) (by simp; omega) _) (by omega)
      have HO3 := Lib.hid o3
      have HB3 := Lib.hid bw
      have HK3 := Lib.hid k3
      have HZ3 := Lib.hid z3
      clear g2 m2 b2 o2 o3 bw k3 z3
      go_wp2_with fail
      go_roundw
      case rel => exact ⟨k + 1, A2, c2, by omega, by go_num, HK3.out, by rw [HSN.out]; exact HO3.out, hne2, hnz2, HZ3.out, HB3.out⟩
      case measure => simp [intOf]; omega
    · obtain rfl : k = n := by omega
      have HSK := Lib.hid (uc_size HU.out (.slice A' k c'))
      have H1K := Lib.hid (uc_one (U := U) (s := .slice A' k c') rfl)
      have HSZ8 := Lib.hid (show (uc z8 (.slice none 0 0)).size = 9 from rfl)
      have ho := ho
      rw [List.take_of_length_le (by rw [← HN.out]; exact Nat.le_refl _)] at ho
      go_wp2_with first
        | ((with_reducible refine wpList_ld rowM kg HSK.out ?_ ?_); rotate_left; (rfl))
        | ((with_reducible refine wpList_st rowM kz HSK.out HSZ8.out H1K.out ?_ ?_ ?_); rotate_left; (rfl); (rfl); intro w3 k3 g3 z3)
      have o3 := ho.grown g3 (.inr hnz)
      obtain rfl := HB.out
      exact bodyPost_ret (v := .agg (uc U (.slice A' k c'))) (results_blk rfl rowM k3 HSK.out rfl) rfl ⟨A', k, c', rfl, o3, gb.grown g3 gb.size (fun q hq => by injection hq; omega)⟩
set_option maxRecDepth 100000 in
set_option maxHeartbeats 2000000 in
theorem from29_any (U : List Int) (hU : U.length = 8) (A : Option Addr) (n c : Nat) (l : List Vl) (w : World) (hl : RdV w w.heap.size A n l) (hn : n ≤ 100000) :
    Calls Try.prog 17 #[.agg (uc U (.slice A n c))] w (CopyV 105 w U l) := by
  unfold CopyV
  have HU := Lib.hid hU
  have HN := Lib.hid hl.1
  have HNB := Lib.hid hn
  have HL := Lib.hid (show (U.map (Value.int .i64)).length = 8 by rw [List.length_map, hU])
  have HBD := Lib.hid fun w => buildRM hU w
  have HSZ := Lib.hid (uc_size hU (.slice none 0 0))
  have H1C := Lib.hid (uc_one (U := U) (s := .slice none 0 0) rfl)
  have HRK := Lib.hid fun (w' : World) (hb : Below w.heap.size w w') => hl.below hb
  clear hU hn hl
  go_enter Try.func17, Try.ntmps17
  go_upto_region 1 with fail
  refine nameW ?_
  intro wv hwv
  obtain ⟨B, hB⟩ : ∃ B, B = w.heap.size := ⟨_, rfl⟩
  rw [← hB] at HRK ⊢
  have kb : Blk wv B 31 (uc U (.slice A n c)) := by rw [hwv, hB]; exact (Blk.new w _ _).alloc _
  have kz : Blk wv (B + 1) 25 (uc z8 (.slice none 0 0)) := by
    have h := Blk.new (w.alloc (.cells (uc U (.slice A n c)) 31)) 25 (uc z8 (.slice none 0 0))
    have hz : uc z8 (.slice none 0 0) = #[.int .i64 0, .int .i64 0, .int .i64 0, .int .i64 0, .int .i64 0, .int .i64 0, .int .i64 0, .int .i64 0, .slice none 0 0] := by kernel_rfl
    rw [hz] at h ⊢
    rw [hwv, hB]
    simpa using h
  have gb : Below B w wv := by rw [hwv, hB]; exact ((Below.refl _ _).alloc (Nat.le_refl _) _).alloc (by simp) _
  have r0 := uc_range kb
  obtain ⟨g, hg⟩ : ∃ g, g = wv.heap.size := ⟨_, rfl⟩
  have hBg : B + 1 < g := by rw [hg]; exact kz.lt
  clear hwv
  have HB := Lib.hid hB
  clear hB
  go_upto_region 2 with first
    | ((with_reducible refine wpList_ldm row8 r0 HL.out ?_ ?_); rotate_left; (rfl); rw [show (U.map (Value.int .i64)).toArray = uI U from rfl])
    | ((refine wpList_bdV (v := .agg (uc U (.slice none 0 0))) (w' := wv) rfl 25 #[(0, .tmp 7)] rfl ?_ ?_); (simp only [List.map_toArray, List.map_cons, List.map_nil]; exact HBD.out wv))
    | ((with_reducible refine wpList_st rowRM (Blk.new _ _ _) HSZ.out ?_ H1C.out ?_ ?_ ?_); (rfl); rotate_left; (rfl); (rfl); intro w2 k2 g2 z2)
  rw [← hg] at k2 g2 ⊢
  have gB : Below B wv w2 := (((Below.refl _ _).alloc (by omega) _).grown g2 (by simp; omega) (fun q hq => by injection hq with hq; omega))
  have gb2 := gb.trans gB
  have kb2 := kb.below (B := g) (((Below.refl _ _).alloc (by omega) _).grown g2 (by simp; omega) (fun q hq => by injection hq with hq; omega)) (by omega)
  have kz2 := kz.below (B := g) (((Below.refl _ _).alloc (by omega) _).grown g2 (by simp; omega) (fun q hq => by injection hq with hq; omega)) (by omega)
  have t8 : w2.cell? ⟨B, 8, none⟩ = some (.slice A n c) := (kb2.cell 8).trans (uc_last HU.out _)
  clear g2 z2 gB gb kb kz r0 hg kb2
  go_wp2_with fail
  go_loopw [12] (fun i wr => ∃ (k : Nat) (A' : Option Addr) (c' : Nat), k ≤ n ∧ i = .int .i64 k ∧ Blk wr g 25 (uc U (.slice A' k c')) ∧ OwnV 105 wr B A' k c' (l.take k) ∧ A'.map (·.block) ≠ some g ∧ A'.map (·.block) ≠ some (B + 1) ∧ Blk wr (B + 1) 25 (uc z8 (.slice none 0 0)) ∧ Below B w wr) (fun i _ => n - (intOf i).toNat)
  case atStart => exact ⟨0, none, 0, by omega, rfl, k2, OwnV.nil _ _ _, by simp, by simp, kz2, gb2⟩
  case round =>
    clear k2 kz2 gb2 t8
    obtain ⟨k, A', c', hk, rfl, kg, ho, hne, hnz, kz, gb⟩ := hrel
    by_cases hlt : k < n
    · have hkl : k < l.length := by rw [← HN.out]; exact hlt
      have hkb : k < 100000 := by have := HNB.out; omega
      obtain ⟨ad, hA, q5, q0, q1, q2⟩ := (HRK.out wr gb).2 k _ (List.getElem?_eq_getElem hkl)
      have hsn := take_snoc l hkl
      generalize l[k] = d at *
      obtain ⟨x, s, z⟩ := d
      simp only at q0 q1 q2
      subst hA
      have HSN := Lib.hid hsn
      have hk0 : (0 : Int) ≤ (k : Int) := by omega
      have hkn : (k : Int) < (n : Int) := by omega
      have hgs := kg.lt
      clear hsn
      go_upto_region 5 with fail
      refine nameW ?_
      intro wn hwn
      have kd : Blk wn wr.heap.size 49 #[.int .i64 x, .int .i64 s, .int .i64 z] := by rw [hwn]; exact Blk.new wr _ _
      have bn : Below wr.heap.size wr wn := by rw [hwn]; exact (Below.refl _ _).alloc (Nat.le_refl _) _
      have kg1 := kg.below bn (by omega)
      have kz1 := kz.below bn (by have := kz.lt; omega)
      have ho1 := ho.below bn (by omega)
      have hBs : B ≤ wr.heap.size := by omega
      have gb1 := gb.trans (bn.mono hBs)
      have c8 : wn.cell? ⟨g, 8, none⟩ = some (.slice A' k c') := (kg1.cell 8).trans (uc_last HU.out _)
      have t0 : wn.cell? ⟨wr.heap.size, 0, none⟩ = some (.int .i64 x) := kd.cell 0
      have t1 : wn.cell? ⟨wr.heap.size, 1, none⟩ = some (.int .i64 s) := kd.cell 1
      have t2 : wn.cell? ⟨wr.heap.size, 2, none⟩ = some (.int .i64 z) := kd.cell 2
      have hwb : wr.heap.size < wn.heap.size := kd.lt
      clear hwn bn kg kz ho gb q0 q1 q2
      go_wp2_with (at_builtin; refine wpList_appRV rfl (.tmp 17) (.tmp 19) rfl rfl (ho1.alloc _) (news := [(x, s, z)]) rfl (Rd.made _ _ _ _) rfl ?h2 ?h3 ?h4)
      case h2 => omega
      case h3 => simp; omega
      intro A2 c2 w2 o2 g2 m2 b2
      have kg2 : Blk w2 g 25 (uc U (.slice A' k c')) := (kg1.alloc _).grown g2 hne
      have kz2 : Blk w2 (B + 1) 25 (uc z8 (.slice none 0 0)) := (kz1.alloc _).grown g2 hnz
      have hgn := kg1.lt
      have hne2 : A2.map (·.block) ≠ some g := by
        rcases m2 with h | h
        · rw [h]; exact hne
        · rw [h]
          intro e
          injection e with e
          try simp at e
          omega
      have hnz2 : A2.map (·.block) ≠ some (B + 1) := by
        rcases m2 with h | h
        · rw [h]; exact hnz
        · rw [h]
          intro e
          injection e with e
          try simp at e
          omega
      have c82 : w2.cell? ⟨g, 8, none⟩ = some (.slice A' k c') := (kg2.cell 8).trans (uc_last HU.out _)
      have f82 := kg2.free 8
      have bw := ((gb1.alloc (by omega) (.cells #[.int .i64 x, .int .i64 s, .int .i64 z] 105)).trans b2).setCell (p := ⟨g, 8, none⟩) (by simp; omega) (.slice A2 (k + 1) c2)
      have o3 := o2.setFar (p := ⟨g, 8, none⟩) hne2 (.slice A2 (k + 1) c2)
      have k3 := kg2.set_ 8 (.slice A2 (k + 1) c2)
      rw [uc_set8 HU.out] at k3
      have z3 : Blk (w2.setCell ⟨g, 8, none⟩ (.slice A2 (k + 1) c2)) (B + 1) 25 (uc z8 (.slice none 0 0)) := kz2.below (B := B + 2) ((Below.refl _ _).setCell (p := ⟨g, 8, none⟩) (by simp; omega) _) (by omega)
      have HO3 := Lib.hid o3
      have HB3 := Lib.hid bw
      have HK3 := Lib.hid k3
      have HZ3 := Lib.hid z3
      clear g2 m2 b2 o2 o3 bw k3 z3
      go_wp2_with fail
      go_roundw
      case rel => exact ⟨k + 1, A2, c2, by omega, by go_num, HK3.out, by rw [HSN.out]; exact HO3.out, hne2, hnz2, HZ3.out, HB3.out⟩
      case measure => simp [intOf]; omega
    · obtain rfl : k = n := by omega
      have HSK := Lib.hid (uc_size HU.out (.slice A' k c'))
      have H1K := Lib.hid (uc_one (U := U) (s := .slice A' k c') rfl)
      have HSZ8 := Lib.hid (show (uc z8 (.slice none 0 0)).size = 9 from rfl)
      have ho := ho
      rw [List.take_of_length_le (by rw [← HN.out]; exact Nat.le_refl _)] at ho
      go_wp2_with first
        | ((with_reducible refine wpList_ld rowRM kg HSK.out ?_ ?_); rotate_left; (rfl))
        | ((with_reducible refine wpList_st rowRM kz HSK.out HSZ8.out H1K.out ?_ ?_ ?_); rotate_left; (rfl); (rfl); intro w3 k3 g3 z3)
      have o3 := ho.grown g3 (.inr hnz)
      obtain rfl := HB.out
      exact bodyPost_ret (v := .agg (uc U (.slice A' k c'))) (results_blk rfl rowRM k3 HSK.out rfl) rfl ⟨A', k, c', rfl, o3, gb.grown g3 gb.size (fun q hq => by injection hq; omega)⟩
end Go.Proofs.Ytocoohpekpkmkaa

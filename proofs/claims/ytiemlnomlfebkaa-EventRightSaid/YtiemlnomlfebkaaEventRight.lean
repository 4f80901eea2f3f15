/- EventRight: whether any event, and any policy, may be, and which is later, is the document's: the whole statement, without a condition. -/
import Derived.Test.YtiemlnomlfebkaaEvSized
import Derived.Test.YtiemlnomlfebkaaEvRRight
namespace Go.Proofs.Ytiemlnomlfebkaa.EventRight
open Go.ChangeShapes Go.WideShapes Go.ChangeAt Go.RowKit Go.Deep
open Dot Evt
set_option linter.unusedVariables false
set_option linter.unusedSimpArgs false
section
variable {P : Program} {T : TypeId} {n g o : Nat} {cs : Array Value}
theorem quiet_ldmg {ops : Array Oper} {rest : List Oper} {a : Act} {Q : Act → Prop} {C : World → Prop} {d : Option Tmp} {ty : TypeId} {pos : String} {aft : Array Edge} {gd : Option (Nat × Bool)} {x : Operand} (hR : RowT P T n) (hS : ∀ w, C w → w.rangeAt g o cs.toList) (hn : cs.size = n)
    (h : wpQuiet P ops C Q rest (a.put d (.agg cs))) (hx : a.eval x = .pointer (some ⟨g, o, none⟩)) (hw : Region.wanted ⟨d, .load T x, ty, pos, aft, gd⟩ (yielded ops a.tmps) = true) : wpQuiet P ops C Q (⟨d, .load T x, ty, pos, aft, gd⟩ :: rest) a := by
  unfold wpQuiet
  rw [if_pos hw]
  obtain ⟨e, hu, hd, hi⟩ := hR
  rw [← hn, ← Array.length_toList] at hi
  refine ⟨.agg cs, fun w hw => ?_, h⟩
  unfold Oper.quietAt execOp
  simp only [hx, Instr.loadAt, Instr.sureAddr, Sem.run_bind, Sem.run_pure, Result.andThen_ok, run_loadVar_mid w g o T cs.toList e (hS w hw) hu hd hi, Array.toArray_toList]
  exact ⟨rfl, rfl⟩
end
theorem build2 (x y : EvV) (w : World) : (Instr.buildSlice 31 2 #[(0, .agg x.cs), (1, .agg y.cs)]).run Try.prog w = .ok (.slice (some ⟨w.heap.size, 0, none⟩) 2 2) (w.alloc (.cells (x.cs ++ y.cs) 28)) := by
  obtain ⟨⟨⟨n, q⟩, t, k, wk, v, p, l⟩, A, m, c⟩ := x
  obtain ⟨⟨⟨n', q'⟩, t', k', wk', v', p', l'⟩, A', m', c'⟩ := y
  unfold EvV.cs ec
  simp only
  generalize p.getD 0 0 = p0, p.getD 1 0 = p1, p.getD 2 0 = p2, p.getD 3 0 = p3, p.getD 4 0 = p4, p.getD 5 0 = p5, p.getD 6 0 = p6
  generalize p'.getD 0 0 = q0, p'.getD 1 0 = q1, p'.getD 2 0 = q2, p'.getD 3 0 = q3, p'.getD 4 0 = q4, p'.getD 5 0 = q5, p'.getD 6 0 = q6
  kernel_rfl
theorem row2 (x y : EvV) {w w' : World} {B B' : Nat} (hx : EvOk w B x) (hy : EvOk w B y) (hb : Below B w w') {g : Nat} (hg : g < B') (hB : B ≤ B') (k : Blk w' g 28 (x.cs ++ y.cs)) : RowEv w' B' (some ⟨g, 0, none⟩) 2 [x, y] := by
  refine ⟨rfl, fun i z hz => ?_⟩
  have key : ∀ j v, z.cs[j]? = some v → w'.cell? ((⟨g, 0, none⟩ : Addr).add (i * 14 + j)) = some v := fun j v hv => by
    have hj : j < 14 := by
      have := (Array.getElem?_eq_some_iff.1 hv).1
      rwa [z.size] at this
    rw [add_mk, Nat.zero_add, k.cell]
    rcases i with _ | _ | i
    · simp at hz
      subst hz
      rw [Nat.zero_mul, Nat.zero_add, Array.getElem?_append_left (by rw [x.size]; exact hj)]
      exact hv
    · simp at hz
      subst hz
      rw [Array.getElem?_append_right (by rw [x.size]; omega), x.size]
      rw [show (0 + 1) * 14 + j - 14 = j by omega]
      exact hv
    · simp at hz
  refine ⟨?_, ⟨g, 0, none⟩, rfl, hg, fun j v hv => by rw [add_add]; exact key j v hv⟩
  rcases i with _ | _ | i
  · simp at hz; subst hz; exact (hx.below hb).more hB
  · simp at hz; subst hz; exact (hy.below hb).more hB
  · simp at hz
theorem pol_in (e : Ev) (s : Value) (j : Nat) (v : Value) (h : (pc e.p).toList[j]? = some v) : (ec e s)[6 + j]? = some v := by
  unfold pc at h
  unfold ec
  rcases j with _ | _ | _ | _ | _ | _ | _ | j <;> simp at h ⊢ <;> exact h
set_option maxRecDepth 100000 in
set_option maxHeartbeats 4000000 in
theorem walk (x y : EvV) (w : World) (hx : EvOk w w.heap.size x) (hy : EvOk w w.heap.size y) :
    Calls Try.prog 3 #[.agg x.cs, .agg y.cs] w fun e w' => e = .returned (.bool true) ∧ Below w.heap.size w w' := by
  have hA := fun (w' : World) (h : RdD w' w'.heap.size x.A x.m x.e.l) => eright_any x.e hx.1 x.A x.m x.c w' h
  have hB := fun (w' : World) (h : RdD w' w'.heap.size x.A x.m x.e.l) => eright07_any x.e hx.1 x.A x.m x.c w' h (by have := hx.2.2; omega)
  have hC := fun w' => rightpol_any x.e.p w'
  have hD := fun w' => rpol_any x.e.p w'
  have hE := fun w' => later_any x.e y.e x.A y.A x.m x.c y.m y.c w'
  have hG := fun w' => rlater_any x.e y.e x.A y.A x.m x.c y.m y.c w'
  have hbs := build2 x y
  have hrow := fun (w' : World) (h : Below w.heap.size w w') (g B : Nat) (k : Blk w' g 28 (x.cs ++ y.cs)) (hg : g < B) (hB : w.heap.size ≤ B) => row2 x y hx hy h hg hB k
  have hrg : ∀ (w' : World) (b : Nat), Blk w' b 28 x.cs → w'.rangeAt b 6 (pc x.e.p).toList := fun w' b k j v hv => by
    rw [k.cell]
    exact pol_in x.e _ j v hv
  have hrd := fun (w' : World) (h : Below w.heap.size w w') => (hx.2.1.below h).size
  obtain ⟨RX, hRX⟩ : ∃ RX, RX = rightE x.e := ⟨_, rfl⟩
  obtain ⟨PX, hPX⟩ : ∃ PX, PX = polB x.e.p := ⟨_, rfl⟩
  obtain ⟨LX, hLX⟩ : ∃ LX, LX = laterB x.e y.e := ⟨_, rfl⟩
  obtain ⟨cx, hcx⟩ : ∃ cx, cx = x.cs := ⟨_, rfl⟩
  obtain ⟨cy, hcy⟩ : ∃ cy, cy = y.cs := ⟨_, rfl⟩
  obtain ⟨cp, hcp⟩ : ∃ cp, cp = pc x.e.p := ⟨_, rfl⟩
  have hcx2 : ec x.e (.slice x.A x.m x.c) = cx := hcx.symm
  have hcy2 : ec y.e (.slice y.A y.m y.c) = cy := hcy.symm
  have SX := Lib.hid (show cx.size = 14 by rw [hcx]; rfl)
  have SY := Lib.hid (show cy.size = 14 by rw [hcy]; rfl)
  have SP := Lib.hid (show cp.size = 7 by rw [hcp]; rfl)
  rw [hcx2, ← hRX] at hA hB
  rw [← hcp, ← hPX] at hC hD
  rw [hcx2, hcy2, ← hLX] at hE hG
  rw [← hcx, ← hcy] at hbs hrow
  rw [← hcx, ← hcp] at hrg
  rw [← hcx, ← hcy]
  have HA0 := Lib.hid hA
  have HB0 := Lib.hid hB
  have HC := Lib.hid hC
  have HD := Lib.hid hD
  have HE := Lib.hid hE
  have HG := Lib.hid hG
  have HBS := Lib.hid hbs
  have HROW := Lib.hid hrow
  have HRG0 := Lib.hid hrg
  have HRD := Lib.hid hrd
  clear hA hB hC hD hE hG hbs hrow hrg hrd hRX hPX hLX hcx hcy hcp hcx2 hcy2 hx hy
  go_enter Try.func3, Try.ntmps3
  go_upto_region 1 with fail
  refine nameW ?_
  intro wv hwv
  obtain ⟨b, hb⟩ : ∃ b, b = w.heap.size := ⟨_, rfl⟩
  rw [← hb]
  have kx : Blk wv b 28 cx := by rw [hwv, hb]; exact (Blk.new w _ _).alloc _
  have ky : Blk wv (b + 1) 28 cy := by
    have h := Blk.new (w.alloc (.cells cx 28)) 28 cy
    rw [show (w.alloc (.cells cx 28)).heap.size = w.heap.size + 1 by simp] at h
    rw [hwv, hb]
    exact h
  have gb : Below b w wv := by rw [hwv, hb]; exact ((Below.refl _ _).alloc (Nat.le_refl _) _).alloc (by simp) _
  have HW := Lib.hid hb
  clear hwv hb
  go_wp2_with fail
  refine (alive07 wv).mono ?_
  rintro e w1 ⟨rfl, h1⟩
  have kx1 := kx.below h1 kx.lt
  have ky1 := ky.below h1 ky.lt
  have b1 := gb.trans (h1.mono (by have := kx.lt; omega))
  clear kx ky gb h1
  go_wp2_with first
    | ((with_reducible refine wpList_ld rowE kx1 SX.out ?_ ?_); rotate_left; (rfl))
    | ((with_reducible refine wpList_ld rowE ky1 SY.out ?_ ?_); rotate_left; (rfl))
    | ((refine wpList_bs (v := .slice (some ⟨w1.heap.size, 0, none⟩) 2 2) (w' := w1.alloc (.cells (cx ++ cy) 28)) rfl 31 2 #[(0, .tmp 7), (1, .tmp 8)] rfl ?_ ?_); (simp only [List.map_toArray, List.map_cons, List.map_nil]; exact HBS.out w1))
  have ba : Below w1.heap.size w1 (w1.alloc (.cells (cx ++ cy) 28)) := (Below.refl _ _).alloc (Nat.le_refl _) _
  have bw : Below w.heap.size w (w1.alloc (.cells (cx ++ cy) 28)) := by
    rw [← HW.out]
    exact b1.trans (ba.mono (by have := kx1.lt; omega))
  refine (egreat_any (some ⟨w1.heap.size, 0, none⟩) 2 2 [x, y] (w1.heap.size + 1) _ (by omega) (HROW.out _ bw w1.heap.size _ (Blk.new _ _ _) (by omega) (by have := bw.size; simp at this; omega)) (by simp)).mono ?_
  rintro e w2 ⟨⟨G, rfl, _⟩, b2⟩
  have bx : Below w1.heap.size w1 w2 := ba.trans (b2.mono (by simp))
  have kx2 := kx1.below bx kx1.lt
  have ky2 := ky1.below bx ky1.lt
  have hb2 := b1.trans (bx.mono (by have := kx1.lt; omega))
  have hbw : Below w.heap.size w w2 := by rw [← HW.out]; exact hb2
  clear ba bw bx b2 kx1 ky1 b1 HROW HBS
  rcases G with _ | _
  · go_upto_region 5 with fail
    have HA := Lib.hid fun (w' : World) (h : Below w2.heap.size w2 w') => HA0.out w' (HRD.out w' (hbw.trans (h.mono hbw.size)))
    have HB := Lib.hid fun (w' : World) (h : Below w2.heap.size w2 w') => HB0.out w' (HRD.out w' (hbw.trans (h.mono hbw.size)))
    have HRG := Lib.hid fun (w' : World) (k : Blk w' b 28 cx) => HRG0.out w' b k
    have HE1 := Lib.hid (show ∀ z : Bool, (z == z) = true from fun z => by simp)
    clear HA0 HB0 HRG0 HRD
    refine wp_region_below (by kernel_rfl) (by kernel_rfl) ?_
    intro T iT F hF hT
    have HF := Lib.hid hF
    have HT := Lib.hid hT
    clear hF hT
    (with_reducible refine quiet_ldg rowE (fun w' hw' => by obtain ⟨qf, rfl⟩ := hw'; exact kx2.below (HF.out qf) kx2.lt) SX.out ?_ ?_ ?_); rotate_left; (rfl); (rfl); simp only [Act.put, List.setIfInBounds_toArray, List.set_cons_succ, List.set_cons_zero, eq_self, decide_true, Bool.not_true, Bool.not_false, beq_self_eq_true]
    go_big_quiet_step ((go_at_call 11; exact calls_below HF.out HT.out (HA.out _ (HF.out _))))
    (with_reducible refine quiet_ldg rowE (fun w' hw' => by obtain ⟨qf, rfl⟩ := hw'; exact kx2.below (HF.out qf) kx2.lt) SX.out ?_ ?_ ?_); rotate_left; (rfl); (rfl); simp only [Act.put, List.setIfInBounds_toArray, List.set_cons_succ, List.set_cons_zero, eq_self, decide_true, Bool.not_true, Bool.not_false, beq_self_eq_true]
    go_big_quiet_step ((go_at_call 12; exact calls_below HF.out HT.out (HB.out _ (HF.out _))))
    iterate 3 (go_big_quiet_step (fail))
    (with_reducible refine quiet_ldmg rowP (fun w' hw' => by obtain ⟨qf, rfl⟩ := hw'; exact HRG.out _ (kx2.below (HF.out qf) kx2.lt)) SP.out ?_ ?_ ?_); rotate_left; (rfl); (rfl); simp only [Act.put, List.setIfInBounds_toArray, List.set_cons_succ, List.set_cons_zero, eq_self, decide_true, Bool.not_true, Bool.not_false, beq_self_eq_true]
    go_big_quiet_step ((go_at_call 13; exact calls_below HF.out HT.out (HC.out _)))
    iterate 1 (go_big_quiet_step (fail))
    (with_reducible refine quiet_ldmg rowP (fun w' hw' => by obtain ⟨qf, rfl⟩ := hw'; exact HRG.out _ (kx2.below (HF.out qf) kx2.lt)) SP.out ?_ ?_ ?_); rotate_left; (rfl); (rfl); simp only [Act.put, List.setIfInBounds_toArray, List.set_cons_succ, List.set_cons_zero, eq_self, decide_true, Bool.not_true, Bool.not_false, beq_self_eq_true]
    go_big_quiet_step ((go_at_call 14; exact calls_below HF.out HT.out (HD.out _)))
    iterate 3 (go_big_quiet_step (fail))
    (with_reducible refine quiet_ldg rowE (fun w' hw' => by obtain ⟨qf, rfl⟩ := hw'; exact kx2.below (HF.out qf) kx2.lt) SX.out ?_ ?_ ?_); rotate_left; (rfl); (rfl); simp only [Act.put, List.setIfInBounds_toArray, List.set_cons_succ, List.set_cons_zero, eq_self, decide_true, Bool.not_true, Bool.not_false, beq_self_eq_true]
    (with_reducible refine quiet_ldg rowE (fun w' hw' => by obtain ⟨qf, rfl⟩ := hw'; exact ky2.below (HF.out qf) ky2.lt) SY.out ?_ ?_ ?_); rotate_left; (rfl); (rfl); simp only [Act.put, List.setIfInBounds_toArray, List.set_cons_succ, List.set_cons_zero, eq_self, decide_true, Bool.not_true, Bool.not_false, beq_self_eq_true]
    go_big_quiet_step ((go_at_call 15; exact calls_below HF.out HT.out (HE.out _)))
    (with_reducible refine quiet_ldg rowE (fun w' hw' => by obtain ⟨qf, rfl⟩ := hw'; exact kx2.below (HF.out qf) kx2.lt) SX.out ?_ ?_ ?_); rotate_left; (rfl); (rfl); simp only [Act.put, List.setIfInBounds_toArray, List.set_cons_succ, List.set_cons_zero, eq_self, decide_true, Bool.not_true, Bool.not_false, beq_self_eq_true]
    (with_reducible refine quiet_ldg rowE (fun w' hw' => by obtain ⟨qf, rfl⟩ := hw'; exact ky2.below (HF.out qf) ky2.lt) SY.out ?_ ?_ ?_); rotate_left; (rfl); (rfl); simp only [Act.put, List.setIfInBounds_toArray, List.set_cons_succ, List.set_cons_zero, eq_self, decide_true, Bool.not_true, Bool.not_false, beq_self_eq_true]
    go_big_quiet_step ((go_at_call 16; exact calls_below HF.out HT.out (HG.out _)))
    iterate 3 (go_big_quiet_step (fail))
    repeat (go_big_quiet_step (fail))
    refine wpQuiet_nil ?_
    intro w' hw'
    obtain ⟨qf, rfl⟩ := hw'
    have bF := HF.out qf
    go_wp2_with fail
    go_ret
    exact ⟨rfl, hbw.trans (bF.mono hbw.size)⟩
  · go_wp2_with fail
    go_ret
    exact ⟨rfl, hbw⟩
set_option maxRecDepth 100000 in
theorem lifted (os : Os) (started : os.Started) (H : Type) (enc : TypeId × Value → H) :
    ReturnsInHanded {} Try.checked os 3 .any (Rows.eventRightSpec.pre6 enc Try.prog Try.f3 Rows.eventRightRow.domain false) (Rows.eventRightSpec.post enc Try.prog Try.f3 false true false false) := by
  refine returnsInHanded_of_change_sized (C := Try.checked) own started (by kernel_rfl) Try.func3
    (ChangeSpec.witness6 (enc := enc) (C := Try.checked) false ⟨#[], #[.agg (ec exZ (.slice none 0 0)), .agg (ec exZ (.slice none 0 0))], []⟩ 8 (by kernel_rfl) (by kernel_rfl) (by kernel_rfl) (by kernel_rfl)) ?_
  intro W base args ds gs before hval0 hW hcnd hsz0 _
  have hsz : (DataW.weightsEach Try.prog (Try.f3.params.toList ++ []) (ds ++ gs)).all (· ≤ reachBytes) = true := hsz0
  have hval : ∀ (j : Nat) t v, Try.f3.params[j]? = some t → args[j]? = some v → Value.okWide Try.prog W .any base t v := hval0
  have hW' := hW
  obtain ⟨p, q, hA0, hV, rfl, hfz, hnd⟩ := hW
  have hA : DataW.TrodAll enc Try.prog W 0 (fun _ => true) true Try.f3.params.toList args.toList ds p := hA0
  rw [Try.params3] at hA hval hsz
  obtain ⟨v0, vs0, d0, ds0, p0, q0, hargs, rfl, rfl, h0, r0⟩ := trodAll_cons hA
  obtain ⟨v1, vs1, d1, ds1, p1, q1, rfl, rfl, rfl, h1, r1⟩ := trodAll_cons r0
  obtain ⟨rfl, rfl, rfl⟩ := trodAll_nil r1
  obtain rfl : args = #[v0, v1] := by cases args; simp_all
  obtain ⟨rfl, rfl⟩ := trodVars_none hV
  have lt0 : ∀ x ∈ p0, x.block < W.heap.size := by obtain ⟨m, hm⟩ := h0; exact DataW.trod_lt m _ _ _ hm
  have k0 := h0
  have lt1 : ∀ x ∈ p1, x.block < W.heap.size := by obtain ⟨m, hm⟩ := h1; exact DataW.trod_lt m _ _ _ hm
  have k1 := h1
  have sz0 : Sz 28 d0 := sz_arg (j := 0) hsz rfl rfl
  obtain ⟨e0, rfl, w0⟩ := open_evz (hval 0 28 v0 rfl rfl) h0 sz0
  have sz1 : Sz 28 d1 := sz_arg (j := 1) hsz rfl rfl
  obtain ⟨e1, rfl, w1⟩ := open_evz (hval 1 28 v1 rfl rfl) h1 sz1
  clear hA0 hval0
  refine (walk e0 e1 W w0 w1).mono fun e W' ⟨he, bel⟩ => ?_
  subst he
  exact ⟨_, rfl, _, _, _, [], _, [], hW', trodAll_mk1 (shut_bool Try.underlying4 _), (trodAll_cons_mk (Below.trod laidOut (by kernel_rfl) (of_decide_eq_true (by kernel_rfl)) k0 bel lt0) (trodAll_cons_mk (Below.trod laidOut (by kernel_rfl) (of_decide_eq_true (by kernel_rfl)) k1 bel lt1) trodAll_mk0)), rfl, bel.frame _, fun h => by cases h⟩

theorem proved : Rows.EventRightSaid :=
  OpenClaim.holds_of_wide 3 Try.f3 rfl rfl rfl rfl rfl rfl rfl ⟨rfl, rfl, rfl, rfl, rfl⟩ rfl rfl rfl rfl rfl (by kernel_rfl) Try.func3 (by kernel_rfl)
    (of_decide_eq_true (by kernel_rfl)) (by unfold Func.isWrapper; first | (rw [if_pos (by decide +kernel)]; kernel_rfl) | (rw [if_neg (by decide +kernel)]; exact ⟨rfl, rfl⟩))
    (fun os started H enc _ => lifted os started H enc)
#print axioms proved
end Go.Proofs.Ytiemlnomlfebkaa.EventRight

/- The walks of the document's Same and All of events that are the same. -/
import Derived.Test.YtiemlnomlfebkaaEvRow
import Derived.Test.YtiemlnomlfebkaaDotSame
namespace Go.Proofs.Ytiemlnomlfebkaa
open Go.RowKit
open Dot Evt
set_option maxRecDepth 100000 in
set_option maxHeartbeats 2000000 in
theorem rsame07_eq (x y : EvV) (w : World) (hx : EvOk w w.heap.size x) (hy : EvOk w w.heap.size y) (he : x.e = y.e) (hm : x.m ≤ 1000000) :
    Calls Try.prog 30 #[.agg x.cs, .agg y.cs] w fun e w' => e = .returned (.bool true) ∧ Below w.heap.size w w' := by
  obtain ⟨ex, A1, m1, c1⟩ := x
  obtain ⟨ey, A2, m2, c2⟩ := y
  simp only at he
  subst he
  have hd := fun (w' : World) (h : Below w.heap.size w w') => dots_any A1 A2 m1 c1 m2 c2 w.heap.size w.heap.size ex.l ex.l w' (hx.2.1.below h) (hy.2.1.below h) hm
  obtain ⟨⟨n, q⟩, t, k, wk, v, p, l⟩ := ex
  simp only [decide_true] at hd
  have HD := Lib.hid hd
  clear hd hx hy hm
  unfold EvV.cs ec
  simp only
  generalize p.getD 0 0 = p0, p.getD 1 0 = p1, p.getD 2 0 = p2, p.getD 3 0 = p3, p.getD 4 0 = p4, p.getD 5 0 = p5, p.getD 6 0 = p6
  go_enter Try.func30, Try.ntmps30
  go_upto_region 1 with fail
  refine nameW ?_
  intro wv hwv
  obtain ⟨b, hb⟩ : ∃ b, b = w.heap.size := ⟨_, rfl⟩
  rw [← hb]
  have kb : Blk wv b 28 #[.int .i64 n, .int .i64 q, .int .i64 t, .int .i64 k, .int .i64 wk, .int .i64 v, .int .i64 p0, .int .i64 p1, .int .i64 p2, .int .i64 p3, .int .i64 p4, .int .i64 p5, .int .i64 p6, .slice A1 m1 c1] := by rw [hwv, hb]; exact (Blk.new w _ _).alloc _
  have kz : Blk wv (b + 1) 28 #[.int .i64 n, .int .i64 q, .int .i64 t, .int .i64 k, .int .i64 wk, .int .i64 v, .int .i64 p0, .int .i64 p1, .int .i64 p2, .int .i64 p3, .int .i64 p4, .int .i64 p5, .int .i64 p6, .slice A2 m2 c2] := by
    have h := Blk.new (w.alloc (.cells #[.int .i64 n, .int .i64 q, .int .i64 t, .int .i64 k, .int .i64 wk, .int .i64 v, .int .i64 p0, .int .i64 p1, .int .i64 p2, .int .i64 p3, .int .i64 p4, .int .i64 p5, .int .i64 p6, .slice A1 m1 c1] 28)) 28 #[.int .i64 n, .int .i64 q, .int .i64 t, .int .i64 k, .int .i64 wk, .int .i64 v, .int .i64 p0, .int .i64 p1, .int .i64 p2, .int .i64 p3, .int .i64 p4, .int .i64 p5, .int .i64 p6, .slice A2 m2 c2]
    rw [show (w.alloc (.cells #[.int .i64 n, .int .i64 q, .int .i64 t, .int .i64 k, .int .i64 wk, .int .i64 v, .int .i64 p0, .int .i64 p1, .int .i64 p2, .int .i64 p3, .int .i64 p4, .int .i64 p5, .int .i64 p6, .slice A1 m1 c1] 28)).heap.size = w.heap.size + 1 by simp] at h
    rw [hwv, hb]
    exact h
  have gb : Below w.heap.size w wv := by rw [hwv]; exact ((Below.refl _ _).alloc (Nat.le_refl _) _).alloc (by simp) _
  have hD := HD.out wv gb
  have HD2 := Lib.hid hD
  have HG := Lib.hid gb
  clear hwv hb gb hD HD
  obtain ⟨c0, c1, c2, c3, c4, c5, c6, c7, c8, c9, c10, c11, c12, c13⟩ := ecells kb
  obtain ⟨d0, d1, d2, d3, d4, d5, d6, d7, d8, d9, d10, d11, d12, d13⟩ := ecells kz
  go_wp2_with fail
  refine HD2.out.mono ?_
  rintro e w1 ⟨rfl, mm, rfl⟩
  go_wp2_with fail
  go_ret
  exact ⟨rfl, below_drewN HG.out mm⟩
section
variable {P : Program} {T : TypeId} {n : Nat} {ad : Addr} {cs : Array Value}
theorem quiet_lda {ops : Array Oper} {rest : List Oper} {a : Act} {Q : Act → Prop} {C : World → Prop} {d : Option Tmp} {ty : TypeId} {pos : String} {aft : Array Edge} {gd : Option (Nat × Bool)} {x : Operand} (hR : RowT P T n) (hS : ∀ w, C w → ∀ (j : Nat) v, cs[j]? = some v → w.cell? (ad.add j) = some v) (hn : cs.size = n)
    (h : wpQuiet P ops C Q rest (a.put d (.agg cs))) (hx : a.eval x = .pointer (some ad)) (hw : Region.wanted ⟨d, .load T x, ty, pos, aft, gd⟩ (yielded ops a.tmps) = true) : wpQuiet P ops C Q (⟨d, .load T x, ty, pos, aft, gd⟩ :: rest) a := by
  unfold wpQuiet
  rw [if_pos hw]
  obtain ⟨e, hu, hd, hi⟩ := hR
  rw [← hn, ← Array.length_toList] at hi
  refine ⟨.agg cs, fun w hw => ?_, h⟩
  have hcl : ∀ (j : Nat) v, cs.toList[j]? = some v → w.cell? (ad.add j) = some v := fun j v hj => hS w hw j v (by simpa using hj)
  unfold Oper.quietAt execOp
  simp only [hx, Instr.loadAt, Instr.sureAddr, Sem.run_bind, Sem.run_pure, Result.andThen_ok, run_loadVar_at w ad T cs.toList e hcl hu hd hi, Array.toArray_toList]
  exact ⟨rfl, rfl⟩
end
set_option maxRecDepth 100000 in
set_option maxHeartbeats 2000000 in
theorem rall07_eq (A1 A2 : Option Addr) (n c1 c2 : Nat) (xs ys : List EvV) (w : World) (hx : RowEv w w.heap.size A1 n xs) (hy : RowEv w w.heap.size A2 n ys) (he : xs.map (·.e) = ys.map (·.e)) (hm : ∀ x ∈ xs, x.m ≤ 1000000) (hn : n ≤ 10000000000000) :
    Calls Try.prog 23 #[.slice A1 n c1, .slice A2 n c2] w fun e w' => e = .returned (.bool true) ∧ Below w.heap.size w w' := by
  have HN := Lib.hid hx.1
  have HN2 := Lib.hid hy.1
  have HX := Lib.hid fun (w' : World) (h : Below w.heap.size w w') => (hx.below h)
  have HY := Lib.hid fun (w' : World) (h : Below w.heap.size w w') => (hy.below h)
  have HE := Lib.hid he
  have HM := Lib.hid hm
  clear hx hy he hm
  go_enter Try.func23, Try.ntmps23
  go_wp2_with fail
  go_loopw [13] (fun i wr => ∃ k : Nat, k ≤ n ∧ i = .int .i64 k ∧ Below w.heap.size w wr) (fun i _ => n - (intOf i).toNat)
  case atStart => exact ⟨0, by omega, rfl, Below.refl _ _⟩
  case round =>
    obtain ⟨k, hk, rfl, gb⟩ := hrel
    by_cases hlt : k < n
    · have hkl : k < xs.length := by rw [← HN.out]; exact hlt
      have hky : k < ys.length := by rw [← HN2.out]; exact hlt
      have hX := (HX.out wr gb).2 k _ (List.getElem?_eq_getElem hkl)
      have hY := (HY.out wr gb).2 k _ (List.getElem?_eq_getElem hky)
      have hmm := HM.out _ (List.getElem_mem hkl)
      have hee : xs[k].e = ys[k].e := by
        have h := congrArg (fun l => l[k]?) HE.out
        simp only [List.getElem?_map, List.getElem?_eq_getElem hkl, List.getElem?_eq_getElem hky, Option.map_some] at h
        injection h
      generalize xs[k] = x at *
      generalize ys[k] = y at *
      obtain ⟨okx, ad1, hA1, hb1, hc1⟩ := hX
      obtain ⟨oky, ad2, hA2, hb2, hc2⟩ := hY
      subst hA1 hA2
      have hcl1 := fun (w' : World) (h : Below wr.heap.size wr w') => fun (j : Nat) (v : Value) (hv : x.cs[j]? = some v) => ((h.cell (p := (ad1.add (k * 14)).add j) (by rw [block_add, block_add]; have := gb.size; omega)).trans (hc1 j v hv))
      have hcl2 := fun (w' : World) (h : Below wr.heap.size wr w') => fun (j : Nat) (v : Value) (hv : y.cs[j]? = some v) => ((h.cell (p := (ad2.add (k * 14)).add j) (by rw [block_add, block_add]; have := gb.size; omega)).trans (hc2 j v hv))
      have hsm := fun (w' : World) (h : Below wr.heap.size wr w') => rsame07_eq x y w' ((okx.below (h.mono gb.size)).more (by have := gb.size; have := h.size; omega)) ((oky.below (h.mono gb.size)).more (by have := gb.size; have := h.size; omega)) hee hmm
      obtain ⟨cx, hcx⟩ : ∃ cx, cx = x.cs := ⟨_, rfl⟩
      obtain ⟨cy, hcy⟩ : ∃ cy, cy = y.cs := ⟨_, rfl⟩
      have SX := Lib.hid (show cx.size = 14 by rw [hcx]; rfl)
      have SY := Lib.hid (show cy.size = 14 by rw [hcy]; rfl)
      rw [← hcx, ← hcy] at hsm
      rw [← hcx] at hcl1
      rw [← hcy] at hcl2
      have HC1 := Lib.hid hcl1
      have HC2 := Lib.hid hcl2
      have HSM := Lib.hid hsm
      have hk0 : (0 : Int) ≤ (k : Int) := by omega
      have hkm : (k : Int) < (n : Int) := by omega
      clear hcl1 hcl2 hsm hcx hcy hee hmm hc1 hc2 okx oky
      go_upto_region 6 with fail
      refine wp_region_below (by kernel_rfl) (by kernel_rfl) ?_
      intro T iT F hF hT
      have HF := Lib.hid hF
      have HT := Lib.hid hT
      clear hF hT
      iterate 3 (go_big_quiet_step (fail))
      (with_reducible refine quiet_lda rowE (fun w' hw' => by obtain ⟨qf, rfl⟩ := hw'; exact HC1.out _ (HF.out qf)) SX.out ?_ ?_ ?_); rotate_left; (rfl); (rfl); simp only [Act.put, List.setIfInBounds_toArray, List.set_cons_succ, List.set_cons_zero, eq_self, decide_true, Bool.not_true, Bool.not_false, beq_self_eq_true]
      iterate 3 (go_big_quiet_step (fail))
      (with_reducible refine quiet_lda rowE (fun w' hw' => by obtain ⟨qf, rfl⟩ := hw'; exact HC2.out _ (HF.out qf)) SY.out ?_ ?_ ?_); rotate_left; (rfl); (rfl); simp only [Act.put, List.setIfInBounds_toArray, List.set_cons_succ, List.set_cons_zero, eq_self, decide_true, Bool.not_true, Bool.not_false, beq_self_eq_true]
      go_big_quiet_step ((go_at_call 30; exact calls_below HF.out HT.out (HSM.out _ (HF.out _))))
      repeat (go_big_quiet_step (fail))
      refine wpQuiet_nil ?_
      intro w' hw'
      obtain ⟨qf, rfl⟩ := hw'
      have bF := HF.out qf
      have gbF := gb.trans (bF.mono gb.size)
      clear HC1 HC2 HSM HF HT bF
      go_wp2_with fail
      go_roundw
      case rel => exact ⟨k + 1, by omega, by go_num, gbF⟩
      case measure => simp [intOf]; omega
    · have hkd : decide ((k : Int) < (n : Int)) = false := decide_eq_false (by omega)
      go_wp2_with fail
      go_ret
      exact ⟨rfl, gb⟩
end Go.Proofs.Ytiemlnomlfebkaa

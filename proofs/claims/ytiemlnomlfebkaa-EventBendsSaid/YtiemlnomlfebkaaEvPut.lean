/- The walk of event.Put. -/
import Derived.Test.YtiemlnomlfebkaaEvWput
namespace Go.Proofs.Ytiemlnomlfebkaa
set_option linter.unusedVariables false
set_option linter.unusedSimpArgs false
open Go.RowKit
open Dot Evt
/-- what Put gives: bytes, an error's number -/
def putE (x : Ev) : List UInt8 × Nat := if rightE x = true then (encE x, 0) else ([], 2)
set_option maxRecDepth 100000 in
theorem eput_any (x : Ev) (hp : x.p.length = 7) (A : Option Addr) (m c : Nat) (w : World) (hl : RdD w w.heap.size A m x.l) :
    Calls Try.prog 21 #[.agg (ec x (.slice A m c))] w (GiveBE w (putE x).1 (putE x).2) := by
  obtain ⟨cs, hcs⟩ : ∃ cs, cs = ec x (.slice A m c) := ⟨_, rfl⟩
  have HCS := Lib.hid hcs
  have hno := fun (g : Nat) (w1 : World) (h : RdD w1 w1.heap.size A m x.l) (hx : rightE x = false) => wput_no x hp A m c g w1 h hx
  have hyes := fun (g : Nat) (w1 : World) (hw : WrS w1 g []) (h : RdD w1 g A m x.l) (hx : rightE x = true) => wput_yes x hp A m c g [] w1 hw h hx (by simp)
  rw [← hcs] at hno hyes ⊢
  clear hcs
  have HL0 := Lib.hid hl
  have HNO := Lib.hid hno
  have HYES := Lib.hid hyes
  have hcz : cs.size = 14 := by rw [HCS.out]; rfl
  have HCZ := Lib.hid hcz
  clear hl hno hyes hp hcz
  go_enter_defers Try.func21, Try.ntmps21
  go_upto_region 3 with fail
  refine nameW ?_
  intro W hW
  obtain ⟨B, hB⟩ : ∃ B, B = w.heap.size := ⟨_, rfl⟩
  rw [← hB]
  have kb : Blk W B 28 cs := by rw [hW, hB]; exact ((Blk.new w _ _).alloc _).alloc _
  have kf : Blk W (B + 1) 38 #[.int .i64 0] := by
    have := Blk.new (w.alloc (.cells cs 28)) 38 #[.int .i64 0]
    rw [show (w.alloc (.cells cs 28)).heap.size = w.heap.size + 1 by simp] at this
    rw [hW, hB]
    exact this.alloc _
  have kw : WrS W (B + 1 + 1) [] := by
    have := Blk.new ((w.alloc (.cells cs 28)).alloc (.cells #[.int .i64 0] 38)) 73 #[.slice none 0 0]
    rw [show ((w.alloc (.cells cs 28)).alloc (.cells #[.int .i64 0] 38)).heap.size = w.heap.size + 1 + 1 by simp] at this
    rw [hW, hB]
    exact ⟨none, 0, 0, this, OwnB.nil _ _⟩
  have hbb : Below B w W := by rw [hW, hB]; exact (((Below.refl _ _).alloc (Nat.le_refl _) _).alloc (by simp) _).alloc (by simp; omega) _
  have hl1 : RdD W B A m x.l := by rw [hB]; exact HL0.out.below (by rw [← hB]; exact hbb)
  have HB := Lib.hid hB
  clear hW hB HL0
  cases hx : rightE x
  case false =>
    go_wp2_with first
      | ((with_reducible refine wpList_ld rowE kb HCZ.out ?_ ?_); rotate_left; (rfl))
    refine (HNO.out _ W hl1.size hx).mono ?_
    rintro e w1 ⟨rfl, b1⟩
    have k1 := kf.below b1 kf.lt
    go_wp2_with fail
    refine leaves_cons (f := 38) (args := #[.pointer (some ⟨B + 1, 0, none⟩)]) (by simp) (by simp [go_sem]) ?_
    refine (ecaught_panic _ _ _ _ _ (k1.cell 0) (k1.free 0)).mono ?_
    rintro e u' w2 ⟨rfl, rfl, rfl⟩
    have k2 := (k1.alloc (.cells #[.int .i64 2] 101)).set_ 0 (.int .i64 2)
    have c2 := k2.cell 0
    have hb3 : Below B w ((w1.alloc (.cells #[.int .i64 2] 101)).setCell ⟨B + 1, 0, none⟩ (.int .i64 2)) := ((hbb.trans (b1.mono (by have := kb.lt; omega))).alloc (by have := hbb.size; have := b1.size; have := HB.out; omega) _).setCell (by show B ≤ B + 1; omega) _
    have he : putE x = ([], 2) := by unfold putE; rw [hx]; rfl
    refine ⟨.tuple #[.slice none 0 0, .int .i64 2], by simp [results, Try.results21, go_sem, c2], none, 0, 0, by rw [he]; rfl, ?_, by rw [← HB.out]; exact hb3⟩
    rw [he]
    exact OwnB.nil _ _
  case true =>
    go_wp2_with first
      | ((with_reducible refine wpList_ld rowE kb HCZ.out ?_ ?_); rotate_left; (rfl))
    refine (HYES.out _ W kw (hl1.more (by omega)) hx).mono ?_
    rintro e w1 ⟨rfl, hw1, gg⟩
    obtain ⟨A1, n1, c1, kw1, ho1⟩ := hw1
    have q1 : w1.cell? ⟨B + 1 + 1, 0, none⟩ = some (.slice A1 n1 c1) := kw1.cell 0
    have kf1 := kf.grown gg (by simp)
    have f1 : w1.cell? ⟨B + 1, 0, none⟩ = some (.int .i64 0) := kf1.cell 0
    have f2 := kf1.free 0
    go_wp2_with fail
    refine leaves_cons (f := 38) (args := #[.pointer (some ⟨B + 1, 0, none⟩)]) (by simp) (by simp [go_sem]) ?_
    refine (ecaught_none _ _).mono ?_
    rintro e u' w2 ⟨rfl, rfl, rfl⟩
    have k2 := kf1.set_ 0 (.int .i64 0)
    have c2 := k2.cell 0
    have he : putE x = (encE x, 0) := by unfold putE; rw [hx]; rfl
    have hb3 : Below B w (w1.setCell ⟨B + 1, 0, none⟩ (.int .i64 0)) := (hbb.trans (only_Below gg (by omega) (by have := kb.lt; omega))).setCell (by show B ≤ B + 1; omega) _
    refine ⟨.tuple #[.slice A1 n1 c1, .int .i64 0], by simp [results, Try.results21, go_sem, c2], A1, n1, c1, by rw [he]; rfl, ?_, by rw [← HB.out]; exact hb3⟩
    rw [he]
    refine (ho1.setFar ?_ _).mono (by have := HB.out; omega)
    rcases A1 with _ | a
    · simp
    · have := (ho1.lt a.block rfl).1
      simp
      omega
end Go.Proofs.Ytiemlnomlfebkaa

/- The walks of news, kept, and of Meet's own keep. -/
import Derived.Test.YtocoohpekpkmkaaRegHas
import Derived.Test.YtocoohpekpkmkaaRegPut
namespace Go.Proofs.Ytocoohpekpkmkaa
set_option linter.unusedVariables false
set_option linter.unusedSimpArgs false
open Go.RowKit
open Reg
namespace Reg
def newsB (U : List Int) (v : Vl) : Bool := decide (U.getD v.1.toNat 0 < v.2.1)
def keptB (U : List Int) (l : List Vl) (v : Vl) : Bool := decide (v ∈ l) || newsB U v
def keepL (p : Vl → Bool) (M l : List Vl) : List Vl := l.foldl (fun acc v => if p v && decide (v ∉ acc) then acc ++ [v] else acc) M
end Reg
set_option maxHeartbeats 1000000 in
theorem news29_any (U : List Int) (hU : U.length = 8) (s : Value) (v : Vl) (h0 : 0 ≤ v.1) (h8 : v.1 < 8) (w : World) :
    Calls Try.prog 51 #[.agg (uc U s), v3 v] w fun e w' => e = .returned (.bool (newsB U v)) ∧ Below w.heap.size w w' := by
  obtain ⟨x, q, z⟩ := v
  simp only at h0 h8
  obtain ⟨y, rfl⟩ := Int.eq_ofNat_of_zero_le h0
  have hy : y < 8 := by omega
  have hy0 : (0 : Int) ≤ (y : Int) := h0
  have hy8 : (y : Int) < 8 := h8
  unfold newsB v3
  simp only
  rw [show U.getD (y : Int).toNat 0 = U.getD y 0 from rfl]
  have HU := Lib.hid hU
  have HS := Lib.hid (uc_at hU s hy)
  clear hU h0 h8
  generalize U.getD y 0 = u at *
  go_enter Try.func51, Try.ntmps51
  go_upto_region 1 with fail
  refine nameW ?_
  intro wv hwv
  have k0 : Blk wv w.heap.size 31 (uc U s) := by rw [hwv]; exact (Blk.new w _ _).alloc _
  have k1 : Blk wv (w.heap.size + 1) 49 #[.int .i64 (y : Nat), .int .i64 q, .int .i64 z] := by
    have h := Blk.new (w.alloc (.cells (uc U s) 31)) 49 #[.int .i64 (y : Nat), .int .i64 q, .int .i64 z]
    rw [hwv]
    simpa using h
  have gb : Below w.heap.size w wv := by rw [hwv]; exact ((Below.refl _ _).alloc (Nat.le_refl _) _).alloc (by simp) _
  clear hwv
  have t0 : wv.cell? ⟨w.heap.size + 1, 0, none⟩ = some (.int .i64 (y : Nat)) := k1.cell 0
  have t1 : wv.cell? ⟨w.heap.size + 1, 1, none⟩ = some (.int .i64 q) := k1.cell 1
  have tu : wv.cell? ⟨w.heap.size, y, none⟩ = some (.int .i64 u) := (k0.cell y).trans HS.out
  go_quiet (fail)
  go_wp2_with fail
  go_ret
  exact ⟨rfl, below_drewN gb _⟩
set_option maxHeartbeats 1000000 in
theorem kept29_any (U : List Int) (hU : U.length = 8) (A : Option Addr) (n c B : Nat) (l : List Vl) (v : Vl) (h0 : 0 ≤ v.1) (h8 : v.1 < 8) (w : World) (hl : RdV w B A n l) (hn : n ≤ 100000) (hB : B ≤ w.heap.size) :
    Calls Try.prog 50 #[.agg (uc U (.slice A n c)), v3 v] w fun e w' => e = .returned (.bool (keptB U l v)) ∧ Below w.heap.size w w' := by
  have hc := fun w' (hb : Below w.heap.size w w') => contains29_any A n c B l v w' (hl.below (hb.mono hB)) hn (by have := hb.size; omega)
  have hw := fun w' => news29_any U hU (.slice A n c) v h0 h8 w'
  unfold keptB
  have HC := Lib.hid hc
  have HW := Lib.hid hw
  have HSZ := Lib.hid (uc_size hU (.slice A n c))
  have HL8 := Lib.hid (uc_last hU (.slice A n c))
  clear hc hw hl hn hB hU h0 h8
  generalize decide (v ∈ l) = C at *
  generalize newsB U v = N at *
  obtain ⟨x, q, z⟩ := v
  unfold v3 at *
  simp only at *
  go_enter Try.func50, Try.ntmps50
  go_upto_region 1 with fail
  refine nameW ?_
  intro wv hwv
  have k0 : Blk wv w.heap.size 31 (uc U (.slice A n c)) := by rw [hwv]; exact (Blk.new w _ _).alloc _
  have k1 : Blk wv (w.heap.size + 1) 49 #[.int .i64 x, .int .i64 q, .int .i64 z] := by
    have h := Blk.new (w.alloc (.cells (uc U (.slice A n c)) 31)) 49 #[.int .i64 x, .int .i64 q, .int .i64 z]
    rw [hwv]
    simpa using h
  have gb : Below w.heap.size w wv := by rw [hwv]; exact ((Below.refl _ _).alloc (Nat.le_refl _) _).alloc (by simp) _
  clear hwv
  have t8 : wv.cell? ⟨w.heap.size, 8, none⟩ = some (.slice A n c) := (k0.cell 8).trans HL8.out
  go_wp2_with ((with_reducible refine wpList_ld rowV k1 (th_size _ _ _) ?_ ?_); rotate_left; (rfl))
  refine (HC.out wv gb).mono ?_
  rintro e w1 ⟨rfl, b1⟩
  have k0 := k0.below b1 k0.lt
  have k1 := k1.below b1 k1.lt
  have gb := gb.trans (b1.mono gb.size)
  clear b1 t8
  cases C
  · go_wp2_with first
      | ((with_reducible refine wpList_ldg rowM k0 HSZ.out ?_ ?_ ?_); rotate_left; (rfl); (rfl))
      | ((with_reducible refine wpList_ldg rowV k1 (th_size _ _ _) ?_ ?_ ?_); rotate_left; (rfl); (rfl))
    refine (HW.out w1).mono ?_
    rintro e w2 ⟨rfl, b2⟩
    go_wp2_with fail
    go_ret
    exact ⟨rfl, gb.trans (b2.mono gb.size)⟩
  · go_wp2_with fail
    go_ret
    exact ⟨rfl, gb⟩
end Go.Proofs.Ytocoohpekpkmkaa

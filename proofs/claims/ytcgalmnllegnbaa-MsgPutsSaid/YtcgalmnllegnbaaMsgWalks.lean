/- The walks of msg's within, node, must, caught, members; the document's node. -/
import Derived.Test.YtcgalmnllegnbaaMsgMem
import Derived.Test.YtcgalmnllegnbaaFrameMust
namespace Go.Proofs.Ytcgalmnllegnbaa
set_option linter.unusedVariables false
set_option linter.unusedSimpArgs false
set_option maxRecDepth 100000
open Go.RowKit
open Dot Evt
theorem mwithin_any (n lo hi : Int) (w : World) : Calls Try.prog 43 #[.int .i64 n, .int .i64 lo, .int .i64 hi] w fun e w' => e = .returned (.bool (inB n lo hi)) ∧ w = w' := by
  have hs := satw_any n lo hi w
  obtain ⟨R, hR⟩ : ∃ R, R = inB n lo hi := ⟨_, rfl⟩
  rw [← hR]
  rw [← within_eq] at hR
  generalize (if hi < n then hi else if n < lo then lo else n) = z at hs hR
  have HR := Lib.hid hR
  clear hR
  go_enter Try.func43, Try.ntmps43
  go_wp2_with fail
  refine hs.mono ?_
  rintro e w1 ⟨rfl, rfl⟩
  go_wp2_with fail
  go_ret
  rw [HR.out]
  exact ⟨rfl, rfl⟩
theorem mnode_any (n : Int) (w : World) : Calls Try.prog 44 #[.int .i64 n] w fun e w' => e = .returned (.bool (Ms.nodeB n)) ∧ w = w' := by
  unfold Ms.nodeB
  go_enter Try.func44, Try.ntmps44
  go_wp2_with fail
  refine (mwithin_any n 0 7 _).mono ?_
  rintro e w1 ⟨rfl, rfl⟩
  go_wp2_with fail
  go_ret
  exact ⟨rfl, rfl⟩
theorem rnode_any (n : Int) (w : World) : Calls Try.prog 50 #[.int .i64 n] w fun e w' => e = .returned (.bool (Ms.nodeB n)) ∧ w = w' := by
  obtain ⟨R, hR⟩ : ∃ R, R = Ms.nodeB n := ⟨_, rfl⟩
  rw [← hR]
  have HR := Lib.hid hR
  clear hR
  by_cases h1 : 0 ≤ n
  · by_cases h2 : n < 8
    · have hr : R = true := by rw [HR.out]; exact (Ms.nodeB_iff n).2 (by omega)
      subst hr
      go_enter Try.func50, Try.ntmps50
      go_wp2_with fail
      go_ret
      exact ⟨rfl, rfl⟩
    · have hr : R = false := by rw [HR.out, Bool.eq_false_iff]; intro h; have := (Ms.nodeB_iff n).1 h; omega
      subst hr
      go_enter Try.func50, Try.ntmps50
      go_wp2_with fail
      go_ret
      exact ⟨rfl, rfl⟩
  · have hr : R = false := by rw [HR.out, Bool.eq_false_iff]; intro h; have := (Ms.nodeB_iff n).1 h; omega
    subst hr
    go_enter Try.func50, Try.ntmps50
    go_wp2_with fail
    go_ret
    exact ⟨rfl, rfl⟩
/-- a fault, as a panic's value -/
abbrev mflt (x : Int) : Value := .iface 114 (.agg #[.int .i64 x])
theorem mmust_ok (x : Int) (w : World) :
    Calls Try.prog 32 #[.bool true, .int .i64 x] w fun e w' => e = .returned (.tuple #[]) ∧ w = w' := by
  go_enter Try.func32, Try.ntmps32
  go_wp2_with fail
  go_end0
  exact ⟨rfl, rfl⟩
theorem mmust_bad (x : Int) (w : World) :
    Calls Try.prog 32 #[.bool false, .int .i64 x] w fun e w' => e = .panicked [{ v := mflt x, recovered := false }] ∧ w = w' := by
  go_enter Try.func32, Try.ntmps32
  go_wp2_with fail
  exact ⟨rfl, rfl, rfl⟩
theorem mmust_yes {b : Bool} (hb : b = true) (x : Int) (w : World) : Calls Try.prog 32 #[.bool b, .int .i64 x] w fun e w' => e = .returned (.tuple #[]) ∧ w = w' := hb ▸ mmust_ok x w
theorem mmust_no {b : Bool} (hb : b = false) (x : Int) (w : World) : Calls Try.prog 32 #[.bool b, .int .i64 x] w fun e w' => e = .panicked [{ v := mflt x, recovered := false }] ∧ w = w' := hb ▸ mmust_bad x w
theorem massert_flt (x : Int) (w : World) : (Instr.typeAssert (mflt x) 20 114 true).run Try.prog w = .ok (.tuple #[.agg #[.int .i64 x], .bool true]) w := by kernel_rfl
theorem mcaught_panic (g : Nat) (x : Int) (older : List PanicEntry) (v : Value) (w : World) (h0 : w.cell? ⟨g, 0, none⟩ = some v) (hf : w.frozen? ⟨g, 0, none⟩ = false) :
    CallsD Try.prog 31 #[.pointer (some ⟨g, 0, none⟩)] (.panicking ({ v := mflt x, recovered := false } :: older)) w fun e u' w' =>
      e = .returned (.tuple #[]) ∧ u' = .panicking ({ v := mflt x, recovered := true } :: older) ∧ w' = (w.alloc (.cells #[.int .i64 x] 114)).setCell ⟨g, 0, none⟩ (.int .i64 x) := by
  have ta := massert_flt x
  have lt0 := World.block_lt_of_cell? w _ h0
  refine callsD_of_wpS Try.func31 rfl fun c₀ cs hu => ?_
  apply wpS_seq
  apply wpS_region
  simp [wpOpsS, go_sem, recoverD, hu, Try.ntmps31, Exit.thenS]
  refine wpS_of_wp ?_
  rw [Frame.frame15]
  go_wp2_with fail
  simp [bodyPostS, results, Try.results31]
theorem mcaught_none (g : Nat) (w : World) :
    CallsD Try.prog 31 #[.pointer (some ⟨g, 0, none⟩)] .returning w fun e u' w' => e = .returned (.tuple #[]) ∧ u' = .returning ∧ w' = w := by
  refine callsD_of_wpS Try.func31 rfl fun c₀ cs hu => ?_
  apply wpS_seq
  apply wpS_region
  simp [wpOpsS, go_sem, recoverD, hu, Try.ntmps31, Exit.thenS]
  refine wpS_of_wp ?_
  rw [Frame.frame15]
  go_wp2_with fail
  cases c₀
  simp_all [bodyPostS, results, Try.results31]

end Go.Proofs.Ytcgalmnllegnbaa

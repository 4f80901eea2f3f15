/- Numbers of an int64, and arrays of eight as keys. -/
import Derived.Test.YtocoohpekpkmkaaMem
import Derived.DeepKeys
import Derived.Test.YtocoohpekpkmkaaChecked
namespace Go.Proofs.Ytocoohpekpkmkaa
set_option linter.unusedVariables false
set_option linter.unusedSimpArgs false
open Go.RowKit
/-- Each number is one of an int64. -/
def Wf (l : List Int) : Prop := ∀ x ∈ l, (Lit.int .i64 x).wf = true
theorem wf_of {x : Int} (h1 : -9223372036854775808 ≤ x) (h2 : x ≤ 9223372036854775807) : (Lit.int .i64 x).wf = true := by
  have hmin : IntKind.i64.min = -9223372036854775808 := rfl
  have hmax : IntKind.i64.max = 9223372036854775807 := rfl
  simp only [Lit.wf, Bool.and_eq_true, decide_eq_true_eq]
  omega
set_option maxRecDepth 100000 in
theorem mapM_ints (d : Nat) (l : List Int) (hw : Wf l) : ((List.range l.length).mapM fun i => (Try.prog).keyLits (d + 1) 3 (((l.map (Value.int .i64)).drop (i * 1)).take 1)) = some (l.map fun x => [Lit.int .i64 x]) := by
  induction l with
  | nil => rfl
  | cons x r ih =>
    rw [List.length_cons, List.range_succ_eq_map, List.mapM_cons]
    have h0 : (Try.prog).keyLits (d + 1) 3 ((((x :: r).map (Value.int .i64)).drop (0 * 1)).take 1) = some [Lit.int .i64 x] := by
      have := hw x (by simp)
      simp [Program.keyLits, Try.underlying3, this]
    rw [h0]
    have hm : ((List.range r.length).map Nat.succ).mapM (fun i => (Try.prog).keyLits (d + 1) 3 ((((x :: r).map (Value.int .i64)).drop (i * 1)).take 1)) = some (r.map fun x => [Lit.int .i64 x]) := by
      rw [List.mapM_map]
      have := ih (fun y hy => hw y (by simp [hy]))
      rw [← this]
      congr 1
    simp only [Option.pure_def, Option.bind_eq_bind, Option.bind_some]
    rw [hm]
    rfl
theorem cellsI : (Try.prog).cellsOf 3 = 1 := by kernel_rfl
theorem cellsA : (Try.prog).cellsOf 22 = 8 := by kernel_rfl
theorem keyLits_arr (d : Nat) (l : List Int) (hl : l.length = 8) (hw : Wf l) : (Try.prog).keyLits (d + 2) 22 (l.map (Value.int .i64)) = some (l.map (Lit.int .i64)) := by
  have h := mapM_ints d l hw
  rw [hl] at h
  unfold Program.keyLits
  simp only [Try.underlying22, cellsA, cellsI, List.length_map, hl, if_true]
  rw [h]
  simp only [Option.map_some, Option.some.injEq]
  clear h hl hw
  induction l with
  | nil => rfl
  | cons x r ih => rw [List.map_cons, List.flatten_cons, ih]; rfl
end Go.Proofs.Ytocoohpekpkmkaa

/- '==' between two tallies. -/
import Derived.Test.YtoepklcmdmeanaaTallyWalks
import Derived.DeepKeys
namespace Go.Proofs.Ytoepklcmdmeanaa
open Go.RowKit
open Tally
/-- Each number is one of an int64. -/
def Wf (l : List Int) : Prop := ∀ x ∈ l, (Lit.int .i64 x).wf = true
theorem wf_of {x : Int} (h1 : -9223372036854775808 ≤ x) (h2 : x ≤ 9223372036854775807) : (Lit.int .i64 x).wf = true := by
  have hmin : IntKind.i64.min = -9223372036854775808 := rfl
  have hmax : IntKind.i64.max = 9223372036854775807 := rfl
  simp only [Lit.wf, Bool.and_eq_true, decide_eq_true_eq]
  omega
theorem right_wf {l : List Int} (h : rightB l = true) : Wf l := fun x hx => by
  obtain ⟨i, hi, rfl⟩ := List.getElem_of_mem hx
  have := right_at h i
  rw [List.getD_eq_getElem?_getD, List.getElem?_eq_getElem hi] at this
  unfold top at this
  simp only [Option.getD_some] at this
  exact wf_of (by omega) (by omega)
theorem mapM_ints (d : Nat) (l : List Int) (hw : Wf l) : ((List.range l.length).mapM fun i => (Try.prog).keyLits (d + 1) 3 (((l.map (Value.int .i64)).drop (i * 1)).take 1)) = some (l.map fun x => [Lit.int .i64 x]) := by
  induction l with
  | nil => rfl
  | cons x r ih =>
    rw [List.length_cons, List.range_succ_eq_map, List.mapM_cons]
    have h0 : (Try.prog).keyLits (d + 1) 3 ((((x :: r).map (Value.int .i64)).drop (0 * 1)).take 1) = some [Lit.int .i64 x] := by
      have := hw x (by simp)
      simp [Program.keyLits, Try.underlying3, this]
    rw [h0]
    have hm : ((List.range r.length).map Nat.succ).mapM (fun i => (Try.prog).keyLits (d + 1) 3 ((((x :: r).map (Value.int .i64)).drop (i * 1)).take 1)) = some (r.map fun x => [Lit.int .i64 x]) := by
      rw [List.mapM_map]
      have := ih (fun y hy => hw y (by simp [hy]))
      rw [← this]
      congr 1
    simp only [Option.pure_def, Option.bind_eq_bind, Option.bind_some]
    rw [hm]
    rfl
theorem cellsI : (Try.prog).cellsOf 3 = 1 := by kernel_rfl
theorem cellsA : (Try.prog).cellsOf 22 = 8 := by kernel_rfl
theorem keyLits_arr (d : Nat) (l : List Int) (hl : l.length = 8) (hw : Wf l) : (Try.prog).keyLits (d + 2) 22 (l.map (Value.int .i64)) = some (l.map (Lit.int .i64)) := by
  have h := mapM_ints d l hw
  rw [hl] at h
  unfold Program.keyLits
  simp only [Try.underlying22, cellsA, cellsI, List.length_map, hl, if_true]
  rw [h]
  simp only [Option.map_some, Option.some.injEq]
  clear h hl hw
  induction l with
  | nil => rfl
  | cons x r ih => rw [List.map_cons, List.flatten_cons, ih]; rfl
theorem split8 (l : List Int) (hl : l.length = 16) : l.map (Lit.int .i64) = (l.take 8).map (Lit.int .i64) ++ (l.drop 8).map (Lit.int .i64) := by rw [← List.map_append, List.take_append_drop]
/-- A type of two arrays of eight ints. -/
def TwoT (T : TypeId) : Prop := (∃ f0 f1 : Field, (Try.prog).underlying T = some (.struct #[f0, f1]) ∧ f0.type = 22 ∧ f0.offset = 0 ∧ f1.type = 22 ∧ f1.offset = 8 ∧ f0.name ≠ "_" ∧ f1.name ≠ "_") ∧ (Try.prog).cellsOf T = 16 ∧ (Try.prog).keyTypeAt 4 T = true ∧ (Try.prog).eqGuardType (Try.prog).depth T = false
theorem twoT : TwoT 26 := ⟨⟨_, _, Try.underlying26, rfl, rfl, rfl, rfl, by decide, by decide⟩, by kernel_rfl, by kernel_rfl, by kernel_rfl⟩
theorem twoR : TwoT 24 := ⟨⟨_, _, Try.underlying24, rfl, rfl, rfl, rfl, by decide, by decide⟩, by kernel_rfl, by kernel_rfl, by kernel_rfl⟩
theorem keyLits_tc {T : TypeId} (hT : TwoT T) (l : List Int) (hl : l.length = 16) (hw : Wf l) : (Try.prog).keyLits 3 T (tc l).toList = some (l.map (Lit.int .i64)) := by
  obtain ⟨⟨f0, f1, hu, t0, o0, t1, o1, n0, n1⟩, hc, _, _⟩ := hT
  have h0 := keyLits_arr 0 (l.take 8) (by simp; omega) (fun x hx => hw x (List.mem_of_mem_take hx))
  have h1 := keyLits_arr 0 (l.drop 8) (by simp; omega) (fun x hx => hw x (List.mem_of_mem_drop hx))
  have e0 : (((tc l).toList.drop 0).take 8) = (l.take 8).map (Value.int .i64) := by simp [tc]
  have e1 : (((tc l).toList.drop 8).take 8) = (l.drop 8).map (Value.int .i64) := by
    simp only [tc]
    rw [← List.map_drop, List.take_of_length_le (by simp; omega)]
  unfold Program.keyLits
  have hcs : (tc l).toList.length = 16 := by rw [Array.length_toList, tc_size, hl]
  simp only [hu, hcs, hc]
  rw [if_pos ⟨trivial, by simp [n0, n1]⟩]
  simp only [List.mapM_cons, List.mapM_nil, t0, t1, o0, o1, cellsA, e0, e1, h0, h1]
  rw [split8 l hl]
  simp
theorem eq_run {T : TypeId} (hT : TwoT T) (w : World) (a b : List Int) (ha : a.length = 16) (hb : b.length = 16) (wa : Wf a) (wb : Wf b) :
    (binOp .eql T (.agg (tc a)) (.agg (tc b))).run Try.prog w = .ok (.bool (decide (a = b))) w := by
  have hk := hT.2.2.1
  have hfm : ∀ l : List Int, l.length = 16 → (Value.agg (tc l)).formed Try.prog T = true := fun l hl => by
    obtain ⟨⟨f0, f1, hu, _⟩, hc, _⟩ := hT
    simp [Value.formed, hu, hc, tc_size, hl]
  obtain ⟨r, h1, h2⟩ := run_equalIn_deep (P := Try.prog) 9996 4 T hk w 3 3 (.agg (tc a)) (.agg (tc b)) _ _ (hfm a ha) (hfm b hb) (keyLits_tc hT a ha wa) (keyLits_tc hT b hb wb)
  rw [run_eql_struct, h1]
  have : r = decide (a = b) := by
    rw [Bool.eq_iff_iff, h2, decide_eq_true_eq]
    constructor
    · intro h
      exact (List.map_inj_right (fun x y h => by injection h)).1 h
    · intro h; rw [h]
  rw [this]
  rfl
section
variable {ops : Array Oper} {rest : List Oper} {d : Option Tmp} {ty : TypeId} {pos : String} {aft : Array Edge} {gd : Option (Nat × Bool)} {x y : Operand} {T z : TypeId} {A B : List Int}
theorem exec_eq {a : Act} (hT : TwoT T) (ha : A.length = 16) (hb : B.length = 16) (wa : Wf A) (wb : Wf B) (hx : a.eval x = .agg (tc A)) (hy : a.eval y = .agg (tc B)) (w : World) : (execOp a.eval ⟨d, .binOp .eql T x y z, ty, pos, aft, gd⟩).run Try.prog w = .ok (.value (.bool (decide (A = B)))) w := by
  unfold execOp
  simp only [hx, hy, Sem.run_bind, run_eqGuard_agg w .eql T x y (tc A) (tc B) hT.2.2.2, Result.andThen_ok, eq_run hT w A B ha hb wa wb, Sem.run_pure]
theorem quiet_eq {a : Act} {Q : Act → Prop} {C : World → Prop} (hT : TwoT T) (ha : A.length = 16) (hb : B.length = 16) (wa : Wf A) (wb : Wf B)
    (h : wpQuiet Try.prog ops C Q rest (a.put d (.bool (decide (A = B))))) (hx : a.eval x = .agg (tc A)) (hy : a.eval y = .agg (tc B)) (hw : Region.wanted ⟨d, .binOp .eql T x y z, ty, pos, aft, gd⟩ (yielded ops a.tmps) = true) : wpQuiet Try.prog ops C Q (⟨d, .binOp .eql T x y z, ty, pos, aft, gd⟩ :: rest) a := by
  unfold wpQuiet
  rw [if_pos hw]
  refine ⟨.bool (decide (A = B)), fun w hC => ?_, h⟩
  unfold Oper.quietAt
  rw [exec_eq hT ha hb wa wb hx hy w]
  exact ⟨rfl, rfl⟩
theorem wpList_eq {a : Act} {w : World} {Q : Exit → Act → World → Prop} (hT : TwoT T) (ha : A.length = 16) (hb : B.length = 16) (wa : Wf A) (wb : Wf B)
    (h : wpList Try.prog ops Q rest (a.put d (.bool (decide (A = B)))) w) (hx : a.eval x = .agg (tc A)) (hy : a.eval y = .agg (tc B)) (hw : Region.wanted ⟨d, .binOp .eql T x y z, ty, pos, aft, gd⟩ (yielded ops a.tmps) = true) : wpList Try.prog ops Q (⟨d, .binOp .eql T x y z, ty, pos, aft, gd⟩ :: rest) a w := by
  refine wpList_step fun K hK => ?_
  rw [if_pos hw]
  unfold Oper.wp
  rw [exec_eq hT ha hb wa wb hx hy w]
  exact hK _ _ h
theorem ne_run {T : TypeId} (hT : TwoT T) (w : World) (a b : List Int) (ha : a.length = 16) (hb : b.length = 16) (wa : Wf a) (wb : Wf b) :
    (binOp .neq T (.agg (tc a)) (.agg (tc b))).run Try.prog w = .ok (.bool (!decide (a = b))) w := by
  have h := eq_run hT w a b ha hb wa wb
  rw [run_eql_struct] at h
  rw [run_neq_struct]
  revert h
  generalize (Op.equalIn 10000 T (.agg (tc a)) (.agg (tc b))).run Try.prog w = r
  intro h
  cases r with
  | halt x w' => simp [Result.andThen] at h
  | ok b' w' =>
    simp only [Result.andThen_ok] at h ⊢
    injection h with h1 h2
    injection h1 with h1
    rw [h1, h2]
theorem quiet_ne {a : Act} {Q : Act → Prop} {C : World → Prop} (hT : TwoT T) (ha : A.length = 16) (hb : B.length = 16) (wa : Wf A) (wb : Wf B)
    (h : wpQuiet Try.prog ops C Q rest (a.put d (.bool (!decide (A = B))))) (hx : a.eval x = .agg (tc A)) (hy : a.eval y = .agg (tc B)) (hw : Region.wanted ⟨d, .binOp .neq T x y z, ty, pos, aft, gd⟩ (yielded ops a.tmps) = true) : wpQuiet Try.prog ops C Q (⟨d, .binOp .neq T x y z, ty, pos, aft, gd⟩ :: rest) a := by
  unfold wpQuiet
  rw [if_pos hw]
  refine ⟨.bool (!decide (A = B)), fun w hC => ?_, h⟩
  unfold Oper.quietAt execOp
  simp only [hx, hy, Sem.run_bind, run_eqGuard_agg w .neq T x y (tc A) (tc B) hT.2.2.2, Result.andThen_ok, ne_run hT w A B ha hb wa wb, Sem.run_pure]
  exact ⟨rfl, rfl⟩
end
end Go.Proofs.Ytoepklcmdmeanaa

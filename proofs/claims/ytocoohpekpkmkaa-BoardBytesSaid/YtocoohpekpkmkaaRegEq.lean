/- '==' and '!=' between two registers' numbers. -/
import Derived.Test.YtocoohpekpkmkaaRegMem
import Derived.Test.YtocoohpekpkmkaaWf
namespace Go.Proofs.Ytocoohpekpkmkaa
set_option linter.unusedVariables false
set_option linter.unusedSimpArgs false
open Go.RowKit
open Reg
theorem eq_run8 (w : World) (a b : List Int) (ha : a.length = 8) (hb : b.length = 8) (wa : Wf a) (wb : Wf b) :
    (binOp .eql 22 (.agg (uI a)) (.agg (uI b))).run Try.prog w = .ok (.bool (decide (a = b))) w := by
  have hk : (Try.prog).keyTypeAt 4 22 = true := by kernel_rfl
  have hfm : ∀ l : List Int, l.length = 8 → (Value.agg (uI l)).formed Try.prog 22 = true := fun l hl => by
    simp [Value.formed, Try.underlying22, cellsA, uI, hl]
  have hl : ∀ l : List Int, l.length = 8 → Wf l → (Try.prog).keyLits 3 22 (uI l).toList = some (l.map (Lit.int .i64)) := fun l hl hw => by
    have := keyLits_arr 1 l hl hw
    simpa [uI] using this
  obtain ⟨r, h1, h2⟩ := run_equalIn_deep (P := Try.prog) 9996 4 22 hk w 3 3 (.agg (uI a)) (.agg (uI b)) _ _ (hfm a ha) (hfm b hb) (hl a ha wa) (hl b hb wb)
  rw [run_eql_struct, h1]
  have : r = decide (a = b) := by
    rw [Bool.eq_iff_iff, h2, decide_eq_true_eq]
    constructor
    · intro h
      exact (List.map_inj_right (fun x y h => by injection h)).1 h
    · intro h; rw [h]
  rw [this]
  rfl
section
variable {ops : Array Oper} {rest : List Oper} {d : Option Tmp} {ty : TypeId} {pos : String} {aft : Array Edge} {x y : Operand} {z : TypeId} {A B : List Int}
theorem exec_eq8 {a : Act} (ha : A.length = 8) (hb : B.length = 8) (wa : Wf A) (wb : Wf B) (hx : a.eval x = .agg (uI A)) (hy : a.eval y = .agg (uI B)) (w : World) : (execOp a.eval ⟨d, .binOp .eql 22 x y z, ty, pos, aft, none⟩).run Try.prog w = .ok (.value (.bool (decide (A = B)))) w := by
  unfold execOp
  simp only [hx, hy, Sem.run_bind, run_eqGuard_agg w .eql 22 x y (uI A) (uI B) (show (Try.prog).eqGuardType (Try.prog).depth 22 = false by kernel_rfl), Result.andThen_ok, eq_run8 w A B ha hb wa wb, Sem.run_pure]
theorem wpList_eq8 {a : Act} {w : World} {Q : Exit → Act → World → Prop} (ha : A.length = 8) (hb : B.length = 8) (wa : Wf A) (wb : Wf B)
    (h : wpList Try.prog ops Q rest (a.put d (.bool (decide (A = B)))) w) (hx : a.eval x = .agg (uI A)) (hy : a.eval y = .agg (uI B)) : wpList Try.prog ops Q (⟨d, .binOp .eql 22 x y z, ty, pos, aft, none⟩ :: rest) a w :=
  wpList_plain rfl fun K hK => by
    unfold Oper.wp
    rw [exec_eq8 ha hb wa wb hx hy w]
    exact hK _ _ h
end
theorem ne_run8 (w : World) (a b : List Int) (ha : a.length = 8) (hb : b.length = 8) (wa : Wf a) (wb : Wf b) :
    (binOp .neq 22 (.agg (uI a)) (.agg (uI b))).run Try.prog w = .ok (.bool (!decide (a = b))) w := by
  have hk : (Try.prog).keyTypeAt 4 22 = true := by kernel_rfl
  have hfm : ∀ l : List Int, l.length = 8 → (Value.agg (uI l)).formed Try.prog 22 = true := fun l hl => by
    simp [Value.formed, Try.underlying22, cellsA, uI, hl]
  have hl : ∀ l : List Int, l.length = 8 → Wf l → (Try.prog).keyLits 3 22 (uI l).toList = some (l.map (Lit.int .i64)) := fun l hl hw => by
    have := keyLits_arr 1 l hl hw
    simpa [uI] using this
  obtain ⟨r, h1, h2⟩ := run_equalIn_deep (P := Try.prog) 9996 4 22 hk w 3 3 (.agg (uI a)) (.agg (uI b)) _ _ (hfm a ha) (hfm b hb) (hl a ha wa) (hl b hb wb)
  rw [run_neq_struct, h1]
  have : r = decide (a = b) := by
    rw [Bool.eq_iff_iff, h2, decide_eq_true_eq]
    constructor
    · intro h
      exact (List.map_inj_right (fun x y h => by injection h)).1 h
    · intro h; rw [h]
  rw [this]
  rfl
section
variable {ops : Array Oper} {rest : List Oper} {d : Option Tmp} {ty : TypeId} {pos : String} {aft : Array Edge} {x y : Operand} {z : TypeId} {A B : List Int}
theorem exec_ne8 {a : Act} (ha : A.length = 8) (hb : B.length = 8) (wa : Wf A) (wb : Wf B) (hx : a.eval x = .agg (uI A)) (hy : a.eval y = .agg (uI B)) (w : World) : (execOp a.eval ⟨d, .binOp .neq 22 x y z, ty, pos, aft, none⟩).run Try.prog w = .ok (.value (.bool (!decide (A = B)))) w := by
  unfold execOp
  simp only [hx, hy, Sem.run_bind, run_eqGuard_agg w .neq 22 x y (uI A) (uI B) (show (Try.prog).eqGuardType (Try.prog).depth 22 = false by kernel_rfl), Result.andThen_ok, ne_run8 w A B ha hb wa wb, Sem.run_pure]
theorem wpList_ne8 {a : Act} {w : World} {Q : Exit → Act → World → Prop} (ha : A.length = 8) (hb : B.length = 8) (wa : Wf A) (wb : Wf B)
    (h : wpList Try.prog ops Q rest (a.put d (.bool (!decide (A = B)))) w) (hx : a.eval x = .agg (uI A)) (hy : a.eval y = .agg (uI B)) : wpList Try.prog ops Q (⟨d, .binOp .neq 22 x y z, ty, pos, aft, none⟩ :: rest) a w :=
  wpList_plain rfl fun K hK => by
    unfold Oper.wp
    rw [exec_ne8 ha hb wa wb hx hy w]
    exact hK _ _ h
end
end Go.Proofs.Ytocoohpekpkmkaa

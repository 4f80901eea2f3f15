/- BoardWrites: whether any board may be, and with any write and note, is the document's; the board stays; for every input, with no panic (printed by gen/boardwrites.py). -/
import Derived.Test.YtocoohpekpkmkaaRegOpen
import Derived.Test.YtocoohpekpkmkaaRegLaw
import Derived.Test.YtocoohpekpkmkaaTallyWalks
import Derived.Test.YtocoohpekpkmkaaWf
import Derived.Test.YtocoohpekpkmkaaBoCopy
/- How registers read when they come in. -/
namespace Go.Proofs.Ytocoohpekpkmkaa
set_option linter.unusedVariables false
set_option linter.unusedSimpArgs false
open Go.ChangeShapes Go.WideShapes Go.ChangeAt Go.RowKit Go.Deep
open Reg
set_option maxRecDepth 100000
theorem cellsRV : (Try.prog).cellsOf 105 = 3 := by kernel_rfl
theorem cellsRVs : (Try.prog).cellsOf 23 = 1 := by kernel_rfl
theorem cellsRM : (Try.prog).cellsOf 25 = 9 := by kernel_rfl
section
variable {H : Type} {enc : TypeId × Value → H} {W : World} {base : Nat} {sp : Nat → Bool} {held : Bool} {fuel : Nat} {cs : List Value} {x : DataW H × List MemPlace}
theorem rd_arr8 (hf : DataW.trod enc Try.prog W base sp held fuel 22 cs = some x) : ∃ l : List Int, cs = l.map (Value.int .i64) ∧ l.length = 8 ∧ Wf l := by
  obtain ⟨xs, m, _, _, hl, hxl, hg⟩ := DataW.trod_array Try.underlying22 hf
  rw [cellsA] at hl
  rw [cellsI] at hg
  have key : ∀ i, i < 8 → ∃ z : Int, cs[i]? = some (.int .i64 z) ∧ (Lit.int .i64 z).wf = true := fun i hi => by
    have h := hg i hi
    rw [List.getElem?_eq_getElem (by omega)] at h
    obtain ⟨z, h1, h2⟩ := rd_int h
    rw [Nat.mul_one] at h1
    refine ⟨z, ?_, wf_of h2.1 h2.2⟩
    have : ((cs.drop i).take 1)[0]? = some (.int .i64 z) := by rw [h1]; rfl
    rw [List.getElem?_take, if_pos (by omega), List.getElem?_drop] at this
    exact this
  have hex : ∀ i, ∃ z : Int, i < 8 → cs[i]? = some (.int .i64 z) ∧ (Lit.int .i64 z).wf = true := fun i => by
    by_cases hi : i < 8
    · obtain ⟨z, h⟩ := key i hi
      exact ⟨z, fun _ => h⟩
    · exact ⟨0, fun h => absurd h hi⟩
  refine ⟨(List.range 8).map fun i => (hex i).choose, ?_, by simp, fun z hz => ?_⟩
  · apply List.ext_getElem?
    intro i
    by_cases hi : i < 8
    · rw [((hex i).choose_spec hi).1, List.getElem?_map, List.getElem?_map, List.getElem?_range hi]
      rfl
    · rw [List.getElem?_eq_none (by omega), List.getElem?_eq_none (by simp; omega)]
  · obtain ⟨i, hi, rfl⟩ := List.mem_map.1 hz
    exact ((hex i).choose_spec (by simpa using hi)).2
theorem rd_val (hf : DataW.trod enc Try.prog W base sp held fuel 105 cs = some x) : ∃ d : Vl, cs = [.int .i64 d.1, .int .i64 d.2.1, .int .i64 d.2.2] := by
  have hl := rd_len Try.underlying105 cellsRV hf
  obtain ⟨_, _, g0⟩ := rd_field Try.underlying105 hf 0 3 0 1 rfl cellsI
  obtain ⟨_, _, g1⟩ := rd_field Try.underlying105 hf 1 3 1 1 rfl cellsI
  obtain ⟨_, _, g2⟩ := rd_field Try.underlying105 hf 2 3 2 1 rfl cellsI
  obtain ⟨x0, e0, _⟩ := rd_int g0
  obtain ⟨x1, e1, _⟩ := rd_int g1
  obtain ⟨x2, e2, _⟩ := rd_int g2
  match cs, hl with
  | [a, b, c], _ =>
    simp at e0 e1 e2
    exact ⟨(x0, x1, x2), by rw [e0, e1, e2]⟩
theorem rd_vals (hf : DataW.trod enc Try.prog W base sp held fuel 23 cs = some x) : ∃ (A : Option Addr) (n c : Nat) (l : List Vl), cs = [.slice A n c] ∧ RdV W W.heap.size A n l ∧ n ≤ maxLen := by
  obtain ⟨a, n, c, hcs, hnc, hcm, hg⟩ := rd_slice Try.underlying23 cellsRV hf
  have key : ∀ i, i < n → ∃ (ad : Addr) (d : Vl), a = some ad ∧ VAt W W.heap.size (ad.add (i * 3)) d := fun i hi => by
    obtain ⟨ad, cs', f', x', e, hl, hc, ht⟩ := hg i hi
    obtain ⟨d, rfl⟩ := rd_val ht
    have h0 := hc 0 (by omega)
    have h1 := hc 1 (by omega)
    have h2 := hc 2 (by omega)
    rw [add_add] at h0 h1 h2
    rw [Nat.add_zero] at h0
    rw [add_nextV _ _ _ (by decide)] at h1 h2
    exact ⟨ad, d, e, World.block_lt_of_cell? W _ h0, h0, h1, h2⟩
  have hex : ∀ i, ∃ d : Vl, i < n → ∃ ad, a = some ad ∧ VAt W W.heap.size (ad.add (i * 3)) d := fun i => by
    by_cases hi : i < n
    · obtain ⟨ad, d, h⟩ := key i hi
      exact ⟨d, fun _ => ⟨ad, h⟩⟩
    · exact ⟨(0, 0, 0), fun h => absurd h hi⟩
  refine ⟨a, n, c, (List.range n).map fun i => (hex i).choose, hcs, ⟨by simp, fun i d hi => ?_⟩, Nat.le_trans hnc hcm⟩
  have hi' : i < n := by
    have := (List.getElem?_eq_some_iff.1 hi).1
    simpa using this
  rw [List.getElem?_map, List.getElem?_range hi'] at hi
  injection hi with hi
  rw [← hi]
  exact (hex i).choose_spec hi'
theorem rd_many (hf : DataW.trod enc Try.prog W base sp held fuel 25 cs = some x) : ∃ (U : List Int) (A : Option Addr) (n c : Nat) (l : List Vl), cs = (uc U (.slice A n c)).toList ∧ U.length = 8 ∧ Wf U ∧ RdV W W.heap.size A n l ∧ n ≤ maxLen := by
  have hl := rd_len Try.underlying25 cellsRM hf
  obtain ⟨_, _, g0⟩ := rd_field Try.underlying25 hf 0 22 0 8 rfl cellsA
  obtain ⟨_, _, g1⟩ := rd_field Try.underlying25 hf 1 23 8 1 rfl cellsRVs
  obtain ⟨U, e0, hU, wU⟩ := rd_arr8 g0
  obtain ⟨A, n, c, l, e1, hr, hn⟩ := rd_vals g1
  refine ⟨U, A, n, c, l, ?_, hU, wU, hr, hn⟩
  unfold uc
  rw [← e0, ← e1, List.drop_zero, List.take_of_length_le (l := cs.drop 8) (by simp; omega), List.take_append_drop]
end
theorem cut_row {α : Type} (l : List α) (o m : Nat) : (l.drop o).take m ++ l.drop (o + m) = l.drop o := by
  have := List.take_append_drop m (l.drop o)
  rwa [List.drop_drop] at this
/-- a question's cells: two registers, a node, a value -/
def askC (C1 C2 : Array Value) (nd v : Int) : Array Value := (C1.toList ++ C2.toList ++ [Value.int .i64 nd, Value.int .i64 v]).toArray
theorem cellsAsk : (Try.prog).cellsOf 27 = 20 := by kernel_rfl
section
variable {H : Type} {enc : TypeId × Value → H} {W : World} {base : Nat} {sp : Nat → Bool} {held : Bool} {r : Reach} {b0 : Nat} {v : Value} {d : DataW H} {p : List MemPlace}
theorem open_ask (hv : Value.okWide Try.prog W r b0 27 v) (h : DataW.Trod enc Try.prog W base sp held 27 v d p) :
    ∃ (U1 U2 : List Int) (A1 A2 : Option Addr) (n1 c1 n2 c2 : Nat) (l1 l2 : List Vl) (nd z : Int), v = .agg (askC (uc U1 (.slice A1 n1 c1)) (uc U2 (.slice A2 n2 c2)) nd z) ∧ U1.length = 8 ∧ Wf U1 ∧ U2.length = 8 ∧ Wf U2 ∧ RdV W W.heap.size A1 n1 l1 ∧ RdV W W.heap.size A2 n2 l2 ∧ n1 ≤ maxLen ∧ n2 ≤ maxLen := by
  obtain ⟨cs, rfl, hsz⟩ := okWide_struct Try.underlying27 hv
  obtain ⟨fuel, hf0⟩ := h
  have hf : DataW.trod enc Try.prog W base sp held fuel 27 cs.toList = some (d, p) := hf0
  have hl := rd_len Try.underlying27 cellsAsk hf
  obtain ⟨_, _, g0⟩ := rd_field Try.underlying27 hf 0 25 0 9 rfl cellsRM
  obtain ⟨_, _, g1⟩ := rd_field Try.underlying27 hf 1 25 9 9 rfl cellsRM
  obtain ⟨_, _, g2⟩ := rd_field Try.underlying27 hf 2 3 18 1 rfl cellsI
  obtain ⟨_, _, g3⟩ := rd_field Try.underlying27 hf 3 3 19 1 rfl cellsI
  obtain ⟨U1, A1, n1, c1, l1, e0, hU1, w1, r1, m1⟩ := rd_many g0
  obtain ⟨U2, A2, n2, c2, l2, e1, hU2, w2, r2, m2⟩ := rd_many g1
  obtain ⟨nd, e2, _⟩ := rd_int g2
  obtain ⟨z, e3, _⟩ := rd_int g3
  refine ⟨U1, U2, A1, A2, n1, c1, n2, c2, l1, l2, nd, z, ?_, hU1, w1, hU2, w2, r1, r2, m1, m2⟩
  have hcs : cs.toList.length = 20 := hl
  have hall : cs.toList = (cs.toList.drop 0).take 9 ++ ((cs.toList.drop 9).take 9 ++ ((cs.toList.drop 18).take 1 ++ ((cs.toList.drop 19).take 1 ++ []))) := by
    rw [← List.drop_eq_nil_of_le (i := 20) (Nat.le_of_eq hcs), cut_row _ 19 1, cut_row _ 18 1, cut_row _ 9 9, cut_row _ 0 9, List.drop_zero]
  rw [e0, e1, e2, e3] at hall
  congr 1
  apply Array.ext'
  show cs.toList = _
  rw [hall]
  simp [askC]
end
end Go.Proofs.Ytocoohpekpkmkaa

/- '==' between two tallies. -/
namespace Go.Proofs.Ytocoohpekpkmkaa
set_option linter.unusedVariables false
set_option linter.unusedSimpArgs false
open Go.RowKit
open Tally
theorem right_wf {l : List Int} (h : rightB l = true) : Wf l := fun x hx => by
  obtain ⟨i, hi, rfl⟩ := List.getElem_of_mem hx
  have := right_at h i
  rw [List.getD_eq_getElem?_getD, List.getElem?_eq_getElem hi] at this
  unfold top at this
  simp only [Option.getD_some] at this
  exact wf_of (by omega) (by omega)
theorem split8 (l : List Int) (hl : l.length = 16) : l.map (Lit.int .i64) = (l.take 8).map (Lit.int .i64) ++ (l.drop 8).map (Lit.int .i64) := by rw [← List.map_append, List.take_append_drop]
/-- A type of two arrays of eight ints. -/
def TwoT (T : TypeId) : Prop := (∃ f0 f1 : Field, (Try.prog).underlying T = some (.struct #[f0, f1]) ∧ f0.type = 22 ∧ f0.offset = 0 ∧ f1.type = 22 ∧ f1.offset = 8 ∧ f0.name ≠ "_" ∧ f1.name ≠ "_") ∧ (Try.prog).cellsOf T = 16 ∧ (Try.prog).keyTypeAt 4 T = true ∧ (Try.prog).eqGuardType (Try.prog).depth T = false
theorem twoT : TwoT 80 := ⟨⟨_, _, Try.underlying80, rfl, rfl, rfl, rfl, by decide, by decide⟩, by kernel_rfl, by kernel_rfl, by kernel_rfl⟩
theorem twoR : TwoT 73 := ⟨⟨_, _, Try.underlying73, rfl, rfl, rfl, rfl, by decide, by decide⟩, by kernel_rfl, by kernel_rfl, by kernel_rfl⟩
theorem keyLits_tc {T : TypeId} (hT : TwoT T) (l : List Int) (hl : l.length = 16) (hw : Wf l) : (Try.prog).keyLits 3 T (tc l).toList = some (l.map (Lit.int .i64)) := by
  obtain ⟨⟨f0, f1, hu, t0, o0, t1, o1, n0, n1⟩, hc, _, _⟩ := hT
  have h0 := keyLits_arr 0 (l.take 8) (by simp; omega) (fun x hx => hw x (List.mem_of_mem_take hx))
  have h1 := keyLits_arr 0 (l.drop 8) (by simp; omega) (fun x hx => hw x (List.mem_of_mem_drop hx))
  have e0 : (((tc l).toList.drop 0).take 8) = (l.take 8).map (Value.int .i64) := by simp [tc]
  have e1 : (((tc l).toList.drop 8).take 8) = (l.drop 8).map (Value.int .i64) := by
    simp only [tc]
    rw [← List.map_drop, List.take_of_length_le (by simp; omega)]
  unfold Program.keyLits
  have hcs : (tc l).toList.length = 16 := by rw [Array.length_toList, tc_size, hl]
  simp only [hu, hcs, hc]
  rw [if_pos ⟨trivial, by simp [n0, n1]⟩]
  simp only [List.mapM_cons, List.mapM_nil, t0, t1, o0, o1, cellsA, e0, e1, h0, h1]
  rw [split8 l hl]
  simp
theorem eq_run {T : TypeId} (hT : TwoT T) (w : World) (a b : List Int) (ha : a.length = 16) (hb : b.length = 16) (wa : Wf a) (wb : Wf b) :
    (binOp .eql T (.agg (tc a)) (.agg (tc b))).run Try.prog w = .ok (.bool (decide (a = b))) w := by
  have hk := hT.2.2.1
  have hfm : ∀ l : List Int, l.length = 16 → (Value.agg (tc l)).formed Try.prog T = true := fun l hl => by
    obtain ⟨⟨f0, f1, hu, _⟩, hc, _⟩ := hT
    simp [Value.formed, hu, hc, tc_size, hl]
  obtain ⟨r, h1, h2⟩ := run_equalIn_deep (P := Try.prog) 9996 4 T hk w 3 3 (.agg (tc a)) (.agg (tc b)) _ _ (hfm a ha) (hfm b hb) (keyLits_tc hT a ha wa) (keyLits_tc hT b hb wb)
  rw [run_eql_struct, h1]
  have : r = decide (a = b) := by
    rw [Bool.eq_iff_iff, h2, decide_eq_true_eq]
    constructor
    · intro h
      exact (List.map_inj_right (fun x y h => by injection h)).1 h
    · intro h; rw [h]
  rw [this]
  rfl
section
variable {ops : Array Oper} {rest : List Oper} {d : Option Tmp} {ty : TypeId} {pos : String} {aft : Array Edge} {gd : Option (Nat × Bool)} {x y : Operand} {T z : TypeId} {A B : List Int}
theorem exec_eq {a : Act} (hT : TwoT T) (ha : A.length = 16) (hb : B.length = 16) (wa : Wf A) (wb : Wf B) (hx : a.eval x = .agg (tc A)) (hy : a.eval y = .agg (tc B)) (w : World) : (execOp a.eval ⟨d, .binOp .eql T x y z, ty, pos, aft, gd⟩).run Try.prog w = .ok (.value (.bool (decide (A = B)))) w := by
  unfold execOp
  simp only [hx, hy, Sem.run_bind, run_eqGuard_agg w .eql T x y (tc A) (tc B) hT.2.2.2, Result.andThen_ok, eq_run hT w A B ha hb wa wb, Sem.run_pure]
theorem quiet_eq {a : Act} {Q : Act → Prop} {C : World → Prop} (hT : TwoT T) (ha : A.length = 16) (hb : B.length = 16) (wa : Wf A) (wb : Wf B)
    (h : wpQuiet Try.prog ops C Q rest (a.put d (.bool (decide (A = B))))) (hx : a.eval x = .agg (tc A)) (hy : a.eval y = .agg (tc B)) (hw : Region.wanted ⟨d, .binOp .eql T x y z, ty, pos, aft, gd⟩ (yielded ops a.tmps) = true) : wpQuiet Try.prog ops C Q (⟨d, .binOp .eql T x y z, ty, pos, aft, gd⟩ :: rest) a := by
  unfold wpQuiet
  rw [if_pos hw]
  refine ⟨.bool (decide (A = B)), fun w hC => ?_, h⟩
  unfold Oper.quietAt
  rw [exec_eq hT ha hb wa wb hx hy w]
  exact ⟨rfl, rfl⟩
theorem wpList_eq {a : Act} {w : World} {Q : Exit → Act → World → Prop} (hT : TwoT T) (ha : A.length = 16) (hb : B.length = 16) (wa : Wf A) (wb : Wf B)
    (h : wpList Try.prog ops Q rest (a.put d (.bool (decide (A = B)))) w) (hx : a.eval x = .agg (tc A)) (hy : a.eval y = .agg (tc B)) (hw : Region.wanted ⟨d, .binOp .eql T x y z, ty, pos, aft, gd⟩ (yielded ops a.tmps) = true) : wpList Try.prog ops Q (⟨d, .binOp .eql T x y z, ty, pos, aft, gd⟩ :: rest) a w := by
  refine wpList_step fun K hK => ?_
  rw [if_pos hw]
  unfold Oper.wp
  rw [exec_eq hT ha hb wa wb hx hy w]
  exact hK _ _ h
theorem ne_run {T : TypeId} (hT : TwoT T) (w : World) (a b : List Int) (ha : a.length = 16) (hb : b.length = 16) (wa : Wf a) (wb : Wf b) :
    (binOp .neq T (.agg (tc a)) (.agg (tc b))).run Try.prog w = .ok (.bool (!decide (a = b))) w := by
  have h := eq_run hT w a b ha hb wa wb
  rw [run_eql_struct] at h
  rw [run_neq_struct]
  revert h
  generalize (Op.equalIn 10000 T (.agg (tc a)) (.agg (tc b))).run Try.prog w = r
  intro h
  cases r with
  | halt x w' => simp [Result.andThen] at h
  | ok b' w' =>
    simp only [Result.andThen_ok] at h ⊢
    injection h with h1 h2
    injection h1 with h1
    rw [h1, h2]
theorem quiet_ne {a : Act} {Q : Act → Prop} {C : World → Prop} (hT : TwoT T) (ha : A.length = 16) (hb : B.length = 16) (wa : Wf A) (wb : Wf B)
    (h : wpQuiet Try.prog ops C Q rest (a.put d (.bool (!decide (A = B))))) (hx : a.eval x = .agg (tc A)) (hy : a.eval y = .agg (tc B)) (hw : Region.wanted ⟨d, .binOp .neq T x y z, ty, pos, aft, gd⟩ (yielded ops a.tmps) = true) : wpQuiet Try.prog ops C Q (⟨d, .binOp .neq T x y z, ty, pos, aft, gd⟩ :: rest) a := by
  unfold wpQuiet
  rw [if_pos hw]
  refine ⟨.bool (!decide (A = B)), fun w hC => ?_, h⟩
  unfold Oper.quietAt execOp
  simp only [hx, hy, Sem.run_bind, run_eqGuard_agg w .neq T x y (tc A) (tc B) hT.2.2.2, Result.andThen_ok, ne_run hT w A B ha hb wa wb, Sem.run_pure]
  exact ⟨rfl, rfl⟩
end
end Go.Proofs.Ytocoohpekpkmkaa

/- '==' between two boards' plans. -/
namespace Go.Proofs.Ytocoohpekpkmkaa
set_option linter.unusedVariables false
set_option linter.unusedSimpArgs false
set_option maxRecDepth 100000
open Go.RowKit
open Reg (La Vl)
/-- Each number of the plans is one of an int64. -/
def WfP (p : List La) : Prop := ∀ q ∈ p, (Lit.int .i64 q.1).wf = true ∧ (Lit.int .i64 q.2.1).wf = true ∧ (Lit.int .i64 q.2.2).wf = true
def lit3 (q : La) : List Lit := [Lit.int .i64 q.1, Lit.int .i64 q.2.1, Lit.int .i64 q.2.2]
theorem cellsLR : (Try.prog).cellsOf 61 = 3 := by kernel_rfl
theorem cellsPR : (Try.prog).cellsOf 74 = 24 := by kernel_rfl
theorem keyLits_last (d : Nat) (q : La) (h : (Lit.int .i64 q.1).wf = true ∧ (Lit.int .i64 q.2.1).wf = true ∧ (Lit.int .i64 q.2.2).wf = true) : (Try.prog).keyLits (d + 2) 61 (pc q) = some (lit3 q) := by
  obtain ⟨a, b, c⟩ := q
  obtain ⟨h1, h2, h3⟩ := h
  simp only at h1 h2 h3
  unfold Program.keyLits
  simp [Try.underlying61, cellsLR, cellsI, pc, Program.keyLits, Try.underlying3, h1, h2, h3, lit3]
theorem mapM_last (d : Nat) (p : List La) (hw : WfP p) : ((List.range p.length).mapM fun i => (Try.prog).keyLits (d + 2) 61 (((plansC p).drop (i * 3)).take 3)) = some (p.map lit3) := by
  induction p with
  | nil => rfl
  | cons x r ih =>
    rw [List.length_cons, List.range_succ_eq_map, List.mapM_cons]
    have h0 : (Try.prog).keyLits (d + 2) 61 (((plansC (x :: r)).drop (0 * 3)).take 3) = some (lit3 x) := keyLits_last d x (hw x (by simp))
    rw [h0]
    have hm : ((List.range r.length).map Nat.succ).mapM (fun i => (Try.prog).keyLits (d + 2) 61 (((plansC (x :: r)).drop (i * 3)).take 3)) = some (r.map lit3) := by
      rw [List.mapM_map]
      have := ih (fun y hy => hw y (by simp [hy]))
      refine Eq.trans ?_ this
      refine congrArg (fun f => (List.range r.length).mapM f) (funext fun i => ?_)
      show (Try.prog).keyLits (d + 2) 61 (((plansC (x :: r)).drop ((i + 1) * 3)).take 3) = _
      rw [show (plansC (x :: r)).drop ((i + 1) * 3) = (plansC r).drop (i * 3) from by
        rw [show (i + 1) * 3 = 3 + i * 3 by omega, ← List.drop_drop]
        rfl]
    simp only [Option.pure_def, Option.bind_eq_bind, Option.bind_some]
    rw [hm]
    rfl
theorem keyLits_plans (d : Nat) (p : List La) (hl : p.length = 8) (hw : WfP p) : (Try.prog).keyLits (d + 3) 74 (plansC p) = some (p.map lit3).flatten := by
  have h := mapM_last d p hw
  rw [hl] at h
  have hc := plansC_len p
  rw [hl] at hc
  unfold Program.keyLits
  simp only [Try.underlying74, cellsPR, cellsLR, hc, if_true]
  rw [h]
  simp only [Option.map_some]
theorem lit3_inj {p q : List La} (h : (p.map lit3).flatten = (q.map lit3).flatten) (hl : p.length = q.length) : p = q := by
  induction p generalizing q with
  | nil => exact (List.eq_nil_of_length_eq_zero hl.symm).symm
  | cons x r ih =>
    cases q with
    | nil => simp at hl
    | cons y s =>
      simp [lit3] at h
      obtain ⟨h1, h2, h3, h4⟩ := h
      rw [ih h4 (by simpa using hl)]
      obtain ⟨a, b, c⟩ := x
      obtain ⟨a', b', c'⟩ := y
      simp only at h1 h2 h3
      rw [h1, h2, h3]
theorem eq_runP (w : World) (a b : List La) (ha : a.length = 8) (hb : b.length = 8) (wa : WfP a) (wb : WfP b) :
    (binOp .eql 74 (.agg (plA a)) (.agg (plA b))).run Try.prog w = .ok (.bool (decide (a = b))) w := by
  have hk : (Try.prog).keyTypeAt 4 74 = true := by kernel_rfl
  have hfm : ∀ l : List La, l.length = 8 → (Value.agg (plA l)).formed Try.prog 74 = true := fun l hl => by
    simp [Value.formed, Try.underlying74, cellsPR, plA_size hl]
  obtain ⟨r, h1, h2⟩ := run_equalIn_deep (P := Try.prog) 9996 4 74 hk w 3 3 (.agg (plA a)) (.agg (plA b)) _ _ (hfm a ha) (hfm b hb) (keyLits_plans 0 a ha wa) (keyLits_plans 0 b hb wb)
  rw [run_eql_struct, h1]
  have : r = decide (a = b) := by
    rw [Bool.eq_iff_iff, h2, decide_eq_true_eq]
    constructor
    · intro h
      exact lit3_inj h (by rw [ha, hb])
    · intro h; rw [h]
  rw [this]
  rfl
section
variable {ops : Array Oper} {rest : List Oper} {d : Option Tmp} {ty : TypeId} {pos : String} {aft : Array Edge} {gd : Option (Nat × Bool)} {x y : Operand} {z : TypeId} {A B : List La}
theorem exec_eqP {a : Act} (ha : A.length = 8) (hb : B.length = 8) (wa : WfP A) (wb : WfP B) (hx : a.eval x = .agg (plA A)) (hy : a.eval y = .agg (plA B)) (w : World) : (execOp a.eval ⟨d, .binOp .eql 74 x y z, ty, pos, aft, gd⟩).run Try.prog w = .ok (.value (.bool (decide (A = B)))) w := by
  unfold execOp
  simp only [hx, hy, Sem.run_bind, run_eqGuard_agg w .eql 74 x y (plA A) (plA B) (show (Try.prog).eqGuardType (Try.prog).depth 74 = false by kernel_rfl), Result.andThen_ok, eq_runP w A B ha hb wa wb, Sem.run_pure]
theorem wpList_eqP {a : Act} {w : World} {Q : Exit → Act → World → Prop} (ha : A.length = 8) (hb : B.length = 8) (wa : WfP A) (wb : WfP B)
    (h : wpList Try.prog ops Q rest (a.put d (.bool (decide (A = B)))) w) (hx : a.eval x = .agg (plA A)) (hy : a.eval y = .agg (plA B)) (hw : Region.wanted ⟨d, .binOp .eql 74 x y z, ty, pos, aft, gd⟩ (yielded ops a.tmps) = true) : wpList Try.prog ops Q (⟨d, .binOp .eql 74 x y z, ty, pos, aft, gd⟩ :: rest) a w := by
  refine wpList_step fun K hK => ?_
  rw [if_pos hw]
  unfold Oper.wp
  rw [exec_eqP ha hb wa wb hx hy w]
  exact hK _ _ h
end
end Go.Proofs.Ytocoohpekpkmkaa

/- The walk of the document's Same of boards. -/
namespace Go.Proofs.Ytocoohpekpkmkaa
set_option linter.unusedVariables false
set_option linter.unusedSimpArgs false
set_option maxRecDepth 100000
open Go.RowKit
open Reg (La Vl)
structure WfB (b : Bd) : Prop where
  t : Wf b.t
  p : WfP b.p
  u : Wf b.u
def sameB (a b : Bd) : Bool := decide (a.t = b.t) && decide (a.p = b.p) && (decide (a.u = b.u) && decide (a.l = b.l))
theorem sameB_iff (a b : Bd) : sameB a b = true ↔ a = b := by
  obtain ⟨t, p, u, l⟩ := a
  obtain ⟨t', p', u', l'⟩ := b
  unfold sameB
  simp only [Bool.and_eq_true, decide_eq_true_eq, Bd.mk.injEq]
  constructor
  · rintro ⟨⟨h1, h2⟩, h3, h4⟩; exact ⟨h1, h2, h3, h4⟩
  · rintro ⟨h1, h2, h3, h4⟩; exact ⟨⟨h1, h2⟩, h3, h4⟩
set_option maxHeartbeats 800000 in
theorem bsame_any (a b : Bd) (ha : Bo.Shaped a) (hb : Bo.Shaped b) (wa : WfB a) (wb : WfB b) (q q2 : Value) (w : World) (hq : FrBo a q w) (hq2 : FrBo b q2 w) :
    Calls Try.prog 35 #[q, q2] w (GiveBo w (sameB a b)) := by
  obtain ⟨A, m, c, rfl, hr, hm⟩ := hq
  obtain ⟨A', m', c', rfl, hr', hm'⟩ := hq2
  obtain ⟨e1, h1⟩ : ∃ e, decide (a.t = b.t) = e := ⟨_, rfl⟩
  obtain ⟨e2, h2⟩ : ∃ e, decide (a.p = b.p) = e := ⟨_, rfl⟩
  obtain ⟨e3, h3⟩ : ∃ e, (decide (a.u = b.u) && decide (a.l = b.l)) = e := ⟨_, rfl⟩
  have HV := Lib.hid (show sameB a b = (e1 && e2 && e3) by unfold sameB; rw [h1, h2, h3])
  have HC := Lib.hid fun (w' : World) (hbb : Below w.heap.size w w') => (h3 ▸ sameF ha.u hb.u wa.u wb.u (⟨A, m, c, rfl, (hr.below hbb).size, hm⟩ : Fresh a.u a.l (.agg (uc a.u (.slice A m c))) w') (⟨A', m', c', rfl, (hr'.below hbb).size, hm'⟩ : Fresh b.u b.l (.agg (uc b.u (.slice A' m' c'))) w') : Calls Try.prog _ _ w' (GiveBo w' e3))
  have H1 := Lib.hid h1
  have H2 := Lib.hid h2
  have SA := Lib.hid ha
  have SB := Lib.hid hb
  have WA := Lib.hid wa
  have WB := Lib.hid wb
  have TA := Lib.hid (show (tc a.t).size = 16 by rw [tc_size, ha.t])
  have TB := Lib.hid (show (tc b.t).size = 16 by rw [tc_size, hb.t])
  have PA := Lib.hid (plA_size ha.p)
  have PB := Lib.hid (plA_size hb.p)
  have UA := Lib.hid (uc_size ha.u (.slice A m c))
  have UB := Lib.hid (uc_size hb.u (.slice A' m' c'))
  clear h1 h2 h3 ha hb wa wb hr hr' hm hm'
  go_enter Try.func35, Try.ntmps35
  go_upto_region 1 with fail
  refine nameW ?_
  intro wv hwv
  obtain ⟨g, hg⟩ : ∃ g, g = w.heap.size := ⟨_, rfl⟩
  rw [← hg]
  have ka : Blk wv g 76 (bc a (.slice A m c)) := by rw [hwv, hg]; exact (Blk.new w _ _).alloc _
  have kb : Blk wv (g + 1) 76 (bc b (.slice A' m' c')) := by
    have h := Blk.new (w.alloc (.cells (bc a (.slice A m c)) 76)) 76 (bc b (.slice A' m' c'))
    rw [hwv, hg]
    simpa using h
  have gb : Below w.heap.size w wv := by rw [hwv]; exact ((Below.refl _ _).alloc (Nat.le_refl _) _).alloc (by simp) _
  have pa : wv.rangeAt g 16 (plA a.p).toList := ka.plans SA.out
  have pb : wv.rangeAt (g + 1) 16 (plA b.p).toList := kb.plans SB.out
  have HPV := Lib.hid (HC.out wv gb)
  clear hwv hg HC
  cases e1
  case false =>
    go_wp2_with first
      | ((with_reducible refine wpList_ldr rowRT (ka.tal SA.out) TA.out ?_ ?_); rotate_left; (rfl))
      | ((with_reducible refine wpList_ldr rowRT (kb.tal SB.out) TB.out ?_ ?_); rotate_left; (rfl))
      | ((with_reducible refine wpList_eq twoR SA.out.t SB.out.t WA.out.t WB.out.t ?_ ?_ ?_ ?_); rotate_left; (rfl); (rfl); (rfl); rw [H1.out])
    go_ret
    exact ⟨by rw [HV.out]; rfl, gb⟩
  case true =>
  cases e2
  case false =>
    go_wp2_with first
      | ((with_reducible refine wpList_ldr rowRT (ka.tal SA.out) TA.out ?_ ?_); rotate_left; (rfl))
      | ((with_reducible refine wpList_ldr rowRT (kb.tal SB.out) TB.out ?_ ?_); rotate_left; (rfl))
      | ((with_reducible refine wpList_eq twoR SA.out.t SB.out.t WA.out.t WB.out.t ?_ ?_ ?_ ?_); rotate_left; (rfl); (rfl); (rfl); rw [H1.out])
      | ((with_reducible refine wpList_ldrg rowRPl pa PA.out ?_ ?_ ?_); rotate_left; (rfl); (rfl))
      | ((with_reducible refine wpList_ldrg rowRPl pb PB.out ?_ ?_ ?_); rotate_left; (rfl); (rfl))
      | ((with_reducible refine wpList_eqP SA.out.p SB.out.p WA.out.p WB.out.p ?_ ?_ ?_ ?_); rotate_left; (rfl); (rfl); (rfl); rw [H2.out])
    go_ret
    exact ⟨by rw [HV.out]; rfl, gb⟩
  case true =>
  go_wp2_with first
    | ((with_reducible refine wpList_ldr rowRT (ka.tal SA.out) TA.out ?_ ?_); rotate_left; (rfl))
    | ((with_reducible refine wpList_ldr rowRT (kb.tal SB.out) TB.out ?_ ?_); rotate_left; (rfl))
    | ((with_reducible refine wpList_eq twoR SA.out.t SB.out.t WA.out.t WB.out.t ?_ ?_ ?_ ?_); rotate_left; (rfl); (rfl); (rfl); rw [H1.out])
    | ((with_reducible refine wpList_ldrg rowRPl pa PA.out ?_ ?_ ?_); rotate_left; (rfl); (rfl))
    | ((with_reducible refine wpList_ldrg rowRPl pb PB.out ?_ ?_ ?_); rotate_left; (rfl); (rfl))
    | ((with_reducible refine wpList_eqP SA.out.p SB.out.p WA.out.p WB.out.p ?_ ?_ ?_ ?_); rotate_left; (rfl); (rfl); (rfl); rw [H2.out])
    | ((with_reducible refine wpList_ldrg rowRM (ka.notes SA.out) UA.out ?_ ?_ ?_); rotate_left; (rfl); (rfl))
    | ((with_reducible refine wpList_ldrg rowRM (kb.notes SB.out) UB.out ?_ ?_ ?_); rotate_left; (rfl); (rfl))
  refine HPV.out.mono ?_
  rintro e w2 ⟨rfl, b2⟩
  have gb := gb.trans (b2.mono gb.size)
  clear b2 pa pb ka kb
  go_wp2_with fail
  go_ret
  exact ⟨by rw [HV.out]; simp, gb⟩
end Go.Proofs.Ytocoohpekpkmkaa

/- The walks of tally: Add. -/
namespace Go.Proofs.Ytocoohpekpkmkaa
set_option linter.unusedVariables false
set_option linter.unusedSimpArgs false
open Go.RowKit
open Tally
def AddEnd (w : World) (l : List Int) (node n : Int) (e : Ending) (w' : World) : Prop := e = .returned (.tuple #[.agg (tc (addL l node n).1), .int .i64 (addL l node n).2]) ∧ Below w.heap.size w w'
set_option maxHeartbeats 2000000 in
theorem add_any (l : List Int) (node n : Int) (w : World) (hl : l.length = 16) :
    Calls Try.prog 82 #[.agg (tc l), .int .i64 node, .int .i64 n] w (AddEnd w l node n) := by
  have hs : (tc l).size = 16 := by rw [tc_size, hl]
  have HS := Lib.hid hs
  have HL := Lib.hid hl
  clear hl hs
  by_cases hr : rightB l = true
  case neg =>
    have hr2 : rightB l = false := by simpa using hr
    have HA := Lib.hid (add_bad (l := l) (node := node) (n := n) (.inl hr2))
    have HR := Lib.hid hr2
    clear hr hr2
    go_enter Try.func82, Try.ntmps82
    go_upto_region 1 with fail
    refine nameW ?_
    intro wv hwv
    obtain ⟨g, hg⟩ : ∃ g, g = w.heap.size := ⟨_, rfl⟩
    rw [← hg]
    have k0 : Blk wv g 80 (tc l) := by rw [hwv, hg]; exact (Blk.new w _ _).alloc _
    have k1 : Blk wv (g + 1) 80 (tc zero) := by
      have h := Blk.new (w.alloc (.cells (tc l) 80)) 80 (tc zero)
      rw [zero_tc] at h
      rw [zero_tc, hwv, hg]
      simpa using h
    have hb : Below w.heap.size w wv := by rw [hwv]; exact ((Below.refl _ _).alloc (Nat.le_refl _) _).alloc (by simp) _
    have hgw : w.heap.size ≤ g := by omega
    clear hwv hg
    go_wp2_with ((with_reducible refine wpList_ld rowT k0 HS.out ?_ ?_); rotate_left; (rfl))
    refine (right_any l wv HL.out).mono ?_
    rintro e w1 ⟨rfl, h1⟩
    have k0a := k0.below h1 k0.lt
    have k1a := k1.below h1 k1.lt
    have b1 := hb.trans (h1.mono hb.size)
    clear k0 k1 hb h1
    rw [HR.out]
    go_wp2_with ((with_reducible refine wpList_st rowT k1a zero_size zero_size (tc_one zero) ?_ ?_ ?_); rotate_left; (rfl); (rfl); intro w2 k2 g2 z2)
    have b2 := b1.grown g2 b1.size (fun q hq => by injection hq; omega)
    exact bodyPost_ret (v := .tuple #[.agg (tc zero), .int .i64 2]) (results_blk2 rfl rowT k2 zero_size rfl rfl) rfl ⟨by rw [HA.out], b2⟩
  have HR := Lib.hid hr
  clear hr
  by_cases hn : inB node 0 7 = true
  case neg =>
    have hn2 : inB node 0 7 = false := by simpa using hn
    have HA := Lib.hid (add_bad (l := l) (node := node) (n := n) (.inr (.inl hn2)))
    have hw := within_any node 0 7
    rw [hn2] at hw
    have HW := Lib.hid hw
    clear hn hn2 hw
    go_enter Try.func82, Try.ntmps82
    go_upto_region 1 with fail
    refine nameW ?_
    intro wv hwv
    obtain ⟨g, hg⟩ : ∃ g, g = w.heap.size := ⟨_, rfl⟩
    rw [← hg]
    have k0 : Blk wv g 80 (tc l) := by rw [hwv, hg]; exact (Blk.new w _ _).alloc _
    have k1 : Blk wv (g + 1) 80 (tc zero) := by
      have h := Blk.new (w.alloc (.cells (tc l) 80)) 80 (tc zero)
      rw [zero_tc] at h
      rw [zero_tc, hwv, hg]
      simpa using h
    have hb : Below w.heap.size w wv := by rw [hwv]; exact ((Below.refl _ _).alloc (Nat.le_refl _) _).alloc (by simp) _
    have hgw : w.heap.size ≤ g := by omega
    clear hwv hg
    go_wp2_with ((with_reducible refine wpList_ld rowT k0 HS.out ?_ ?_); rotate_left; (rfl))
    refine (right_any l wv HL.out).mono ?_
    rintro e w1 ⟨rfl, h1⟩
    have k0a := k0.below h1 k0.lt
    have k1a := k1.below h1 k1.lt
    have b1 := hb.trans (h1.mono hb.size)
    clear k0 k1 hb h1
    rw [HR.out]
    go_wp2_with fail
    refine (HW.out w1 (by omega)).mono ?_
    rintro e w' ⟨rfl, rfl⟩
    go_wp2_with ((with_reducible refine wpList_st rowT k1a zero_size zero_size (tc_one zero) ?_ ?_ ?_); rotate_left; (rfl); (rfl); intro w2 k2 g2 z2)
    have b2 := b1.grown g2 b1.size (fun q hq => by injection hq; omega)
    exact bodyPost_ret (v := .tuple #[.agg (tc zero), .int .i64 2]) (results_blk2 rfl rowT k2 zero_size rfl rfl) rfl ⟨by rw [HA.out], b2⟩
  have hnb := (inB_iff _ _ _).1 hn
  have HN := Lib.hid hn
  have hw := within_any node 0 7
  rw [hn] at hw
  have HW := Lib.hid hw
  clear hn hw
  by_cases hm : inB n (-top) top = true
  case neg =>
    have hm2 : inB n (-top) top = false := by simpa using hm
    have HA := Lib.hid (add_bad (l := l) (node := node) (n := n) (.inr (.inr hm2)))
    have hw2 := within_any n (-top) top
    rw [hm2] at hw2
    have HW2 := Lib.hid hw2
    clear hm hm2 hw2
    go_enter Try.func82, Try.ntmps82
    go_upto_region 1 with fail
    refine nameW ?_
    intro wv hwv
    obtain ⟨g, hg⟩ : ∃ g, g = w.heap.size := ⟨_, rfl⟩
    rw [← hg]
    have k0 : Blk wv g 80 (tc l) := by rw [hwv, hg]; exact (Blk.new w _ _).alloc _
    have k1 : Blk wv (g + 1) 80 (tc zero) := by
      have h := Blk.new (w.alloc (.cells (tc l) 80)) 80 (tc zero)
      rw [zero_tc] at h
      rw [zero_tc, hwv, hg]
      simpa using h
    have hb : Below w.heap.size w wv := by rw [hwv]; exact ((Below.refl _ _).alloc (Nat.le_refl _) _).alloc (by simp) _
    have hgw : w.heap.size ≤ g := by omega
    clear hwv hg
    go_wp2_with ((with_reducible refine wpList_ld rowT k0 HS.out ?_ ?_); rotate_left; (rfl))
    refine (right_any l wv HL.out).mono ?_
    rintro e w1 ⟨rfl, h1⟩
    have k0a := k0.below h1 k0.lt
    have k1a := k1.below h1 k1.lt
    have b1 := hb.trans (h1.mono hb.size)
    clear k0 k1 hb h1
    rw [HR.out]
    go_wp2_with fail
    refine (HW.out w1 (by omega)).mono ?_
    rintro e w' ⟨rfl, rfl⟩
    go_wp2_with fail
    refine (HW2.out w1 (by decide)).mono ?_
    rintro e w' ⟨rfl, rfl⟩
    go_wp2_with ((with_reducible refine wpList_st rowT k1a zero_size zero_size (tc_one zero) ?_ ?_ ?_); rotate_left; (rfl); (rfl); intro w2 k2 g2 z2)
    have b2 := b1.grown g2 b1.size (fun q hq => by injection hq; omega)
    exact bodyPost_ret (v := .tuple #[.agg (tc zero), .int .i64 2]) (results_blk2 rfl rowT k2 zero_size rfl rfl) rfl ⟨by rw [HA.out], b2⟩
  have hmb := (inB_iff _ _ _).1 hm
  have HM := Lib.hid hm
  have hw2 := within_any n (-top) top
  rw [hm] at hw2
  have HW2 := Lib.hid hw2
  clear hm hw2
  obtain ⟨k, rfl⟩ := Int.eq_ofNat_of_zero_le hnb.1
  have hk7 : k < 8 := by omega
  by_cases hneg : n < 0
  · obtain ⟨p, rfl⟩ : ∃ p : Int, n = -p := ⟨-n, by omega⟩
    have hp : 1 ≤ p ∧ p ≤ 1099511627776 := by unfold top at hmb; omega
    have hsl : slot (k : Int) (-p) = 8 + k := by unfold slot; split <;> omega
    have ham : amt (-p) = p := by unfold amt; split <;> omega
    have hok := add_ok (l := l) HR.out HN.out HM.out
    have hfu := add_full (l := l) HR.out HN.out HM.out
    rw [hsl, ham] at hok hfu
    unfold top at hok hfu
    clear hsl ham
    by_cases hov : 1099511627776 - p < l.getD (8 + k) 0
    · have HA := Lib.hid (hfu hov)
      clear hok hfu hmb hnb hneg
      go_enter Try.func82, Try.ntmps82
      go_upto_region 1 with fail
      refine nameW ?_
      intro wv hwv
      obtain ⟨g, hg⟩ : ∃ g, g = w.heap.size := ⟨_, rfl⟩
      rw [← hg]
      have k0 : Blk wv g 80 (tc l) := by rw [hwv, hg]; exact (Blk.new w _ _).alloc _
      have k1 : Blk wv (g + 1) 80 (tc zero) := by
        have h := Blk.new (w.alloc (.cells (tc l) 80)) 80 (tc zero)
        rw [zero_tc] at h
        rw [zero_tc, hwv, hg]
        simpa using h
      have hb : Below w.heap.size w wv := by rw [hwv]; exact ((Below.refl _ _).alloc (Nat.le_refl _) _).alloc (by simp) _
      have hgw : w.heap.size ≤ g := by omega
      clear hwv hg
      go_wp2_with ((with_reducible refine wpList_ld rowT k0 HS.out ?_ ?_); rotate_left; (rfl))
      refine (right_any l wv HL.out).mono ?_
      rintro e w1 ⟨rfl, h1⟩
      have k0a := k0.below h1 k0.lt
      have k1a := k1.below h1 k1.lt
      have b1 := hb.trans (h1.mono hb.size)
      clear k0 k1 hb h1
      rw [HR.out]
      go_wp2_with fail
      refine (HW.out w1 (by omega)).mono ?_
      rintro e w' ⟨rfl, rfl⟩
      go_wp2_with fail
      refine (HW2.out w1 (by decide)).mono ?_
      rintro e w' ⟨rfl, rfl⟩
      have c1 := k0a.tcell (i := 8 + k) (by rw [HL.out]; omega)
      have c2 := k0a.free (8 + k)
      have hov2 : decide (1099511627776 - p < l.getD (8 + k) 0) = true := decide_eq_true (by omega)
      generalize l.getD (8 + k) 0 = x at *
      go_wp2_with ((with_reducible refine wpList_st rowT k1a zero_size zero_size (tc_one zero) ?_ ?_ ?_); rotate_left; (rfl); (rfl); intro w2 k2 g2 z2)
      have b2 := b1.grown g2 b1.size (fun q hq => by injection hq; omega)
      exact bodyPost_ret (v := .tuple #[.agg (tc zero), .int .i64 7]) (results_blk2 rfl rowT k2 zero_size rfl rfl) rfl ⟨by rw [HA.out], b2⟩
    · have HA := Lib.hid (hok hov)
      clear hok hfu hmb hnb hneg
      go_enter Try.func82, Try.ntmps82
      go_upto_region 1 with fail
      refine nameW ?_
      intro wv hwv
      obtain ⟨g, hg⟩ : ∃ g, g = w.heap.size := ⟨_, rfl⟩
      rw [← hg]
      have k0 : Blk wv g 80 (tc l) := by rw [hwv, hg]; exact (Blk.new w _ _).alloc _
      have k1 : Blk wv (g + 1) 80 (tc zero) := by
        have h := Blk.new (w.alloc (.cells (tc l) 80)) 80 (tc zero)
        rw [zero_tc] at h
        rw [zero_tc, hwv, hg]
        simpa using h
      have hb : Below w.heap.size w wv := by rw [hwv]; exact ((Below.refl _ _).alloc (Nat.le_refl _) _).alloc (by simp) _
      have hgw : w.heap.size ≤ g := by omega
      clear hwv hg
      go_wp2_with ((with_reducible refine wpList_ld rowT k0 HS.out ?_ ?_); rotate_left; (rfl))
      refine (right_any l wv HL.out).mono ?_
      rintro e w1 ⟨rfl, h1⟩
      have k0a := k0.below h1 k0.lt
      have k1a := k1.below h1 k1.lt
      have b1 := hb.trans (h1.mono hb.size)
      clear k0 k1 hb h1
      rw [HR.out]
      go_wp2_with fail
      refine (HW.out w1 (by omega)).mono ?_
      rintro e w' ⟨rfl, rfl⟩
      go_wp2_with fail
      refine (HW2.out w1 (by decide)).mono ?_
      rintro e w' ⟨rfl, rfl⟩
      have c1 := k0a.tcell (i := 8 + k) (by rw [HL.out]; omega)
      have c2 := k0a.free (8 + k)
      have hov2 : decide (1099511627776 - p < l.getD (8 + k) 0) = false := decide_eq_false (by omega)
      have hxb := right_at HR.out (8 + k)
      unfold top at hxb
      obtain ⟨x, hx⟩ : ∃ x, l.getD (8 + k) 0 = x := ⟨_, rfl⟩
      rw [hx] at c1 hov2 hov hxb HA
      clear hx
      have k0b : Blk (w1.setCell ⟨g, 8 + k, none⟩ (.int .i64 (x + p))) g 80 (tc (l.set (8 + k) (x + p))) := by
        have h := k0a.set_ (8 + k) (.int .i64 (x + p))
        rwa [tc_set] at h
      have k1b : Blk (w1.setCell ⟨g, 8 + k, none⟩ (.int .i64 (x + p))) (g + 1) 80 (tc zero) := k1a.far (p := ⟨g, 8 + k, none⟩) (by simp) _
      have HS2 : Hid ((tc (l.set (8 + k) (x + p))).size = 16) := by
        have : (tc (l.set (8 + k) (x + p))).size = 16 := by rw [tc_size, List.length_set, HL.out]
        exact Lib.hid this
      have b1b : Below w.heap.size w (w1.setCell ⟨g, 8 + k, none⟩ (.int .i64 (x + p))) := b1.setCell hgw _
      have hone := tc_one (l.set (8 + k) (x + p))
      have HONE := Lib.hid hone
      clear hone k0a k1a b1
      generalize l.set (8 + k) (x + p) = m at *
      go_wp2_with (first
        | ((with_reducible refine wpList_ld rowT k0b HS2.out ?_ ?_); rotate_left; (rfl))
        | ((with_reducible refine wpList_st rowT k1b HS2.out zero_size HONE.out ?_ ?_ ?_); rotate_left; (rfl); (rfl); intro w2 k2 g2 z2))
      have b2 := b1b.grown g2 b1b.size (fun q hq => by injection hq; omega)
      exact bodyPost_ret (v := .tuple #[.agg (tc m), .int .i64 0]) (results_blk2 rfl rowT k2 HS2.out rfl rfl) rfl ⟨by rw [HA.out], b2⟩
  · have hp : 0 ≤ n ∧ n ≤ 1099511627776 := by unfold top at hmb; omega
    have hsl : slot (k : Int) (n) = k := by unfold slot; split <;> omega
    have ham : amt (n) = n := by unfold amt; split <;> omega
    have hok := add_ok (l := l) HR.out HN.out HM.out
    have hfu := add_full (l := l) HR.out HN.out HM.out
    rw [hsl, ham] at hok hfu
    unfold top at hok hfu
    clear hsl ham
    by_cases hov : 1099511627776 - n < l.getD (k) 0
    · have HA := Lib.hid (hfu hov)
      clear hok hfu hmb hnb hneg
      go_enter Try.func82, Try.ntmps82
      go_upto_region 1 with fail
      refine nameW ?_
      intro wv hwv
      obtain ⟨g, hg⟩ : ∃ g, g = w.heap.size := ⟨_, rfl⟩
      rw [← hg]
      have k0 : Blk wv g 80 (tc l) := by rw [hwv, hg]; exact (Blk.new w _ _).alloc _
      have k1 : Blk wv (g + 1) 80 (tc zero) := by
        have h := Blk.new (w.alloc (.cells (tc l) 80)) 80 (tc zero)
        rw [zero_tc] at h
        rw [zero_tc, hwv, hg]
        simpa using h
      have hb : Below w.heap.size w wv := by rw [hwv]; exact ((Below.refl _ _).alloc (Nat.le_refl _) _).alloc (by simp) _
      have hgw : w.heap.size ≤ g := by omega
      clear hwv hg
      go_wp2_with ((with_reducible refine wpList_ld rowT k0 HS.out ?_ ?_); rotate_left; (rfl))
      refine (right_any l wv HL.out).mono ?_
      rintro e w1 ⟨rfl, h1⟩
      have k0a := k0.below h1 k0.lt
      have k1a := k1.below h1 k1.lt
      have b1 := hb.trans (h1.mono hb.size)
      clear k0 k1 hb h1
      rw [HR.out]
      go_wp2_with fail
      refine (HW.out w1 (by omega)).mono ?_
      rintro e w' ⟨rfl, rfl⟩
      go_wp2_with fail
      refine (HW2.out w1 (by decide)).mono ?_
      rintro e w' ⟨rfl, rfl⟩
      have c1 := k0a.tcell (i := k) (by rw [HL.out]; omega)
      have c2 := k0a.free (k)
      have hov2 : decide (1099511627776 - n < l.getD (k) 0) = true := decide_eq_true (by omega)
      generalize l.getD (k) 0 = x at *
      go_wp2_with ((with_reducible refine wpList_st rowT k1a zero_size zero_size (tc_one zero) ?_ ?_ ?_); rotate_left; (rfl); (rfl); intro w2 k2 g2 z2)
      have b2 := b1.grown g2 b1.size (fun q hq => by injection hq; omega)
      exact bodyPost_ret (v := .tuple #[.agg (tc zero), .int .i64 7]) (results_blk2 rfl rowT k2 zero_size rfl rfl) rfl ⟨by rw [HA.out], b2⟩
    · have HA := Lib.hid (hok hov)
      clear hok hfu hmb hnb hneg
      go_enter Try.func82, Try.ntmps82
      go_upto_region 1 with fail
      refine nameW ?_
      intro wv hwv
      obtain ⟨g, hg⟩ : ∃ g, g = w.heap.size := ⟨_, rfl⟩
      rw [← hg]
      have k0 : Blk wv g 80 (tc l) := by rw [hwv, hg]; exact (Blk.new w _ _).alloc _
      have k1 : Blk wv (g + 1) 80 (tc zero) := by
        have h := Blk.new (w.alloc (.cells (tc l) 80)) 80 (tc zero)
        rw [zero_tc] at h
        rw [zero_tc, hwv, hg]
        simpa using h
      have hb : Below w.heap.size w wv := by rw [hwv]; exact ((Below.refl _ _).alloc (Nat.le_refl _) _).alloc (by simp) _
      have hgw : w.heap.size ≤ g := by omega
      clear hwv hg
      go_wp2_with ((with_reducible refine wpList_ld rowT k0 HS.out ?_ ?_); rotate_left; (rfl))
      refine (right_any l wv HL.out).mono ?_
      rintro e w1 ⟨rfl, h1⟩
      have k0a := k0.below h1 k0.lt
      have k1a := k1.below h1 k1.lt
      have b1 := hb.trans (h1.mono hb.size)
      clear k0 k1 hb h1
      rw [HR.out]
      go_wp2_with fail
      refine (HW.out w1 (by omega)).mono ?_
      rintro e w' ⟨rfl, rfl⟩
      go_wp2_with fail
      refine (HW2.out w1 (by decide)).mono ?_
      rintro e w' ⟨rfl, rfl⟩
      have c1 := k0a.tcell (i := k) (by rw [HL.out]; omega)
      have c2 := k0a.free (k)
      have hov2 : decide (1099511627776 - n < l.getD (k) 0) = false := decide_eq_false (by omega)
      have hxb := right_at HR.out (k)
      unfold top at hxb
      obtain ⟨x, hx⟩ : ∃ x, l.getD (k) 0 = x := ⟨_, rfl⟩
      rw [hx] at c1 hov2 hov hxb HA
      clear hx
      have k0b : Blk (w1.setCell ⟨g, k, none⟩ (.int .i64 (x + n))) g 80 (tc (l.set (k) (x + n))) := by
        have h := k0a.set_ (k) (.int .i64 (x + n))
        rwa [tc_set] at h
      have k1b : Blk (w1.setCell ⟨g, k, none⟩ (.int .i64 (x + n))) (g + 1) 80 (tc zero) := k1a.far (p := ⟨g, k, none⟩) (by simp) _
      have HS2 : Hid ((tc (l.set (k) (x + n))).size = 16) := by
        have : (tc (l.set (k) (x + n))).size = 16 := by rw [tc_size, List.length_set, HL.out]
        exact Lib.hid this
      have b1b : Below w.heap.size w (w1.setCell ⟨g, k, none⟩ (.int .i64 (x + n))) := b1.setCell hgw _
      have hone := tc_one (l.set (k) (x + n))
      have HONE := Lib.hid hone
      clear hone k0a k1a b1
      generalize l.set (k) (x + n) = m at *
      go_wp2_with (first
        | ((with_reducible refine wpList_ld rowT k0b HS2.out ?_ ?_); rotate_left; (rfl))
        | ((with_reducible refine wpList_st rowT k1b HS2.out zero_size HONE.out ?_ ?_ ?_); rotate_left; (rfl); (rfl); intro w2 k2 g2 z2))
      have b2 := b1b.grown g2 b1b.size (fun q hq => by injection hq; omega)
      exact bodyPost_ret (v := .tuple #[.agg (tc m), .int .i64 0]) (results_blk2 rfl rowT k2 HS2.out rfl rfl) rfl ⟨by rw [HA.out], b2⟩
end Go.Proofs.Ytocoohpekpkmkaa

/- The walk of board.Wrote. -/
namespace Go.Proofs.Ytocoohpekpkmkaa
set_option linter.unusedVariables false
set_option linter.unusedSimpArgs false
set_option maxRecDepth 100000
open Go.RowKit
open Reg (La Vl)
theorem bwrote_bad {b : Bd} {x y z : Int} (h : (Bo.rightB b && Reg.inB x 0 7 && Reg.inB y 0 7 && Reg.inB z 0 1000) = false) : Bo.wrote b x y z = (Bo.zero, 2) := by
  unfold Bo.wrote
  rw [if_pos]
  simp only [Bool.and_eq_false_iff] at h
  rcases h with ((h | h) | h) | h
  · exact .inl h
  · exact .inr (.inl h)
  · exact .inr (.inr (.inl h))
  · exact .inr (.inr (.inr h))
set_option maxHeartbeats 4000000 in
theorem bwrote_anyB (b : Bd) (hs : Bo.Shaped b) (nd wk rp : Int) (q : Value) (w : World) (hq : FrBo b q w) : Calls Try.prog 39 #[q, .int .i64 nd, .int .i64 wk, .int .i64 rp] w (GiveBdEB 49 w (Bo.wrote b nd wk rp).1 (Bo.wrote b nd wk rp).2) := by
  obtain ⟨x, k, hx⟩ : ∃ x k, Bo.wrote b nd wk rp = (x, k) := ⟨_, _, rfl⟩
  rw [hx]
  have HX := Lib.hid hx
  clear hx
  obtain ⟨A, m, c, rfl, hr, hm⟩ := hq
  obtain ⟨R, hR⟩ : ∃ R, R = Bo.rightB b := ⟨_, rfl⟩
  have HC1 := Lib.hid fun (w' : World) (hb : Below w.heap.size w w') => (hR ▸ boRight_any b hs (.agg (bc b (.slice A m c))) w' ⟨A, m, c, rfl, (hr.below hb).size, hm⟩ : Calls Try.prog _ _ w' (GiveBo w' R))
  have HC2 := Lib.hid fun (hr1 : Bo.rightB b = true) (w' : World) (hb : Below w.heap.size w w') => (Bo.own_of hr1 ▸ boOwn_anyB b hs (.agg (bc b (.slice A m c))) w' ⟨A, m, c, rfl, (hr.below hb).size, hm⟩ : Calls Try.prog _ _ w' (GiveBdB 49 w' b))
  have HS := Lib.hid hs
  have h49 := Lib.hid (bc_size (s := .slice A m c) hs)
  have z49 := Lib.hid (bc_size (s := .slice none 0 0) Bo.zero_shaped)
  have o49 := Lib.hid (bc_one (b := b) (s := .slice A m c) rfl)
  have HR := Lib.hid hR
  clear hr hm hs hR
  obtain ⟨r1, hr1⟩ : ∃ r1, Reg.inB nd 0 7 = r1 := ⟨_, rfl⟩
  obtain ⟨r2, hr2⟩ : ∃ r2, Reg.inB wk 0 7 = r2 := ⟨_, rfl⟩
  obtain ⟨r3, hr3⟩ : ∃ r3, Reg.inB rp 0 1000 = r3 := ⟨_, rfl⟩
  have H1 := Lib.hid hr1
  have H2 := Lib.hid hr2
  have H3 := Lib.hid hr3
  clear hr1 hr2 hr3
  have bad : (R && r1 && r2 && r3) = false → x = Bo.zero ∧ k = 2 := fun h => by
    have := HX.out
    rw [bwrote_bad (by rw [H1.out, H2.out, H3.out, ← HR.out]; exact h)] at this
    injection this with h1 h2
    exact ⟨h1.symm, h2.symm⟩
  have BAD := Lib.hid bad
  clear bad
  go_enter_defers Try.func39, Try.ntmps39
  go_upto_region 2 with fail
  refine nameW ?_
  intro wv hwv
  obtain ⟨B, hB⟩ : ∃ B, B = w.heap.size := ⟨_, rfl⟩
  rw [← hB]
  have k0 : Blk wv B 83 (bc b (.slice A m c)) := by rw [hwv, hB]; exact ((Blk.new w _ _).alloc _).alloc _
  have ke : Blk wv (B + 1) 83 (bc Bo.zero (.slice none 0 0)) := by
    have h := Blk.new (w.alloc (.cells (bc b (.slice A m c)) 83)) 83 (bc Bo.zero (.slice none 0 0))
    rw [zbo] at h ⊢
    rw [hwv, hB]
    exact (by simpa using h : Blk _ (w.heap.size + 1) _ _).alloc _
  have kf : Blk wv (B + 2) 33 #[.int .i64 0] := by
    have h := Blk.new ((w.alloc (.cells (bc b (.slice A m c)) 83)).alloc (.cells (bc Bo.zero (.slice none 0 0)) 83)) 33 #[.int .i64 0]
    rw [zbo] at h
    rw [hwv, hB]
    simpa using h
  have gb : Below B w wv := by rw [hwv, hB]; exact (((Below.refl _ _).alloc (Nat.le_refl _) _).alloc (by simp) _).alloc (by simp; omega) _
  have HB := Lib.hid hB
  clear hwv hB
  go_wp2_with ((with_reducible refine wpList_ld rowBo k0 h49.out ?_ ?_); rotate_left; (rfl))
  refine (HC1.out wv (by rw [← HB.out]; exact gb)).mono ?_
  rintro e w1 ⟨rfl, b1⟩
  have k0 := k0.below b1 k0.lt
  have ke := ke.below b1 ke.lt
  have kf := kf.below b1 kf.lt
  have gb := gb.trans (b1.mono (by have := gb.size; have := HB.out; omega))
  clear b1
  cases R
  case false =>
    go_wp2_with fail
    refine (bmust_bad 2 _).mono ?_
    rintro e w2 ⟨rfl, rfl⟩
    go_wp2_with fail
    obtain ⟨rfl, rfl⟩ := BAD.out (by simp)
    refine leaves_cons (f := 62) (args := #[.pointer (some ⟨B + 2, 0, none⟩)]) (by simp) (by simp [go_sem]) ?_
    refine (bcaught_panic _ _ _ _ _ (kf.cell 0) (kf.free 0)).mono ?_
    rintro e u' w4 ⟨rfl, rfl, rfl⟩
    have k4 := (kf.alloc (.cells #[.int .i64 2] 171)).set_ 0 (.int .i64 2)
    have e4 := (ke.alloc (.cells #[.int .i64 2] 171)).far (p := ⟨B + 2, 0, none⟩) (by show B + 1 ≠ B + 2; omega) (.int .i64 2)
    have c4 := k4.cell 0
    have g4 := (gb.alloc (by have := gb.size; have := HB.out; omega) (.cells #[.int .i64 2] 171)).setCell (p := ⟨B + 2, 0, none⟩) (by show B ≤ B + 2; omega) (.int .i64 2)
    exact ⟨.tuple #[.agg (bc Bo.zero (.slice none 0 0)), .int .i64 2], results_cc30 rfl rowBo e4 z49.out rfl rfl (by simp [go_sem, c4]), .agg (bc Bo.zero (.slice none 0 0)), rfl, ⟨none, 0, 0, rfl, OwnV.nil _ _ _, by omega⟩, by rw [← HB.out]; exact g4⟩
  case true =>
  go_wp2_with fail
  refine (nodeB_any nd _ H1.out).mono ?_
  rintro e w2 ⟨rfl, rfl⟩
  cases r1
  case false =>
    go_wp2_with fail
    refine (bmust_bad 2 _).mono ?_
    rintro e w2 ⟨rfl, rfl⟩
    go_wp2_with fail
    obtain ⟨rfl, rfl⟩ := BAD.out (by simp)
    refine leaves_cons (f := 62) (args := #[.pointer (some ⟨B + 2, 0, none⟩)]) (by simp) (by simp [go_sem]) ?_
    refine (bcaught_panic _ _ _ _ _ (kf.cell 0) (kf.free 0)).mono ?_
    rintro e u' w4 ⟨rfl, rfl, rfl⟩
    have k4 := (kf.alloc (.cells #[.int .i64 2] 171)).set_ 0 (.int .i64 2)
    have e4 := (ke.alloc (.cells #[.int .i64 2] 171)).far (p := ⟨B + 2, 0, none⟩) (by show B + 1 ≠ B + 2; omega) (.int .i64 2)
    have c4 := k4.cell 0
    have g4 := (gb.alloc (by have := gb.size; have := HB.out; omega) (.cells #[.int .i64 2] 171)).setCell (p := ⟨B + 2, 0, none⟩) (by show B ≤ B + 2; omega) (.int .i64 2)
    exact ⟨.tuple #[.agg (bc Bo.zero (.slice none 0 0)), .int .i64 2], results_cc30 rfl rowBo e4 z49.out rfl rfl (by simp [go_sem, c4]), .agg (bc Bo.zero (.slice none 0 0)), rfl, ⟨none, 0, 0, rfl, OwnV.nil _ _ _, by omega⟩, by rw [← HB.out]; exact g4⟩
  case true =>
  go_wp2_with fail
  refine (withinB_any wk 0 7 _ (by omega) H2.out).mono ?_
  rintro e w2 ⟨rfl, rfl⟩
  cases r2
  case false =>
    go_wp2_with fail
    refine (bmust_bad 2 _).mono ?_
    rintro e w2 ⟨rfl, rfl⟩
    go_wp2_with fail
    obtain ⟨rfl, rfl⟩ := BAD.out (by simp)
    refine leaves_cons (f := 62) (args := #[.pointer (some ⟨B + 2, 0, none⟩)]) (by simp) (by simp [go_sem]) ?_
    refine (bcaught_panic _ _ _ _ _ (kf.cell 0) (kf.free 0)).mono ?_
    rintro e u' w4 ⟨rfl, rfl, rfl⟩
    have k4 := (kf.alloc (.cells #[.int .i64 2] 171)).set_ 0 (.int .i64 2)
    have e4 := (ke.alloc (.cells #[.int .i64 2] 171)).far (p := ⟨B + 2, 0, none⟩) (by show B + 1 ≠ B + 2; omega) (.int .i64 2)
    have c4 := k4.cell 0
    have g4 := (gb.alloc (by have := gb.size; have := HB.out; omega) (.cells #[.int .i64 2] 171)).setCell (p := ⟨B + 2, 0, none⟩) (by show B ≤ B + 2; omega) (.int .i64 2)
    exact ⟨.tuple #[.agg (bc Bo.zero (.slice none 0 0)), .int .i64 2], results_cc30 rfl rowBo e4 z49.out rfl rfl (by simp [go_sem, c4]), .agg (bc Bo.zero (.slice none 0 0)), rfl, ⟨none, 0, 0, rfl, OwnV.nil _ _ _, by omega⟩, by rw [← HB.out]; exact g4⟩
  case true =>
  go_wp2_with fail
  refine (withinB_any rp 0 1000 _ (by omega) H3.out).mono ?_
  rintro e w2 ⟨rfl, rfl⟩
  cases r3
  case false =>
    go_wp2_with fail
    refine (bmust_bad 2 _).mono ?_
    rintro e w2 ⟨rfl, rfl⟩
    go_wp2_with fail
    obtain ⟨rfl, rfl⟩ := BAD.out (by simp)
    refine leaves_cons (f := 62) (args := #[.pointer (some ⟨B + 2, 0, none⟩)]) (by simp) (by simp [go_sem]) ?_
    refine (bcaught_panic _ _ _ _ _ (kf.cell 0) (kf.free 0)).mono ?_
    rintro e u' w4 ⟨rfl, rfl, rfl⟩
    have k4 := (kf.alloc (.cells #[.int .i64 2] 171)).set_ 0 (.int .i64 2)
    have e4 := (ke.alloc (.cells #[.int .i64 2] 171)).far (p := ⟨B + 2, 0, none⟩) (by show B + 1 ≠ B + 2; omega) (.int .i64 2)
    have c4 := k4.cell 0
    have g4 := (gb.alloc (by have := gb.size; have := HB.out; omega) (.cells #[.int .i64 2] 171)).setCell (p := ⟨B + 2, 0, none⟩) (by show B ≤ B + 2; omega) (.int .i64 2)
    exact ⟨.tuple #[.agg (bc Bo.zero (.slice none 0 0)), .int .i64 2], results_cc30 rfl rowBo e4 z49.out rfl rfl (by simp [go_sem, c4]), .agg (bc Bo.zero (.slice none 0 0)), rfl, ⟨none, 0, 0, rfl, OwnV.nil _ _ _, by omega⟩, by rw [← HB.out]; exact g4⟩
  case true =>
  clear BAD
  go_wp2_with fail
  refine (bmust_ok 2 _).mono ?_
  rintro e w2 ⟨rfl, rfl⟩
  go_wp2_with ((with_reducible refine wpList_ld rowBo k0 h49.out ?_ ?_); rotate_left; (rfl))
  have HW1 := gb.size
  refine (HC2.out HR.out.symm w1 (by rw [← HB.out]; exact gb)).mono ?_
  rintro e w2 ⟨_, rfl, ⟨A', m', c', rfl, o, hm'⟩, b1⟩
  have k0 := k0.below b1 k0.lt
  have ke := ke.below b1 ke.lt
  have kf := kf.below b1 kf.lt
  have gb := gb.trans (b1.mono (by have := gb.size; have := HB.out; omega))
  clear b1
  have HM := Lib.hid hm'
  have n49 := Lib.hid (bc_size (b := b) (s := .slice A' m' c') HS.out)
  have n1 := Lib.hid (bc_one (b := b) (s := .slice A' m' c') rfl)
  clear hm' HC1 HC2 h49 o49
  go_upto_region 4 with ((with_reducible refine wpList_st rowBo (Blk.new _ _ _) n49.out ?_ n1.out ?_ ?_ ?_); (rfl); rotate_left; (rfl); (rfl); intro w3 kx g3 z3)
  obtain ⟨X, hX⟩ : ∃ X, X = w2.heap.size := ⟨_, rfl⟩
  rw [← hX] at kx g3 ⊢
  have hXB : B + 2 < X := by have := kf.lt; omega
  have bx : Below w2.heap.size w2 w3 := new_below (hX ▸ g3)
  have k0 := k0.below bx k0.lt
  have ke := ke.below bx ke.lt
  have kf := kf.below bx kf.lt
  have o := o.below bx (Nat.le_refl _)
  have gb := gb.trans (bx.mono (by have := gb.size; have := HB.out; omega))
  clear bx
  clear g3 z3 hX
  obtain ⟨n, hn8, rfl⟩ : ∃ n : Nat, n < 8 ∧ wk = n := by
    have := (Reg.inB_iff wk 0 7).1 H2.out
    exact ⟨wk.toNat, by omega, by omega⟩
  obtain ⟨t', kt, ht⟩ : ∃ t' kt, Tally.addL b.t nd 1 = (t', kt) := ⟨_, _, rfl⟩
  have had := add_any b.t nd 1 w3 HS.out.t
  unfold AddEnd at had
  rw [ht] at had
  have HAD := Lib.hid had
  have HT := Lib.hid ht
  have t16 : t'.length = 16 := by
    have := (Tally.add_len HS.out.t nd 1).1
    rwa [ht] at this
  have T16 := Lib.hid t16
  have S16 := Lib.hid (show (tc b.t).size = 16 by rw [tc_size, HS.out.t])
  clear had ht t16
  go_wp2_with ((with_reducible refine wpList_ldr rowT (kx.tal HS.out) S16.out ?_ ?_); rotate_left; (rfl))
  refine HAD.out.mono ?_
  rintro e w4 ⟨rfl, b1⟩
  have k0 := k0.below b1 k0.lt
  have ke := ke.below b1 ke.lt
  have kf := kf.below b1 kf.lt
  have kx := kx.below b1 kx.lt
  have o := o.below b1 (Nat.le_refl _)
  have gb := gb.trans (b1.mono (by have := gb.size; have := HB.out; omega))
  clear b1
  clear HAD
  by_cases hkt : kt = 0
  case neg =>
    have HK := Lib.hid hkt
    go_wp2_with fail
    refine (gotT_bad (tc t') kt HK.out _).mono ?_
    rintro e w5 ⟨rfl, b1⟩
    have k0 := k0.below b1 k0.lt
    have ke := ke.below b1 ke.lt
    have kf := kf.below b1 kf.lt
    have gb := gb.trans (b1.mono (by have := gb.size; have := HB.out; omega))
    clear b1
    have hxk : x = Bo.zero ∧ k = kt := by
      have := HX.out
      unfold Bo.wrote at this
      rw [if_neg (by rw [H1.out, H2.out, H3.out, ← HR.out]; simp), if_pos (by rw [HT.out]; exact HK.out), HT.out] at this
      injection this with h1 h2
      exact ⟨h1.symm, h2.symm⟩
    obtain ⟨rfl, rfl⟩ := hxk
    clear HX HT hkt HK
    go_wp2_with fail
    refine leaves_cons (f := 62) (args := #[.pointer (some ⟨B + 2, 0, none⟩)]) (by simp) (by simp [go_sem]) ?_
    refine (bcaught_panic _ _ _ _ _ (kf.cell 0) (kf.free 0)).mono ?_
    rintro e u' w4 ⟨rfl, rfl, rfl⟩
    have k4 := (kf.alloc (.cells #[.int .i64 k] 171)).set_ 0 (.int .i64 k)
    have e4 := (ke.alloc (.cells #[.int .i64 k] 171)).far (p := ⟨B + 2, 0, none⟩) (by show B + 1 ≠ B + 2; omega) (.int .i64 k)
    have c4 := k4.cell 0
    have g4 := (gb.alloc (by have := gb.size; have := HB.out; omega) (.cells #[.int .i64 k] 171)).setCell (p := ⟨B + 2, 0, none⟩) (by show B ≤ B + 2; omega) (.int .i64 k)
    exact ⟨.tuple #[.agg (bc Bo.zero (.slice none 0 0)), .int .i64 k], results_cc30 rfl rowBo e4 z49.out rfl rfl (by simp [go_sem, c4]), .agg (bc Bo.zero (.slice none 0 0)), rfl, ⟨none, 0, 0, rfl, OwnV.nil _ _ _, by omega⟩, by rw [← HB.out]; exact g4⟩
  case pos =>
  subst hkt
  go_wp2_with fail
  refine (gotT_ok (tc t') (by rw [tc_size, T16.out]) (tc_one t') _).mono ?_
  rintro e w5 ⟨rfl, b1⟩
  have k0 := k0.below b1 k0.lt
  have ke := ke.below b1 ke.lt
  have kf := kf.below b1 kf.lt
  have kx := kx.below b1 kx.lt
  have o := o.below b1 (Nat.le_refl _)
  have gb := gb.trans (b1.mono (by have := gb.size; have := HB.out; omega))
  clear b1
  have hth := kx.there_ (o := 0) (n := 16) (by rw [n49.out]; omega)
  have SB := Lib.hid (show (tc t').size = 16 by rw [tc_size, T16.out])
  have OB := Lib.hid (tc_one t')
  go_upto_region 5 with ((with_reducible refine wpList_str rowT hth SB.out OB.out ?_ ?_ ?_); rotate_left; (rfl); (rfl); intro w6 hw6)
  have gx := cells_grown w5 X 0 (tc t').toList
  rw [← hw6] at gx
  have k0 := k0.grown gx (fun h => by injection h; omega)
  have ke := ke.grown gx (fun h => by injection h; omega)
  have kf := kf.grown gx (fun h => by injection h; omega)
  have o := o.grown gx (.inr (own_ne o.2 kx (by decide)))
  have gb := gb.grown gx (by have := gb.size; have := HB.out; omega) (fun q hq => by injection hq; have := HB.out; omega)
  have kx := kx.setT HS.out T16.out
  rw [← hw6] at kx
  have hs2 : Bo.Shaped { b with t := t' } := ⟨T16.out, HS.out.p, HS.out.u⟩
  obtain ⟨b2, hb2⟩ : ∃ b2 : Bd, b2 = { b with t := t' } := ⟨_, rfl⟩
  rw [← hb2] at kx hs2
  have HB2 := Lib.hid hb2
  have HS2 := Lib.hid hs2
  obtain ⟨p, hp⟩ : ∃ p, p = b.p.getD n (0, 0, 0) := ⟨_, rfl⟩
  have hpl : w6.rangeAt X (16 + n * 3) (pc p).toArray.toList := by
    have := kx.plan HS2.out hn8
    rw [HB2.out, ← hp] at this
    exact this
  have hp1 : -9223372036854775808 ≤ p.1 := by
    have hm : p ∈ b.p := by rw [hp, List.getD_eq_getElem?_getD, List.getElem?_eq_getElem (by rw [HS.out.p]; exact hn8)]; exact List.getElem_mem _
    have := (Bo.planB_iff p).1 (((Bo.right_iff b).1 HR.out.symm).1 p hm)
    rcases this with h | h
    · rw [h]; decide
    · omega
  obtain ⟨p', kp, hkp⟩ : ∃ p' kp, Reg.writeL p nd rp = (p', kp) := ⟨_, _, rfl⟩
  have hwr := fun w => write29_any p nd rp hp1 w
  rw [hkp] at hwr
  have HWR := Lib.hid (show ∀ w, Calls Try.prog 23 #[.agg (pc p).toArray, .int .i64 nd, .int .i64 rp] w fun e w' => e = .returned (.tuple #[.agg (pc p').toArray, .int .i64 kp]) ∧ Below w.heap.size w w' from hwr)
  have SP := Lib.hid (show (pc p).toArray.size = 3 from rfl)
  have HKP := Lib.hid hkp
  have HP := Lib.hid hp
  clear hs2 hb2 hp1 hkp hwr hth gx hp hw6
  go_wp2_with ((with_reducible refine wpList_ldr rowLa hpl SP.out ?_ ?_); rotate_left; (rfl))
  refine (HWR.out w6).mono ?_
  rintro e w7 ⟨rfl, b1⟩
  have k0 := k0.below b1 k0.lt
  have ke := ke.below b1 ke.lt
  have kf := kf.below b1 kf.lt
  have kx := kx.below b1 kx.lt
  have o := o.below b1 (Nat.le_refl _)
  have gb := gb.trans (b1.mono (by have := gb.size; have := HB.out; omega))
  clear b1
  clear HWR hpl
  by_cases hkt : kp = 0
  case neg =>
    have HK := Lib.hid hkt
    go_wp2_with fail
    refine (gotL_bad (pc p').toArray kp HK.out _).mono ?_
    rintro e w8 ⟨rfl, b1⟩
    have k0 := k0.below b1 k0.lt
    have ke := ke.below b1 ke.lt
    have kf := kf.below b1 kf.lt
    have gb := gb.trans (b1.mono (by have := gb.size; have := HB.out; omega))
    clear b1
    have hxk : x = Bo.zero ∧ k = kp := by
      have := HX.out
      unfold Bo.wrote at this
      rw [if_neg (by rw [H1.out, H2.out, H3.out, ← HR.out]; simp), if_neg (by rw [HT.out]; simp), Int.toNat_natCast, ← HP.out, if_pos (by rw [HKP.out]; exact HK.out), HKP.out] at this
      injection this with h1 h2
      exact ⟨h1.symm, h2.symm⟩
    obtain ⟨rfl, rfl⟩ := hxk
    clear HX HT hkt HK
    go_wp2_with fail
    refine leaves_cons (f := 62) (args := #[.pointer (some ⟨B + 2, 0, none⟩)]) (by simp) (by simp [go_sem]) ?_
    refine (bcaught_panic _ _ _ _ _ (kf.cell 0) (kf.free 0)).mono ?_
    rintro e u' w4 ⟨rfl, rfl, rfl⟩
    have k4 := (kf.alloc (.cells #[.int .i64 k] 171)).set_ 0 (.int .i64 k)
    have e4 := (ke.alloc (.cells #[.int .i64 k] 171)).far (p := ⟨B + 2, 0, none⟩) (by show B + 1 ≠ B + 2; omega) (.int .i64 k)
    have c4 := k4.cell 0
    have g4 := (gb.alloc (by have := gb.size; have := HB.out; omega) (.cells #[.int .i64 k] 171)).setCell (p := ⟨B + 2, 0, none⟩) (by show B ≤ B + 2; omega) (.int .i64 k)
    exact ⟨.tuple #[.agg (bc Bo.zero (.slice none 0 0)), .int .i64 k], results_cc30 rfl rowBo e4 z49.out rfl rfl (by simp [go_sem, c4]), .agg (bc Bo.zero (.slice none 0 0)), rfl, ⟨none, 0, 0, rfl, OwnV.nil _ _ _, by omega⟩, by rw [← HB.out]; exact g4⟩
  case pos =>
  subst hkt
  go_wp2_with fail
  refine (gotL_ok (pc p').toArray rfl (th_one _ _ _) _).mono ?_
  rintro e w8 ⟨rfl, b1⟩
  have k0 := k0.below b1 k0.lt
  have ke := ke.below b1 ke.lt
  have kf := kf.below b1 kf.lt
  have kx := kx.below b1 kx.lt
  have o := o.below b1 (Nat.le_refl _)
  have gb := gb.trans (b1.mono (by have := gb.size; have := HB.out; omega))
  clear b1
  have hth := kx.there_ (o := 16 + n * 3) (n := 3) (by rw [bc_size HS2.out]; omega)
  have SB := Lib.hid (show (pc p').toArray.size = 3 from rfl)
  have OB := Lib.hid (show (pc p').toArray.all (·.oneCell') = true from th_one _ _ _)
  go_upto_region 6 with ((with_reducible refine wpList_str rowLa hth SB.out OB.out ?_ ?_ ?_); rotate_left; (rfl); (rfl); intro w9 hw9)
  have gx := cells_grown w8 X (16 + n * 3) (pc p').toArray.toList
  rw [← hw9] at gx
  have ke := ke.grown gx (fun h => by injection h; omega)
  have kf := kf.grown gx (fun h => by injection h; omega)
  have o := o.grown gx (.inr (own_ne o.2 kx (by decide)))
  have gb := gb.grown gx (by have := gb.size; have := HB.out; omega) (fun q hq => by injection hq; have := HB.out; omega)
  have kx := kx.setP HS2.out hn8 p'
  have kx : Blk w9 X 83 (bc { b2 with p := b2.p.set n p' } (.slice A' m' c')) := by rw [hw9]; exact kx
  have hxk : x = { b2 with p := b2.p.set n p' } ∧ k = 0 := by
    have := HX.out
    unfold Bo.wrote at this
    rw [if_neg (by rw [H1.out, H2.out, H3.out, ← HR.out]; simp), if_neg (by rw [HT.out]; simp), Int.toNat_natCast, ← HP.out, if_neg (by rw [HKP.out]; simp), HKP.out, HT.out] at this
    injection this with h1 h2
    rw [HB2.out]
    exact ⟨h1.symm, h2.symm⟩
  have hs3 : Bo.Shaped x := by rw [hxk.1]; exact ⟨HS2.out.t, by rw [List.length_set]; exact HS2.out.p, HS2.out.u⟩
  have hl3 : x.l = b.l := by rw [hxk.1, HB2.out]
  rw [← hxk.1] at kx
  obtain ⟨_, rfl⟩ := hxk
  have N49 := Lib.hid (bc_size (b := x) (s := .slice A' m' c') hs3)
  have N1 := Lib.hid (bc_one (b := x) (s := .slice A' m' c') rfl)
  have HL := Lib.hid hl3
  clear hs3 hl3 gx hth hw9 k0
  have cf := kf.cell 0
  have ff := kf.free 0
  go_wp2_with first
    | ((with_reducible refine wpList_ld rowBo kx N49.out ?_ ?_); rotate_left; (rfl))
    | ((with_reducible refine wpList_st rowBo ke N49.out z49.out N1.out ?_ ?_ ?_); rotate_left; (rfl); (rfl); intro w10 k10 g10 z10; have kf := kf.grown g10 (fun h => by injection h; omega); have cf := kf.cell 0; have ff := kf.free 0)
  have o := o.grown g10 (.inr (own_ne o.2 ke (by decide)))
  have gb := gb.grown g10 (by have := gb.size; have := HB.out; omega) (fun q hq => by injection hq; have := HB.out; omega)
  refine leaves_cons (f := 62) (args := #[.pointer (some ⟨B + 2, 0, none⟩)]) (by simp) (by simp [go_sem]) ?_
  refine (bcaught_none _ _).mono ?_
  rintro e u' w11 ⟨rfl, rfl, rfl⟩
  have k12 := k10.far (p := ⟨B + 2, 0, none⟩) (by show B + 1 ≠ B + 2; omega) (.int .i64 0)
  have f12 := kf.set_ 0 (.int .i64 0)
  have c12 := f12.cell 0
  have o12 := o.setFar (p := ⟨B + 2, 0, none⟩) (own_ne o.2 kf (by decide)) (.int .i64 0)
  have g12 := gb.setCell (p := ⟨B + 2, 0, none⟩) (by show B ≤ B + 2; omega) (.int .i64 0)
  rw [← HL.out] at o12
  have HWL : w.heap.size ≤ w1.heap.size := by have := HB.out; omega
  exact ⟨.tuple #[.agg (bc x (.slice A' m' c')), .int .i64 0], results_cc30 rfl rowBo k12 N49.out rfl rfl (by simp [go_sem, c12]), .agg (bc x (.slice A' m' c')), rfl, ⟨A', m', c', rfl, o12.mono HWL, HM.out⟩, by rw [← HB.out]; exact g12⟩
theorem bwrote_any (b : Bd) (hs : Bo.Shaped b) (nd wk rp : Int) (q : Value) (w : World) (hq : FrBo b q w) : Calls Try.prog 39 #[q, .int .i64 nd, .int .i64 wk, .int .i64 rp] w (GiveBdE 49 w (Bo.wrote b nd wk rp).1 (Bo.wrote b nd wk rp).2) := (bwrote_anyB b hs nd wk rp q w hq).mono fun _ _ h => h.give
end Go.Proofs.Ytocoohpekpkmkaa

/- The walk of board.Note. -/
namespace Go.Proofs.Ytocoohpekpkmkaa
set_option linter.unusedVariables false
set_option linter.unusedSimpArgs false
set_option maxRecDepth 100000
open Go.RowKit
open Reg (La Vl)
theorem bnote_bad {b : Bd} {x y : Int} (h : (Bo.rightB b && decide (0 ≤ y)) = false) : Bo.note b x y = (Bo.zero, 2) := by
  unfold Bo.note
  rw [if_pos]
  simp only [Bool.and_eq_false_iff, decide_eq_false_iff_not] at h
  rcases h with h | h
  · exact .inl h
  · exact .inr (by omega)
set_option maxHeartbeats 4000000 in
theorem bnote_any (b : Bd) (hs : Bo.Shaped b) (nd v : Int) (q : Value) (w : World) (hq : FrBo b q w) : Calls Try.prog 41 #[q, .int .i64 nd, .int .i64 v] w (GiveBdE 49 w (Bo.note b nd v).1 (Bo.note b nd v).2) := by
  obtain ⟨x, k, hx⟩ : ∃ x k, Bo.note b nd v = (x, k) := ⟨_, _, rfl⟩
  rw [hx]
  have HX := Lib.hid hx
  clear hx
  obtain ⟨A, m, c, rfl, hr, hm⟩ := hq
  obtain ⟨R, hR⟩ : ∃ R, R = Bo.rightB b := ⟨_, rfl⟩
  have HC1 := Lib.hid fun (w' : World) (hb : Below w.heap.size w w') => (hR ▸ boRight_any b hs (.agg (bc b (.slice A m c))) w' ⟨A, m, c, rfl, (hr.below hb).size, hm⟩ : Calls Try.prog _ _ w' (GiveBo w' R))
  have HC2 := Lib.hid fun (hr1 : Bo.rightB b = true) (w' : World) (hb : Below w.heap.size w w') => (Bo.own_of hr1 ▸ boOwn_any b hs (.agg (bc b (.slice A m c))) w' ⟨A, m, c, rfl, (hr.below hb).size, hm⟩ : Calls Try.prog _ _ w' (GiveBd 49 w' b))
  have HS := Lib.hid hs
  have h49 := Lib.hid (bc_size (s := .slice A m c) hs)
  have z49 := Lib.hid (bc_size (s := .slice none 0 0) Bo.zero_shaped)
  have o49 := Lib.hid (bc_one (b := b) (s := .slice A m c) rfl)
  have HR := Lib.hid hR
  clear hr hm hs hR
  obtain ⟨r1, hr1⟩ : ∃ r1, r1 = decide (v ≥ 0) := ⟨_, rfl⟩
  have H1 := Lib.hid hr1
  have bad : (R && r1) = false → x = Bo.zero ∧ k = 2 := fun h => by
    have := HX.out
    rw [bnote_bad (by rw [← HR.out]; rw [H1.out] at h; exact h)] at this
    injection this with h1 h2
    exact ⟨h1.symm, h2.symm⟩
  have BAD := Lib.hid bad
  clear bad hr1
  go_enter_defers Try.func41, Try.ntmps41
  go_upto_region 2 with fail
  refine nameW ?_
  intro wv hwv
  obtain ⟨B, hB⟩ : ∃ B, B = w.heap.size := ⟨_, rfl⟩
  rw [← hB]
  have k0 : Blk wv B 83 (bc b (.slice A m c)) := by rw [hwv, hB]; exact ((Blk.new w _ _).alloc _).alloc _
  have ke : Blk wv (B + 1) 83 (bc Bo.zero (.slice none 0 0)) := by
    have h := Blk.new (w.alloc (.cells (bc b (.slice A m c)) 83)) 83 (bc Bo.zero (.slice none 0 0))
    rw [zbo] at h ⊢
    rw [hwv, hB]
    exact (by simpa using h : Blk _ (w.heap.size + 1) _ _).alloc _
  have kf : Blk wv (B + 2) 33 #[.int .i64 0] := by
    have h := Blk.new ((w.alloc (.cells (bc b (.slice A m c)) 83)).alloc (.cells (bc Bo.zero (.slice none 0 0)) 83)) 33 #[.int .i64 0]
    rw [zbo] at h
    rw [hwv, hB]
    simpa using h
  have gb : Below B w wv := by rw [hwv, hB]; exact (((Below.refl _ _).alloc (Nat.le_refl _) _).alloc (by simp) _).alloc (by simp; omega) _
  have HB := Lib.hid hB
  clear hwv hB
  go_wp2_with ((with_reducible refine wpList_ld rowBo k0 h49.out ?_ ?_); rotate_left; (rfl))
  refine (HC1.out wv (by rw [← HB.out]; exact gb)).mono ?_
  rintro e w1 ⟨rfl, b1⟩
  have k0 := k0.below b1 k0.lt
  have ke := ke.below b1 ke.lt
  have kf := kf.below b1 kf.lt
  have gb := gb.trans (b1.mono (by have := gb.size; have := HB.out; omega))
  clear b1
  cases R
  case false =>
    go_wp2_with fail
    refine (bmust_bad 2 _).mono ?_
    rintro e w2 ⟨rfl, rfl⟩
    go_wp2_with fail
    obtain ⟨rfl, rfl⟩ := BAD.out (by simp)
    refine leaves_cons (f := 62) (args := #[.pointer (some ⟨B + 2, 0, none⟩)]) (by simp) (by simp [go_sem]) ?_
    refine (bcaught_panic _ _ _ _ _ (kf.cell 0) (kf.free 0)).mono ?_
    rintro e u' w4 ⟨rfl, rfl, rfl⟩
    have k4 := (kf.alloc (.cells #[.int .i64 2] 171)).set_ 0 (.int .i64 2)
    have e4 := (ke.alloc (.cells #[.int .i64 2] 171)).far (p := ⟨B + 2, 0, none⟩) (by show B + 1 ≠ B + 2; omega) (.int .i64 2)
    have c4 := k4.cell 0
    have g4 := (gb.alloc (by have := gb.size; have := HB.out; omega) (.cells #[.int .i64 2] 171)).setCell (p := ⟨B + 2, 0, none⟩) (by show B ≤ B + 2; omega) (.int .i64 2)
    exact ⟨.tuple #[.agg (bc Bo.zero (.slice none 0 0)), .int .i64 2], results_cc30 rfl rowBo e4 z49.out rfl rfl (by simp [go_sem, c4]), .agg (bc Bo.zero (.slice none 0 0)), rfl, ⟨none, 0, 0, rfl, OwnV.nil _ _ _, by omega⟩, by rw [← HB.out]; exact g4⟩
  case true =>
  cases r1
  case false =>
    have hv0 : decide (0 ≤ v) = false := H1.out.symm
    go_wp2_with fail
    refine (bmust_bad 2 _).mono ?_
    rintro e w2 ⟨rfl, rfl⟩
    go_wp2_with fail
    obtain ⟨rfl, rfl⟩ := BAD.out (by simp)
    refine leaves_cons (f := 62) (args := #[.pointer (some ⟨B + 2, 0, none⟩)]) (by simp) (by simp [go_sem]) ?_
    refine (bcaught_panic _ _ _ _ _ (kf.cell 0) (kf.free 0)).mono ?_
    rintro e u' w4 ⟨rfl, rfl, rfl⟩
    have k4 := (kf.alloc (.cells #[.int .i64 2] 171)).set_ 0 (.int .i64 2)
    have e4 := (ke.alloc (.cells #[.int .i64 2] 171)).far (p := ⟨B + 2, 0, none⟩) (by show B + 1 ≠ B + 2; omega) (.int .i64 2)
    have c4 := k4.cell 0
    have g4 := (gb.alloc (by have := gb.size; have := HB.out; omega) (.cells #[.int .i64 2] 171)).setCell (p := ⟨B + 2, 0, none⟩) (by show B ≤ B + 2; omega) (.int .i64 2)
    exact ⟨.tuple #[.agg (bc Bo.zero (.slice none 0 0)), .int .i64 2], results_cc30 rfl rowBo e4 z49.out rfl rfl (by simp [go_sem, c4]), .agg (bc Bo.zero (.slice none 0 0)), rfl, ⟨none, 0, 0, rfl, OwnV.nil _ _ _, by omega⟩, by rw [← HB.out]; exact g4⟩
  case true =>
  have hv0 : decide (0 ≤ v) = true := H1.out.symm
  clear BAD
  go_wp2_with fail
  refine (bmust_ok 2 _).mono ?_
  rintro e w2 ⟨rfl, rfl⟩
  go_wp2_with ((with_reducible refine wpList_ld rowBo k0 h49.out ?_ ?_); rotate_left; (rfl))
  refine (HC2.out HR.out.symm w1 (by rw [← HB.out]; exact gb)).mono ?_
  rintro e w2 ⟨_, rfl, ⟨A', m', c', rfl, o, hm'⟩, b1⟩
  have k0 := k0.below b1 k0.lt
  have ke := ke.below b1 ke.lt
  have kf := kf.below b1 kf.lt
  have gb := gb.trans (b1.mono (by have := gb.size; have := HB.out; omega))
  clear b1
  have HM := Lib.hid hm'
  have n49 := Lib.hid (bc_size (b := b) (s := .slice A' m' c') HS.out)
  have n1 := Lib.hid (bc_one (b := b) (s := .slice A' m' c') rfl)
  clear hm' HC1 HC2 h49 o49 hv0
  go_upto_region 4 with ((with_reducible refine wpList_st rowBo (Blk.new _ _ _) n49.out ?_ n1.out ?_ ?_ ?_); (rfl); rotate_left; (rfl); (rfl); intro w3 kx g3 z3)
  obtain ⟨X, hX⟩ : ∃ X, X = w2.heap.size := ⟨_, rfl⟩
  rw [← hX] at kx g3 ⊢
  have hXB : B + 2 < X := by have := kf.lt; omega
  have bx : Below w2.heap.size w2 w3 := new_below (hX ▸ g3)
  have k0 := k0.below bx k0.lt
  have ke := ke.below bx ke.lt
  have kf := kf.below bx kf.lt
  have o := o.below bx (Nat.le_refl _)
  have gb := gb.trans (bx.mono (by have := gb.size; have := HB.out; omega))
  clear bx
  clear g3 z3 hX
  obtain ⟨u', l', kt, ht⟩ : ∃ u' l' kt, Reg.putM b.u b.l nd v = ((u', l'), kt) := ⟨_, _, _, rfl⟩
  have had := putF (U := b.u) (l := b.l) HS.out.u nd v (q := .agg (uc b.u (.slice A' m' c'))) (w := w3) ⟨A', m', c', rfl, o.rd, HM.out⟩
  rw [ht] at had
  have HAD := Lib.hid had
  have HT := Lib.hid ht
  have u8 : u'.length = 8 := by
    have := putM_len8 (l := b.l) HS.out.u nd v
    rwa [ht] at this
  have U8 := Lib.hid u8
  have S9 := Lib.hid (uc_size HS.out.u (.slice A' m' c'))
  clear had ht u8
  go_wp2_with ((with_reducible refine wpList_ldr rowM (kx.notes HS.out) S9.out ?_ ?_); rotate_left; (rfl))
  refine HAD.out.mono ?_
  rintro e w4 ⟨_, rfl, ⟨A2, m2, c2, rfl, o2, hm2⟩, b1⟩
  have k0 := k0.below b1 k0.lt
  have ke := ke.below b1 ke.lt
  have kf := kf.below b1 kf.lt
  have kx := kx.below b1 kx.lt
  have gb := gb.trans (b1.mono (by have := gb.size; have := HB.out; omega))
  clear b1
  have HM2 := Lib.hid hm2
  clear HAD o hm2
  by_cases hkt : kt = 0
  case neg =>
    have HK := Lib.hid hkt
    go_wp2_with fail
    refine (gotM_bad (uc u' (.slice A2 m2 c2)) kt HK.out _).mono ?_
    rintro e w5 ⟨rfl, b1⟩
    have k0 := k0.below b1 k0.lt
    have ke := ke.below b1 ke.lt
    have kf := kf.below b1 kf.lt
    have gb := gb.trans (b1.mono (by have := gb.size; have := HB.out; omega))
    clear b1
    have hxk : x = Bo.zero ∧ k = kt := by
      have := HX.out
      unfold Bo.note at this
      rw [if_neg (by have := of_decide_eq_true H1.out.symm; rw [← HR.out]; simp; omega), if_pos (by rw [HT.out]; exact HK.out), HT.out] at this
      injection this with h1 h2
      exact ⟨h1.symm, h2.symm⟩
    obtain ⟨rfl, rfl⟩ := hxk
    clear HX HT hkt HK
    go_wp2_with fail
    refine leaves_cons (f := 62) (args := #[.pointer (some ⟨B + 2, 0, none⟩)]) (by simp) (by simp [go_sem]) ?_
    refine (bcaught_panic _ _ _ _ _ (kf.cell 0) (kf.free 0)).mono ?_
    rintro e u' w4 ⟨rfl, rfl, rfl⟩
    have k4 := (kf.alloc (.cells #[.int .i64 k] 171)).set_ 0 (.int .i64 k)
    have e4 := (ke.alloc (.cells #[.int .i64 k] 171)).far (p := ⟨B + 2, 0, none⟩) (by show B + 1 ≠ B + 2; omega) (.int .i64 k)
    have c4 := k4.cell 0
    have g4 := (gb.alloc (by have := gb.size; have := HB.out; omega) (.cells #[.int .i64 k] 171)).setCell (p := ⟨B + 2, 0, none⟩) (by show B ≤ B + 2; omega) (.int .i64 k)
    exact ⟨.tuple #[.agg (bc Bo.zero (.slice none 0 0)), .int .i64 k], results_cc30 rfl rowBo e4 z49.out rfl rfl (by simp [go_sem, c4]), .agg (bc Bo.zero (.slice none 0 0)), rfl, ⟨none, 0, 0, rfl, OwnV.nil _ _ _, by omega⟩, by rw [← HB.out]; exact g4⟩
  case pos =>
  subst hkt
  go_wp2_with fail
  refine (gotM_ok (uc u' (.slice A2 m2 c2)) (uc_size U8.out _) (uc_one rfl) _).mono ?_
  rintro e w5 ⟨rfl, b1⟩
  have k0 := k0.below b1 k0.lt
  have ke := ke.below b1 ke.lt
  have kf := kf.below b1 kf.lt
  have kx := kx.below b1 kx.lt
  have o2 := o2.below b1 (Nat.le_refl _)
  have gb := gb.trans (b1.mono (by have := gb.size; have := HB.out; omega))
  clear b1
  have hth := kx.there_ (o := 40) (n := 9) (by rw [n49.out]; omega)
  have SB := Lib.hid (uc_size U8.out (.slice A2 m2 c2))
  have OB := Lib.hid (uc_one (U := u') (s := .slice A2 m2 c2) rfl)
  go_upto_region 5 with ((with_reducible refine wpList_str rowM hth SB.out OB.out ?_ ?_ ?_); rotate_left; (rfl); (rfl); intro w9 hw9)
  have gx := cells_grown w5 X 40 (uc u' (.slice A2 m2 c2)).toList
  rw [← hw9] at gx
  have ke := ke.grown gx (fun h => by injection h; omega)
  have kf := kf.grown gx (fun h => by injection h; omega)
  have o := o2.grown gx (.inr (own_ne o2.2 kx (by decide)))
  have gb := gb.grown gx (by have := gb.size; have := HB.out; omega) (fun q hq => by injection hq; have := HB.out; omega)
  have kx := kx.setN HS.out (l := l') (s' := .slice A2 m2 c2) U8.out
  have kx : Blk w9 X 83 (bc { b with u := u', l := l' } (.slice A2 m2 c2)) := by rw [hw9]; exact kx
  have hxk : x = { b with u := u', l := l' } ∧ k = 0 := by
    have := HX.out
    unfold Bo.note at this
    rw [if_neg (by have := of_decide_eq_true H1.out.symm; rw [← HR.out]; simp; omega), if_neg (by rw [HT.out]; simp), HT.out] at this
    injection this with h1 h2
    exact ⟨h1.symm, h2.symm⟩
  have hs3 : Bo.Shaped x := by rw [hxk.1]; exact ⟨HS.out.t, HS.out.p, U8.out⟩
  have hl3 : x.l = l' := by rw [hxk.1]
  rw [← hxk.1] at kx
  obtain ⟨_, rfl⟩ := hxk
  have N49 := Lib.hid (bc_size (b := x) (s := .slice A2 m2 c2) hs3)
  have N1 := Lib.hid (bc_one (b := x) (s := .slice A2 m2 c2) rfl)
  have HL := Lib.hid hl3
  clear hs3 hl3 gx hth hw9 k0 o2
  have cf := kf.cell 0
  have ff := kf.free 0
  go_wp2_with first
    | ((with_reducible refine wpList_ld rowBo kx N49.out ?_ ?_); rotate_left; (rfl))
    | ((with_reducible refine wpList_st rowBo ke N49.out z49.out N1.out ?_ ?_ ?_); rotate_left; (rfl); (rfl); intro w10 k10 g10 z10; have kf := kf.grown g10 (fun h => by injection h; omega); have cf := kf.cell 0; have ff := kf.free 0)
  have o := o.grown g10 (.inr (own_ne o.2 ke (by decide)))
  have gb := gb.grown g10 (by have := gb.size; have := HB.out; omega) (fun q hq => by injection hq; have := HB.out; omega)
  refine leaves_cons (f := 62) (args := #[.pointer (some ⟨B + 2, 0, none⟩)]) (by simp) (by simp [go_sem]) ?_
  refine (bcaught_none _ _).mono ?_
  rintro e u' w11 ⟨rfl, rfl, rfl⟩
  have k12 := k10.far (p := ⟨B + 2, 0, none⟩) (by show B + 1 ≠ B + 2; omega) (.int .i64 0)
  have f12 := kf.set_ 0 (.int .i64 0)
  have c12 := f12.cell 0
  have o12 := o.setFar (p := ⟨B + 2, 0, none⟩) (own_ne o.2 kf (by decide)) (.int .i64 0)
  have g12 := gb.setCell (p := ⟨B + 2, 0, none⟩) (by show B ≤ B + 2; omega) (.int .i64 0)
  rw [← HL.out] at o12
  exact ⟨.tuple #[.agg (bc x (.slice A2 m2 c2)), .int .i64 0], results_cc30 rfl rowBo k12 N49.out rfl rfl (by simp [go_sem, c12]), .agg (bc x (.slice A2 m2 c2)), rfl, ⟨A2, m2, c2, rfl, o12, HM2.out⟩, by rw [← HB.out]; exact g12⟩
end Go.Proofs.Ytocoohpekpkmkaa

/- A right board's numbers are those of an int64. -/
namespace Go.Proofs.Ytocoohpekpkmkaa
set_option linter.unusedVariables false
set_option linter.unusedSimpArgs false
open Go.RowKit
open Reg (La Vl)
theorem right_wfB {b : Bd} (h : Bo.rightB b = true) : WfB b := by
  obtain ⟨h1, h2, h3, h4⟩ := (Bo.right_iff b).1 h
  refine ⟨right_wf h3, fun q hq => ?_, fun x hx => ?_⟩
  · have := (Bo.planB_iff q).1 (h1 q hq)
    obtain ⟨x, y, z⟩ := q
    show (Lit.int .i64 x).wf = true ∧ (Lit.int .i64 y).wf = true ∧ (Lit.int .i64 z).wf = true
    rcases this with e | e
    · injection e with e1 e2
      injection e2 with e2 e3
      subst e1 e2 e3
      exact ⟨wf_of (by omega) (by omega), wf_of (by omega) (by omega), wf_of (by omega) (by omega)⟩
    · simp only at e
      exact ⟨wf_of (by omega) (by omega), wf_of (by omega) (by omega), wf_of (by omega) (by omega)⟩
  · have hm := (Reg.rightM_iff b.u b.l).1 h4
    have := (Reg.numOk_iff x).1 (List.all_eq_true.1 hm.1 x hx)
    exact wf_of (by omega) (by omega)
theorem zero_wfB : WfB Bo.zero := right_wfB Bo.zero_right
/-- what was read of bytes is right, and gives the bytes -/
theorem getX_ok {xs : List UInt8} {b : Bd} (h : Bo.getX xs = .ok b) : Bo.rightB b = true ∧ bodyL b = xs := by
  unfold Bo.getX at h
  split at h
  · cases h
  split at h
  · cases h
  split at h
  · cases h
  split at h
  case isTrue hc =>
    injection h with h
    rw [← h]
    exact hc
  case isFalse => cases h
theorem getBo_right (bs : List UInt8) : Bo.rightB (getBo bs).1 = true := by
  unfold getBo
  cases hg : Bo.getE bs with
  | error y => exact Bo.zero_right
  | ok b =>
    unfold Bo.getE at hg
    split at hg
    · cases hg
    · split at hg
      · exact (getX_ok hg).1
      · cases hg
end Go.Proofs.Ytocoohpekpkmkaa

/- How boards read when they come in. -/
namespace Go.Proofs.Ytocoohpekpkmkaa
set_option linter.unusedVariables false
set_option linter.unusedSimpArgs false
open Go.ChangeShapes Go.WideShapes Go.ChangeAt Go.RowKit Go.Deep
open Reg (La Vl)
set_option maxRecDepth 100000
theorem cellsRPl : (Try.prog).cellsOf 74 = 24 := by kernel_rfl
theorem cellsRT : (Try.prog).cellsOf 73 = 16 := by kernel_rfl
theorem cellsRBo : (Try.prog).cellsOf 76 = 49 := by kernel_rfl
theorem cellsStp : (Try.prog).cellsOf 97 = 3 := by kernel_rfl
section
variable {H : Type} {enc : TypeId × Value → H} {W : World} {base : Nat} {sp : Nat → Bool} {held : Bool} {fuel : Nat} {cs : List Value} {x : DataW H × List MemPlace}
theorem rd_lac (hf : DataW.trod enc Try.prog W base sp held fuel 61 cs = some x) : ∃ d : La, cs = pc d ∧ (Lit.int .i64 d.1).wf = true ∧ (Lit.int .i64 d.2.1).wf = true ∧ (Lit.int .i64 d.2.2).wf = true := by
  have hl := rd_len Try.underlying61 cellsLa hf
  obtain ⟨_, _, g0⟩ := rd_field Try.underlying61 hf 0 3 0 1 rfl cellsI
  obtain ⟨_, _, g1⟩ := rd_field Try.underlying61 hf 1 3 1 1 rfl cellsI
  obtain ⟨_, _, g2⟩ := rd_field Try.underlying61 hf 2 3 2 1 rfl cellsI
  obtain ⟨x0, e0, h0⟩ := rd_int g0
  obtain ⟨x1, e1, h1⟩ := rd_int g1
  obtain ⟨x2, e2, h2⟩ := rd_int g2
  match cs, hl with
  | [a, b, c], _ =>
    simp at e0 e1 e2
    exact ⟨(x0, x1, x2), by rw [e0, e1, e2]; rfl, wf_of h0.1 h0.2, wf_of h1.1 h1.2, wf_of h2.1 h2.2⟩
theorem rd_arrP (hf : DataW.trod enc Try.prog W base sp held fuel 74 cs = some x) : ∃ p : List La, cs = plansC p ∧ p.length = 8 ∧ WfP p := by
  obtain ⟨xs, m, _, _, hl, hxl, hg⟩ := DataW.trod_array Try.underlying74 hf
  rw [cellsRPl] at hl
  rw [cellsLa] at hg
  have key : ∀ i, i < 8 → ∃ d : La, (cs.drop (i * 3)).take 3 = pc d ∧ (Lit.int .i64 d.1).wf = true ∧ (Lit.int .i64 d.2.1).wf = true ∧ (Lit.int .i64 d.2.2).wf = true := fun i hi => by
    have h := hg i hi
    rw [List.getElem?_eq_getElem (by omega)] at h
    exact rd_lac h
  have hex : ∀ i, ∃ d : La, i < 8 → (cs.drop (i * 3)).take 3 = pc d ∧ (Lit.int .i64 d.1).wf = true ∧ (Lit.int .i64 d.2.1).wf = true ∧ (Lit.int .i64 d.2.2).wf = true := fun i => by
    by_cases hi : i < 8
    · obtain ⟨d, h⟩ := key i hi
      exact ⟨d, fun _ => h⟩
    · exact ⟨(0, 0, 0), fun h => absurd h hi⟩
  refine ⟨(List.range 8).map fun i => (hex i).choose, ?_, by simp, fun z hz => ?_⟩
  · apply List.ext_getElem?
    intro j
    by_cases hj : j < 24
    · obtain ⟨i, r, hr, rfl⟩ : ∃ i r, r < 3 ∧ j = i * 3 + r := ⟨j / 3, j % 3, Nat.mod_lt _ (by omega), by omega⟩
      have hi : i < 8 := by omega
      rw [plansC_at _ i r (by simpa using hi) hr, List.getD_eq_getElem?_getD, List.getElem?_map, List.getElem?_range hi]
      show _ = (pc (hex i).choose)[r]?
      rw [← ((hex i).choose_spec hi).1, List.getElem?_take, if_pos hr, List.getElem?_drop]
    · rw [List.getElem?_eq_none (by omega), List.getElem?_eq_none (by rw [plansC_len]; simp; omega)]
  · obtain ⟨i, hi, rfl⟩ := List.mem_map.1 hz
    exact ((hex i).choose_spec (by simpa using hi)).2
theorem rd_talR (hf : DataW.trod enc Try.prog W base sp held fuel 73 cs = some x) : ∃ l : List Int, cs = l.map (Value.int .i64) ∧ l.length = 16 ∧ Wf l := by
  obtain ⟨⟨f0, f1, hu, t0, o0, t1, o1, _, _⟩, hc, _, _⟩ := twoR
  have hl := rd_len hu hc hf
  obtain ⟨_, _, g0⟩ := rd_field hu hf 0 22 0 8 (by simp [t0, o0]) cellsA
  obtain ⟨_, _, g1⟩ := rd_field hu hf 1 22 8 8 (by simp [t1, o1]) cellsA
  obtain ⟨l0, e0, n0, w0⟩ := rd_arr8 g0
  obtain ⟨l1, e1, n1, w1⟩ := rd_arr8 g1
  refine ⟨l0 ++ l1, ?_, by simp [n0, n1], fun z hz => ?_⟩
  · rw [List.map_append, ← e0, ← e1, List.drop_zero, List.take_of_length_le (l := cs.drop 8) (by simp; omega), List.take_append_drop]
  · rcases List.mem_append.1 hz with h | h
    · exact w0 z h
    · exact w1 z h
theorem rd_board (hf : DataW.trod enc Try.prog W base sp held fuel 76 cs = some x) : ∃ (b : Bd) (A : Option Addr) (n c : Nat), cs = (bc b (.slice A n c)).toList ∧ Bo.Shaped b ∧ WfB b ∧ RdV W W.heap.size A n b.l ∧ n ≤ maxLen := by
  have hl := rd_len Try.underlying76 cellsRBo hf
  obtain ⟨_, _, g0⟩ := rd_field Try.underlying76 hf 0 73 0 16 rfl cellsRT
  obtain ⟨_, _, g1⟩ := rd_field Try.underlying76 hf 1 74 16 24 rfl cellsRPl
  obtain ⟨_, _, g2⟩ := rd_field Try.underlying76 hf 2 25 40 9 rfl cellsRM
  obtain ⟨t, e0, h0, w0⟩ := rd_talR g0
  obtain ⟨p, e1, h1, w1⟩ := rd_arrP g1
  obtain ⟨U, A, n, c, l, e2, hU, wU, hr, hn⟩ := rd_many g2
  refine ⟨⟨t, p, U, l⟩, A, n, c, ?_, ⟨h0, h1, hU⟩, ⟨w0, w1, wU⟩, hr, hn⟩
  have hall : cs = (cs.drop 0).take 16 ++ ((cs.drop 16).take 24 ++ ((cs.drop 40).take 9 ++ [])) := by
    rw [← List.drop_eq_nil_of_le (i := 49) (Nat.le_of_eq hl), cut_row _ 40 9, cut_row _ 16 24, cut_row _ 0 16, List.drop_zero]
  rw [e0, e1, e2] at hall
  rw [hall]
  simp [bc, uc]
end
section
variable {H : Type} {enc : TypeId × Value → H} {W : World} {base : Nat} {sp : Nat → Bool} {held : Bool} {r : Reach} {b0 : Nat} {v : Value} {d : DataW H} {p : List MemPlace}
theorem open_board (hv : Value.okWide Try.prog W r b0 76 v) (h : DataW.Trod enc Try.prog W base sp held 76 v d p) :
    ∃ (b : Bd) (A : Option Addr) (n c : Nat), v = .agg (bc b (.slice A n c)) ∧ Bo.Shaped b ∧ WfB b ∧ RdV W W.heap.size A n b.l ∧ n ≤ maxLen := by
  obtain ⟨cs, rfl, hsz⟩ := okWide_struct Try.underlying76 hv
  obtain ⟨fuel, hf0⟩ := h
  have hf : DataW.trod enc Try.prog W base sp held fuel 76 cs.toList = some (d, p) := hf0
  obtain ⟨b, A, n, c, h1, h2⟩ := rd_board hf
  exact ⟨b, A, n, c, by rw [← Array.toArray_toList (xs := cs), h1], h2⟩
theorem open_stp (hv : Value.okWide Try.prog W r b0 97 v) (h : DataW.Trod enc Try.prog W base sp held 97 v d p) :
    ∃ x y z : Int, v = .agg #[.int .i64 x, .int .i64 y, .int .i64 z] ∧ (Lit.int .i64 x).wf = true ∧ (Lit.int .i64 y).wf = true ∧ (Lit.int .i64 z).wf = true := by
  obtain ⟨cs, rfl, hsz⟩ := okWide_struct Try.underlying97 hv
  obtain ⟨fuel, hf0⟩ := h
  have hf : DataW.trod enc Try.prog W base sp held fuel 97 cs.toList = some (d, p) := hf0
  have hl := rd_len Try.underlying97 cellsStp hf
  obtain ⟨_, _, g0⟩ := rd_field Try.underlying97 hf 0 3 0 1 rfl cellsI
  obtain ⟨_, _, g1⟩ := rd_field Try.underlying97 hf 1 3 1 1 rfl cellsI
  obtain ⟨_, _, g2⟩ := rd_field Try.underlying97 hf 2 3 2 1 rfl cellsI
  obtain ⟨x0, e0, h0⟩ := rd_int g0
  obtain ⟨x1, e1, h1⟩ := rd_int g1
  obtain ⟨x2, e2, h2⟩ := rd_int g2
  refine ⟨x0, x1, x2, ?_, wf_of h0.1 h0.2, wf_of h1.1 h1.2, wf_of h2.1 h2.2⟩
  congr 1
  apply Array.ext'
  generalize cs.toList = ls at *
  match ls, hl with
  | [a, b, c], _ =>
    simp at e0 e1 e2
    rw [e0, e1, e2]
end
end Go.Proofs.Ytocoohpekpkmkaa

/- What comes of a write or a note has the right shape, and numbers of an int64. -/
namespace Go.Proofs.Ytocoohpekpkmkaa
set_option linter.unusedVariables false
set_option linter.unusedSimpArgs false
open Go.RowKit
open Reg (La Vl)
theorem writeL_wf (l : La) (n v : Int) : (Lit.int .i64 (Reg.writeL l n v).1.1).wf = true ∧ (Lit.int .i64 (Reg.writeL l n v).1.2.1).wf = true ∧ (Lit.int .i64 (Reg.writeL l n v).1.2.2).wf = true := by
  unfold Reg.writeL
  split
  · exact ⟨wf_of (by simp) (by simp), wf_of (by simp) (by simp), wf_of (by simp) (by simp)⟩
  · split
    · exact ⟨wf_of (by simp) (by simp), wf_of (by simp) (by simp), wf_of (by simp) (by simp)⟩
    · rename_i h1 h2
      have h1 : Reg.mayN n v = true := by simpa using h1
      have := (Reg.mayN_iff n v).1 h1
      exact ⟨wf_of (by show _ ≤ max l.1 0 + 1; omega) (by show max l.1 0 + 1 ≤ _; omega), wf_of (by show _ ≤ n; omega) (by show n ≤ _; omega), wf_of (by show _ ≤ v; omega) (by show v ≤ _; omega)⟩
theorem wrote_shaped {b : Bd} (hs : Bo.Shaped b) (x y z : Int) : Bo.Shaped (Bo.wrote b x y z).1 := by
  unfold Bo.wrote
  split
  · exact Bo.zero_shaped
  · split
    · exact Bo.zero_shaped
    · split
      · exact Bo.zero_shaped
      · exact ⟨(Tally.add_len hs.t x 1).1, by rw [List.length_set]; exact hs.p, hs.u⟩
theorem note_shaped {b : Bd} (hs : Bo.Shaped b) (x v : Int) : Bo.Shaped (Bo.note b x v).1 := by
  unfold Bo.note
  split
  · exact Bo.zero_shaped
  · split
    · exact Bo.zero_shaped
    · exact ⟨hs.t, hs.p, putM_len8 hs.u _ _ _⟩
theorem wrote_wfB {b : Bd} (hs : Bo.Shaped b) (hw : WfB b) (x y z : Int) : WfB (Bo.wrote b x y z).1 := by
  unfold Bo.wrote
  split
  · exact zero_wfB
  · split
    · exact zero_wfB
    · split
      · exact zero_wfB
      · refine ⟨right_wf (Tally.add_len hs.t x 1).2, fun q hq => ?_, hw.u⟩
        rcases List.mem_or_eq_of_mem_set hq with h | h
        · exact hw.p q h
        · rw [h]; exact writeL_wf _ _ _
theorem note_wfB {b : Bd} (hs : Bo.Shaped b) (hw : WfB b) (x v : Int) : WfB (Bo.note b x v).1 := by
  unfold Bo.note
  split
  · exact zero_wfB
  · split
    · exact zero_wfB
    · exact ⟨hw.t, hw.p, putM_wf hs.u hw.u _ _ _⟩
theorem wrote_len {b : Bd} (x y z : Int) (h : b.l.length ≤ 100000) : (Bo.wrote b x y z).1.l.length ≤ 100000 := by
  unfold Bo.wrote
  split
  · exact Nat.zero_le _
  · split
    · exact Nat.zero_le _
    · split
      · exact Nat.zero_le _
      · exact h
end Go.Proofs.Ytocoohpekpkmkaa

/- The document's example of boards: numbers. -/
namespace Go.Proofs.Ytocoohpekpkmkaa
set_option linter.unusedVariables false
set_option linter.unusedSimpArgs false
set_option maxRecDepth 100000
open Go.RowKit
open Reg (La Vl)
def exBA : Bd := ⟨[0, 1, 0, 0, 0, 0, 0, 0, 0, 0, 0, 0, 0, 0, 0, 0], [(0, 0, 0), (0, 0, 0), (1, 1, 5), (0, 0, 0), (0, 0, 0), (0, 0, 0), (0, 0, 0), (0, 0, 0)], [0, 0, 0, 0, 0, 0, 0, 0], []⟩
def exBB : Bd := ⟨[0, 1, 0, 1, 0, 0, 0, 0, 0, 0, 0, 0, 0, 0, 0, 0], [(0, 0, 0), (0, 0, 0), (2, 3, 6), (0, 0, 0), (0, 0, 0), (0, 0, 0), (0, 0, 0), (0, 0, 0)], [0, 0, 0, 0, 0, 0, 0, 0], []⟩
theorem exA_wrote : Bo.wrote Bo.zero 1 2 5 = (exBA, 0) := Prod.ext ((sameB_iff _ _).1 (by decide +kernel)) (by decide +kernel)
theorem exB_wrote : Bo.wrote exBA 3 2 6 = (exBB, 0) := Prod.ext ((sameB_iff _ _).1 (by decide +kernel)) (by decide +kernel)
theorem exB_right : Bo.rightB exBB = true := by decide +kernel
theorem exB_put : putBo exBB = (Frame.frm (bodyL exBB), 0) := by unfold putBo; rw [if_pos exB_right]
def okIs (r : Except Nat Bd) (b : Bd) : Bool := match r with
  | .ok x => sameB x b
  | .error _ => false
theorem okIs_eq {r : Except Nat Bd} {b : Bd} (h : okIs r b = true) : r = .ok b := by
  cases r with
  | error y => cases h
  | ok x => rw [(sameB_iff x b).1 h]
theorem exB_getX : Bo.getX (bodyL exBB) = .ok exBB := okIs_eq (by decide +kernel)
theorem exB_len : (bodyL exBB).length ≤ 4096 := by decide +kernel
theorem exB_get : getBo (Frame.frm (bodyL exBB)) = (exBB, 0) := by
  have hd := Frame.dec_frm exB_len []
  rw [List.append_nil] at hd
  exact getBo_ok (by rw [getE_x hd, exB_getX])
end Go.Proofs.Ytocoohpekpkmkaa

/- The walk of the law's alive. -/
namespace Go.Proofs.Ytocoohpekpkmkaa
set_option linter.unusedVariables false
set_option linter.unusedSimpArgs false
set_option maxRecDepth 100000
open Go.RowKit
open Reg (La Vl)
theorem exBs : Bo.Shaped exBB := ⟨rfl, rfl, rfl⟩
theorem exAs : Bo.Shaped exBA := ⟨rfl, rfl, rfl⟩
theorem exB_val : Tally.valueL exBB.t = 2 := by decide +kernel
theorem exB_same : sameB exBB exBB = true := (sameB_iff _ _).2 rfl
theorem exBw : WfB exBB := ⟨by unfold Wf; decide +kernel, by unfold WfP; decide +kernel, by unfold Wf; decide +kernel⟩
set_option maxHeartbeats 4000000 in
theorem balive_any (w : World) : Calls Try.prog 29 #[] w (GiveBo w true) := by
  have HBD := Lib.hid fun (w : World) => (show (Instr.build 83 #[]).run Try.prog w = .ok (.agg (bc Bo.zero (.slice none 0 0))) w by kernel_rfl)
  obtain ⟨zz, hzz⟩ : ∃ zz, zz = Bo.zero := ⟨_, rfl⟩
  have hw1 := fun w => bwrote_any Bo.zero Bo.zero_shaped 1 2 5 (.agg (bc Bo.zero (.slice none 0 0))) w ⟨none, 0, 0, rfl, RdV.nil _ _ _, by omega⟩
  rw [exA_wrote] at hw1
  have HW1 := Lib.hid hw1
  clear hw1 hzz
  go_enter Try.func29, Try.ntmps29
  go_wp2_with ((refine wpList_bdV (v := .agg (bc Bo.zero (.slice none 0 0))) (w' := _) rfl 83 #[] rfl ?_ ?_); (simp only [List.map_toArray, List.map_nil]; exact HBD.out _))
  refine (HW1.out w).mono ?_
  rintro e w1 ⟨_, rfl, hA, gb⟩
  obtain ⟨A1, m1, c1, rfl, oA, hmA⟩ := hA
  have FA : FoBo 49 exBA (.agg (bc exBA (.slice A1 m1 c1))) w1 := ⟨A1, m1, c1, rfl, oA, hmA⟩
  have NA := Lib.hid (bc_size (s := .slice A1 m1 c1) exAs)
  have OA := Lib.hid (bc_one (b := exBA) (s := .slice A1 m1 c1) rfl)
  generalize hcA : bc exBA (.slice A1 m1 c1) = cA at *
  go_upto_region 2 with ((with_reducible refine wpList_st rowBo (Blk.new _ _ _) NA.out ?_ OA.out ?_ ?_ ?_); (rfl); rotate_left; (rfl); (rfl); intro w2 kA g2 z2)
  have bq : Below w1.heap.size w1 w2 := new_below g2
  have FA := FA.below bq
  have gb := gb.trans (bq.mono gb.size)
  clear g2 z2 bq oA
  have hw2 := bwrote_any exBA exAs 3 2 6 (.agg cA) w2 FA.fresh
  rw [exB_wrote] at hw2
  have HW2 := Lib.hid hw2
  clear hw2
  go_wp2_with ((with_reducible refine wpList_ld rowBo kA NA.out ?_ ?_); rotate_left; (rfl))
  refine HW2.out.mono ?_
  rintro e w3 ⟨_, rfl, hB, b3⟩
  have gb := gb.trans (b3.mono gb.size)
  obtain ⟨B1, n1, d1, rfl, oB, hmB⟩ := hB
  have FB : FoBo 49 exBB (.agg (bc exBB (.slice B1 n1 d1))) w3 := ⟨B1, n1, d1, rfl, oB, hmB⟩
  have N49 := Lib.hid (bc_size (s := .slice B1 n1 d1) exBs)
  have OB := Lib.hid (bc_one (b := exBB) (s := .slice B1 n1 d1) rfl)
  obtain ⟨cB, hcB⟩ : ∃ cB, cB = bc exBB (.slice B1 n1 d1) := ⟨_, rfl⟩
  rw [← hcB] at FB N49 OB ⊢
  have HCB := Lib.hid hcB
  clear kA b3 HW2 HW1 oB hcB FA
  go_upto_region 3 with ((with_reducible refine wpList_st rowBo (Blk.new _ _ _) N49.out ?_ OB.out ?_ ?_ ?_); (rfl); rotate_left; (rfl); (rfl); intro w4 kB g4 z4)
  obtain ⟨gB, hgB⟩ : ∃ gB, gB = w3.heap.size := ⟨_, rfl⟩
  rw [← hgB] at kB ⊢
  have bq : Below w3.heap.size w3 w4 := new_below g4
  have FB := FB.below bq
  have gb := gb.trans (bq.mono gb.size)
  clear g4 z4 bq hgB
  have hp := bput_any exBB exBs (.agg cB) w4 FB.fresh
  rw [exB_put] at hp
  have HP := Lib.hid hp
  clear hp
  go_wp2_with ((with_reducible refine wpList_ld rowBo kB N49.out ?_ ?_); rotate_left; (rfl))
  refine HP.out.mono ?_
  rintro e w5 ⟨AX, nX, cX, rfl, oX, b5⟩
  have kB := kB.below b5 kB.lt
  have FB := FB.below b5
  have gb := gb.trans (b5.mono gb.size)
  have hnx : nX ≤ 1000000 := by
    rw [oX.1]
    show (Frame.frm (bodyL exBB)).length ≤ 1000000
    rw [Frame.frm_length]
    have h1 := exB_len
    have h2 := Vint.enc_length (bodyL exBB).length
    omega
  have hcap := ownsRow_le oX.2
  clear b5 HP
  have hg := bget_any AX nX cX (Frame.frm (bodyL exBB)) w5 oX.rd hnx hcap.1 hcap.2
  rw [exB_get] at hg
  have HGT := Lib.hid hg
  clear hg hnx hcap oX
  generalize (Frame.frm (bodyL exBB)) = xsx at *
  go_wp2_with fail
  refine HGT.out.mono ?_
  rintro e w6 ⟨_, rfl, hC, b6⟩
  have kB := kB.below b6 kB.lt
  have FB := FB.below b6
  have gb := gb.trans (b6.mono gb.size)
  obtain ⟨C1, n2, d2, rfl, oC, hmC⟩ := hC
  have FC : FoBo 49 exBB (.agg (bc exBB (.slice C1 n2 d2))) w6 := ⟨C1, n2, d2, rfl, oC, hmC⟩
  have C49 := Lib.hid (bc_size (s := .slice C1 n2 d2) exBs)
  have OC := Lib.hid (bc_one (b := exBB) (s := .slice C1 n2 d2) rfl)
  obtain ⟨cC, hcC⟩ : ∃ cC, cC = bc exBB (.slice C1 n2 d2) := ⟨_, rfl⟩
  rw [← hcC] at FC C49 OC ⊢
  clear b6 HGT oC hcC
  go_upto_region 5 with ((with_reducible refine wpList_st rowBo (Blk.new _ _ _) C49.out ?_ OC.out ?_ ?_ ?_); (rfl); rotate_left; (rfl); (rfl); intro w9 kC g9 z9)
  obtain ⟨gC, hgC⟩ : ∃ gC, gC = w6.heap.size := ⟨_, rfl⟩
  rw [← hgC] at kC ⊢
  have bq : Below w6.heap.size w6 w9 := new_below g9
  have kB := kB.below bq kB.lt
  have FB := FB.below bq
  have FC := FC.below bq
  have gb := gb.trans (bq.mono gb.size)
  clear g9 z9 bq hgC
  have kB2 : Blk w9 gB 83 (bc exBB (.slice B1 n1 d1)) := by rw [← HCB.out]; exact kB
  have hQ := FB.fresh
  have hQC := FC.fresh
  refine wp_region_tail 34 (fun L v w => v 3 = .pointer (some ⟨gB, 0, none⟩) ∧ v 7 = .pointer (some ⟨gC, 0, none⟩) ∧ v 2 = .int .i64 0 ∧ v 4 = .int .i64 0 ∧ v 6 = .int .i64 0 ∧ v 8 = .int .i64 0 ∧ Below w9.heap.size w9 w ∧ (L 0 = true → v 29 = .int .i64 0) ∧ (L 1 = true → v 30 = .bool true) ∧ (L 2 = true → v 31 = .bool true) ∧ (L 3 = true → v 32 = .int .i64 0) ∧ (L 4 = true → v 33 = .bool true) ∧ (L 5 = true → v 34 = .bool true) ∧ (L 6 = true → v 35 = .bool true) ∧ (L 7 = true → v 36 = .pointer (some ⟨gB, 0, none⟩)) ∧ (L 8 = true → v 37 = .agg (tc exBB.t)) ∧ (L 9 = true → v 38 = .int .i64 2) ∧ (L 10 = true → v 39 = .bool true) ∧ (L 11 = true → v 40 = .bool true) ∧ (L 12 = true → v 41 = .bool true) ∧ (L 13 = true → v 42 = .pointer (some ⟨gB, 16, none⟩)) ∧ (L 14 = true → v 43 = .pointer (some ⟨gB, 22, none⟩)) ∧ (L 15 = true → v 44 = .agg #[.int .i64 2, .int .i64 3, .int .i64 6]) ∧ (L 16 = true → v 45 = .agg #[.int .i64 2, .int .i64 3, .int .i64 6]) ∧ (L 17 = true → v 46 = .bool true) ∧ (L 18 = true → v 47 = .bool true) ∧ (L 19 = true → v 48 = .bool true) ∧ (L 20 = true → v 49 = .int .i64 0) ∧ (L 21 = true → v 50 = .bool true) ∧ (L 22 = true → v 51 = .bool true) ∧ (L 23 = true → v 52 = .bool true) ∧ (L 24 = true → v 53 = .int .i64 0) ∧ (L 25 = true → v 54 = .bool true) ∧ (L 26 = true → v 55 = .bool true) ∧ (L 27 = true → v 56 = .bool true) ∧ (L 28 = true → v 57 = .agg cB) ∧ (L 29 = true → FoBo 105 exBB (v 58) w) ∧ (L 30 = true → v 59 = .agg cC) ∧ (L 31 = true → FoBo 105 exBB (v 60) w) ∧ (L 32 = true → v 61 = .bool true) ∧ (L 33 = true → v 62 = .bool true)) [29, 30, 31, 32, 33, 34, 35, 36, 37, 38, 39, 40, 41, 42, 43, 44, 45, 46, 47, 48, 49, 50, 51, 52, 53, 54, 55, 56, 57, 58, 59, 60, 61, 62] (by kernel_rfl) (by kernel_rfl) (by kernel_rfl) (by kernel_rfl) (by kernel_rfl) (by kernel_rfl) ?h0 ?hst ?hend
  case h0 =>
    intro L h0
    have h0 : ∀ i, i < 34 → L i = false := h0
    exact ⟨rfl, rfl, rfl, rfl, rfl, rfl, (Below.refl _ _).drew, offF h0 (i := 0) (by decide), offF h0 (i := 1) (by decide), offF h0 (i := 2) (by decide), offF h0 (i := 3) (by decide), offF h0 (i := 4) (by decide), offF h0 (i := 5) (by decide), offF h0 (i := 6) (by decide), offF h0 (i := 7) (by decide), offF h0 (i := 8) (by decide), offF h0 (i := 9) (by decide), offF h0 (i := 10) (by decide), offF h0 (i := 11) (by decide), offF h0 (i := 12) (by decide), offF h0 (i := 13) (by decide), offF h0 (i := 14) (by decide), offF h0 (i := 15) (by decide), offF h0 (i := 16) (by decide), offF h0 (i := 17) (by decide), offF h0 (i := 18) (by decide), offF h0 (i := 19) (by decide), offF h0 (i := 20) (by decide), offF h0 (i := 21) (by decide), offF h0 (i := 22) (by decide), offF h0 (i := 23) (by decide), offF h0 (i := 24) (by decide), offF h0 (i := 25) (by decide), offF h0 (i := 26) (by decide), offF h0 (i := 27) (by decide), offF h0 (i := 28) (by decide), offF h0 (i := 29) (by decide), offF h0 (i := 30) (by decide), offF h0 (i := 31) (by decide), offF h0 (i := 32) (by decide), offF h0 (i := 33) (by decide)⟩
  case hst =>
    show FactSteps _ _ _ _ [0, 1, 2, 3, 4, 5, 6, 7, 8, 9, 10, 11, 12, 13, 14, 15, 16, 17, 18, 19, 20, 21, 22, 23, 24, 25, 26, 27, 28, 29, 30, 31, 32, 33]
    refine @FactSteps.cons _ _ _ _ 0 _ [] _ rfl (by kernel_rfl) ?s0 ?_
    rotate_left
    refine @FactSteps.cons _ _ _ _ 1 _ [0] _ rfl (by kernel_rfl) ?s1 ?_
    rotate_left
    refine @FactSteps.cons _ _ _ _ 2 _ [1] _ rfl (by kernel_rfl) ?s2 ?_
    rotate_left
    refine @FactSteps.cons _ _ _ _ 3 _ [2] _ rfl (by kernel_rfl) ?s3 ?_
    rotate_left
    refine @FactSteps.cons _ _ _ _ 4 _ [3, 2] _ rfl (by kernel_rfl) ?s4 ?_
    rotate_left
    refine @FactSteps.cons _ _ _ _ 5 _ [2, 4] _ rfl (by kernel_rfl) ?s5 ?_
    rotate_left
    refine @FactSteps.cons _ _ _ _ 6 _ [5, 2] _ rfl (by kernel_rfl) ?s6 ?_
    rotate_left
    refine @FactSteps.cons _ _ _ _ 7 _ [6] _ rfl (by kernel_rfl) ?s7 ?_
    rotate_left
    refine @FactSteps.cons _ _ _ _ 8 _ [7, 6] _ rfl (by kernel_rfl) ?s8 ?_
    rotate_left
    refine @FactSteps.cons _ _ _ _ 9 _ [8, 6, 6] _ rfl (by kernel_rfl) ?s9 ?_
    rotate_left
    refine @FactSteps.cons _ _ _ _ 10 _ [9, 6] _ rfl (by kernel_rfl) ?s10 ?_
    rotate_left
    refine @FactSteps.cons _ _ _ _ 11 _ [6, 10] _ rfl (by kernel_rfl) ?s11 ?_
    rotate_left
    refine @FactSteps.cons _ _ _ _ 12 _ [11, 9] _ rfl (by kernel_rfl) ?s12 ?_
    rotate_left
    refine @FactSteps.cons _ _ _ _ 13 _ [12] _ rfl (by kernel_rfl) ?s13 ?_
    rotate_left
    refine @FactSteps.cons _ _ _ _ 14 _ [13, 12] _ rfl (by kernel_rfl) ?s14 ?_
    rotate_left
    refine @FactSteps.cons _ _ _ _ 15 _ [14, 12] _ rfl (by kernel_rfl) ?s15 ?_
    rotate_left
    refine @FactSteps.cons _ _ _ _ 16 _ [12] _ rfl (by kernel_rfl) ?s16 ?_
    rotate_left
    refine @FactSteps.cons _ _ _ _ 17 _ [15, 16, 12] _ rfl (by kernel_rfl) ?s17 ?_
    rotate_left
    refine @FactSteps.cons _ _ _ _ 18 _ [12, 17] _ rfl (by kernel_rfl) ?s18 ?_
    rotate_left
    refine @FactSteps.cons _ _ _ _ 19 _ [18, 12] _ rfl (by kernel_rfl) ?s19 ?_
    rotate_left
    refine @FactSteps.cons _ _ _ _ 20 _ [19] _ rfl (by kernel_rfl) ?s20 ?_
    rotate_left
    refine @FactSteps.cons _ _ _ _ 21 _ [20, 19] _ rfl (by kernel_rfl) ?s21 ?_
    rotate_left
    refine @FactSteps.cons _ _ _ _ 22 _ [19, 21] _ rfl (by kernel_rfl) ?s22 ?_
    rotate_left
    refine @FactSteps.cons _ _ _ _ 23 _ [22, 19] _ rfl (by kernel_rfl) ?s23 ?_
    rotate_left
    refine @FactSteps.cons _ _ _ _ 24 _ [23] _ rfl (by kernel_rfl) ?s24 ?_
    rotate_left
    refine @FactSteps.cons _ _ _ _ 25 _ [24, 23] _ rfl (by kernel_rfl) ?s25 ?_
    rotate_left
    refine @FactSteps.cons _ _ _ _ 26 _ [23, 25] _ rfl (by kernel_rfl) ?s26 ?_
    rotate_left
    refine @FactSteps.cons _ _ _ _ 27 _ [26, 23] _ rfl (by kernel_rfl) ?s27 ?_
    rotate_left
    refine @FactSteps.cons _ _ _ _ 28 _ [27] _ rfl (by kernel_rfl) ?s28 ?_
    rotate_left
    refine @FactSteps.cons _ _ _ _ 29 _ [28, 27, 27] _ rfl (by kernel_rfl) ?s29 ?_
    rotate_left
    refine @FactSteps.cons _ _ _ _ 30 _ [27] _ rfl (by kernel_rfl) ?s30 ?_
    rotate_left
    refine @FactSteps.cons _ _ _ _ 31 _ [30, 29, 27] _ rfl (by kernel_rfl) ?s31 ?_
    rotate_left
    refine @FactSteps.cons _ _ _ _ 32 _ [29, 31, 31, 27] _ rfl (by kernel_rfl) ?s32 ?_
    rotate_left
    refine @FactSteps.cons _ _ _ _ 33 _ [27, 32] _ rfl (by kernel_rfl) ?s33 ?_
    rotate_left
    exact FactSteps.nil
    case s0 =>
      rintro L a v w hv hg hL hd hcl ⟨e3, e7, e2, e4, e6, e8, hb, f0, f1, f2, f3, f4, f5, f6, f7, f8, f9, f10, f11, f12, f13, f14, f15, f16, f17, f18, f19, f20, f21, f22, f23, f24, f25, f26, f27, f28, f29, f30, f31, f32, f33⟩ K hK
      refine step_do rfl ?_
      clear hv
      go_simp
      exact hK.out _ _ ⟨e3, e7, e2, e4, e6, e8, hb, fun _ => rfl, f1, f2, f3, f4, f5, f6, f7, f8, f9, f10, f11, f12, f13, f14, f15, f16, f17, f18, f19, f20, f21, f22, f23, f24, f25, f26, f27, f28, f29, f30, f31, f32, f33⟩
    case s1 =>
      rintro L a v w hv hg hL hd hcl ⟨e3, e7, e2, e4, e6, e8, hb, f0, f1, f2, f3, f4, f5, f6, f7, f8, f9, f10, f11, f12, f13, f14, f15, f16, f17, f18, f19, f20, f21, f22, f23, f24, f25, f26, f27, f28, f29, f30, f31, f32, f33⟩ K hK
      have g0 := f0 (hd 0 (by decide))
      refine step_do rfl ?_
      clear hv
      go_simp
      exact hK.out _ _ ⟨e3, e7, e2, e4, e6, e8, hb, f0, fun _ => rfl, f2, f3, f4, f5, f6, f7, f8, f9, f10, f11, f12, f13, f14, f15, f16, f17, f18, f19, f20, f21, f22, f23, f24, f25, f26, f27, f28, f29, f30, f31, f32, f33⟩
    case s2 =>
      rintro L a v w hv hg hL hd hcl ⟨e3, e7, e2, e4, e6, e8, hb, f0, f1, f2, f3, f4, f5, f6, f7, f8, f9, f10, f11, f12, f13, f14, f15, f16, f17, f18, f19, f20, f21, f22, f23, f24, f25, f26, f27, f28, f29, f30, f31, f32, f33⟩ K hK
      have g1 := f1 (hd 1 (by decide))
      refine step_do rfl ?_
      clear hv
      go_simp
      exact hK.out _ _ ⟨e3, e7, e2, e4, e6, e8, hb, f0, f1, fun _ => rfl, f3, f4, f5, f6, f7, f8, f9, f10, f11, f12, f13, f14, f15, f16, f17, f18, f19, f20, f21, f22, f23, f24, f25, f26, f27, f28, f29, f30, f31, f32, f33⟩
    case s3 =>
      rintro L a v w hv hg hL hd hcl ⟨e3, e7, e2, e4, e6, e8, hb, f0, f1, f2, f3, f4, f5, f6, f7, f8, f9, f10, f11, f12, f13, f14, f15, f16, f17, f18, f19, f20, f21, f22, f23, f24, f25, f26, f27, f28, f29, f30, f31, f32, f33⟩ K hK
      have g2 := f2 (hd 2 (by decide))
      refine step_want (j := 2) (s := 31) (b := true) rfl rfl ((hv 31).trans (f2 (hd 2 (by decide)))) ?_
      clear hv
      go_simp
      exact hK.out _ _ ⟨e3, e7, e2, e4, e6, e8, hb, f0, f1, f2, fun _ => rfl, f4, f5, f6, f7, f8, f9, f10, f11, f12, f13, f14, f15, f16, f17, f18, f19, f20, f21, f22, f23, f24, f25, f26, f27, f28, f29, f30, f31, f32, f33⟩
    case s4 =>
      rintro L a v w hv hg hL hd hcl ⟨e3, e7, e2, e4, e6, e8, hb, f0, f1, f2, f3, f4, f5, f6, f7, f8, f9, f10, f11, f12, f13, f14, f15, f16, f17, f18, f19, f20, f21, f22, f23, f24, f25, f26, f27, f28, f29, f30, f31, f32, f33⟩ K hK
      have g2 := f2 (hd 2 (by decide))
      have g3 := f3 (hd 3 (by decide))
      refine step_want (j := 2) (s := 31) (b := true) rfl rfl ((hv 31).trans (f2 (hd 2 (by decide)))) ?_
      clear hv
      go_simp
      exact hK.out _ _ ⟨e3, e7, e2, e4, e6, e8, hb, f0, f1, f2, f3, fun _ => rfl, f5, f6, f7, f8, f9, f10, f11, f12, f13, f14, f15, f16, f17, f18, f19, f20, f21, f22, f23, f24, f25, f26, f27, f28, f29, f30, f31, f32, f33⟩
    case s5 =>
      rintro L a v w hv hg hL hd hcl ⟨e3, e7, e2, e4, e6, e8, hb, f0, f1, f2, f3, f4, f5, f6, f7, f8, f9, f10, f11, f12, f13, f14, f15, f16, f17, f18, f19, f20, f21, f22, f23, f24, f25, f26, f27, f28, f29, f30, f31, f32, f33⟩ K hK
      have g2 := f2 (hd 2 (by decide))
      have g4 := f4 (hd 4 (by decide))
      refine step_do rfl ?_
      clear hv
      go_simp
      exact hK.out _ _ ⟨e3, e7, e2, e4, e6, e8, hb, f0, f1, f2, f3, f4, fun _ => rfl, f6, f7, f8, f9, f10, f11, f12, f13, f14, f15, f16, f17, f18, f19, f20, f21, f22, f23, f24, f25, f26, f27, f28, f29, f30, f31, f32, f33⟩
    case s6 =>
      rintro L a v w hv hg hL hd hcl ⟨e3, e7, e2, e4, e6, e8, hb, f0, f1, f2, f3, f4, f5, f6, f7, f8, f9, f10, f11, f12, f13, f14, f15, f16, f17, f18, f19, f20, f21, f22, f23, f24, f25, f26, f27, f28, f29, f30, f31, f32, f33⟩ K hK
      have g2 := f2 (hd 2 (by decide))
      have g5 := f5 (hd 5 (by decide))
      refine step_do rfl ?_
      clear hv
      go_simp
      exact hK.out _ _ ⟨e3, e7, e2, e4, e6, e8, hb, f0, f1, f2, f3, f4, f5, fun _ => rfl, f7, f8, f9, f10, f11, f12, f13, f14, f15, f16, f17, f18, f19, f20, f21, f22, f23, f24, f25, f26, f27, f28, f29, f30, f31, f32, f33⟩
    case s7 =>
      rintro L a v w hv hg hL hd hcl ⟨e3, e7, e2, e4, e6, e8, hb, f0, f1, f2, f3, f4, f5, f6, f7, f8, f9, f10, f11, f12, f13, f14, f15, f16, f17, f18, f19, f20, f21, f22, f23, f24, f25, f26, f27, f28, f29, f30, f31, f32, f33⟩ K hK
      have g6 := f6 (hd 6 (by decide))
      refine step_want (j := 6) (s := 35) (b := true) rfl rfl ((hv 35).trans (f6 (hd 6 (by decide)))) ?_
      clear hv
      go_simp
      exact hK.out _ _ ⟨e3, e7, e2, e4, e6, e8, hb, f0, f1, f2, f3, f4, f5, f6, fun _ => rfl, f8, f9, f10, f11, f12, f13, f14, f15, f16, f17, f18, f19, f20, f21, f22, f23, f24, f25, f26, f27, f28, f29, f30, f31, f32, f33⟩
    case s8 =>
      rintro L a v w hv hg hL hd hcl ⟨e3, e7, e2, e4, e6, e8, hb, f0, f1, f2, f3, f4, f5, f6, f7, f8, f9, f10, f11, f12, f13, f14, f15, f16, f17, f18, f19, f20, f21, f22, f23, f24, f25, f26, f27, f28, f29, f30, f31, f32, f33⟩ K hK
      have g6 := f6 (hd 6 (by decide))
      have g7 := f7 (hd 7 (by decide))
      refine step_want (j := 6) (s := 35) (b := true) rfl rfl ((hv 35).trans (f6 (hd 6 (by decide)))) ?_
      refine wp_ldr rowT (.tmp 36) rfl ((hv 36).trans g7) ((kB2.below hb kB2.lt).tal exBs) rfl ?_
      exact hK.out _ _ ⟨e3, e7, e2, e4, e6, e8, hb, f0, f1, f2, f3, f4, f5, f6, f7, fun _ => rfl, f9, f10, f11, f12, f13, f14, f15, f16, f17, f18, f19, f20, f21, f22, f23, f24, f25, f26, f27, f28, f29, f30, f31, f32, f33⟩
    case s9 =>
      rintro L a v w hv hg hL hd hcl ⟨e3, e7, e2, e4, e6, e8, hb, f0, f1, f2, f3, f4, f5, f6, f7, f8, f9, f10, f11, f12, f13, f14, f15, f16, f17, f18, f19, f20, f21, f22, f23, f24, f25, f26, f27, f28, f29, f30, f31, f32, f33⟩ K hK
      have h8 := f8 (hd 8 (by decide))
      refine step_want (j := 6) (s := 35) (b := true) rfl rfl ((hv 35).trans (f6 (hd 6 (by decide)))) ?_
      clear hv
      go_simp
      refine (value_any exBB.t w rfl).mono ?_
      rintro e wy ⟨rfl, bb⟩
      rw [exB_val]
      exact hK.out _ _ ⟨e3, e7, e2, e4, e6, e8, (hb.trans (bb.mono hb.size)), f0, f1, f2, f3, f4, f5, f6, f7, f8, fun _ => rfl, f10, f11, f12, f13, f14, f15, f16, f17, f18, f19, f20, f21, f22, f23, f24, f25, f26, f27, f28, (fun h => (f29 h).below bb), f30, (fun h => (f31 h).below bb), f32, f33⟩
    case s10 =>
      rintro L a v w hv hg hL hd hcl ⟨e3, e7, e2, e4, e6, e8, hb, f0, f1, f2, f3, f4, f5, f6, f7, f8, f9, f10, f11, f12, f13, f14, f15, f16, f17, f18, f19, f20, f21, f22, f23, f24, f25, f26, f27, f28, f29, f30, f31, f32, f33⟩ K hK
      have g6 := f6 (hd 6 (by decide))
      refine step_want (j := 6) (s := 35) (b := true) rfl rfl ((hv 35).trans (f6 (hd 6 (by decide)))) ?_
      clear hv
      go_simp
      exact hK.out _ _ ⟨e3, e7, e2, e4, e6, e8, hb, f0, f1, f2, f3, f4, f5, f6, f7, f8, f9, fun _ => rfl, f11, f12, f13, f14, f15, f16, f17, f18, f19, f20, f21, f22, f23, f24, f25, f26, f27, f28, f29, f30, f31, f32, f33⟩
    case s11 =>
      rintro L a v w hv hg hL hd hcl ⟨e3, e7, e2, e4, e6, e8, hb, f0, f1, f2, f3, f4, f5, f6, f7, f8, f9, f10, f11, f12, f13, f14, f15, f16, f17, f18, f19, f20, f21, f22, f23, f24, f25, f26, f27, f28, f29, f30, f31, f32, f33⟩ K hK
      have g6 := f6 (hd 6 (by decide))
      have g10 := f10 (hd 10 (by decide))
      refine step_do rfl ?_
      clear hv
      go_simp
      exact hK.out _ _ ⟨e3, e7, e2, e4, e6, e8, hb, f0, f1, f2, f3, f4, f5, f6, f7, f8, f9, f10, fun _ => rfl, f12, f13, f14, f15, f16, f17, f18, f19, f20, f21, f22, f23, f24, f25, f26, f27, f28, f29, f30, f31, f32, f33⟩
    case s12 =>
      rintro L a v w hv hg hL hd hcl ⟨e3, e7, e2, e4, e6, e8, hb, f0, f1, f2, f3, f4, f5, f6, f7, f8, f9, f10, f11, f12, f13, f14, f15, f16, f17, f18, f19, f20, f21, f22, f23, f24, f25, f26, f27, f28, f29, f30, f31, f32, f33⟩ K hK
      have g11 := f11 (hd 11 (by decide))
      refine step_do rfl ?_
      clear hv
      go_simp
      exact hK.out _ _ ⟨e3, e7, e2, e4, e6, e8, hb, f0, f1, f2, f3, f4, f5, f6, f7, f8, f9, f10, f11, fun _ => rfl, f13, f14, f15, f16, f17, f18, f19, f20, f21, f22, f23, f24, f25, f26, f27, f28, f29, f30, f31, f32, f33⟩
    case s13 =>
      rintro L a v w hv hg hL hd hcl ⟨e3, e7, e2, e4, e6, e8, hb, f0, f1, f2, f3, f4, f5, f6, f7, f8, f9, f10, f11, f12, f13, f14, f15, f16, f17, f18, f19, f20, f21, f22, f23, f24, f25, f26, f27, f28, f29, f30, f31, f32, f33⟩ K hK
      have g12 := f12 (hd 12 (by decide))
      refine step_want (j := 12) (s := 41) (b := true) rfl rfl ((hv 41).trans (f12 (hd 12 (by decide)))) ?_
      clear hv
      go_simp
      exact hK.out _ _ ⟨e3, e7, e2, e4, e6, e8, hb, f0, f1, f2, f3, f4, f5, f6, f7, f8, f9, f10, f11, f12, fun _ => rfl, f14, f15, f16, f17, f18, f19, f20, f21, f22, f23, f24, f25, f26, f27, f28, f29, f30, f31, f32, f33⟩
    case s14 =>
      rintro L a v w hv hg hL hd hcl ⟨e3, e7, e2, e4, e6, e8, hb, f0, f1, f2, f3, f4, f5, f6, f7, f8, f9, f10, f11, f12, f13, f14, f15, f16, f17, f18, f19, f20, f21, f22, f23, f24, f25, f26, f27, f28, f29, f30, f31, f32, f33⟩ K hK
      have g12 := f12 (hd 12 (by decide))
      have g13 := f13 (hd 13 (by decide))
      refine step_want (j := 12) (s := 41) (b := true) rfl rfl ((hv 41).trans (f12 (hd 12 (by decide)))) ?_
      clear hv
      go_simp
      exact hK.out _ _ ⟨e3, e7, e2, e4, e6, e8, hb, f0, f1, f2, f3, f4, f5, f6, f7, f8, f9, f10, f11, f12, f13, fun _ => rfl, f15, f16, f17, f18, f19, f20, f21, f22, f23, f24, f25, f26, f27, f28, f29, f30, f31, f32, f33⟩
    case s15 =>
      rintro L a v w hv hg hL hd hcl ⟨e3, e7, e2, e4, e6, e8, hb, f0, f1, f2, f3, f4, f5, f6, f7, f8, f9, f10, f11, f12, f13, f14, f15, f16, f17, f18, f19, f20, f21, f22, f23, f24, f25, f26, f27, f28, f29, f30, f31, f32, f33⟩ K hK
      have g12 := f12 (hd 12 (by decide))
      have g14 := f14 (hd 14 (by decide))
      refine step_want (j := 12) (s := 41) (b := true) rfl rfl ((hv 41).trans (f12 (hd 12 (by decide)))) ?_
      refine wp_ldr rowLa (.tmp 43) rfl ((hv 43).trans g14) ((kB2.below hb kB2.lt).plan exBs (i := 2) (by decide) : w.rangeAt gB 22 (#[.int .i64 2, .int .i64 3, .int .i64 6] : Array Value).toList) rfl ?_
      exact hK.out _ _ ⟨e3, e7, e2, e4, e6, e8, hb, f0, f1, f2, f3, f4, f5, f6, f7, f8, f9, f10, f11, f12, f13, f14, fun _ => rfl, f16, f17, f18, f19, f20, f21, f22, f23, f24, f25, f26, f27, f28, f29, f30, f31, f32, f33⟩
    case s16 =>
      rintro L a v w hv hg hL hd hcl ⟨e3, e7, e2, e4, e6, e8, hb, f0, f1, f2, f3, f4, f5, f6, f7, f8, f9, f10, f11, f12, f13, f14, f15, f16, f17, f18, f19, f20, f21, f22, f23, f24, f25, f26, f27, f28, f29, f30, f31, f32, f33⟩ K hK
      have g12 := f12 (hd 12 (by decide))
      refine step_want (j := 12) (s := 41) (b := true) rfl rfl ((hv 41).trans (f12 (hd 12 (by decide)))) ?_
      clear hv
      go_simp
      exact hK.out _ _ ⟨e3, e7, e2, e4, e6, e8, hb, f0, f1, f2, f3, f4, f5, f6, f7, f8, f9, f10, f11, f12, f13, f14, f15, fun _ => rfl, f17, f18, f19, f20, f21, f22, f23, f24, f25, f26, f27, f28, f29, f30, f31, f32, f33⟩
    case s17 =>
      rintro L a v w hv hg hL hd hcl ⟨e3, e7, e2, e4, e6, e8, hb, f0, f1, f2, f3, f4, f5, f6, f7, f8, f9, f10, f11, f12, f13, f14, f15, f16, f17, f18, f19, f20, f21, f22, f23, f24, f25, f26, f27, f28, f29, f30, f31, f32, f33⟩ K hK
      have g12 := f12 (hd 12 (by decide))
      have g15 := f15 (hd 15 (by decide))
      have g16 := f16 (hd 16 (by decide))
      refine step_want (j := 12) (s := 41) (b := true) rfl rfl ((hv 41).trans (f12 (hd 12 (by decide)))) ?_
      clear hv
      go_simp
      exact hK.out _ _ ⟨e3, e7, e2, e4, e6, e8, hb, f0, f1, f2, f3, f4, f5, f6, f7, f8, f9, f10, f11, f12, f13, f14, f15, f16, fun _ => rfl, f18, f19, f20, f21, f22, f23, f24, f25, f26, f27, f28, f29, f30, f31, f32, f33⟩
    case s18 =>
      rintro L a v w hv hg hL hd hcl ⟨e3, e7, e2, e4, e6, e8, hb, f0, f1, f2, f3, f4, f5, f6, f7, f8, f9, f10, f11, f12, f13, f14, f15, f16, f17, f18, f19, f20, f21, f22, f23, f24, f25, f26, f27, f28, f29, f30, f31, f32, f33⟩ K hK
      have g12 := f12 (hd 12 (by decide))
      have g17 := f17 (hd 17 (by decide))
      refine step_do rfl ?_
      clear hv
      go_simp
      exact hK.out _ _ ⟨e3, e7, e2, e4, e6, e8, hb, f0, f1, f2, f3, f4, f5, f6, f7, f8, f9, f10, f11, f12, f13, f14, f15, f16, f17, fun _ => rfl, f19, f20, f21, f22, f23, f24, f25, f26, f27, f28, f29, f30, f31, f32, f33⟩
    case s19 =>
      rintro L a v w hv hg hL hd hcl ⟨e3, e7, e2, e4, e6, e8, hb, f0, f1, f2, f3, f4, f5, f6, f7, f8, f9, f10, f11, f12, f13, f14, f15, f16, f17, f18, f19, f20, f21, f22, f23, f24, f25, f26, f27, f28, f29, f30, f31, f32, f33⟩ K hK
      have g12 := f12 (hd 12 (by decide))
      have g18 := f18 (hd 18 (by decide))
      refine step_do rfl ?_
      clear hv
      go_simp
      exact hK.out _ _ ⟨e3, e7, e2, e4, e6, e8, hb, f0, f1, f2, f3, f4, f5, f6, f7, f8, f9, f10, f11, f12, f13, f14, f15, f16, f17, f18, fun _ => rfl, f20, f21, f22, f23, f24, f25, f26, f27, f28, f29, f30, f31, f32, f33⟩
    case s20 =>
      rintro L a v w hv hg hL hd hcl ⟨e3, e7, e2, e4, e6, e8, hb, f0, f1, f2, f3, f4, f5, f6, f7, f8, f9, f10, f11, f12, f13, f14, f15, f16, f17, f18, f19, f20, f21, f22, f23, f24, f25, f26, f27, f28, f29, f30, f31, f32, f33⟩ K hK
      have g19 := f19 (hd 19 (by decide))
      refine step_want (j := 19) (s := 48) (b := true) rfl rfl ((hv 48).trans (f19 (hd 19 (by decide)))) ?_
      clear hv
      go_simp
      exact hK.out _ _ ⟨e3, e7, e2, e4, e6, e8, hb, f0, f1, f2, f3, f4, f5, f6, f7, f8, f9, f10, f11, f12, f13, f14, f15, f16, f17, f18, f19, fun _ => rfl, f21, f22, f23, f24, f25, f26, f27, f28, f29, f30, f31, f32, f33⟩
    case s21 =>
      rintro L a v w hv hg hL hd hcl ⟨e3, e7, e2, e4, e6, e8, hb, f0, f1, f2, f3, f4, f5, f6, f7, f8, f9, f10, f11, f12, f13, f14, f15, f16, f17, f18, f19, f20, f21, f22, f23, f24, f25, f26, f27, f28, f29, f30, f31, f32, f33⟩ K hK
      have g19 := f19 (hd 19 (by decide))
      have g20 := f20 (hd 20 (by decide))
      refine step_want (j := 19) (s := 48) (b := true) rfl rfl ((hv 48).trans (f19 (hd 19 (by decide)))) ?_
      clear hv
      go_simp
      exact hK.out _ _ ⟨e3, e7, e2, e4, e6, e8, hb, f0, f1, f2, f3, f4, f5, f6, f7, f8, f9, f10, f11, f12, f13, f14, f15, f16, f17, f18, f19, f20, fun _ => rfl, f22, f23, f24, f25, f26, f27, f28, f29, f30, f31, f32, f33⟩
    case s22 =>
      rintro L a v w hv hg hL hd hcl ⟨e3, e7, e2, e4, e6, e8, hb, f0, f1, f2, f3, f4, f5, f6, f7, f8, f9, f10, f11, f12, f13, f14, f15, f16, f17, f18, f19, f20, f21, f22, f23, f24, f25, f26, f27, f28, f29, f30, f31, f32, f33⟩ K hK
      have g19 := f19 (hd 19 (by decide))
      have g21 := f21 (hd 21 (by decide))
      refine step_do rfl ?_
      clear hv
      go_simp
      exact hK.out _ _ ⟨e3, e7, e2, e4, e6, e8, hb, f0, f1, f2, f3, f4, f5, f6, f7, f8, f9, f10, f11, f12, f13, f14, f15, f16, f17, f18, f19, f20, f21, fun _ => rfl, f23, f24, f25, f26, f27, f28, f29, f30, f31, f32, f33⟩
    case s23 =>
      rintro L a v w hv hg hL hd hcl ⟨e3, e7, e2, e4, e6, e8, hb, f0, f1, f2, f3, f4, f5, f6, f7, f8, f9, f10, f11, f12, f13, f14, f15, f16, f17, f18, f19, f20, f21, f22, f23, f24, f25, f26, f27, f28, f29, f30, f31, f32, f33⟩ K hK
      have g19 := f19 (hd 19 (by decide))
      have g22 := f22 (hd 22 (by decide))
      refine step_do rfl ?_
      clear hv
      go_simp
      exact hK.out _ _ ⟨e3, e7, e2, e4, e6, e8, hb, f0, f1, f2, f3, f4, f5, f6, f7, f8, f9, f10, f11, f12, f13, f14, f15, f16, f17, f18, f19, f20, f21, f22, fun _ => rfl, f24, f25, f26, f27, f28, f29, f30, f31, f32, f33⟩
    case s24 =>
      rintro L a v w hv hg hL hd hcl ⟨e3, e7, e2, e4, e6, e8, hb, f0, f1, f2, f3, f4, f5, f6, f7, f8, f9, f10, f11, f12, f13, f14, f15, f16, f17, f18, f19, f20, f21, f22, f23, f24, f25, f26, f27, f28, f29, f30, f31, f32, f33⟩ K hK
      have g23 := f23 (hd 23 (by decide))
      refine step_want (j := 23) (s := 52) (b := true) rfl rfl ((hv 52).trans (f23 (hd 23 (by decide)))) ?_
      clear hv
      go_simp
      exact hK.out _ _ ⟨e3, e7, e2, e4, e6, e8, hb, f0, f1, f2, f3, f4, f5, f6, f7, f8, f9, f10, f11, f12, f13, f14, f15, f16, f17, f18, f19, f20, f21, f22, f23, fun _ => rfl, f25, f26, f27, f28, f29, f30, f31, f32, f33⟩
    case s25 =>
      rintro L a v w hv hg hL hd hcl ⟨e3, e7, e2, e4, e6, e8, hb, f0, f1, f2, f3, f4, f5, f6, f7, f8, f9, f10, f11, f12, f13, f14, f15, f16, f17, f18, f19, f20, f21, f22, f23, f24, f25, f26, f27, f28, f29, f30, f31, f32, f33⟩ K hK
      have g23 := f23 (hd 23 (by decide))
      have g24 := f24 (hd 24 (by decide))
      refine step_want (j := 23) (s := 52) (b := true) rfl rfl ((hv 52).trans (f23 (hd 23 (by decide)))) ?_
      clear hv
      go_simp
      exact hK.out _ _ ⟨e3, e7, e2, e4, e6, e8, hb, f0, f1, f2, f3, f4, f5, f6, f7, f8, f9, f10, f11, f12, f13, f14, f15, f16, f17, f18, f19, f20, f21, f22, f23, f24, fun _ => rfl, f26, f27, f28, f29, f30, f31, f32, f33⟩
    case s26 =>
      rintro L a v w hv hg hL hd hcl ⟨e3, e7, e2, e4, e6, e8, hb, f0, f1, f2, f3, f4, f5, f6, f7, f8, f9, f10, f11, f12, f13, f14, f15, f16, f17, f18, f19, f20, f21, f22, f23, f24, f25, f26, f27, f28, f29, f30, f31, f32, f33⟩ K hK
      have g23 := f23 (hd 23 (by decide))
      have g25 := f25 (hd 25 (by decide))
      refine step_do rfl ?_
      clear hv
      go_simp
      exact hK.out _ _ ⟨e3, e7, e2, e4, e6, e8, hb, f0, f1, f2, f3, f4, f5, f6, f7, f8, f9, f10, f11, f12, f13, f14, f15, f16, f17, f18, f19, f20, f21, f22, f23, f24, f25, fun _ => rfl, f27, f28, f29, f30, f31, f32, f33⟩
    case s27 =>
      rintro L a v w hv hg hL hd hcl ⟨e3, e7, e2, e4, e6, e8, hb, f0, f1, f2, f3, f4, f5, f6, f7, f8, f9, f10, f11, f12, f13, f14, f15, f16, f17, f18, f19, f20, f21, f22, f23, f24, f25, f26, f27, f28, f29, f30, f31, f32, f33⟩ K hK
      have g23 := f23 (hd 23 (by decide))
      have g26 := f26 (hd 26 (by decide))
      refine step_do rfl ?_
      clear hv
      go_simp
      exact hK.out _ _ ⟨e3, e7, e2, e4, e6, e8, hb, f0, f1, f2, f3, f4, f5, f6, f7, f8, f9, f10, f11, f12, f13, f14, f15, f16, f17, f18, f19, f20, f21, f22, f23, f24, f25, f26, fun _ => rfl, f28, f29, f30, f31, f32, f33⟩
    case s28 =>
      rintro L a v w hv hg hL hd hcl ⟨e3, e7, e2, e4, e6, e8, hb, f0, f1, f2, f3, f4, f5, f6, f7, f8, f9, f10, f11, f12, f13, f14, f15, f16, f17, f18, f19, f20, f21, f22, f23, f24, f25, f26, f27, f28, f29, f30, f31, f32, f33⟩ K hK
      refine step_want (j := 27) (s := 56) (b := true) rfl rfl ((hv 56).trans (f27 (hd 27 (by decide)))) ?_
      refine wp_ld rowBo (.tmp 3) rfl ((hv 3).trans e3) (kB.below hb kB.lt) N49.out ?_
      exact hK.out _ _ ⟨e3, e7, e2, e4, e6, e8, hb, f0, f1, f2, f3, f4, f5, f6, f7, f8, f9, f10, f11, f12, f13, f14, f15, f16, f17, f18, f19, f20, f21, f22, f23, f24, f25, f26, f27, fun _ => rfl, f29, f30, f31, f32, f33⟩
    case s29 =>
      rintro L a v w hv hg hL hd hcl ⟨e3, e7, e2, e4, e6, e8, hb, f0, f1, f2, f3, f4, f5, f6, f7, f8, f9, f10, f11, f12, f13, f14, f15, f16, f17, f18, f19, f20, f21, f22, f23, f24, f25, f26, f27, f28, f29, f30, f31, f32, f33⟩ K hK
      have h28 := f28 (hd 28 (by decide))
      refine step_want (j := 27) (s := 56) (b := true) rfl rfl ((hv 56).trans (f27 (hd 27 (by decide)))) ?_
      clear hv
      go_simp
      refine (boFrom_any exBB exBs _ w (hQ.below hb)).mono ?_
      rintro e wy ⟨q, rfl, hq, bb⟩
      exact hK.out _ _ ⟨e3, e7, e2, e4, e6, e8, (hb.trans (bb.mono hb.size)), f0, f1, f2, f3, f4, f5, f6, f7, f8, f9, f10, f11, f12, f13, f14, f15, f16, f17, f18, f19, f20, f21, f22, f23, f24, f25, f26, f27, f28, fun _ => hq, f30, (fun h => (f31 h).below bb), f32, f33⟩
    case s30 =>
      rintro L a v w hv hg hL hd hcl ⟨e3, e7, e2, e4, e6, e8, hb, f0, f1, f2, f3, f4, f5, f6, f7, f8, f9, f10, f11, f12, f13, f14, f15, f16, f17, f18, f19, f20, f21, f22, f23, f24, f25, f26, f27, f28, f29, f30, f31, f32, f33⟩ K hK
      refine step_want (j := 27) (s := 56) (b := true) rfl rfl ((hv 56).trans (f27 (hd 27 (by decide)))) ?_
      refine wp_ld rowBo (.tmp 7) rfl ((hv 7).trans e7) (kC.below hb kC.lt) C49.out ?_
      exact hK.out _ _ ⟨e3, e7, e2, e4, e6, e8, hb, f0, f1, f2, f3, f4, f5, f6, f7, f8, f9, f10, f11, f12, f13, f14, f15, f16, f17, f18, f19, f20, f21, f22, f23, f24, f25, f26, f27, f28, f29, fun _ => rfl, f31, f32, f33⟩
    case s31 =>
      rintro L a v w hv hg hL hd hcl ⟨e3, e7, e2, e4, e6, e8, hb, f0, f1, f2, f3, f4, f5, f6, f7, f8, f9, f10, f11, f12, f13, f14, f15, f16, f17, f18, f19, f20, f21, f22, f23, f24, f25, f26, f27, f28, f29, f30, f31, f32, f33⟩ K hK
      have h30 := f30 (hd 30 (by decide))
      refine step_want (j := 27) (s := 56) (b := true) rfl rfl ((hv 56).trans (f27 (hd 27 (by decide)))) ?_
      clear hv
      go_simp
      refine (boFrom_any exBB exBs _ w (hQC.below hb)).mono ?_
      rintro e wy ⟨q, rfl, hq, bb⟩
      exact hK.out _ _ ⟨e3, e7, e2, e4, e6, e8, (hb.trans (bb.mono hb.size)), f0, f1, f2, f3, f4, f5, f6, f7, f8, f9, f10, f11, f12, f13, f14, f15, f16, f17, f18, f19, f20, f21, f22, f23, f24, f25, f26, f27, f28, (fun h => (f29 h).below bb), f30, fun _ => hq, f32, f33⟩
    case s32 =>
      rintro L a v w hv hg hL hd hcl ⟨e3, e7, e2, e4, e6, e8, hb, f0, f1, f2, f3, f4, f5, f6, f7, f8, f9, f10, f11, f12, f13, f14, f15, f16, f17, f18, f19, f20, f21, f22, f23, f24, f25, f26, f27, f28, f29, f30, f31, f32, f33⟩ K hK
      have h29 := f29 (hd 29 (by decide))
      have h31 := f31 (hd 31 (by decide))
      refine step_want (j := 27) (s := 56) (b := true) rfl rfl ((hv 56).trans (f27 (hd 27 (by decide)))) ?_
      clear hv
      go_simp
      refine (bsame_any exBB exBB exBs exBs exBw exBw _ _ w h29.fresh h31.fresh).mono ?_
      rintro e wy ⟨rfl, bb⟩
      rw [exB_same]
      exact hK.out _ _ ⟨e3, e7, e2, e4, e6, e8, (hb.trans (bb.mono hb.size)), f0, f1, f2, f3, f4, f5, f6, f7, f8, f9, f10, f11, f12, f13, f14, f15, f16, f17, f18, f19, f20, f21, f22, f23, f24, f25, f26, f27, f28, (fun h => (f29 h).below bb), f30, (fun h => (f31 h).below bb), fun _ => rfl, f33⟩
    case s33 =>
      rintro L a v w hv hg hL hd hcl ⟨e3, e7, e2, e4, e6, e8, hb, f0, f1, f2, f3, f4, f5, f6, f7, f8, f9, f10, f11, f12, f13, f14, f15, f16, f17, f18, f19, f20, f21, f22, f23, f24, f25, f26, f27, f28, f29, f30, f31, f32, f33⟩ K hK
      have g27 := f27 (hd 27 (by decide))
      refine step_do rfl ?_
      clear hv
      go_simp
      exact hK.out _ _ ⟨e3, e7, e2, e4, e6, e8, hb, f0, f1, f2, f3, f4, f5, f6, f7, f8, f9, f10, f11, f12, f13, f14, f15, f16, f17, f18, f19, f20, f21, f22, f23, f24, f25, f26, f27, f28, f29, f30, f31, f32, fun _ => rfl⟩
  case hend =>
  rintro L v wx hall ⟨e3, e7, e2, e4, e6, e8, hb, f0, f1, f2, f3, f4, f5, f6, f7, f8, f9, f10, f11, f12, f13, f14, f15, f16, f17, f18, f19, f20, f21, f22, f23, f24, f25, f26, f27, f28, f29, f30, f31, f32, f33⟩
  have hL : ∀ i, i < 34 → L i = true := hall
  have f0 := f0 (hL 0 (by decide))
  have f1 := f1 (hL 1 (by decide))
  have f2 := f2 (hL 2 (by decide))
  have f3 := f3 (hL 3 (by decide))
  have f4 := f4 (hL 4 (by decide))
  have f5 := f5 (hL 5 (by decide))
  have f6 := f6 (hL 6 (by decide))
  have f7 := f7 (hL 7 (by decide))
  have f8 := f8 (hL 8 (by decide))
  have f9 := f9 (hL 9 (by decide))
  have f10 := f10 (hL 10 (by decide))
  have f11 := f11 (hL 11 (by decide))
  have f12 := f12 (hL 12 (by decide))
  have f13 := f13 (hL 13 (by decide))
  have f14 := f14 (hL 14 (by decide))
  have f15 := f15 (hL 15 (by decide))
  have f16 := f16 (hL 16 (by decide))
  have f17 := f17 (hL 17 (by decide))
  have f18 := f18 (hL 18 (by decide))
  have f19 := f19 (hL 19 (by decide))
  have f20 := f20 (hL 20 (by decide))
  have f21 := f21 (hL 21 (by decide))
  have f22 := f22 (hL 22 (by decide))
  have f23 := f23 (hL 23 (by decide))
  have f24 := f24 (hL 24 (by decide))
  have f25 := f25 (hL 25 (by decide))
  have f26 := f26 (hL 26 (by decide))
  have f27 := f27 (hL 27 (by decide))
  have f28 := f28 (hL 28 (by decide))
  have f29 := f29 (hL 29 (by decide))
  have f30 := f30 (hL 30 (by decide))
  have f31 := f31 (hL 31 (by decide))
  have f32 := f32 (hL 32 (by decide))
  have f33 := f33 (hL 33 (by decide))
  simp only [finA, List.foldl_cons, List.foldl_nil, Act.put, List.setIfInBounds_toArray, List.set_cons_succ, List.set_cons_zero, f0, f1, f2, f3, f4, f5, f6, f7, f8, f10, f11, f12, f13, f14, f15, f16, f17, f18, f19, f20, f21, f22, f23, f24, f25, f26, f27, f28, f30, f33, f9, f32]
  have bb := hb
  have gb := gb.trans (bb.mono gb.size)
  clear e3 e7 e2 e4 e6 e8 f0 f1 f2 f3 f4 f5 f6 f7 f8 f9 f10 f11 f12 f13 f14 f15 f16 f17 f18 f19 f20 f21 f22 f23 f24 f25 f26 f27 f28 f29 f30 f31 f32 f33 hL hall hb bb
  show wpList _ _ _ [_] _ _
  go_wp2_with fail
  go_ret
  exact ⟨rfl, gb⟩
end Go.Proofs.Ytocoohpekpkmkaa

/- The walks of the document's tally: Right, own, Value. -/
namespace Go.Proofs.Ytocoohpekpkmkaa
set_option linter.unusedVariables false
set_option linter.unusedSimpArgs false
open Go.RowKit
open Tally
theorem not_in {x : Int} (h : ¬ inB x 0 top = true) : x < 0 ∨ top < x := by
  rw [inB_iff] at h; omega
set_option maxHeartbeats 1000000 in
theorem rright_any (l : List Int) (w : World) (hl : l.length = 16) :
    Calls Try.prog 93 #[.agg (tc l)] w fun e w' => e = .returned (.bool (rightB l)) ∧ Below w.heap.size w w' := by
  have k0 : Blk (w.alloc (.cells (tc l) 73)) w.heap.size 73 (tc l) := Blk.new w _ _
  have hb : Below w.heap.size w (w.alloc (.cells (tc l) 73)) := (Below.refl _ _).alloc (Nat.le_refl _) _
  have HL := Lib.hid hl
  clear hl
  go_enter Try.func93, Try.ntmps93
  go_upto_region 1 with fail
  refine nameW ?_
  intro wv hwv
  rw [← hwv] at k0 hb
  obtain ⟨g, hg⟩ : ∃ g, g = w.heap.size := ⟨_, rfl⟩
  rw [← hg] at k0 ⊢
  clear hwv hg
  go_wp2_with fail
  go_loop [3] (fun i => ∃ k : Nat, k ≤ 8 ∧ i = .int .i64 k ∧ ∀ j, j < k → inB (l.getD j 0) 0 top = true ∧ inB (l.getD (8 + j) 0) 0 top = true) (fun i => 8 - (intOf i).toNat)
  case atStart => exact ⟨0, by omega, rfl, fun j hj => absurd hj (by omega)⟩
  case round =>
    obtain ⟨k, hk, rfl, hall⟩ := hrel
    have HA := Lib.hid hall
    clear hall
    by_cases hlt : k < 8
    · have c1 := k0.tcell (i := k) (by rw [HL.out]; omega)
      have c2 := k0.tcell (i := 8 + k) (by rw [HL.out]; omega)
      obtain ⟨x, hx⟩ : ∃ x, l.getD k 0 = x := ⟨_, rfl⟩
      obtain ⟨y, hy⟩ : ∃ y, l.getD (8 + k) 0 = y := ⟨_, rfl⟩
      rw [hx] at c1
      rw [hy] at c2
      have HX := Lib.hid hx
      have HY := Lib.hid hy
      have hk0 : (0 : Int) ≤ (k : Int) := by omega
      have hk1 : (k : Int) < 8 := by omega
      clear hx hy
      have bad : inB x 0 top = false ∨ inB y 0 top = false → rightB l = false := fun h => by
        rcases h with h | h
        · exact right_bad (i := k) (by rw [HL.out]; omega) (by rw [HX.out]; exact h)
        · exact right_bad (i := 8 + k) (by rw [HL.out]; omega) (by rw [HY.out]; exact h)
      have BAD := Lib.hid bad
      clear bad
      by_cases hox : inB x 0 top = true
      · have hxb := (inB_iff _ _ _).1 hox
        have HOX := Lib.hid hox
        clear hox
        unfold top at hxb
        have d1 : decide (x < 0) = false := decide_eq_false (by omega)
        have d2 : decide (1099511627776 < x) = false := decide_eq_false (by omega)
        by_cases hoy : inB y 0 top = true
        · have hyb := (inB_iff _ _ _).1 hoy
          have HOY := Lib.hid hoy
          clear hoy
          unfold top at hyb
          have d3 : decide (y < 0) = false := decide_eq_false (by omega)
          have d4 : decide (1099511627776 < y) = false := decide_eq_false (by omega)
          go_wp2_with fail
          go_round
          case rel =>
            refine ⟨k + 1, by omega, by go_num, fun j hj => ?_⟩
            by_cases hjk : j = k
            · subst hjk; rw [HX.out, HY.out]; exact ⟨HOX.out, HOY.out⟩
            · exact HA.out j (by omega)
          case measure => simp [intOf]; omega
        · have hbd := Lib.hid (BAD.out (.inr (by simpa using hoy)))
          have hyb := not_in hoy
          unfold top at hyb
          clear hoy
          rcases hyb with hyb | hyb
          · have d3 : decide (y < 0) = true := decide_eq_true (by omega)
            go_wp2_with fail
            go_ret
            exact ⟨by rw [hbd.out]; rfl, hb⟩
          · have d3 : decide (y < 0) = false := decide_eq_false (by omega)
            have d4 : decide (1099511627776 < y) = true := decide_eq_true (by omega)
            go_wp2_with fail
            go_ret
            exact ⟨by rw [hbd.out]; rfl, hb⟩
      · have hbd := Lib.hid (BAD.out (.inl (by simpa using hox)))
        have hxb := not_in hox
        unfold top at hxb
        clear hox
        rcases hxb with hxb | hxb
        · have d3 : decide (x < 0) = true := decide_eq_true (by omega)
          go_wp2_with fail
          go_ret
          exact ⟨by rw [hbd.out]; rfl, hb⟩
        · have d3 : decide (x < 0) = false := decide_eq_false (by omega)
          have d4 : decide (1099511627776 < x) = true := decide_eq_true (by omega)
          go_wp2_with fail
          go_ret
          exact ⟨by rw [hbd.out]; rfl, hb⟩
    · have hr : rightB l = true := right_halves HL.out fun j hj => HA.out j (by omega)
      have HR := Lib.hid hr
      clear hr
      go_wp2_with fail
      go_ret
      exact ⟨by rw [HR.out]; rfl, hb⟩
end Go.Proofs.Ytocoohpekpkmkaa

/- The walk of the document's Right of boards. -/
namespace Go.Proofs.Ytocoohpekpkmkaa
set_option linter.unusedVariables false
set_option linter.unusedSimpArgs false
set_option maxRecDepth 100000
open Go.RowKit
open Reg (La Vl)
theorem planB_cases (x y z : Int) : (Bo.planB (x, y, z) = true ∧ ((x = 0 ∧ y = 0 ∧ z = 0) ∨ (¬ x = 0 ∧ ¬ x < 1 ∧ ¬ 1099511627776 < x ∧ ¬ y < 0 ∧ ¬ 7 < y ∧ ¬ z < 0 ∧ ¬ 1000 < z))) ∨
    (Bo.planB (x, y, z) = false ∧ (¬ x = 0 ∨ (x = 0 ∧ ¬ y = 0) ∨ (x = 0 ∧ y = 0 ∧ ¬ z = 0)) ∧
      (x < 1 ∨ (¬ x < 1 ∧ 1099511627776 < x) ∨ (¬ x < 1 ∧ ¬ 1099511627776 < x ∧ y < 0) ∨ (¬ x < 1 ∧ ¬ 1099511627776 < x ∧ ¬ y < 0 ∧ 7 < y) ∨ (¬ x < 1 ∧ ¬ 1099511627776 < x ∧ ¬ y < 0 ∧ ¬ 7 < y ∧ z < 0) ∨ (¬ x < 1 ∧ ¬ 1099511627776 < x ∧ ¬ y < 0 ∧ ¬ 7 < y ∧ ¬ z < 0 ∧ 1000 < z))) := by
  cases h : Bo.planB (x, y, z) with
  | true =>
    refine .inl ⟨rfl, ?_⟩
    rcases (Bo.planB_iff _).1 h with e | e
    · injection e with e1 e2
      injection e2 with e2 e3
      exact .inl ⟨e1, e2, e3⟩
    · simp only at e
      exact .inr (by omega)
  | false =>
    refine .inr ⟨rfl, ?_⟩
    have hn : ¬ (((x, y, z) : La) = (0, 0, 0) ∨ ((1 ≤ x ∧ x ≤ 1099511627776) ∧ (0 ≤ y ∧ y ≤ 7) ∧ 0 ≤ z ∧ z ≤ 1000)) := fun e => by
      rw [(Bo.planB_iff (x, y, z)).2 e] at h
      cases h
    have h1 : ¬ (x = 0 ∧ y = 0 ∧ z = 0) := fun e => hn (.inl (by rw [e.1, e.2.1, e.2.2]))
    have h2 : ¬ ((1 ≤ x ∧ x ≤ 1099511627776) ∧ (0 ≤ y ∧ y ≤ 7) ∧ 0 ≤ z ∧ z ≤ 1000) := fun e => hn (.inr e)
    clear hn h
    constructor
    · omega
    · omega
theorem all_take_bad {α : Type} {f : α → Bool} {l : List α} {k : Nat} {x : α} (hx : l[k]? = some x) (hf : f x = false) : l.all f = false := by
  rw [List.all_eq_false]
  exact ⟨x, List.mem_of_getElem? hx, by simp [hf]⟩
theorem all_of_at {α : Type} {f : α → Bool} {l : List α} (h : ∀ (j : Nat) (x : α), l[j]? = some x → f x = true) : l.all f = true := by
  rw [List.all_eq_true]
  intro x hx
  obtain ⟨j, hj, e⟩ := List.getElem_of_mem hx
  exact h j x (by rw [List.getElem?_eq_getElem hj, e])
set_option maxHeartbeats 1600000 in
theorem brright_any (b : Bd) (hs : Bo.Shaped b) (q : Value) (w : World) (hq : FrBo b q w) : Calls Try.prog 44 #[q] w (GiveBo w (Bo.rightB b)) := by
  obtain ⟨A, m, c, rfl, hr, hm⟩ := hq
  obtain ⟨R, hR⟩ : ∃ R, R = Bo.rightB b := ⟨_, rfl⟩
  rw [← hR]
  have HR := Lib.hid hR
  have HS := Lib.hid hs
  have HRV := Lib.hid fun (w' : World) (hb : Below w.heap.size w w') => hr.below hb
  have HM := Lib.hid hm
  have HN := Lib.hid hr.1
  have S24 := Lib.hid (plA_size hs.p)
  have BADP := Lib.hid (fun (k : Nat) (q : La) (hk : b.p[k]? = some q) (h : Bo.planB q = false) => (show R = false by rw [hR]; unfold Bo.rightB; rw [all_take_bad hk h]; rfl))
  clear hR hr hm hs
  go_enter Try.func44, Try.ntmps44
  go_upto_region 1 with fail
  refine nameW ?_
  intro wv hwv
  obtain ⟨g, hg⟩ : ∃ g, g = w.heap.size := ⟨_, rfl⟩
  rw [← hg]
  have k0 : Blk wv g 76 (bc b (.slice A m c)) := by rw [hwv, hg]; exact Blk.new w _ _
  have gb : Below w.heap.size w wv := by rw [hwv]; exact (Below.refl _ _).alloc (Nat.le_refl _) _
  have HG := Lib.hid hg
  clear hwv hg
  have hpl : wv.rangeAt g 16 (plA b.p).toList := k0.plans HS.out
  go_wp2_with ((with_reducible refine wpList_ldr rowRPl hpl S24.out ?_ ?_); rotate_left; (rfl))
  go_loopw [9] (fun i wr => ∃ k : Nat, k ≤ 8 ∧ i = .int .i64 (k : Nat) ∧ (∀ j x, j < k → b.p[j]? = some x → Bo.planB x = true) ∧ Blk wr g 76 (bc b (.slice A m c)) ∧ Below w.heap.size w wr) (fun i _ => 8 - (intOf i).toNat)
  case atStart => exact ⟨0, by omega, rfl, fun j x h => by omega, k0, gb⟩
  case round =>
    clear k0 gb hpl
    obtain ⟨k, hk, rfl, hall, k0, gb⟩ := hrel
    have HALL := Lib.hid hall
    clear hall
    by_cases hlt : k < 8
    · have hix := fun w' => run_indexRP w' b.p HS.out.p k hlt
      have hk1 : (k : Int) < 8 := by omega
      obtain ⟨q, hq⟩ : ∃ q, q = b.p.getD k (0, 0, 0) := ⟨_, rfl⟩
      have hget : b.p[k]? = some q := by rw [hq, List.getD_eq_getElem?_getD, List.getElem?_eq_getElem (by rw [HS.out.p]; exact hlt)]; rfl
      rw [← hq] at hix
      obtain ⟨x, y, z⟩ := q
      unfold v3 at hix
      simp only at hix
      have HIX := Lib.hid hix
      have HGET := Lib.hid hget
      have hpc := planB_cases x y z
      clear hix hq hget
      go_upto_region 4 with first
        | ((with_reducible refine wpList_ix (HIX.out _) ?_ ?_ ?_); rotate_left; (rfl); (rfl))
        | ((with_reducible refine wpList_st (cs := #[.int .i64 x, .int .i64 y, .int .i64 z]) rowRLa (Blk.new _ _ _) (th_size _ _ _) ?_ (th_one _ _ _) ?_ ?_ ?_); (rfl); rotate_left; (rfl); (rfl); intro w3 kq g3 z3)
      have bq : Below wr.heap.size wr w3 := new_below g3
      have k0 := k0.below bq k0.lt
      have gb := gb.trans (bq.mono gb.size)
      have q0 := kq.cell 0
      have q1 := kq.cell 1
      have q2 := kq.cell 2
      clear g3 z3 bq HIX
      rcases hpc with ⟨hp, hc⟩ | ⟨hp, hc, hd⟩
      · have HP := Lib.hid hp
        clear hp
        rcases hc with ⟨rfl, rfl, rfl⟩ | ⟨hx, h1, h2, h3, h4, h5, h6⟩
        all_goals
          go_wp2_with ((with_reducible refine wpList_ld rowRLa kq (th_size _ _ _) ?_ ?_); rotate_left; (rfl))
          go_roundw
          case rel => exact ⟨k + 1, by omega, by go_num, fun j v hj hv => by
            by_cases e : j = k
            · subst e; rw [HGET.out] at hv; injection hv with hv; subst hv; exact HP.out
            · exact HALL.out j v (by omega) hv, k0, gb⟩
          case measure => simp [intOf]; omega
      · have hr0 := BADP.out k _ HGET.out hp
        clear hp
        subst hr0
        rcases hc with hx | ⟨rfl, hx⟩ | ⟨rfl, rfl, hx⟩
        all_goals
          rcases hd with h1 | ⟨h1, h2⟩ | ⟨h1, h2, h3⟩ | ⟨h1, h2, h3, h4⟩ | ⟨h1, h2, h3, h4, h5⟩ | ⟨h1, h2, h3, h4, h5, h6⟩
        all_goals
          first
            | (exfalso; omega)
            | (go_wp2_with ((with_reducible refine wpList_ld rowRLa kq (th_size _ _ _) ?_ ?_); rotate_left; (rfl))
               go_ret
               exact ⟨rfl, gb⟩)
    · obtain rfl : k = 8 := by omega
      have hP : b.p.all Bo.planB = true := all_of_at fun j x hj => HALL.out j x (by have := (List.getElem?_eq_some_iff.1 hj).1; rw [HS.out.p] at this; exact this) hj
      obtain ⟨r3, hr3⟩ : ∃ r3, r3 = Tally.rightB b.t := ⟨_, rfl⟩
      obtain ⟨r4, hr4⟩ : ∃ r4, r4 = Reg.rightM b.u b.l := ⟨_, rfl⟩
      have HRR := Lib.hid (show R = ((b.l.all fun v => decide (0 ≤ v.2.2)) && r3 && r4) by rw [HR.out, hr3, hr4]; unfold Bo.rightB; rw [hP]; rfl)
      have HC3 := Lib.hid fun (w' : World) => (hr3 ▸ rright_any b.t w' HS.out.t : Calls Try.prog _ _ w' fun e w'' => e = .returned (.bool r3) ∧ Below w'.heap.size w' w'')
      have HC4 := Lib.hid fun (w' : World) (hb : Below w.heap.size w w') => (hr4 ▸ rright29_any b.u HS.out.u A m c b.l w' (HRV.out w' hb).size HM.out : Calls Try.prog _ _ w' fun e w'' => e = .returned (.bool r4) ∧ Below w'.heap.size w' w'')
      have c48 : wr.cell? ⟨g, 48, none⟩ = some (.slice A m c) := (k0.cell 48).trans (bc_last HS.out)
      have HT := Lib.hid (show (tc b.t).size = 16 by rw [tc_size, HS.out.t])
      have HU := Lib.hid (uc_size HS.out.u (.slice A m c))
      clear hP hr3 hr4 hk hlt HALL HR BADP
      go_wp2_with fail
      go_loopw [50] (fun i wq => ∃ k : Nat, k ≤ m ∧ i = .int .i64 (k : Nat) ∧ (∀ j x, j < k → b.l[j]? = some x → decide (0 ≤ x.2.2) = true) ∧ Blk wq g 76 (bc b (.slice A m c)) ∧ Below w.heap.size w wq) (fun i _ => m - (intOf i).toNat)
      case atStart => exact ⟨0, by omega, rfl, fun j x h => by omega, k0, gb⟩
      case round =>
        clear k0 gb c48
        obtain ⟨k, hk, rfl, hall, k0, gb⟩ := hrel
        have HALL := Lib.hid hall
        clear hall
        by_cases hlt : k < m
        · have hkl : k < b.l.length := by rw [← HN.out]; exact hlt
          obtain ⟨ad, hA, q5, q0, q1, q2⟩ := (HRV.out _ gb).2 k _ (List.getElem?_eq_getElem hkl)
          have hpk : b.l[k]? = some b.l[k] := List.getElem?_eq_getElem hkl
          have hk0 : (0 : Int) ≤ (k : Int) := by omega
          have hkn : (k : Int) < (m : Int) := by omega
          have hmb := HM.out
          generalize b.l[k] = d at *
          obtain ⟨x, y, z⟩ := d
          simp only at q0 q1 q2
          subst hA
          have HPK := Lib.hid hpk
          clear hpk
          by_cases hz : z < 0
          · have hr0 : R = false := by rw [HRR.out, all_take_bad HPK.out (decide_eq_false (by show ¬ 0 ≤ z; omega))]; rfl
            subst hr0
            go_wp2_with fail
            go_ret
            exact ⟨rfl, gb.alloc gb.size _⟩
          · have k1 := k0.alloc (.cells #[.int .i64 x, .int .i64 y, .int .i64 z] 105)
            have gb1 := gb.alloc gb.size (.cells #[.int .i64 x, .int .i64 y, .int .i64 z] 105)
            go_wp2_with fail
            go_roundw
            case rel => exact ⟨k + 1, by omega, by go_num, fun j v hj hv => by
              by_cases e : j = k
              · subst e; rw [HPK.out] at hv; injection hv with hv; subst hv; exact decide_eq_true (by show 0 ≤ z; omega)
              · exact HALL.out j v (by omega) hv, k1, gb1⟩
            case measure => simp [intOf]; omega
        · obtain rfl : k = m := by omega
          have hP : (b.l.all fun v => decide (0 ≤ v.2.2)) = true := all_of_at fun j x hj => HALL.out j x (by have := (List.getElem?_eq_some_iff.1 hj).1; rw [← HN.out] at this; exact this) hj
          have HR2 := Lib.hid (show R = (r3 && r4) by rw [HRR.out, hP]; rfl)
          clear hP
          go_wp2_with ((with_reducible refine wpList_ldr rowRT (k0.tal HS.out) HT.out ?_ ?_); rotate_left; (rfl))
          refine (HC3.out _).mono ?_
          rintro e w5 ⟨rfl, b5⟩
          have k0 := k0.below b5 k0.lt
          have gb := gb.trans (b5.mono gb.size)
          clear b5
          cases r3
          case false =>
            have hr0 : R = false := by rw [HR2.out]; rfl
            subst hr0
            go_wp2_with fail
            go_ret
            exact ⟨rfl, gb⟩
          case true =>
            have hr0 : R = r4 := by rw [HR2.out]; simp
            subst hr0
            go_wp2_with ((with_reducible refine wpList_ldrg rowRM (k0.notes HS.out) HU.out ?_ ?_ ?_); rotate_left; (rfl); (rfl))
            refine (HC4.out _ gb).mono ?_
            rintro e w6 ⟨rfl, b6⟩
            have gb := gb.trans (b6.mono gb.size)
            clear b6
            go_wp2_with fail
            go_ret
            exact ⟨rfl, gb⟩
end Go.Proofs.Ytocoohpekpkmkaa

/- The walk of the document's Note of boards. -/
namespace Go.Proofs.Ytocoohpekpkmkaa
set_option linter.unusedVariables false
set_option linter.unusedSimpArgs false
set_option maxRecDepth 100000
open Go.RowKit
open Reg (La Vl)
/-- the end of a call of the document's that gives a board and an error's number -/
def GiveBR (w : World) (x : Bd) (k : Int) (e : Ending) (w' : World) : Prop := ∃ q, e = .returned (.tuple #[q, .int .i64 k]) ∧ FrBo x q w' ∧ Below w.heap.size w w'
set_option maxHeartbeats 1600000 in
theorem brnote_any (b : Bd) (hs : Bo.Shaped b) (nd v : Int) (q : Value) (w : World) (hq : FrBo b q w) : Calls Try.prog 42 #[q, .int .i64 nd, .int .i64 v] w (GiveBR w (Bo.note b nd v).1 (Bo.note b nd v).2) := by
  obtain ⟨x, k, hx⟩ : ∃ x k, Bo.note b nd v = (x, k) := ⟨_, _, rfl⟩
  rw [hx]
  have HX := Lib.hid hx
  clear hx
  obtain ⟨A, m, c, rfl, hr, hm⟩ := hq
  obtain ⟨R, hR⟩ : ∃ R, R = Bo.rightB b := ⟨_, rfl⟩
  have HRT := Lib.hid fun (w' : World) (hb : Below w.heap.size w w') => (hR ▸ brright_any b hs (.agg (bc b (.slice A m c))) w' ⟨A, m, c, rfl, (hr.below hb).size, hm⟩ : Calls Try.prog _ _ w' (GiveBo w' R))
  have HS := Lib.hid hs
  have HR := Lib.hid hR
  have h49 := Lib.hid (bc_size (s := .slice A m c) hs)
  have z49 := Lib.hid (bc_size (s := .slice none 0 0) Bo.zero_shaped)
  have o49 := Lib.hid (bc_one (b := Bo.zero) (s := .slice none 0 0) rfl)
  have HBD := Lib.hid fun (w : World) => (show (Instr.build 76 #[]).run Try.prog w = .ok (.agg (bc Bo.zero (.slice none 0 0))) w by kernel_rfl)
  have HRV := Lib.hid fun (w' : World) (hb : Below w.heap.size w w') => hr.below hb
  have HM := Lib.hid hm
  clear hR hr hm hs
  go_enter Try.func42, Try.ntmps42
  go_upto_region 1 with fail
  refine nameW ?_
  intro wv hwv
  obtain ⟨g, hg⟩ : ∃ g, g = w.heap.size := ⟨_, rfl⟩
  rw [← hg]
  have k0 : Blk wv g 76 (bc b (.slice A m c)) := by rw [hwv, hg]; exact (Blk.new w _ _).alloc _
  have kz : Blk wv (g + 1) 76 (bc Bo.zero (.slice none 0 0)) := by
    have h := Blk.new (w.alloc (.cells (bc b (.slice A m c)) 76)) 76 (bc Bo.zero (.slice none 0 0))
    rw [zbo] at h ⊢
    rw [hwv, hg]
    simpa using h
  have gb : Below w.heap.size w wv := by rw [hwv]; exact ((Below.refl _ _).alloc (Nat.le_refl _) _).alloc (by simp) _
  have HG := Lib.hid hg
  clear hwv hg
  go_wp2_with ((with_reducible refine wpList_ld rowRBo k0 h49.out ?_ ?_); rotate_left; (rfl))
  refine (HRT.out wv gb).mono ?_
  rintro e w1 ⟨rfl, b1⟩
  have k0 := k0.below b1 k0.lt
  have kz := kz.below b1 kz.lt
  have gb := gb.trans (b1.mono gb.size)
  clear b1
  by_cases hbad : R = false ∨ v < 0
  · have HN := Lib.hid (show Bo.note b nd v = (Bo.zero, 2) by unfold Bo.note; rw [if_pos (by rcases hbad with h | h; exact .inl (by rw [← HR.out]; exact h); exact .inr h)])
    have hxk : Bo.zero = x ∧ 2 = k := by
      have := HX.out
      rw [HN.out] at this
      injection this with h1 h2
      exact ⟨h1, h2⟩
    obtain ⟨rfl, rfl⟩ := hxk
    cases R
    all_goals
      first
        | (have hv : v < 0 := by (rcases hbad with h | h; cases h; exact h))
        | skip
      clear hbad
      go_wp2_with first
        | ((refine wpList_bdV (v := .agg (bc Bo.zero (.slice none 0 0))) (w' := _) rfl 76 #[] rfl ?_ ?_); (simp only [List.map_toArray, List.map_nil]; exact HBD.out _))
        | ((with_reducible refine wpList_st rowRBo kz z49.out z49.out o49.out ?_ ?_ ?_); rotate_left; (rfl); (rfl); intro w5 k5 g5 z5)
      exact bodyPost_ret (v := .tuple #[.agg (bc Bo.zero (.slice none 0 0)), .int .i64 2]) (results_blk2 rfl rowRBo k5 z49.out rfl rfl) rfl ⟨_, rfl, ⟨none, 0, 0, rfl, RdV.nil _ _ _, by omega⟩, gb.grown g5 gb.size (fun q hq => by injection hq; have := HG.out; omega)⟩
  · obtain rfl : R = true := by
      cases R with
      | true => rfl
      | false => exact absurd (.inl rfl) hbad
    have hv : ¬ v < 0 := fun h => hbad (.inr h)
    have HV := Lib.hid hv
    clear hbad
    obtain ⟨u', l', kt, ht⟩ : ∃ u' l' kt, Reg.putM b.u b.l nd v = ((u', l'), kt) := ⟨_, _, _, rfl⟩
    have had := fun (w' : World) (hb : Below w.heap.size w w') => rputF (U := b.u) (l := b.l) HS.out.u nd v (q := .agg (uc b.u (.slice A m c))) (w := w') ⟨A, m, c, rfl, (HRV.out w' hb).size, HM.out⟩
    rw [ht] at had
    have HAD := Lib.hid had
    have HT := Lib.hid ht
    have u8 : u'.length = 8 := by
      have := putM_len8 HS.out.u b.l nd v
      rwa [ht] at this
    have U8 := Lib.hid u8
    have S9 := Lib.hid (uc_size HS.out.u (.slice A m c))
    clear had ht u8
    go_wp2_with ((with_reducible refine wpList_ldr rowRM (k0.notes HS.out) S9.out ?_ ?_); rotate_left; (rfl))
    refine (HAD.out w1 gb).mono ?_
    rintro e w4 ⟨_, rfl, ⟨A2, m2, c2, rfl, o2, hm2⟩, b1⟩
    have k0 := k0.below b1 k0.lt
    have kz := kz.below b1 kz.lt
    have gb := gb.trans (b1.mono gb.size)
    have HM2 := Lib.hid hm2
    have N9 := Lib.hid (uc_size U8.out (.slice A2 m2 c2))
    have O9 := Lib.hid (uc_one (U := u') (s := .slice A2 m2 c2) rfl)
    clear b1 hm2 HAD HRT
    go_upto_region 4 with ((with_reducible refine wpList_st rowRM (Blk.new _ _ _) N9.out ?_ O9.out ?_ ?_ ?_); (rfl); rotate_left; (rfl); (rfl); intro w5 kq g5 z5)
    have bq : Below w4.heap.size w4 w5 := new_below g5
    have k0 := k0.below bq k0.lt
    have kz := kz.below bq kz.lt
    have o2 := o2.below bq (Nat.le_refl _)
    have gb := gb.trans (bq.mono gb.size)
    clear g5 z5 bq
    by_cases hkt : kt = 0
    case neg =>
      have hxk : Bo.zero = x ∧ kt = k := by
        have := HX.out
        unfold Bo.note at this
        rw [if_neg (by rw [← HR.out]; simp [HV.out]), if_pos (by rw [HT.out]; exact hkt), HT.out] at this
        injection this with h1 h2
        exact ⟨h1, h2⟩
      obtain ⟨rfl, rfl⟩ := hxk
      have hq : (kt != 0) = true := by simpa using hkt
      clear HX HT
      go_wp2_with first
        | ((refine wpList_bdV (v := .agg (bc Bo.zero (.slice none 0 0))) (w' := _) rfl 76 #[] rfl ?_ ?_); (simp only [List.map_toArray, List.map_nil]; exact HBD.out _))
        | ((with_reducible refine wpList_st rowRBo kz z49.out z49.out o49.out ?_ ?_ ?_); rotate_left; (rfl); (rfl); intro w6 k6 g6 z6)
      exact bodyPost_ret (v := .tuple #[.agg (bc Bo.zero (.slice none 0 0)), .int .i64 kt]) (results_blk2 rfl rowRBo k6 z49.out rfl rfl) rfl ⟨_, rfl, ⟨none, 0, 0, rfl, RdV.nil _ _ _, by omega⟩, gb.grown g6 gb.size (fun q hq => by injection hq; have := HG.out; omega)⟩
    case pos =>
    subst hkt
    have hxk : ({ b with u := u', l := l' } : Bd) = x ∧ 0 = k := by
      have := HX.out
      unfold Bo.note at this
      rw [if_neg (by rw [← HR.out]; simp [HV.out]), if_neg (by rw [HT.out]; simp), HT.out] at this
      injection this with h1 h2
      exact ⟨h1, h2⟩
    obtain ⟨hx1, rfl⟩ := hxk
    have hth := k0.there_ (o := 40) (n := 9) (by rw [h49.out]; omega)
    go_upto_region 7 with first
      | ((with_reducible refine wpList_ld rowRM kq N9.out ?_ ?_); rotate_left; (rfl))
      | ((with_reducible refine wpList_str rowRM hth N9.out O9.out ?_ ?_ ?_); rotate_left; (rfl); (rfl); intro w7 hw7)
    have gS := cells_grown w5 g 40 (uc u' (.slice A2 m2 c2)).toList
    rw [← hw7] at gS
    have kb := k0.setN HS.out (l := l') (s' := .slice A2 m2 c2) U8.out
    have kb : Blk w7 g 76 (bc x (.slice A2 m2 c2)) := by rw [hw7, ← hx1]; exact kb
    have o7 := o2.grown gS (.inr (own_ne o2.2 k0 (by decide)))
    have kz := kz.grown gS (by intro e; injection e with e; omega)
    have gb := gb.grown gS gb.size (fun q hq => by injection hq; have := HG.out; omega)
    have hxs : Bo.Shaped x := by rw [← hx1]; exact ⟨HS.out.t, HS.out.p, U8.out⟩
    have hxl : x.l = l' := by rw [← hx1]
    rw [← hxl] at o7
    have X49 := Lib.hid (bc_size (s := .slice A2 m2 c2) hxs)
    have X1 := Lib.hid (bc_one (b := x) (s := .slice A2 m2 c2) rfl)
    clear gS hw7 hth k0 kq o2 hx1 hxl hxs
    go_wp2_with first
      | ((with_reducible refine wpList_ld rowRBo kb X49.out ?_ ?_); rotate_left; (rfl))
      | ((with_reducible refine wpList_st rowRBo kz X49.out z49.out X1.out ?_ ?_ ?_); rotate_left; (rfl); (rfl); intro w8 k8 g8 z8)
    have o8 := o7.grown g8 (.inr (own_ne o7.2 kz (by decide)))
    exact bodyPost_ret (v := .tuple #[.agg (bc x (.slice A2 m2 c2)), .int .i64 0]) (results_blk2 rfl rowRBo k8 X49.out rfl rfl) rfl ⟨_, rfl, ⟨A2, m2, c2, rfl, o8.rd, HM2.out⟩, gb.grown g8 gb.size (fun q hq => by injection hq; have := HG.out; omega)⟩
end Go.Proofs.Ytocoohpekpkmkaa

/- The walk of the document's Copy of boards. -/
namespace Go.Proofs.Ytocoohpekpkmkaa
set_option linter.unusedVariables false
set_option linter.unusedSimpArgs false
set_option maxRecDepth 100000
open Go.RowKit
open Reg (La Vl)
theorem OwnV.made0 {w : World} {g base : Nat} (h : Blk w g 105 #[]) (hb : base ≤ g) : OwnV 105 w base (some ⟨g, 0, none⟩) 0 0 [] :=
  ⟨rfl, rfl, .inr ⟨g, 0, #[], rfl, hb, h, Nat.le_refl _, Nat.zero_le _, rfl, rfl⟩⟩
set_option maxHeartbeats 1600000 in
theorem brcopy_any (b : Bd) (hs : Bo.Shaped b) (q : Value) (w : World) (hq : FrBo b q w) : Calls Try.prog 85 #[q] w (GiveBd 105 w b) := by
  obtain ⟨A, m, c, rfl, hr, hm⟩ := hq
  have HS := Lib.hid hs
  have h49 := Lib.hid (bc_size (s := .slice A m c) hs)
  have z49 := Lib.hid (bc_size (s := .slice none 0 0) Bo.zero_shaped)
  have HRV := Lib.hid fun (w' : World) (hb : Below w.heap.size w w') => hr.below hb
  have HM := Lib.hid hm
  clear hr hm hs
  go_enter Try.func85, Try.ntmps85
  go_upto_region 1 with fail
  refine nameW ?_
  intro wv hwv
  obtain ⟨g, hg⟩ : ∃ g, g = w.heap.size := ⟨_, rfl⟩
  rw [← hg]
  have k0 : Blk wv g 76 (bc b (.slice A m c)) := by rw [hwv, hg]; exact (Blk.new w _ _).alloc _
  have kz : Blk wv (g + 1) 76 (bc Bo.zero (.slice none 0 0)) := by
    have h := Blk.new (w.alloc (.cells (bc b (.slice A m c)) 76)) 76 (bc Bo.zero (.slice none 0 0))
    rw [zbo] at h ⊢
    rw [hwv, hg]
    simpa using h
  have gb : Below w.heap.size w wv := by rw [hwv]; exact ((Below.refl _ _).alloc (Nat.le_refl _) _).alloc (by simp) _
  have HG := Lib.hid hg
  clear hwv hg
  have c48 : (wv.alloc (.cells #[] 105)).cell? ⟨g, 48, none⟩ = some (.slice A m c) := ((k0.alloc _).cell 48).trans (bc_last HS.out)
  have hm1 := HM.out
  have hle : 0 + m ≤ 1000000000000 := by omega
  have HRA := Lib.hid (HRV.out (wv.alloc (.cells #[] 105)) (gb.alloc gb.size _))
  have HRD := Lib.hid HRA.out.rd
  have HLN := Lib.hid HRA.out.1
  go_wp2_with (at_builtin; refine wpList_appRV rfl (.tmp 3) (.tmp 6) rfl rfl (OwnV.made0 (base := wv.heap.size) (Blk.new wv _ _) (Nat.le_refl _)) (news := b.l) rfl HRD.out HLN.out hle (le_alloc (Nat.le_refl _) _) ?_)
  intro A' c' w2 o2 g2 _ b2
  have bw := ((Below.refl wv.heap.size wv).alloc (Nat.le_refl _) (.cells #[] 105)).trans b2
  have k0 := k0.below bw k0.lt
  have kz := kz.below bw kz.lt
  have gb := gb.trans (bw.mono gb.size)
  have hne : A'.map (·.block) ≠ some g := own_ne o2.2 k0 (by decide)
  have c482 : w2.cell? ⟨g, 48, none⟩ = some (.slice A m c) := (k0.cell 48).trans (bc_last HS.out)
  have f48 := k0.free 48
  have k1 := k0.set_ 48 (.slice A' m c')
  rw [bc_set48 HS.out] at k1
  have kz1 := kz.far (p := ⟨g, 48, none⟩) (by show g + 1 ≠ g; omega) (.slice A' m c')
  have o1 := o2.setFar (p := ⟨g, 48, none⟩) hne (.slice A' m c')
  have gb1 := gb.setCell (p := ⟨g, 48, none⟩) (by show w.heap.size ≤ g; have := HG.out; omega) (.slice A' m c')
  have N49 := Lib.hid (bc_size (b := b) (s := .slice A' m c') HS.out)
  have N1 := Lib.hid (bc_one (b := b) (s := .slice A' m c') rfl)
  clear g2 b2 bw k0 kz gb c48 o2 hne
  generalize hW : w2.setCell ⟨g, 48, none⟩ (.slice A' m c') = w3 at k1 kz1 o1 gb1
  have HW := Lib.hid hW
  clear hW
  go_upto_region 2 with fail
  rw [HW.out]
  clear c482 f48
  go_wp2_with first
    | ((with_reducible refine wpList_ld rowRBo k1 N49.out ?_ ?_); rotate_left; (rfl))
    | ((with_reducible refine wpList_st rowRBo kz1 N49.out z49.out N1.out ?_ ?_ ?_); rotate_left; (rfl); (rfl); intro w5 k5 g5 z5)
  have hne : A'.map (·.block) ≠ some (g + 1) := own_ne o1.2 kz1 (by decide)
  exact bodyPost_ret (v := .agg (bc b (.slice A' m c'))) (results_blk rfl rowRBo k5 N49.out rfl) rfl ⟨_, rfl, ⟨A', m, c', rfl, (o1.grown g5 (.inr hne)).mono (Nat.zero_le _), HM.out⟩, gb1.grown g5 gb1.size (fun q hq => by injection hq; have := HG.out; omega)⟩
end Go.Proofs.Ytocoohpekpkmkaa

/- The walks of the document's tally: Add. -/
namespace Go.Proofs.Ytocoohpekpkmkaa
set_option linter.unusedVariables false
set_option linter.unusedSimpArgs false
open Go.RowKit
open Tally
set_option maxHeartbeats 2000000 in
theorem radd_any (l : List Int) (node n : Int) (w : World) (hl : l.length = 16) :
    Calls Try.prog 84 #[.agg (tc l), .int .i64 node, .int .i64 n] w (AddEnd w l node n) := by
  have hs : (tc l).size = 16 := by rw [tc_size, hl]
  have HS := Lib.hid hs
  have HL := Lib.hid hl
  clear hl hs
  by_cases hr : rightB l = true
  case neg =>
    have hr2 : rightB l = false := by simpa using hr
    have HA := Lib.hid (add_bad (l := l) (node := node) (n := n) (.inl hr2))
    have HR := Lib.hid hr2
    clear hr hr2
    go_enter Try.func84, Try.ntmps84
    go_upto_region 1 with fail
    refine nameW ?_
    intro wv hwv
    obtain ⟨g, hg⟩ : ∃ g, g = w.heap.size := ⟨_, rfl⟩
    rw [← hg]
    have k0 : Blk wv g 73 (tc l) := by rw [hwv, hg]; exact (Blk.new w _ _).alloc _
    have k1 : Blk wv (g + 1) 73 (tc zero) := by
      have h := Blk.new (w.alloc (.cells (tc l) 73)) 73 (tc zero)
      rw [zero_tc] at h
      rw [zero_tc, hwv, hg]
      simpa using h
    have hb : Below w.heap.size w wv := by rw [hwv]; exact ((Below.refl _ _).alloc (Nat.le_refl _) _).alloc (by simp) _
    have hgw : w.heap.size ≤ g := by omega
    clear hwv hg
    go_wp2_with ((with_reducible refine wpList_ld rowR k0 HS.out ?_ ?_); rotate_left; (rfl))
    refine (rright_any l wv HL.out).mono ?_
    rw [HR.out]
    rintro e w1 ⟨rfl, h1⟩
    have k0a := k0.below h1 k0.lt
    have k1a := k1.below h1 k1.lt
    have b1 := hb.trans (h1.mono hb.size)
    clear k0 k1 hb h1
    go_wp2_with ((with_reducible refine wpList_st rowR k1a zero_size zero_size (tc_one zero) ?_ ?_ ?_); rotate_left; (rfl); (rfl); intro w2 k2 g2 z2)
    have b2 := b1.grown g2 b1.size (fun q hq => by injection hq; omega)
    exact bodyPost_ret (v := .tuple #[.agg (tc zero), .int .i64 2]) (results_blk2 rfl rowR k2 zero_size rfl rfl) rfl ⟨by rw [HA.out], b2⟩
  have HR := Lib.hid hr
  clear hr
  by_cases hn : inB node 0 7 = true
  case neg =>
    have hn2 : inB node 0 7 = false := by simpa using hn
    have HA := Lib.hid (add_bad (l := l) (node := node) (n := n) (.inr (.inl hn2)))
    have hnb := (inB_false _ _ _).1 hn2
    clear hn hn2
    by_cases h0 : node < 0
    · have d1 : decide (node < 0) = true := decide_eq_true h0
      clear hnb h0
      go_enter Try.func84, Try.ntmps84
      go_upto_region 1 with fail
      refine nameW ?_
      intro wv hwv
      obtain ⟨g, hg⟩ : ∃ g, g = w.heap.size := ⟨_, rfl⟩
      rw [← hg]
      have k0 : Blk wv g 73 (tc l) := by rw [hwv, hg]; exact (Blk.new w _ _).alloc _
      have k1 : Blk wv (g + 1) 73 (tc zero) := by
        have h := Blk.new (w.alloc (.cells (tc l) 73)) 73 (tc zero)
        rw [zero_tc] at h
        rw [zero_tc, hwv, hg]
        simpa using h
      have hb : Below w.heap.size w wv := by rw [hwv]; exact ((Below.refl _ _).alloc (Nat.le_refl _) _).alloc (by simp) _
      have hgw : w.heap.size ≤ g := by omega
      clear hwv hg
      go_wp2_with ((with_reducible refine wpList_ld rowR k0 HS.out ?_ ?_); rotate_left; (rfl))
      refine (rright_any l wv HL.out).mono ?_
      rw [HR.out]
      rintro e w1 ⟨rfl, h1⟩
      have k0a := k0.below h1 k0.lt
      have k1a := k1.below h1 k1.lt
      have b1 := hb.trans (h1.mono hb.size)
      clear k0 k1 hb h1
      go_wp2_with ((with_reducible refine wpList_st rowR k1a zero_size zero_size (tc_one zero) ?_ ?_ ?_); rotate_left; (rfl); (rfl); intro w2 k2 g2 z2)
      have b2 := b1.grown g2 b1.size (fun q hq => by injection hq; omega)
      exact bodyPost_ret (v := .tuple #[.agg (tc zero), .int .i64 2]) (results_blk2 rfl rowR k2 zero_size rfl rfl) rfl ⟨by rw [HA.out], b2⟩
    · have d1 : decide (node < 0) = false := decide_eq_false h0
      have d2 : decide (7 < node) = true := decide_eq_true (by omega)
      clear hnb h0
      go_enter Try.func84, Try.ntmps84
      go_upto_region 1 with fail
      refine nameW ?_
      intro wv hwv
      obtain ⟨g, hg⟩ : ∃ g, g = w.heap.size := ⟨_, rfl⟩
      rw [← hg]
      have k0 : Blk wv g 73 (tc l) := by rw [hwv, hg]; exact (Blk.new w _ _).alloc _
      have k1 : Blk wv (g + 1) 73 (tc zero) := by
        have h := Blk.new (w.alloc (.cells (tc l) 73)) 73 (tc zero)
        rw [zero_tc] at h
        rw [zero_tc, hwv, hg]
        simpa using h
      have hb : Below w.heap.size w wv := by rw [hwv]; exact ((Below.refl _ _).alloc (Nat.le_refl _) _).alloc (by simp) _
      have hgw : w.heap.size ≤ g := by omega
      clear hwv hg
      go_wp2_with ((with_reducible refine wpList_ld rowR k0 HS.out ?_ ?_); rotate_left; (rfl))
      refine (rright_any l wv HL.out).mono ?_
      rw [HR.out]
      rintro e w1 ⟨rfl, h1⟩
      have k0a := k0.below h1 k0.lt
      have k1a := k1.below h1 k1.lt
      have b1 := hb.trans (h1.mono hb.size)
      clear k0 k1 hb h1
      go_wp2_with ((with_reducible refine wpList_st rowR k1a zero_size zero_size (tc_one zero) ?_ ?_ ?_); rotate_left; (rfl); (rfl); intro w2 k2 g2 z2)
      have b2 := b1.grown g2 b1.size (fun q hq => by injection hq; omega)
      exact bodyPost_ret (v := .tuple #[.agg (tc zero), .int .i64 2]) (results_blk2 rfl rowR k2 zero_size rfl rfl) rfl ⟨by rw [HA.out], b2⟩
  have hnb := (inB_iff _ _ _).1 hn
  have HN := Lib.hid hn
  have dn1 : decide (node < 0) = false := decide_eq_false (by omega)
  have dn2 : decide (7 < node) = false := decide_eq_false (by omega)
  clear hn
  by_cases hm : inB n (-top) top = true
  case neg =>
    have hm2 : inB n (-top) top = false := by simpa using hm
    have HA := Lib.hid (add_bad (l := l) (node := node) (n := n) (.inr (.inr hm2)))
    have hmb := (inB_false _ _ _).1 hm2
    unfold top at hmb
    clear hm hm2
    by_cases h0 : n < -1099511627776
    · have d1 : decide (n < -1099511627776) = true := decide_eq_true h0
      clear hmb h0
      go_enter Try.func84, Try.ntmps84
      go_upto_region 1 with fail
      refine nameW ?_
      intro wv hwv
      obtain ⟨g, hg⟩ : ∃ g, g = w.heap.size := ⟨_, rfl⟩
      rw [← hg]
      have k0 : Blk wv g 73 (tc l) := by rw [hwv, hg]; exact (Blk.new w _ _).alloc _
      have k1 : Blk wv (g + 1) 73 (tc zero) := by
        have h := Blk.new (w.alloc (.cells (tc l) 73)) 73 (tc zero)
        rw [zero_tc] at h
        rw [zero_tc, hwv, hg]
        simpa using h
      have hb : Below w.heap.size w wv := by rw [hwv]; exact ((Below.refl _ _).alloc (Nat.le_refl _) _).alloc (by simp) _
      have hgw : w.heap.size ≤ g := by omega
      clear hwv hg
      go_wp2_with ((with_reducible refine wpList_ld rowR k0 HS.out ?_ ?_); rotate_left; (rfl))
      refine (rright_any l wv HL.out).mono ?_
      rw [HR.out]
      rintro e w1 ⟨rfl, h1⟩
      have k0a := k0.below h1 k0.lt
      have k1a := k1.below h1 k1.lt
      have b1 := hb.trans (h1.mono hb.size)
      clear k0 k1 hb h1
      go_wp2_with ((with_reducible refine wpList_st rowR k1a zero_size zero_size (tc_one zero) ?_ ?_ ?_); rotate_left; (rfl); (rfl); intro w2 k2 g2 z2)
      have b2 := b1.grown g2 b1.size (fun q hq => by injection hq; omega)
      exact bodyPost_ret (v := .tuple #[.agg (tc zero), .int .i64 2]) (results_blk2 rfl rowR k2 zero_size rfl rfl) rfl ⟨by rw [HA.out], b2⟩
    · have d1 : decide (n < -1099511627776) = false := decide_eq_false h0
      have d2 : decide (1099511627776 < n) = true := decide_eq_true (by omega)
      clear hmb h0
      go_enter Try.func84, Try.ntmps84
      go_upto_region 1 with fail
      refine nameW ?_
      intro wv hwv
      obtain ⟨g, hg⟩ : ∃ g, g = w.heap.size := ⟨_, rfl⟩
      rw [← hg]
      have k0 : Blk wv g 73 (tc l) := by rw [hwv, hg]; exact (Blk.new w _ _).alloc _
      have k1 : Blk wv (g + 1) 73 (tc zero) := by
        have h := Blk.new (w.alloc (.cells (tc l) 73)) 73 (tc zero)
        rw [zero_tc] at h
        rw [zero_tc, hwv, hg]
        simpa using h
      have hb : Below w.heap.size w wv := by rw [hwv]; exact ((Below.refl _ _).alloc (Nat.le_refl _) _).alloc (by simp) _
      have hgw : w.heap.size ≤ g := by omega
      clear hwv hg
      go_wp2_with ((with_reducible refine wpList_ld rowR k0 HS.out ?_ ?_); rotate_left; (rfl))
      refine (rright_any l wv HL.out).mono ?_
      rw [HR.out]
      rintro e w1 ⟨rfl, h1⟩
      have k0a := k0.below h1 k0.lt
      have k1a := k1.below h1 k1.lt
      have b1 := hb.trans (h1.mono hb.size)
      clear k0 k1 hb h1
      go_wp2_with ((with_reducible refine wpList_st rowR k1a zero_size zero_size (tc_one zero) ?_ ?_ ?_); rotate_left; (rfl); (rfl); intro w2 k2 g2 z2)
      have b2 := b1.grown g2 b1.size (fun q hq => by injection hq; omega)
      exact bodyPost_ret (v := .tuple #[.agg (tc zero), .int .i64 2]) (results_blk2 rfl rowR k2 zero_size rfl rfl) rfl ⟨by rw [HA.out], b2⟩
  have hmb := (inB_iff _ _ _).1 hm
  have HM := Lib.hid hm
  unfold top at hmb
  have dm1 : decide (n < -1099511627776) = false := decide_eq_false (by omega)
  have dm2 : decide (1099511627776 < n) = false := decide_eq_false (by omega)
  clear hm
  obtain ⟨k, rfl⟩ := Int.eq_ofNat_of_zero_le hnb.1
  have hk7 : k < 8 := by omega
  by_cases hneg : n < 0
  · obtain ⟨p, rfl⟩ : ∃ p : Int, n = -p := ⟨-n, by omega⟩
    have hp : 1 ≤ p ∧ p ≤ 1099511627776 := by omega
    have d3 : decide (0 ≤ -p) = false := decide_eq_false (by omega)
    have hsl : slot (k : Int) (-p) = 8 + k := by unfold slot; split <;> omega
    have ham : amt (-p) = p := by unfold amt; split <;> omega
    have hok := add_ok (l := l) HR.out HN.out HM.out
    have hfu := add_full (l := l) HR.out HN.out HM.out
    rw [hsl, ham] at hok hfu
    unfold top at hok hfu
    clear hsl ham
    have hxb := right_at HR.out (8 + k)
    unfold top at hxb
    have hst := fun x => right_set (x := x) HR.out (i := 8 + k) (by rw [HL.out]; omega)
    obtain ⟨x, hx⟩ : ∃ x, l.getD (8 + k) 0 = x := ⟨_, rfl⟩
    rw [hx] at hok hfu hxb
    have HX := Lib.hid hx
    have HST := Lib.hid (hst (x + p))
    clear hx hst
    by_cases hov : 1099511627776 - p < x
    · have HA := Lib.hid (hfu hov)
      have hin : inB (x + p) 0 top = false := (inB_false _ _ _).2 (by unfold top; omega)
      rw [hin] at HST
      clear hin
      clear hok hfu hmb hnb hneg hov
      go_enter Try.func84, Try.ntmps84
      go_upto_region 1 with fail
      refine nameW ?_
      intro wv hwv
      obtain ⟨g, hg⟩ : ∃ g, g = w.heap.size := ⟨_, rfl⟩
      rw [← hg]
      have k0 : Blk wv g 73 (tc l) := by rw [hwv, hg]; exact (Blk.new w _ _).alloc _
      have k1 : Blk wv (g + 1) 73 (tc zero) := by
        have h := Blk.new (w.alloc (.cells (tc l) 73)) 73 (tc zero)
        rw [zero_tc] at h
        rw [zero_tc, hwv, hg]
        simpa using h
      have hb : Below w.heap.size w wv := by rw [hwv]; exact ((Below.refl _ _).alloc (Nat.le_refl _) _).alloc (by simp) _
      have hgw : w.heap.size ≤ g := by omega
      clear hwv hg
      go_wp2_with ((with_reducible refine wpList_ld rowR k0 HS.out ?_ ?_); rotate_left; (rfl))
      refine (rright_any l wv HL.out).mono ?_
      rw [HR.out]
      rintro e w1 ⟨rfl, h1⟩
      have k0a := k0.below h1 k0.lt
      have k1a := k1.below h1 k1.lt
      have b1 := hb.trans (h1.mono hb.size)
      clear k0 k1 hb h1
      have c1 := k0a.tcell (i := 8 + k) (by rw [HL.out]; omega)
      rw [HX.out] at c1
      have c2 := k0a.free (8 + k)
      have k0b : Blk (w1.setCell ⟨g, 8 + k, none⟩ (.int .i64 (x + p))) g 73 (tc (l.set (8 + k) (x + p))) := by
        have h := k0a.set_ (8 + k) (.int .i64 (x + p))
        rwa [tc_set] at h
      have k1b : Blk (w1.setCell ⟨g, 8 + k, none⟩ (.int .i64 (x + p))) (g + 1) 73 (tc zero) := k1a.far (p := ⟨g, 8 + k, none⟩) (by simp) _
      have HL2 : Hid ((l.set (8 + k) (x + p)).length = 16) := by
        have : (l.set (8 + k) (x + p)).length = 16 := by rw [List.length_set, HL.out]
        exact Lib.hid this
      have hs2 : (tc (l.set (8 + k) (x + p))).size = 16 := by rw [tc_size, HL2.out]
      have HS2 := Lib.hid hs2
      have b1b : Below w.heap.size w (w1.setCell ⟨g, 8 + k, none⟩ (.int .i64 (x + p))) := b1.setCell hgw _
      have HONE := Lib.hid (tc_one (l.set (8 + k) (x + p)))
      clear k0a k1a b1 hs2
      generalize l.set (8 + k) (x + p) = m at *
      go_wp2_with ((with_reducible refine wpList_ld rowR k0b HS2.out ?_ ?_); rotate_left; (rfl))
      refine (rright_any m _ HL2.out).mono ?_
      rw [HST.out]
      rintro e w3 ⟨rfl, h3⟩
      have k0c := k0b.below h3 k0b.lt
      have k1c := k1b.below h3 k1b.lt
      have b3 := b1b.trans (h3.mono b1b.size)
      clear k0b k1b b1b h3
      go_wp2_with ((with_reducible refine wpList_st rowR k1c zero_size zero_size (tc_one zero) ?_ ?_ ?_); rotate_left; (rfl); (rfl); intro w4 k4 g4 z4)
      have b4 := b3.grown g4 b3.size (fun q hq => by injection hq; omega)
      exact bodyPost_ret (v := .tuple #[.agg (tc zero), .int .i64 7]) (results_blk2 rfl rowR k4 zero_size rfl rfl) rfl ⟨by rw [HA.out], b4⟩
    · have HA := Lib.hid (hok hov)
      have hin : inB (x + p) 0 top = true := (inB_iff _ _ _).2 (by unfold top; omega)
      rw [hin] at HST
      clear hin
      clear hok hfu hmb hnb hneg hov
      go_enter Try.func84, Try.ntmps84
      go_upto_region 1 with fail
      refine nameW ?_
      intro wv hwv
      obtain ⟨g, hg⟩ : ∃ g, g = w.heap.size := ⟨_, rfl⟩
      rw [← hg]
      have k0 : Blk wv g 73 (tc l) := by rw [hwv, hg]; exact (Blk.new w _ _).alloc _
      have k1 : Blk wv (g + 1) 73 (tc zero) := by
        have h := Blk.new (w.alloc (.cells (tc l) 73)) 73 (tc zero)
        rw [zero_tc] at h
        rw [zero_tc, hwv, hg]
        simpa using h
      have hb : Below w.heap.size w wv := by rw [hwv]; exact ((Below.refl _ _).alloc (Nat.le_refl _) _).alloc (by simp) _
      have hgw : w.heap.size ≤ g := by omega
      clear hwv hg
      go_wp2_with ((with_reducible refine wpList_ld rowR k0 HS.out ?_ ?_); rotate_left; (rfl))
      refine (rright_any l wv HL.out).mono ?_
      rw [HR.out]
      rintro e w1 ⟨rfl, h1⟩
      have k0a := k0.below h1 k0.lt
      have k1a := k1.below h1 k1.lt
      have b1 := hb.trans (h1.mono hb.size)
      clear k0 k1 hb h1
      have c1 := k0a.tcell (i := 8 + k) (by rw [HL.out]; omega)
      rw [HX.out] at c1
      have c2 := k0a.free (8 + k)
      have k0b : Blk (w1.setCell ⟨g, 8 + k, none⟩ (.int .i64 (x + p))) g 73 (tc (l.set (8 + k) (x + p))) := by
        have h := k0a.set_ (8 + k) (.int .i64 (x + p))
        rwa [tc_set] at h
      have k1b : Blk (w1.setCell ⟨g, 8 + k, none⟩ (.int .i64 (x + p))) (g + 1) 73 (tc zero) := k1a.far (p := ⟨g, 8 + k, none⟩) (by simp) _
      have HL2 : Hid ((l.set (8 + k) (x + p)).length = 16) := by
        have : (l.set (8 + k) (x + p)).length = 16 := by rw [List.length_set, HL.out]
        exact Lib.hid this
      have hs2 : (tc (l.set (8 + k) (x + p))).size = 16 := by rw [tc_size, HL2.out]
      have HS2 := Lib.hid hs2
      have b1b : Below w.heap.size w (w1.setCell ⟨g, 8 + k, none⟩ (.int .i64 (x + p))) := b1.setCell hgw _
      have HONE := Lib.hid (tc_one (l.set (8 + k) (x + p)))
      clear k0a k1a b1 hs2
      generalize l.set (8 + k) (x + p) = m at *
      go_wp2_with ((with_reducible refine wpList_ld rowR k0b HS2.out ?_ ?_); rotate_left; (rfl))
      refine (rright_any m _ HL2.out).mono ?_
      rw [HST.out]
      rintro e w3 ⟨rfl, h3⟩
      have k0c := k0b.below h3 k0b.lt
      have k1c := k1b.below h3 k1b.lt
      have b3 := b1b.trans (h3.mono b1b.size)
      clear k0b k1b b1b h3
      go_wp2_with (first
        | ((with_reducible refine wpList_ld rowR k0c HS2.out ?_ ?_); rotate_left; (rfl))
        | ((with_reducible refine wpList_st rowR k1c HS2.out zero_size HONE.out ?_ ?_ ?_); rotate_left; (rfl); (rfl); intro w4 k4 g4 z4))
      have b4 := b3.grown g4 b3.size (fun q hq => by injection hq; omega)
      exact bodyPost_ret (v := .tuple #[.agg (tc m), .int .i64 0]) (results_blk2 rfl rowR k4 HS2.out rfl rfl) rfl ⟨by rw [HA.out], b4⟩
  · have hp : 0 ≤ n ∧ n ≤ 1099511627776 := by omega
    have d3 : decide (0 ≤ n) = true := decide_eq_true (by omega)
    have hsl : slot (k : Int) (n) = k := by unfold slot; split <;> omega
    have ham : amt (n) = n := by unfold amt; split <;> omega
    have hok := add_ok (l := l) HR.out HN.out HM.out
    have hfu := add_full (l := l) HR.out HN.out HM.out
    rw [hsl, ham] at hok hfu
    unfold top at hok hfu
    clear hsl ham
    have hxb := right_at HR.out (k)
    unfold top at hxb
    have hst := fun x => right_set (x := x) HR.out (i := k) (by rw [HL.out]; omega)
    obtain ⟨x, hx⟩ : ∃ x, l.getD (k) 0 = x := ⟨_, rfl⟩
    rw [hx] at hok hfu hxb
    have HX := Lib.hid hx
    have HST := Lib.hid (hst (x + n))
    clear hx hst
    by_cases hov : 1099511627776 - n < x
    · have HA := Lib.hid (hfu hov)
      have hin : inB (x + n) 0 top = false := (inB_false _ _ _).2 (by unfold top; omega)
      rw [hin] at HST
      clear hin
      clear hok hfu hmb hnb hneg hov
      go_enter Try.func84, Try.ntmps84
      go_upto_region 1 with fail
      refine nameW ?_
      intro wv hwv
      obtain ⟨g, hg⟩ : ∃ g, g = w.heap.size := ⟨_, rfl⟩
      rw [← hg]
      have k0 : Blk wv g 73 (tc l) := by rw [hwv, hg]; exact (Blk.new w _ _).alloc _
      have k1 : Blk wv (g + 1) 73 (tc zero) := by
        have h := Blk.new (w.alloc (.cells (tc l) 73)) 73 (tc zero)
        rw [zero_tc] at h
        rw [zero_tc, hwv, hg]
        simpa using h
      have hb : Below w.heap.size w wv := by rw [hwv]; exact ((Below.refl _ _).alloc (Nat.le_refl _) _).alloc (by simp) _
      have hgw : w.heap.size ≤ g := by omega
      clear hwv hg
      go_wp2_with ((with_reducible refine wpList_ld rowR k0 HS.out ?_ ?_); rotate_left; (rfl))
      refine (rright_any l wv HL.out).mono ?_
      rw [HR.out]
      rintro e w1 ⟨rfl, h1⟩
      have k0a := k0.below h1 k0.lt
      have k1a := k1.below h1 k1.lt
      have b1 := hb.trans (h1.mono hb.size)
      clear k0 k1 hb h1
      have c1 := k0a.tcell (i := k) (by rw [HL.out]; omega)
      rw [HX.out] at c1
      have c2 := k0a.free (k)
      have k0b : Blk (w1.setCell ⟨g, k, none⟩ (.int .i64 (x + n))) g 73 (tc (l.set (k) (x + n))) := by
        have h := k0a.set_ (k) (.int .i64 (x + n))
        rwa [tc_set] at h
      have k1b : Blk (w1.setCell ⟨g, k, none⟩ (.int .i64 (x + n))) (g + 1) 73 (tc zero) := k1a.far (p := ⟨g, k, none⟩) (by simp) _
      have HL2 : Hid ((l.set (k) (x + n)).length = 16) := by
        have : (l.set (k) (x + n)).length = 16 := by rw [List.length_set, HL.out]
        exact Lib.hid this
      have hs2 : (tc (l.set (k) (x + n))).size = 16 := by rw [tc_size, HL2.out]
      have HS2 := Lib.hid hs2
      have b1b : Below w.heap.size w (w1.setCell ⟨g, k, none⟩ (.int .i64 (x + n))) := b1.setCell hgw _
      have HONE := Lib.hid (tc_one (l.set (k) (x + n)))
      clear k0a k1a b1 hs2
      generalize l.set (k) (x + n) = m at *
      go_wp2_with ((with_reducible refine wpList_ld rowR k0b HS2.out ?_ ?_); rotate_left; (rfl))
      refine (rright_any m _ HL2.out).mono ?_
      rw [HST.out]
      rintro e w3 ⟨rfl, h3⟩
      have k0c := k0b.below h3 k0b.lt
      have k1c := k1b.below h3 k1b.lt
      have b3 := b1b.trans (h3.mono b1b.size)
      clear k0b k1b b1b h3
      go_wp2_with ((with_reducible refine wpList_st rowR k1c zero_size zero_size (tc_one zero) ?_ ?_ ?_); rotate_left; (rfl); (rfl); intro w4 k4 g4 z4)
      have b4 := b3.grown g4 b3.size (fun q hq => by injection hq; omega)
      exact bodyPost_ret (v := .tuple #[.agg (tc zero), .int .i64 7]) (results_blk2 rfl rowR k4 zero_size rfl rfl) rfl ⟨by rw [HA.out], b4⟩
    · have HA := Lib.hid (hok hov)
      have hin : inB (x + n) 0 top = true := (inB_iff _ _ _).2 (by unfold top; omega)
      rw [hin] at HST
      clear hin
      clear hok hfu hmb hnb hneg hov
      go_enter Try.func84, Try.ntmps84
      go_upto_region 1 with fail
      refine nameW ?_
      intro wv hwv
      obtain ⟨g, hg⟩ : ∃ g, g = w.heap.size := ⟨_, rfl⟩
      rw [← hg]
      have k0 : Blk wv g 73 (tc l) := by rw [hwv, hg]; exact (Blk.new w _ _).alloc _
      have k1 : Blk wv (g + 1) 73 (tc zero) := by
        have h := Blk.new (w.alloc (.cells (tc l) 73)) 73 (tc zero)
        rw [zero_tc] at h
        rw [zero_tc, hwv, hg]
        simpa using h
      have hb : Below w.heap.size w wv := by rw [hwv]; exact ((Below.refl _ _).alloc (Nat.le_refl _) _).alloc (by simp) _
      have hgw : w.heap.size ≤ g := by omega
      clear hwv hg
      go_wp2_with ((with_reducible refine wpList_ld rowR k0 HS.out ?_ ?_); rotate_left; (rfl))
      refine (rright_any l wv HL.out).mono ?_
      rw [HR.out]
      rintro e w1 ⟨rfl, h1⟩
      have k0a := k0.below h1 k0.lt
      have k1a := k1.below h1 k1.lt
      have b1 := hb.trans (h1.mono hb.size)
      clear k0 k1 hb h1
      have c1 := k0a.tcell (i := k) (by rw [HL.out]; omega)
      rw [HX.out] at c1
      have c2 := k0a.free (k)
      have k0b : Blk (w1.setCell ⟨g, k, none⟩ (.int .i64 (x + n))) g 73 (tc (l.set (k) (x + n))) := by
        have h := k0a.set_ (k) (.int .i64 (x + n))
        rwa [tc_set] at h
      have k1b : Blk (w1.setCell ⟨g, k, none⟩ (.int .i64 (x + n))) (g + 1) 73 (tc zero) := k1a.far (p := ⟨g, k, none⟩) (by simp) _
      have HL2 : Hid ((l.set (k) (x + n)).length = 16) := by
        have : (l.set (k) (x + n)).length = 16 := by rw [List.length_set, HL.out]
        exact Lib.hid this
      have hs2 : (tc (l.set (k) (x + n))).size = 16 := by rw [tc_size, HL2.out]
      have HS2 := Lib.hid hs2
      have b1b : Below w.heap.size w (w1.setCell ⟨g, k, none⟩ (.int .i64 (x + n))) := b1.setCell hgw _
      have HONE := Lib.hid (tc_one (l.set (k) (x + n)))
      clear k0a k1a b1 hs2
      generalize l.set (k) (x + n) = m at *
      go_wp2_with ((with_reducible refine wpList_ld rowR k0b HS2.out ?_ ?_); rotate_left; (rfl))
      refine (rright_any m _ HL2.out).mono ?_
      rw [HST.out]
      rintro e w3 ⟨rfl, h3⟩
      have k0c := k0b.below h3 k0b.lt
      have k1c := k1b.below h3 k1b.lt
      have b3 := b1b.trans (h3.mono b1b.size)
      clear k0b k1b b1b h3
      go_wp2_with (first
        | ((with_reducible refine wpList_ld rowR k0c HS2.out ?_ ?_); rotate_left; (rfl))
        | ((with_reducible refine wpList_st rowR k1c HS2.out zero_size HONE.out ?_ ?_ ?_); rotate_left; (rfl); (rfl); intro w4 k4 g4 z4))
      have b4 := b3.grown g4 b3.size (fun q hq => by injection hq; omega)
      exact bodyPost_ret (v := .tuple #[.agg (tc m), .int .i64 0]) (results_blk2 rfl rowR k4 HS2.out rfl rfl) rfl ⟨by rw [HA.out], b4⟩
end Go.Proofs.Ytocoohpekpkmkaa

/- The walk of the document's Wrote of boards. -/
namespace Go.Proofs.Ytocoohpekpkmkaa
set_option linter.unusedVariables false
set_option linter.unusedSimpArgs false
set_option maxRecDepth 100000
open Go.RowKit
open Reg (La Vl)
set_option maxHeartbeats 2000000 in
theorem brwrote_any (b : Bd) (hs : Bo.Shaped b) (nd wk rp : Int) (q : Value) (w0 : World) (hq : FrBo b q w0) : Calls Try.prog 40 #[q, .int .i64 nd, .int .i64 wk, .int .i64 rp] w0 (GiveBR w0 (Bo.wrote b nd wk rp).1 (Bo.wrote b nd wk rp).2) := by
  obtain ⟨x, k, hx⟩ : ∃ x k, Bo.wrote b nd wk rp = (x, k) := ⟨_, _, rfl⟩
  rw [hx]
  have HX := Lib.hid hx
  clear hx
  obtain ⟨A, m, c, rfl, hr, hm⟩ := hq
  obtain ⟨R, hR⟩ : ∃ R, R = Bo.rightB b := ⟨_, rfl⟩
  have HRT := Lib.hid fun (w' : World) (hb : Below w0.heap.size w0 w') => (hR ▸ brright_any b hs (.agg (bc b (.slice A m c))) w' ⟨A, m, c, rfl, (hr.below hb).size, hm⟩ : Calls Try.prog _ _ w' (GiveBo w' R))
  have HS := Lib.hid hs
  have HR := Lib.hid hR
  have h49 := Lib.hid (bc_size (s := .slice A m c) hs)
  have z49 := Lib.hid (bc_size (s := .slice none 0 0) Bo.zero_shaped)
  have o49 := Lib.hid (bc_one (b := Bo.zero) (s := .slice none 0 0) rfl)
  have HBD := Lib.hid fun (w0 : World) => (show (Instr.build 76 #[]).run Try.prog w0 = .ok (.agg (bc Bo.zero (.slice none 0 0))) w0 by kernel_rfl)
  have HRV := Lib.hid fun (w' : World) (hb : Below w0.heap.size w0 w') => hr.below hb
  have HM := Lib.hid hm
  clear hR hr hm hs
  have bad : R = false ∨ nd < 0 ∨ 7 < nd ∨ wk < 0 ∨ 7 < wk ∨ rp < 0 ∨ 1000 < rp → Bo.zero = x ∧ 2 = k := fun h => by
    have := HX.out
    unfold Bo.wrote at this
    rw [if_pos] at this
    · injection this with h1 h2
      exact ⟨h1, h2⟩
    · have e : ∀ n lo hi : Int, (n < lo ∨ hi < n) → Reg.inB n lo hi = false := fun n lo hi h => by
        cases hq : Reg.inB n lo hi with
        | false => rfl
        | true => have := (Reg.inB_iff n lo hi).1 hq; omega
      rcases h with h | h | h | h | h | h | h
      · exact .inl (by rw [← HR.out]; exact h)
      · exact .inr (.inl (e _ _ _ (.inl h)))
      · exact .inr (.inl (e _ _ _ (.inr h)))
      · exact .inr (.inr (.inl (e _ _ _ (.inl h))))
      · exact .inr (.inr (.inl (e _ _ _ (.inr h))))
      · exact .inr (.inr (.inr (e _ _ _ (.inl h))))
      · exact .inr (.inr (.inr (e _ _ _ (.inr h))))
  have BAD := Lib.hid bad
  clear bad
  go_enter Try.func40, Try.ntmps40
  go_upto_region 1 with fail
  refine nameW ?_
  intro wv hwv
  obtain ⟨g, hg⟩ : ∃ g, g = w0.heap.size := ⟨_, rfl⟩
  rw [← hg]
  have k0 : Blk wv g 76 (bc b (.slice A m c)) := by rw [hwv, hg]; exact (Blk.new w0 _ _).alloc _
  have kz : Blk wv (g + 1) 76 (bc Bo.zero (.slice none 0 0)) := by
    have h := Blk.new (w0.alloc (.cells (bc b (.slice A m c)) 76)) 76 (bc Bo.zero (.slice none 0 0))
    rw [zbo] at h ⊢
    rw [hwv, hg]
    simpa using h
  have gb : Below w0.heap.size w0 wv := by rw [hwv]; exact ((Below.refl _ _).alloc (Nat.le_refl _) _).alloc (by simp) _
  have HG := Lib.hid hg
  clear hwv hg
  go_wp2_with ((with_reducible refine wpList_ld rowRBo k0 h49.out ?_ ?_); rotate_left; (rfl))
  refine (HRT.out wv gb).mono ?_
  rintro e w1 ⟨rfl, b1⟩
  have k0 := k0.below b1 k0.lt
  have kz := kz.below b1 kz.lt
  have gb := gb.trans (b1.mono gb.size)
  clear b1 HRT
  cases R
  case false =>
    obtain ⟨rfl, rfl⟩ := BAD.out (.inl rfl)
    clear BAD HX
    go_wp2_with first
      | ((refine wpList_bdV (v := .agg (bc Bo.zero (.slice none 0 0))) (w' := _) rfl 76 #[] rfl ?_ ?_); (simp only [List.map_toArray, List.map_nil]; exact HBD.out _))
      | ((with_reducible refine wpList_st rowRBo kz z49.out z49.out o49.out ?_ ?_ ?_); rotate_left; (rfl); (rfl); intro w6 k6 g6 z6)
    exact bodyPost_ret (v := .tuple #[.agg (bc Bo.zero (.slice none 0 0)), .int .i64 2]) (results_blk2 rfl rowRBo k6 z49.out rfl rfl) rfl ⟨_, rfl, ⟨none, 0, 0, rfl, RdV.nil _ _ _, by omega⟩, gb.grown g6 gb.size (fun q hq => by injection hq; have := HG.out; omega)⟩
  case true =>
  by_cases c0 : nd < 0
  · obtain ⟨rfl, rfl⟩ := BAD.out (.inr (.inl c0))
    clear BAD HX
    go_wp2_with first
      | ((refine wpList_bdV (v := .agg (bc Bo.zero (.slice none 0 0))) (w' := _) rfl 76 #[] rfl ?_ ?_); (simp only [List.map_toArray, List.map_nil]; exact HBD.out _))
      | ((with_reducible refine wpList_st rowRBo kz z49.out z49.out o49.out ?_ ?_ ?_); rotate_left; (rfl); (rfl); intro w6 k6 g6 z6)
    exact bodyPost_ret (v := .tuple #[.agg (bc Bo.zero (.slice none 0 0)), .int .i64 2]) (results_blk2 rfl rowRBo k6 z49.out rfl rfl) rfl ⟨_, rfl, ⟨none, 0, 0, rfl, RdV.nil _ _ _, by omega⟩, gb.grown g6 gb.size (fun q hq => by injection hq; have := HG.out; omega)⟩
  by_cases c1 : 7 < nd
  · obtain ⟨rfl, rfl⟩ := BAD.out (.inr (.inr (.inl c1)))
    clear BAD HX
    go_wp2_with first
      | ((refine wpList_bdV (v := .agg (bc Bo.zero (.slice none 0 0))) (w' := _) rfl 76 #[] rfl ?_ ?_); (simp only [List.map_toArray, List.map_nil]; exact HBD.out _))
      | ((with_reducible refine wpList_st rowRBo kz z49.out z49.out o49.out ?_ ?_ ?_); rotate_left; (rfl); (rfl); intro w6 k6 g6 z6)
    exact bodyPost_ret (v := .tuple #[.agg (bc Bo.zero (.slice none 0 0)), .int .i64 2]) (results_blk2 rfl rowRBo k6 z49.out rfl rfl) rfl ⟨_, rfl, ⟨none, 0, 0, rfl, RdV.nil _ _ _, by omega⟩, gb.grown g6 gb.size (fun q hq => by injection hq; have := HG.out; omega)⟩
  by_cases c2 : wk < 0
  · obtain ⟨rfl, rfl⟩ := BAD.out (.inr (.inr (.inr (.inl c2))))
    clear BAD HX
    go_wp2_with first
      | ((refine wpList_bdV (v := .agg (bc Bo.zero (.slice none 0 0))) (w' := _) rfl 76 #[] rfl ?_ ?_); (simp only [List.map_toArray, List.map_nil]; exact HBD.out _))
      | ((with_reducible refine wpList_st rowRBo kz z49.out z49.out o49.out ?_ ?_ ?_); rotate_left; (rfl); (rfl); intro w6 k6 g6 z6)
    exact bodyPost_ret (v := .tuple #[.agg (bc Bo.zero (.slice none 0 0)), .int .i64 2]) (results_blk2 rfl rowRBo k6 z49.out rfl rfl) rfl ⟨_, rfl, ⟨none, 0, 0, rfl, RdV.nil _ _ _, by omega⟩, gb.grown g6 gb.size (fun q hq => by injection hq; have := HG.out; omega)⟩
  by_cases c3 : 7 < wk
  · obtain ⟨rfl, rfl⟩ := BAD.out (.inr (.inr (.inr (.inr (.inl c3)))))
    clear BAD HX
    go_wp2_with first
      | ((refine wpList_bdV (v := .agg (bc Bo.zero (.slice none 0 0))) (w' := _) rfl 76 #[] rfl ?_ ?_); (simp only [List.map_toArray, List.map_nil]; exact HBD.out _))
      | ((with_reducible refine wpList_st rowRBo kz z49.out z49.out o49.out ?_ ?_ ?_); rotate_left; (rfl); (rfl); intro w6 k6 g6 z6)
    exact bodyPost_ret (v := .tuple #[.agg (bc Bo.zero (.slice none 0 0)), .int .i64 2]) (results_blk2 rfl rowRBo k6 z49.out rfl rfl) rfl ⟨_, rfl, ⟨none, 0, 0, rfl, RdV.nil _ _ _, by omega⟩, gb.grown g6 gb.size (fun q hq => by injection hq; have := HG.out; omega)⟩
  by_cases c4 : rp < 0
  · obtain ⟨rfl, rfl⟩ := BAD.out (.inr (.inr (.inr (.inr (.inr (.inl c4))))))
    clear BAD HX
    go_wp2_with first
      | ((refine wpList_bdV (v := .agg (bc Bo.zero (.slice none 0 0))) (w' := _) rfl 76 #[] rfl ?_ ?_); (simp only [List.map_toArray, List.map_nil]; exact HBD.out _))
      | ((with_reducible refine wpList_st rowRBo kz z49.out z49.out o49.out ?_ ?_ ?_); rotate_left; (rfl); (rfl); intro w6 k6 g6 z6)
    exact bodyPost_ret (v := .tuple #[.agg (bc Bo.zero (.slice none 0 0)), .int .i64 2]) (results_blk2 rfl rowRBo k6 z49.out rfl rfl) rfl ⟨_, rfl, ⟨none, 0, 0, rfl, RdV.nil _ _ _, by omega⟩, gb.grown g6 gb.size (fun q hq => by injection hq; have := HG.out; omega)⟩
  by_cases c5 : 1000 < rp
  · obtain ⟨rfl, rfl⟩ := BAD.out (.inr (.inr (.inr (.inr (.inr (.inr (c5)))))))
    clear BAD HX
    go_wp2_with first
      | ((refine wpList_bdV (v := .agg (bc Bo.zero (.slice none 0 0))) (w' := _) rfl 76 #[] rfl ?_ ?_); (simp only [List.map_toArray, List.map_nil]; exact HBD.out _))
      | ((with_reducible refine wpList_st rowRBo kz z49.out z49.out o49.out ?_ ?_ ?_); rotate_left; (rfl); (rfl); intro w6 k6 g6 z6)
    exact bodyPost_ret (v := .tuple #[.agg (bc Bo.zero (.slice none 0 0)), .int .i64 2]) (results_blk2 rfl rowRBo k6 z49.out rfl rfl) rfl ⟨_, rfl, ⟨none, 0, 0, rfl, RdV.nil _ _ _, by omega⟩, gb.grown g6 gb.size (fun q hq => by injection hq; have := HG.out; omega)⟩
  clear BAD
  obtain ⟨n, hn8, rfl⟩ : ∃ n : Nat, n < 8 ∧ wk = n := ⟨wk.toNat, by omega, by omega⟩
  have hgood : ¬ (Bo.rightB b = false ∨ Reg.inB nd 0 7 = false ∨ Reg.inB (n : Int) 0 7 = false ∨ Reg.inB rp 0 1000 = false) := by
    have e : ∀ x lo hi : Int, lo ≤ x → x ≤ hi → Reg.inB x lo hi ≠ false := fun x lo hi h1 h2 h => by
      rw [(Reg.inB_iff x lo hi).2 ⟨h1, h2⟩] at h; cases h
    rintro (h | h | h | h)
    · rw [← HR.out] at h; cases h
    · exact e _ _ _ (by omega) (by omega) h
    · exact e _ _ _ (by omega) (by omega) h
    · exact e _ _ _ (by omega) (by omega) h
  have HGD := Lib.hid hgood
  clear hgood
  obtain ⟨t', kt, ht⟩ : ∃ t' kt, Tally.addL b.t nd 1 = (t', kt) := ⟨_, _, rfl⟩
  have had := fun w' => radd_any b.t nd 1 w' HS.out.t
  unfold AddEnd at had
  rw [ht] at had
  have HAD := Lib.hid had
  have HT := Lib.hid ht
  have t16 : t'.length = 16 := by
    have := (Tally.add_len HS.out.t nd 1).1
    rwa [ht] at this
  have T16 := Lib.hid t16
  have S16 := Lib.hid (show (tc b.t).size = 16 by rw [tc_size, HS.out.t])
  have N16 := Lib.hid (show (tc t').size = 16 by rw [tc_size, T16.out])
  have N1 := Lib.hid (tc_one t')
  clear had ht t16
  go_wp2_with ((with_reducible refine wpList_ldr rowRT (k0.tal HS.out) S16.out ?_ ?_); rotate_left; (rfl))
  refine (HAD.out w1).mono ?_
  rintro e w2 ⟨rfl, b1⟩
  have k0 := k0.below b1 k0.lt
  have kz := kz.below b1 kz.lt
  have gb := gb.trans (b1.mono gb.size)
  clear b1 HAD
  go_upto_region 4 with ((with_reducible refine wpList_st rowRT (Blk.new _ _ _) N16.out ?_ N1.out ?_ ?_ ?_); (rfl); rotate_left; (rfl); (rfl); intro w3 kX g3 z3)
  have bq : Below w2.heap.size w2 w3 := new_below g3
  have hgX : g + 1 < w2.heap.size := kz.lt
  generalize hX : w2.heap.size = X at kX bq hgX
  have k0 := k0.below (hX ▸ bq) k0.lt
  have kz := kz.below (hX ▸ bq) kz.lt
  have gb := gb.trans ((hX ▸ bq : Below w2.heap.size w2 w3).mono gb.size)
  clear g3 z3 bq hX
  by_cases hkt : kt = 0
  case neg =>
    have hxk : Bo.zero = x ∧ kt = k := by
      have := HX.out
      unfold Bo.wrote at this
      rw [if_neg HGD.out, if_pos (by rw [HT.out]; exact hkt), HT.out] at this
      injection this with h1 h2
      exact ⟨h1, h2⟩
    obtain ⟨rfl, rfl⟩ := hxk
    have hq : (kt != 0) = true := by simpa using hkt
    clear HX HT
    go_wp2_with first
      | ((refine wpList_bdV (v := .agg (bc Bo.zero (.slice none 0 0))) (w' := _) rfl 76 #[] rfl ?_ ?_); (simp only [List.map_toArray, List.map_nil]; exact HBD.out _))
      | ((with_reducible refine wpList_st rowRBo kz z49.out z49.out o49.out ?_ ?_ ?_); rotate_left; (rfl); (rfl); intro w6 k6 g6 z6)
    exact bodyPost_ret (v := .tuple #[.agg (bc Bo.zero (.slice none 0 0)), .int .i64 kt]) (results_blk2 rfl rowRBo k6 z49.out rfl rfl) rfl ⟨_, rfl, ⟨none, 0, 0, rfl, RdV.nil _ _ _, by omega⟩, gb.grown g6 gb.size (fun q hq => by injection hq; have := HG.out; omega)⟩
  case pos =>
  subst hkt
  obtain ⟨p, hp⟩ : ∃ p, p = b.p.getD n (0, 0, 0) := ⟨_, rfl⟩
  have hpl := k0.plan HS.out hn8
  rw [← hp] at hpl
  have hpl : w3.rangeAt g (16 + n * 3) (pc p).toArray.toList := hpl
  have hp1 : -9223372036854775808 ≤ p.1 := by
    have hm : p ∈ b.p := by rw [hp, List.getD_eq_getElem?_getD, List.getElem?_eq_getElem (by rw [HS.out.p]; exact hn8)]; exact List.getElem_mem _
    have := (Bo.planB_iff p).1 (((Bo.right_iff b).1 HR.out.symm).1 p hm)
    rcases this with h | h
    · rw [h]; decide
    · omega
  obtain ⟨p', kp, hkp⟩ : ∃ p' kp, Reg.writeL p nd rp = (p', kp) := ⟨_, _, rfl⟩
  have hwr := fun w0 => rwrite29_any p nd rp hp1 w0
  rw [hkp] at hwr
  have HWR := Lib.hid (show ∀ w0, Calls Try.prog 24 #[.agg (pc p).toArray, .int .i64 nd, .int .i64 rp] w0 fun e w' => e = .returned (.tuple #[.agg (pc p').toArray, .int .i64 kp]) ∧ Below w0.heap.size w0 w' from hwr)
  have SP := Lib.hid (show (pc p).toArray.size = 3 from rfl)
  have SB := Lib.hid (show (pc p').toArray.size = 3 from rfl)
  have OB := Lib.hid (show (pc p').toArray.all (·.oneCell') = true from th_one _ _ _)
  have HKP := Lib.hid hkp
  have HP := Lib.hid hp
  clear hp1 hkp hwr hp
  go_wp2_with ((with_reducible refine wpList_ldr rowRLa hpl SP.out ?_ ?_); rotate_left; (rfl))
  refine (HWR.out w3).mono ?_
  rintro e w4 ⟨rfl, b1⟩
  have k0 := k0.below b1 k0.lt
  have kz := kz.below b1 kz.lt
  have kX := kX.below b1 kX.lt
  have gb := gb.trans (b1.mono gb.size)
  clear b1 HWR hpl
  go_upto_region 7 with ((with_reducible refine wpList_st rowRLa (Blk.new _ _ _) SB.out ?_ OB.out ?_ ?_ ?_); (rfl); rotate_left; (rfl); (rfl); intro w5 kY g5 z5)
  have bq : Below w4.heap.size w4 w5 := new_below g5
  have hXY : X < w4.heap.size := kX.lt
  generalize hY : w4.heap.size = Y at kY bq hXY
  have k0 := k0.below (hY ▸ bq) k0.lt
  have kz := kz.below (hY ▸ bq) kz.lt
  have kX := kX.below (hY ▸ bq) kX.lt
  have gb := gb.trans ((hY ▸ bq : Below w4.heap.size w4 w5).mono gb.size)
  clear g5 z5 bq hY
  by_cases hkt : kp = 0
  case neg =>
    have hxk : Bo.zero = x ∧ kp = k := by
      have := HX.out
      unfold Bo.wrote at this
      rw [if_neg HGD.out, if_neg (by rw [HT.out]; simp), Int.toNat_natCast, ← HP.out, if_pos (by rw [HKP.out]; exact hkt), HKP.out] at this
      injection this with h1 h2
      exact ⟨h1, h2⟩
    obtain ⟨rfl, rfl⟩ := hxk
    have hq : (kp != 0) = true := by simpa using hkt
    clear HX HT
    go_wp2_with first
      | ((refine wpList_bdV (v := .agg (bc Bo.zero (.slice none 0 0))) (w' := _) rfl 76 #[] rfl ?_ ?_); (simp only [List.map_toArray, List.map_nil]; exact HBD.out _))
      | ((with_reducible refine wpList_st rowRBo kz z49.out z49.out o49.out ?_ ?_ ?_); rotate_left; (rfl); (rfl); intro w6 k6 g6 z6)
    exact bodyPost_ret (v := .tuple #[.agg (bc Bo.zero (.slice none 0 0)), .int .i64 kp]) (results_blk2 rfl rowRBo k6 z49.out rfl rfl) rfl ⟨_, rfl, ⟨none, 0, 0, rfl, RdV.nil _ _ _, by omega⟩, gb.grown g6 gb.size (fun q hq => by injection hq; have := HG.out; omega)⟩
  case pos =>
  subst hkt
  have hxk : ({ b with t := t', p := b.p.set n p' } : Bd) = x ∧ 0 = k := by
    have := HX.out
    unfold Bo.wrote at this
    rw [if_neg HGD.out, if_neg (by rw [HT.out]; simp), Int.toNat_natCast, ← HP.out, if_neg (by rw [HKP.out]; simp), HKP.out, HT.out] at this
    injection this with h1 h2
    exact ⟨h1, h2⟩
  obtain ⟨hx1, rfl⟩ := hxk
  clear HX HT HKP HP HGD HR
  go_wp2_with fail
  refine wp_region_tail 6 (fun L v w => v 10 = .pointer (some ⟨X, 0, none⟩) ∧ v 12 = .pointer (some ⟨Y, 0, none⟩) ∧ v 4 = .pointer (some ⟨g, 0, none⟩) ∧ v 2 = .int .i64 n ∧ Below w0.heap.size w0 w ∧ ((L 4 = false → Blk w g 76 (bc b (.slice A m c))) ∧ (L 4 = true → Blk w g 76 (bc { b with t := t' } (.slice A m c)))) ∧ Blk w (g + 1) 76 (bc Bo.zero (.slice none 0 0)) ∧ Blk w X 73 (tc t') ∧ Blk w Y 61 (pc p').toArray ∧ (L 0 = true → v 66 = .int .i64 n) ∧ (L 1 = true → v 67 = .agg (tc t')) ∧ (L 2 = true → v 68 = .agg (pc p').toArray) ∧ (L 3 = true → v 69 = .pointer (some ⟨g, 0, none⟩)) ∧ (L 5 = true → v 70 = .pointer (some ⟨g, 16, none⟩))) [66, 67, 68, 69, 70] (by kernel_rfl) (by kernel_rfl) (by kernel_rfl) (by kernel_rfl) (by kernel_rfl) (by kernel_rfl) ?h0 ?hst ?hend
  case h0 =>
    intro L h0
    have h0 : ∀ i, i < 6 → L i = false := h0
    exact ⟨rfl, rfl, rfl, rfl, gb.drew, ⟨fun _ => k0.drew, offF h0 (i := 4) (by decide)⟩, kz.drew, kX.drew, kY.drew, offF h0 (i := 0) (by decide), offF h0 (i := 1) (by decide), offF h0 (i := 2) (by decide), offF h0 (i := 3) (by decide), offF h0 (i := 5) (by decide)⟩
  case hst =>
    show FactSteps _ _ _ _ [0, 1, 2, 3, 4, 5]
    refine @FactSteps.cons _ _ _ _ 0 _ [] _ rfl (by kernel_rfl) ?s0 ?_
    rotate_left
    refine @FactSteps.cons _ _ _ _ 1 _ [] _ rfl (by kernel_rfl) ?s1 ?_
    rotate_left
    refine @FactSteps.cons _ _ _ _ 2 _ [] _ rfl (by kernel_rfl) ?s2 ?_
    rotate_left
    refine @FactSteps.cons _ _ _ _ 3 _ [1] _ rfl (by kernel_rfl) ?s3 ?_
    rotate_left
    refine @FactSteps.cons _ _ _ _ 4 _ [3, 1, 1] _ rfl (by kernel_rfl) ?s4 ?_
    rotate_left
    refine @FactSteps.cons _ _ _ _ 5 _ [] _ rfl (by kernel_rfl) ?s5 ?_
    rotate_left
    exact FactSteps.nil
    case s0 =>
      rintro L a v w hv hg hL hd hcl ⟨e10, e12, e4, e2, gb, kA, kz, kX, kY, f0, f1, f2, f3, f5⟩ K hK
      refine step_do rfl ?_
      clear hv
      go_simp
      exact hK.out _ _ ⟨e10, e12, e4, e2, gb, kA, kz, kX, kY, fun _ => rfl, f1, f2, f3, f5⟩
    case s1 =>
      rintro L a v w hv hg hL hd hcl ⟨e10, e12, e4, e2, gb, kA, kz, kX, kY, f0, f1, f2, f3, f5⟩ K hK
      refine step_do rfl ?_
      refine wp_ld rowRT (.tmp 10) rfl ((hv 10).trans e10) (kX) N16.out ?_
      exact hK.out _ _ ⟨e10, e12, e4, e2, gb, kA, kz, kX, kY, f0, fun _ => rfl, f2, f3, f5⟩
    case s2 =>
      rintro L a v w hv hg hL hd hcl ⟨e10, e12, e4, e2, gb, kA, kz, kX, kY, f0, f1, f2, f3, f5⟩ K hK
      refine step_do rfl ?_
      refine wp_ld rowRLa (.tmp 12) rfl ((hv 12).trans e12) (kY) SB.out ?_
      exact hK.out _ _ ⟨e10, e12, e4, e2, gb, kA, kz, kX, kY, f0, f1, fun _ => rfl, f3, f5⟩
    case s3 =>
      rintro L a v w hv hg hL hd hcl ⟨e10, e12, e4, e2, gb, kA, kz, kX, kY, f0, f1, f2, f3, f5⟩ K hK
      have g1 := f1 (hd 1 (by decide))
      refine step_do rfl ?_
      clear hv
      go_simp
      exact hK.out _ _ ⟨e10, e12, e4, e2, gb, kA, kz, kX, kY, f0, f1, f2, fun _ => rfl, f5⟩
    case s4 =>
      rintro L a v w hv hg hL hd hcl ⟨e10, e12, e4, e2, gb, kA, kz, kX, kY, f0, f1, f2, f3, f5⟩ K hK
      have g3 := f3 (hd 3 (by decide))
      have g1 := f1 (hd 1 (by decide))
      have kk := kA.1 hL
      refine step_do rfl ?_
      refine wp_str rowRT (.tmp 69) (.tmp 67) rfl ((hv 69).trans g3) ((hv 67).trans g1) (kk.there_ (o := 0) (n := 16) (by rw [h49.out]; omega)) N16.out N1.out ?_
      have gx := cells_grown w g 0 (tc t').toList
      have k2 := kk.setT HS.out T16.out
      exact hK.out undef _ ⟨e10, e12, e4, e2, (gb.grown gx gb.size (fun q hq => by injection hq; have := HG.out; omega)), ⟨fun h => (by cases h), fun _ => k2⟩, (kz.grown gx (fun h => by injection h; omega)), (kX.grown gx (fun h => by injection h; omega)), (kY.grown gx (fun h => by injection h; omega)), f0, f1, f2, f3, f5⟩
    case s5 =>
      rintro L a v w hv hg hL hd hcl ⟨e10, e12, e4, e2, gb, kA, kz, kX, kY, f0, f1, f2, f3, f5⟩ K hK
      refine step_do rfl ?_
      clear hv
      go_simp
      exact hK.out _ _ ⟨e10, e12, e4, e2, gb, kA, kz, kX, kY, f0, f1, f2, f3, fun _ => rfl⟩
  case hend =>
  rintro L v w6 hall ⟨e10, e12, e4, e2, gb, kA, kz, kX, kY, f0, f1, f2, f3, f5⟩
  have hL : ∀ i, i < 6 → L i = true := hall
  have f0 := f0 (hL 0 (by decide))
  have f1 := f1 (hL 1 (by decide))
  have f2 := f2 (hL 2 (by decide))
  have f3 := f3 (hL 3 (by decide))
  have f5 := f5 (hL 5 (by decide))
  have kq := kA.2 (hL 4 (by decide))
  simp only [finA, List.foldl_cons, List.foldl_nil, Act.put, List.setIfInBounds_toArray, List.set_cons_succ, List.set_cons_zero, f0, f1, f2, f3, f5]
  have hs2 : Bo.Shaped { b with t := t' } := ⟨T16.out, HS.out.p, HS.out.u⟩
  obtain ⟨b2, hb2⟩ : ∃ b2 : Bd, b2 = { b with t := t' } := ⟨_, rfl⟩
  rw [← hb2] at kq hs2
  have HS2 := Lib.hid hs2
  have hx2 : x = { b2 with p := b2.p.set n p' } := by rw [← hx1, hb2]
  have hxl : x.l = b.l := by rw [← hx1]
  have HX2 := Lib.hid hx2
  have HXL := Lib.hid hxl
  have hth := kq.there_ (o := 16 + n * 3) (n := 3) (by rw [bc_size hs2]; omega)
  clear e10 e12 e4 e2 f0 f1 f2 f3 f5 hL hall kA k0 hb2 hs2 hx1 hx2 hxl
  show wpList _ _ _ [_, _] _ _
  go_upto_region 10 with ((with_reducible refine wpList_str rowRLa hth SB.out OB.out ?_ ?_ ?_); rotate_left; (rfl); (rfl); intro w7 hw7)
  have gS := cells_grown w6 g (16 + n * 3) (pc p').toArray.toList
  rw [← hw7] at gS
  have kb := kq.setP HS2.out hn8 p'
  have kb : Blk w7 g 76 (bc x (.slice A m c)) := by rw [hw7, HX2.out]; exact kb
  have kz := kz.grown gS (by intro e; injection e with e; omega)
  have gb := gb.grown gS gb.size (fun q hq => by injection hq; have := HG.out; omega)
  have hxs : Bo.Shaped x := by rw [HX2.out]; exact ⟨HS2.out.t, by rw [List.length_set]; exact HS2.out.p, HS2.out.u⟩
  have hrx : RdV w7 w0.heap.size A m x.l := by rw [HXL.out]; exact HRV.out w7 gb
  have X49 := Lib.hid (bc_size (s := .slice A m c) hxs)
  have HC := Lib.hid (brcopy_any x hxs (.agg (bc x (.slice A m c))) w7 ⟨A, m, c, rfl, hrx.size, HM.out⟩)
  have HXS := Lib.hid hxs
  clear gS hw7 hth kq kX kY hxs hrx
  go_wp2_with ((with_reducible refine wpList_ld rowRBo kb X49.out ?_ ?_); rotate_left; (rfl))
  refine HC.out.mono ?_
  rintro e w8 ⟨_, rfl, ⟨A2, m2, c2, rfl, o2, hm2⟩, b1⟩
  have kz := kz.below b1 kz.lt
  have gb := gb.trans (b1.mono gb.size)
  have Y49 := Lib.hid (bc_size (s := .slice A2 m2 c2) HXS.out)
  have Y1 := Lib.hid (bc_one (b := x) (s := .slice A2 m2 c2) rfl)
  clear HC b1 kb
  go_wp2_with ((with_reducible refine wpList_st rowRBo kz Y49.out z49.out Y1.out ?_ ?_ ?_); rotate_left; (rfl); (rfl); intro w9 k9 g9 z9)
  have o9 := o2.grown g9 (.inr (own_ne o2.2 kz (by decide)))
  exact bodyPost_ret (v := .tuple #[.agg (bc x (.slice A2 m2 c2)), .int .i64 0]) (results_blk2 rfl rowRBo k9 Y49.out rfl rfl) rfl ⟨_, rfl, ⟨A2, m2, c2, rfl, o9.rd, hm2⟩, gb.grown g9 gb.size (fun q hq => by injection hq; have := HG.out; omega)⟩
end Go.Proofs.Ytocoohpekpkmkaa

namespace Go.Proofs.Ytocoohpekpkmkaa.BoardWrites
set_option linter.unusedVariables false
set_option linter.unusedSimpArgs false
open Go.ChangeShapes Go.WideShapes Go.ChangeAt Go.RowKit Go.Deep
open Reg (La Vl)
theorem sameTB {b : Bd} (hs : Bo.Shaped b) (hw : WfB b) {q q2 : Value} {w : World} (h : FrBo b q w) (h2 : FrBo b q2 w) : Calls Try.prog 35 #[q, q2] w (GiveBo w true) := by
  have := bsame_any b b hs hs hw hw q q2 w h h2
  rwa [(sameB_iff b b).2 rfl] at this
set_option maxRecDepth 100000 in
set_option maxHeartbeats 4000000 in
theorem walk (b : Bd) (A : Option Addr) (n c : Nat) (x y z : Int) (w : World) (hs : Bo.Shaped b) (hw : WfB b) (hr : RdV w w.heap.size A n b.l) (hn : n ≤ maxLen) :
    Calls Try.prog 8 #[.agg (bc b (.slice A n c)), .agg #[.int .i64 x, .int .i64 y, .int .i64 z]] w fun e w' => e = .returned (.bool true) ∧ Below w.heap.size w w' := by
  unfold maxLen at hn
  obtain ⟨C, hC⟩ : ∃ C, C = bc b (.slice A n c) := ⟨_, rfl⟩
  rw [← hC]
  have hsz : C.size = 49 := by rw [hC]; exact bc_size hs
  have ht : C[48]? = some (.slice A n c) := by rw [hC]; exact bc_last hs
  have hf : n ≤ 1000 → FrBo b (.agg C) w := fun h => ⟨A, n, c, by rw [hC], hr, by omega⟩
  have ho : C.all (·.oneCell') = true := by rw [hC]; exact bc_one rfl
  have HSZ := Lib.hid hsz
  have HT := Lib.hid ht
  have HF := Lib.hid hf
  have HO := Lib.hid ho
  have HS := Lib.hid hs
  have HW := Lib.hid hw
  clear hC hsz ht hf ho hs hw hr
  go_enter Try.func8, Try.ntmps8
  go_upto_region 1 with fail
  refine nameW ?_
  intro wv hwv
  obtain ⟨B, hB⟩ : ∃ B, B = w.heap.size := ⟨_, rfl⟩
  rw [← hB]
  obtain ⟨S, hS⟩ : ∃ S, S = B + 1 := ⟨_, rfl⟩
  have kb : Blk wv B 76 C := by rw [hwv, hB]; exact (Blk.new w _ _).alloc _
  have kS : Blk wv S 97 #[.int .i64 x, .int .i64 y, .int .i64 z] := by
    have h := Blk.new (w.alloc (.cells C 76)) 97 #[.int .i64 x, .int .i64 y, .int .i64 z]
    rw [hS, hwv, hB]
    simpa using h
  have gb : Below w.heap.size w wv := by rw [hwv]; exact ((Below.refl _ _).alloc (Nat.le_refl _) _).alloc (by simp) _
  rw [← hS]
  have HB := Lib.hid hB
  have HBS := Lib.hid hS
  clear hwv hB hS
  go_wp2_with fail
  refine (balive_any _).mono ?_
  rintro e w1 ⟨rfl, b1⟩
  have kb := kb.below b1 kb.lt
  have kS := kS.below b1 kS.lt
  have gb := gb.trans (b1.mono gb.size)
  clear b1
  have t48 : w1.cell? ⟨B, 48, none⟩ = some (.slice A n c) := (kb.cell 48).trans HT.out
  by_cases hg1 : 1000 < n
  · have hd1 : decide ((1000 : Int) < (n : Int)) = true := decide_eq_true (by omega)
    go_wp2_with fail
    go_ret
    exact ⟨rfl, gb⟩
  have hd1 : decide ((1000 : Int) < (n : Int)) = false := decide_eq_false (by omega)
  go_upto_region 5 with fail
  have h2 : FrBo b (.agg C) w1 := (HF.out (by omega)).below gb
  clear t48 hd1 hg1 HF
  go_wp2_with first
    | ((with_reducible refine wpList_ld rowRBo kb HSZ.out ?_ ?_); rotate_left; (rfl))
  refine (boTo_any b HS.out _ _ h2).mono ?_
  rintro e wa ⟨q, rfl, h5, bb⟩
  obtain ⟨Q5, rfl⟩ := h5.fresh.agg
  have s5 := h5.fresh.size HS.out
  have o5 := h5.fresh.one
  have kb := kb.below bb kb.lt
  have kS := kS.below bb kS.lt
  have h2 := h2.below bb
  have gb := gb.trans (bb.mono gb.size)
  clear bb
  go_upto_region 6 with first
    | ((with_reducible refine wpList_ld rowRBo kb HSZ.out ?_ ?_); rotate_left; (rfl))
    | ((with_reducible refine wpList_st rowBo (Blk.new _ _ _) s5 ?_ o5 ?_ ?_ ?_); (rfl); rotate_left; (rfl); (rfl); intro gaw k5 ga gaz)
  have bb := new_below ga
  have h5 := h5.below bb
  have kb := kb.below bb kb.lt
  have kS := kS.below bb kS.lt
  have h2 := h2.below bb
  have gb := gb.trans (bb.mono gb.size)
  clear bb
  have h5B := wa.heap.size
  generalize hg5 : wa.heap.size = g5 at k5
  clear hg5 h5B ga gaz o5
  obtain ⟨X, hX⟩ : ∃ X, X = Bo.wrote b x y z := ⟨_, rfl⟩
  obtain ⟨U, hU⟩ : ∃ U, U = Bo.note b x z := ⟨_, rfl⟩
  have XS := Lib.hid (show Bo.Shaped X.1 by rw [hX]; exact wrote_shaped HS.out x y z)
  have XW := Lib.hid (show WfB X.1 by rw [hX]; exact wrote_wfB HS.out HW.out x y z)
  have US := Lib.hid (show Bo.Shaped U.1 by rw [hU]; exact note_shaped HS.out x z)
  have UW := Lib.hid (show WfB U.1 by rw [hU]; exact note_wfB HS.out HW.out x z)
  have hc1 := fun (w' : World) (q : Value) (h : FrBo b q w') => bwrote_anyB b HS.out x y z q w' h
  have hc2 := fun (w' : World) (q : Value) (h : FrBo b q w') => brwrote_any b HS.out x y z q w' h
  have hc3 := fun (w' : World) (q : Value) (h : FrBo b q w') => bnote_any b HS.out x z q w' h
  have hc4 := fun (w' : World) (q : Value) (h : FrBo b q w') => brnote_any b HS.out x z q w' h
  rw [← hX] at hc1 hc2
  rw [← hU] at hc3 hc4
  have HC1 := Lib.hid hc1
  have HC2 := Lib.hid hc2
  have HC3 := Lib.hid hc3
  have HC4 := Lib.hid hc4
  clear hc1 hc2 hc3 hc4 hX hU
  obtain ⟨xb, xe⟩ := X
  obtain ⟨ub, ue⟩ := U
  simp only at XS XW US UW HC1 HC2 HC3 HC4
  obtain ⟨B6, hBe⟩ : ∃ B6, B6 = gaw.heap.size := ⟨_, rfl⟩
  have p2 : HoldBo B6 b (.agg C) gaw := by rw [hBe]; exact h2
  have p5 : HoldBo B6 b (.agg Q5) gaw := by rw [hBe]; exact h5.fresh
  have j2 := kb
  have j5 := k5
  have q2 : B < B6 := by rw [hBe]; exact kb.lt
  have q5 : g5 < B6 := by rw [hBe]; exact k5.lt
  have HJ := Lib.hid (And.intro p2 (And.intro p5 (And.intro j2 j5)))
  have HBw := Lib.hid (show w.heap.size ≤ B6 by rw [hBe]; exact gb.size)
  have GBD := Lib.hid gb
  have HBe := Lib.hid hBe
  clear p2 p5 j2 j5 hBe
  have c0 : gaw.cell? ⟨S, 0, none⟩ = some (.int .i64 x) := (kS.cell 0).trans rfl
  have c1 : gaw.cell? ⟨S, 1, none⟩ = some (.int .i64 y) := (kS.cell 1).trans rfl
  have c2 : gaw.cell? ⟨S, 2, none⟩ = some (.int .i64 z) := (kS.cell 2).trans rfl
  go_wp2_with first
    | ((with_reducible refine wpList_ld rowRBo kb HSZ.out ?_ ?_); rotate_left; (rfl))
    | ((with_reducible refine wpList_ld rowBo k5 s5 ?_ ?_); rotate_left; (rfl))
  refine (HC1.out _ _ h5.fresh).mono ?_
  rintro e wc ⟨_, rfl, ho6, bb⟩
  clear c0 c1 c2
  obtain ⟨A6, m6, c6, rfl, o6r, hm6⟩ := ho6
  rw [← HBe.out] at o6r
  have bm := bb
  rw [← HBe.out] at bm
  obtain ⟨Q6, hQ6⟩ : ∃ Q6, Q6 = bc xb (.slice A6 m6 c6) := ⟨_, rfl⟩
  rw [← hQ6]
  have s6 : Q6.size = 49 := by rw [hQ6]; exact bc_size XS.out
  have o6 : Q6.all (·.oneCell') = true := by rw [hQ6]; exact bc_one rfl
  have HT6 := Lib.hid (show Q6[48]? = some (.slice A6 m6 c6) by rw [hQ6]; exact bc_last XS.out)
  have h6 : FoBo 49 xb (.agg Q6) wc := ⟨A6, m6, c6, by rw [hQ6], o6r.mono (Nat.zero_le _), hm6⟩
  clear hQ6
  have kb := kb.below bb kb.lt
  have kS := kS.below bb kS.lt
  have k5 := k5.below bb k5.lt
  have h2 := h2.below bb
  have h5 := h5.below bb
  have gb := gb.trans (bb.mono gb.size)
  clear bb
  go_upto_region 7 with first
    | ((with_reducible refine wpList_ld rowRBo kb HSZ.out ?_ ?_); rotate_left; (rfl))
    | ((with_reducible refine wpList_ld rowBo k5 s5 ?_ ?_); rotate_left; (rfl))
    | ((with_reducible refine wpList_st rowBo (Blk.new _ _ _) s6 ?_ o6 ?_ ?_ ?_); (rfl); rotate_left; (rfl); (rfl); intro gs6w k6 gs6 gs6z)
  have bb := new_below gs6
  have h6 := h6.below bb
  have o6r := o6r.below bb (Nat.le_refl _)
  have bm := bm.trans (bb.mono (by have := bm.size; have := HBe.out; omega))
  have kb := kb.below bb kb.lt
  have kS := kS.below bb kS.lt
  have k5 := k5.below bb k5.lt
  have h2 := h2.below bb
  have h5 := h5.below bb
  have gb := gb.trans (bb.mono gb.size)
  clear bb
  generalize hg6 : wc.heap.size = g6 at k6
  clear hg6 gs6 gs6z o6
  have c0 : gs6w.cell? ⟨S, 0, none⟩ = some (.int .i64 x) := (kS.cell 0).trans rfl
  have c1 : gs6w.cell? ⟨S, 1, none⟩ = some (.int .i64 y) := (kS.cell 1).trans rfl
  have c2 : gs6w.cell? ⟨S, 2, none⟩ = some (.int .i64 z) := (kS.cell 2).trans rfl
  go_wp2_with first
    | ((with_reducible refine wpList_ld rowRBo kb HSZ.out ?_ ?_); rotate_left; (rfl))
    | ((with_reducible refine wpList_ld rowBo k5 s5 ?_ ?_); rotate_left; (rfl))
    | ((with_reducible refine wpList_ld rowBo k6 s6 ?_ ?_); rotate_left; (rfl))
  refine (HC2.out _ _ h2).mono ?_
  rintro e wd ⟨q, rfl, h8, bb⟩
  clear c0 c1 c2
  obtain ⟨Q8, rfl⟩ := h8.agg
  have s8 := h8.size XS.out
  have o8 := h8.one
  have o6r := o6r.below bb (Nat.le_refl _)
  have bm := bm.trans (bb.mono (by have := bm.size; have := HBe.out; omega))
  have kb := kb.below bb kb.lt
  have kS := kS.below bb kS.lt
  have k5 := k5.below bb k5.lt
  have k6 := k6.below bb k6.lt
  have h2 := h2.below bb
  have h5 := h5.below bb
  have h6 := h6.below bb
  have gb := gb.trans (bb.mono gb.size)
  clear bb
  go_upto_region 8 with first
    | ((with_reducible refine wpList_ld rowRBo kb HSZ.out ?_ ?_); rotate_left; (rfl))
    | ((with_reducible refine wpList_ld rowBo k5 s5 ?_ ?_); rotate_left; (rfl))
    | ((with_reducible refine wpList_ld rowBo k6 s6 ?_ ?_); rotate_left; (rfl))
    | ((with_reducible refine wpList_st rowRBo (Blk.new _ _ _) s8 ?_ o8 ?_ ?_ ?_); (rfl); rotate_left; (rfl); (rfl); intro gs8w k8 gs8 gs8z)
  have bb := new_below gs8
  have h8 := h8.below bb
  have o6r := o6r.below bb (Nat.le_refl _)
  have bm := bm.trans (bb.mono (by have := bm.size; have := HBe.out; omega))
  have kb := kb.below bb kb.lt
  have kS := kS.below bb kS.lt
  have k5 := k5.below bb k5.lt
  have k6 := k6.below bb k6.lt
  have h2 := h2.below bb
  have h5 := h5.below bb
  have h6 := h6.below bb
  have gb := gb.trans (bb.mono gb.size)
  clear bb
  generalize hg8 : wd.heap.size = g8 at k8
  clear hg8 gs8 gs8z o8
  have c0 : gs8w.cell? ⟨S, 0, none⟩ = some (.int .i64 x) := (kS.cell 0).trans rfl
  have c1 : gs8w.cell? ⟨S, 1, none⟩ = some (.int .i64 y) := (kS.cell 1).trans rfl
  have c2 : gs8w.cell? ⟨S, 2, none⟩ = some (.int .i64 z) := (kS.cell 2).trans rfl
  go_wp2_with first
    | ((with_reducible refine wpList_ld rowRBo kb HSZ.out ?_ ?_); rotate_left; (rfl))
    | ((with_reducible refine wpList_ld rowBo k5 s5 ?_ ?_); rotate_left; (rfl))
    | ((with_reducible refine wpList_ld rowBo k6 s6 ?_ ?_); rotate_left; (rfl))
    | ((with_reducible refine wpList_ld rowRBo k8 s8 ?_ ?_); rotate_left; (rfl))
  refine (HC3.out _ _ h5.fresh).mono ?_
  rintro e we ⟨q, rfl, h10, bb⟩
  clear c0 c1 c2
  obtain ⟨Q10, rfl⟩ := h10.fresh.agg
  have s10 := h10.fresh.size US.out
  have o10 := h10.fresh.one
  have o6r := o6r.below bb (Nat.le_refl _)
  have bm := bm.trans (bb.mono (by have := bm.size; have := HBe.out; omega))
  have kb := kb.below bb kb.lt
  have kS := kS.below bb kS.lt
  have k5 := k5.below bb k5.lt
  have k6 := k6.below bb k6.lt
  have k8 := k8.below bb k8.lt
  have h2 := h2.below bb
  have h5 := h5.below bb
  have h6 := h6.below bb
  have h8 := h8.below bb
  have gb := gb.trans (bb.mono gb.size)
  clear bb
  go_upto_region 9 with first
    | ((with_reducible refine wpList_ld rowRBo kb HSZ.out ?_ ?_); rotate_left; (rfl))
    | ((with_reducible refine wpList_ld rowBo k5 s5 ?_ ?_); rotate_left; (rfl))
    | ((with_reducible refine wpList_ld rowBo k6 s6 ?_ ?_); rotate_left; (rfl))
    | ((with_reducible refine wpList_ld rowRBo k8 s8 ?_ ?_); rotate_left; (rfl))
    | ((with_reducible refine wpList_st rowBo (Blk.new _ _ _) s10 ?_ o10 ?_ ?_ ?_); (rfl); rotate_left; (rfl); (rfl); intro gs10w k10 gs10 gs10z)
  have bb := new_below gs10
  have h10 := h10.below bb
  have o6r := o6r.below bb (Nat.le_refl _)
  have bm := bm.trans (bb.mono (by have := bm.size; have := HBe.out; omega))
  have kb := kb.below bb kb.lt
  have kS := kS.below bb kS.lt
  have k5 := k5.below bb k5.lt
  have k6 := k6.below bb k6.lt
  have k8 := k8.below bb k8.lt
  have h2 := h2.below bb
  have h5 := h5.below bb
  have h6 := h6.below bb
  have h8 := h8.below bb
  have gb := gb.trans (bb.mono gb.size)
  clear bb
  generalize hg10 : we.heap.size = g10 at k10
  clear hg10 gs10 gs10z o10
  have c0 : gs10w.cell? ⟨S, 0, none⟩ = some (.int .i64 x) := (kS.cell 0).trans rfl
  have c1 : gs10w.cell? ⟨S, 1, none⟩ = some (.int .i64 y) := (kS.cell 1).trans rfl
  have c2 : gs10w.cell? ⟨S, 2, none⟩ = some (.int .i64 z) := (kS.cell 2).trans rfl
  go_wp2_with first
    | ((with_reducible refine wpList_ld rowRBo kb HSZ.out ?_ ?_); rotate_left; (rfl))
    | ((with_reducible refine wpList_ld rowBo k5 s5 ?_ ?_); rotate_left; (rfl))
    | ((with_reducible refine wpList_ld rowBo k6 s6 ?_ ?_); rotate_left; (rfl))
    | ((with_reducible refine wpList_ld rowRBo k8 s8 ?_ ?_); rotate_left; (rfl))
    | ((with_reducible refine wpList_ld rowBo k10 s10 ?_ ?_); rotate_left; (rfl))
  refine (HC4.out _ _ h2).mono ?_
  rintro e wf ⟨q, rfl, h12, bb⟩
  clear c0 c1 c2
  obtain ⟨Q12, rfl⟩ := h12.agg
  have s12 := h12.size US.out
  have o12 := h12.one
  have o6r := o6r.below bb (Nat.le_refl _)
  have bm := bm.trans (bb.mono (by have := bm.size; have := HBe.out; omega))
  have kb := kb.below bb kb.lt
  have kS := kS.below bb kS.lt
  have k5 := k5.below bb k5.lt
  have k6 := k6.below bb k6.lt
  have k8 := k8.below bb k8.lt
  have k10 := k10.below bb k10.lt
  have h2 := h2.below bb
  have h5 := h5.below bb
  have h6 := h6.below bb
  have h8 := h8.below bb
  have h10 := h10.below bb
  have gb := gb.trans (bb.mono gb.size)
  clear bb
  go_upto_region 10 with first
    | ((with_reducible refine wpList_ld rowRBo kb HSZ.out ?_ ?_); rotate_left; (rfl))
    | ((with_reducible refine wpList_ld rowBo k5 s5 ?_ ?_); rotate_left; (rfl))
    | ((with_reducible refine wpList_ld rowBo k6 s6 ?_ ?_); rotate_left; (rfl))
    | ((with_reducible refine wpList_ld rowRBo k8 s8 ?_ ?_); rotate_left; (rfl))
    | ((with_reducible refine wpList_ld rowBo k10 s10 ?_ ?_); rotate_left; (rfl))
    | ((with_reducible refine wpList_st rowRBo (Blk.new _ _ _) s12 ?_ o12 ?_ ?_ ?_); (rfl); rotate_left; (rfl); (rfl); intro gs12w k12 gs12 gs12z)
  have bb := new_below gs12
  have h12 := h12.below bb
  have o6r := o6r.below bb (Nat.le_refl _)
  have bm := bm.trans (bb.mono (by have := bm.size; have := HBe.out; omega))
  have kb := kb.below bb kb.lt
  have kS := kS.below bb kS.lt
  have k5 := k5.below bb k5.lt
  have k6 := k6.below bb k6.lt
  have k8 := k8.below bb k8.lt
  have k10 := k10.below bb k10.lt
  have h2 := h2.below bb
  have h5 := h5.below bb
  have h6 := h6.below bb
  have h8 := h8.below bb
  have h10 := h10.below bb
  have gb := gb.trans (bb.mono gb.size)
  clear bb
  generalize hg12 : wf.heap.size = g12 at k12
  clear hg12 gs12 gs12z o12
  obtain ⟨rR, hrR⟩ : ∃ rR, rR = Bo.rightB b := ⟨_, rfl⟩
  have hr1 := fun (w' : World) (q : Value) (h : FrBo b q w') => boRight_any b HS.out q w' h
  have hr2 := fun (w' : World) (q : Value) (h : FrBo b q w') => brright_any b HS.out q w' h
  rw [← hrR] at hr1 hr2
  have HRI1 := Lib.hid hr1
  have HRI2 := Lib.hid hr2
  clear hr1 hr2 hrR HC1 HC2 HC3 HC4 kS
  have h2v := h2
  have h5v := h5
  have h6v := h6
  have h8v := h8
  have h10v := h10
  have h12v := h12
  refine wp_region_facts (fun L v w => v 2 = .pointer (some ⟨B, 0, none⟩) ∧ v 5 = .pointer (some ⟨g5, 0, none⟩) ∧ v 6 = .pointer (some ⟨g6, 0, none⟩) ∧ v 8 = .pointer (some ⟨g8, 0, none⟩) ∧ v 10 = .pointer (some ⟨g10, 0, none⟩) ∧ v 12 = .pointer (some ⟨g12, 0, none⟩) ∧ v 7 = .int .i64 xe ∧ v 9 = .int .i64 xe ∧ v 11 = .int .i64 ue ∧ v 13 = .int .i64 ue ∧ Below gs12w.heap.size gs12w w ∧ (L 0 = true → v 64 = .agg Q5) ∧ (L 1 = true → v 65 = .bool rR) ∧ (L 2 = true → v 66 = .agg C) ∧ (L 3 = true → v 67 = .bool rR) ∧ (L 4 = true → v 68 = .bool false) ∧ (L 5 = true → v 69 = .bool false) ∧ (L 6 = true → v 70 = .agg Q6) ∧ (L 7 = true → FoBo 105 xb (v 71) w) ∧ (L 8 = true → v 72 = .agg Q8) ∧ (L 9 = true → v 73 = .bool true) ∧ (L 10 = true → v 74 = .bool false) ∧ (L 11 = true → v 75 = .bool false) ∧ (L 12 = true → v 76 = .bool false) ∧ (L 13 = true → v 77 = .int .i64 xe) ∧ (L 14 = true → v 78 = .int .i64 xe) ∧ (L 15 = true → v 79 = .bool false) ∧ (L 16 = true → v 80 = .bool false) ∧ (L 17 = true → v 81 = .bool false) ∧ (L 18 = true → v 82 = .agg Q10) ∧ (L 19 = true → FoBo 105 ub (v 83) w) ∧ (L 20 = true → v 84 = .agg Q12) ∧ (L 21 = true → v 85 = .bool true) ∧ (L 22 = true → v 86 = .bool false) ∧ (L 23 = true → v 87 = .bool false) ∧ (L 24 = true → v 88 = .bool false) ∧ (L 25 = true → v 89 = .int .i64 ue) ∧ (L 26 = true → v 90 = .int .i64 ue) ∧ (L 27 = true → v 91 = .bool false) ∧ (L 28 = true → v 92 = .bool false)) [64, 65, 66, 67, 68, 69, 70, 71, 72, 73, 74, 75, 76, 77, 78, 79, 80, 81, 82, 83, 84, 85, 86, 87, 88, 89, 90, 91, 92] (by kernel_rfl) (by kernel_rfl) (by kernel_rfl) (by kernel_rfl) ?h0 ?hst ?hend
  case h0 =>
    intro L h0
    have h0 : ∀ i, i < 29 → L i = false := h0
    exact ⟨rfl, rfl, rfl, rfl, rfl, rfl, rfl, rfl, rfl, rfl, (Below.refl _ _).drew, offF h0 (i := 0) (by decide), offF h0 (i := 1) (by decide), offF h0 (i := 2) (by decide), offF h0 (i := 3) (by decide), offF h0 (i := 4) (by decide), offF h0 (i := 5) (by decide), offF h0 (i := 6) (by decide), offF h0 (i := 7) (by decide), offF h0 (i := 8) (by decide), offF h0 (i := 9) (by decide), offF h0 (i := 10) (by decide), offF h0 (i := 11) (by decide), offF h0 (i := 12) (by decide), offF h0 (i := 13) (by decide), offF h0 (i := 14) (by decide), offF h0 (i := 15) (by decide), offF h0 (i := 16) (by decide), offF h0 (i := 17) (by decide), offF h0 (i := 18) (by decide), offF h0 (i := 19) (by decide), offF h0 (i := 20) (by decide), offF h0 (i := 21) (by decide), offF h0 (i := 22) (by decide), offF h0 (i := 23) (by decide), offF h0 (i := 24) (by decide), offF h0 (i := 25) (by decide), offF h0 (i := 26) (by decide), offF h0 (i := 27) (by decide), offF h0 (i := 28) (by decide)⟩
  case hst =>
    show FactSteps _ _ _ _ [0, 1, 2, 3, 4, 5, 6, 7, 8, 9, 10, 11, 12, 13, 14, 15, 16, 17, 18, 19, 20, 21, 22, 23, 24, 25, 26, 27, 28]
    refine @FactSteps.cons _ _ _ _ 0 _ [] _ rfl (by kernel_rfl) ?s0 ?_
    rotate_left
    refine @FactSteps.cons _ _ _ _ 1 _ [0] _ rfl (by kernel_rfl) ?s1 ?_
    rotate_left
    refine @FactSteps.cons _ _ _ _ 2 _ [] _ rfl (by kernel_rfl) ?s2 ?_
    rotate_left
    refine @FactSteps.cons _ _ _ _ 3 _ [2, 1] _ rfl (by kernel_rfl) ?s3 ?_
    rotate_left
    refine @FactSteps.cons _ _ _ _ 4 _ [1, 3] _ rfl (by kernel_rfl) ?s4 ?_
    rotate_left
    refine @FactSteps.cons _ _ _ _ 5 _ [4, 3] _ rfl (by kernel_rfl) ?s5 ?_
    rotate_left
    refine @FactSteps.cons _ _ _ _ 6 _ [5] _ rfl (by kernel_rfl) ?s6 ?_
    rotate_left
    refine @FactSteps.cons _ _ _ _ 7 _ [6, 5, 5] _ rfl (by kernel_rfl) ?s7 ?_
    rotate_left
    refine @FactSteps.cons _ _ _ _ 8 _ [5] _ rfl (by kernel_rfl) ?s8 ?_
    rotate_left
    refine @FactSteps.cons _ _ _ _ 9 _ [7, 8, 7, 5] _ rfl (by kernel_rfl) ?s9 ?_
    rotate_left
    refine @FactSteps.cons _ _ _ _ 10 _ [9, 5] _ rfl (by kernel_rfl) ?s10 ?_
    rotate_left
    refine @FactSteps.cons _ _ _ _ 11 _ [5, 10] _ rfl (by kernel_rfl) ?s11 ?_
    rotate_left
    refine @FactSteps.cons _ _ _ _ 12 _ [11, 9] _ rfl (by kernel_rfl) ?s12 ?_
    rotate_left
    refine @FactSteps.cons _ _ _ _ 13 _ [12] _ rfl (by kernel_rfl) ?s13 ?_
    rotate_left
    refine @FactSteps.cons _ _ _ _ 14 _ [12] _ rfl (by kernel_rfl) ?s14 ?_
    rotate_left
    refine @FactSteps.cons _ _ _ _ 15 _ [13, 14, 12] _ rfl (by kernel_rfl) ?s15 ?_
    rotate_left
    refine @FactSteps.cons _ _ _ _ 16 _ [12, 15] _ rfl (by kernel_rfl) ?s16 ?_
    rotate_left
    refine @FactSteps.cons _ _ _ _ 17 _ [16, 12] _ rfl (by kernel_rfl) ?s17 ?_
    rotate_left
    refine @FactSteps.cons _ _ _ _ 18 _ [17] _ rfl (by kernel_rfl) ?s18 ?_
    rotate_left
    refine @FactSteps.cons _ _ _ _ 19 _ [18, 17, 17] _ rfl (by kernel_rfl) ?s19 ?_
    rotate_left
    refine @FactSteps.cons _ _ _ _ 20 _ [17] _ rfl (by kernel_rfl) ?s20 ?_
    rotate_left
    refine @FactSteps.cons _ _ _ _ 21 _ [19, 20, 19, 17] _ rfl (by kernel_rfl) ?s21 ?_
    rotate_left
    refine @FactSteps.cons _ _ _ _ 22 _ [21, 17] _ rfl (by kernel_rfl) ?s22 ?_
    rotate_left
    refine @FactSteps.cons _ _ _ _ 23 _ [17, 22] _ rfl (by kernel_rfl) ?s23 ?_
    rotate_left
    refine @FactSteps.cons _ _ _ _ 24 _ [23, 21] _ rfl (by kernel_rfl) ?s24 ?_
    rotate_left
    refine @FactSteps.cons _ _ _ _ 25 _ [24] _ rfl (by kernel_rfl) ?s25 ?_
    rotate_left
    refine @FactSteps.cons _ _ _ _ 26 _ [24] _ rfl (by kernel_rfl) ?s26 ?_
    rotate_left
    refine @FactSteps.cons _ _ _ _ 27 _ [25, 26, 24] _ rfl (by kernel_rfl) ?s27 ?_
    rotate_left
    refine @FactSteps.cons _ _ _ _ 28 _ [24, 27] _ rfl (by kernel_rfl) ?s28 ?_
    rotate_left
    exact FactSteps.nil
    case s0 =>
      rintro L a v w hv hg hL hd hcl ⟨e2, e5, e6, e8, e10, e12, e7, e9, e11, e13, hb, f0, f1, f2, f3, f4, f5, f6, f7, f8, f9, f10, f11, f12, f13, f14, f15, f16, f17, f18, f19, f20, f21, f22, f23, f24, f25, f26, f27, f28⟩ K hK
      refine step_do rfl ?_
      refine wp_ld rowBo (.tmp 5) rfl ((hv 5).trans e5) (k5.below hb k5.lt) s5 ?_
      exact hK.out _ _ ⟨e2, e5, e6, e8, e10, e12, e7, e9, e11, e13, hb, fun _ => rfl, f1, f2, f3, f4, f5, f6, f7, f8, f9, f10, f11, f12, f13, f14, f15, f16, f17, f18, f19, f20, f21, f22, f23, f24, f25, f26, f27, f28⟩
    case s1 =>
      rintro L a v w hv hg hL hd hcl ⟨e2, e5, e6, e8, e10, e12, e7, e9, e11, e13, hb, f0, f1, f2, f3, f4, f5, f6, f7, f8, f9, f10, f11, f12, f13, f14, f15, f16, f17, f18, f19, f20, f21, f22, f23, f24, f25, f26, f27, f28⟩ K hK
      have h0 := f0 (hd 0 (by decide))
      refine step_do rfl ?_
      clear hv
      go_simp
      refine (HRI1.out _ _ (h5v.below hb).fresh).mono ?_
      rintro e wy ⟨rfl, bb⟩
      exact hK.out _ _ ⟨e2, e5, e6, e8, e10, e12, e7, e9, e11, e13, (hb.trans (bb.mono hb.size)), f0, fun _ => rfl, f2, f3, f4, f5, f6, (fun h => (f7 h).below bb), f8, f9, f10, f11, f12, f13, f14, f15, f16, f17, f18, (fun h => (f19 h).below bb), f20, f21, f22, f23, f24, f25, f26, f27, f28⟩
    case s2 =>
      rintro L a v w hv hg hL hd hcl ⟨e2, e5, e6, e8, e10, e12, e7, e9, e11, e13, hb, f0, f1, f2, f3, f4, f5, f6, f7, f8, f9, f10, f11, f12, f13, f14, f15, f16, f17, f18, f19, f20, f21, f22, f23, f24, f25, f26, f27, f28⟩ K hK
      refine step_do rfl ?_
      refine wp_ld rowRBo (.tmp 2) rfl ((hv 2).trans e2) (kb.below hb kb.lt) HSZ.out ?_
      exact hK.out _ _ ⟨e2, e5, e6, e8, e10, e12, e7, e9, e11, e13, hb, f0, f1, fun _ => rfl, f3, f4, f5, f6, f7, f8, f9, f10, f11, f12, f13, f14, f15, f16, f17, f18, f19, f20, f21, f22, f23, f24, f25, f26, f27, f28⟩
    case s3 =>
      rintro L a v w hv hg hL hd hcl ⟨e2, e5, e6, e8, e10, e12, e7, e9, e11, e13, hb, f0, f1, f2, f3, f4, f5, f6, f7, f8, f9, f10, f11, f12, f13, f14, f15, f16, f17, f18, f19, f20, f21, f22, f23, f24, f25, f26, f27, f28⟩ K hK
      have h2 := f2 (hd 2 (by decide))
      refine step_do rfl ?_
      clear hv
      go_simp
      refine (HRI2.out _ _ (h2v.below hb)).mono ?_
      rintro e wy ⟨rfl, bb⟩
      exact hK.out _ _ ⟨e2, e5, e6, e8, e10, e12, e7, e9, e11, e13, (hb.trans (bb.mono hb.size)), f0, f1, f2, fun _ => rfl, f4, f5, f6, (fun h => (f7 h).below bb), f8, f9, f10, f11, f12, f13, f14, f15, f16, f17, f18, (fun h => (f19 h).below bb), f20, f21, f22, f23, f24, f25, f26, f27, f28⟩
    case s4 =>
      rintro L a v w hv hg hL hd hcl ⟨e2, e5, e6, e8, e10, e12, e7, e9, e11, e13, hb, f0, f1, f2, f3, f4, f5, f6, f7, f8, f9, f10, f11, f12, f13, f14, f15, f16, f17, f18, f19, f20, f21, f22, f23, f24, f25, f26, f27, f28⟩ K hK
      refine step_do rfl ?_
      clear hv
      go_simp
      exact hK.out _ _ ⟨e2, e5, e6, e8, e10, e12, e7, e9, e11, e13, hb, f0, f1, f2, f3, fun _ => rfl, f5, f6, f7, f8, f9, f10, f11, f12, f13, f14, f15, f16, f17, f18, f19, f20, f21, f22, f23, f24, f25, f26, f27, f28⟩
    case s5 =>
      rintro L a v w hv hg hL hd hcl ⟨e2, e5, e6, e8, e10, e12, e7, e9, e11, e13, hb, f0, f1, f2, f3, f4, f5, f6, f7, f8, f9, f10, f11, f12, f13, f14, f15, f16, f17, f18, f19, f20, f21, f22, f23, f24, f25, f26, f27, f28⟩ K hK
      have g4 := f4 (hd 4 (by decide))
      refine step_do rfl ?_
      clear hv
      go_simp
      exact hK.out _ _ ⟨e2, e5, e6, e8, e10, e12, e7, e9, e11, e13, hb, f0, f1, f2, f3, f4, fun _ => rfl, f6, f7, f8, f9, f10, f11, f12, f13, f14, f15, f16, f17, f18, f19, f20, f21, f22, f23, f24, f25, f26, f27, f28⟩
    case s6 =>
      rintro L a v w hv hg hL hd hcl ⟨e2, e5, e6, e8, e10, e12, e7, e9, e11, e13, hb, f0, f1, f2, f3, f4, f5, f6, f7, f8, f9, f10, f11, f12, f13, f14, f15, f16, f17, f18, f19, f20, f21, f22, f23, f24, f25, f26, f27, f28⟩ K hK
      refine step_want (j := 5) (s := 69) (b := false) rfl rfl ((hv 69).trans (f5 (hd 5 (by decide)))) ?_
      refine wp_ld rowBo (.tmp 6) rfl ((hv 6).trans e6) (k6.below hb k6.lt) s6 ?_
      exact hK.out _ _ ⟨e2, e5, e6, e8, e10, e12, e7, e9, e11, e13, hb, f0, f1, f2, f3, f4, f5, fun _ => rfl, f7, f8, f9, f10, f11, f12, f13, f14, f15, f16, f17, f18, f19, f20, f21, f22, f23, f24, f25, f26, f27, f28⟩
    case s7 =>
      rintro L a v w hv hg hL hd hcl ⟨e2, e5, e6, e8, e10, e12, e7, e9, e11, e13, hb, f0, f1, f2, f3, f4, f5, f6, f7, f8, f9, f10, f11, f12, f13, f14, f15, f16, f17, f18, f19, f20, f21, f22, f23, f24, f25, f26, f27, f28⟩ K hK
      have h6 := f6 (hd 6 (by decide))
      refine step_want (j := 5) (s := 69) (b := false) rfl rfl ((hv 69).trans (f5 (hd 5 (by decide)))) ?_
      clear hv
      go_simp
      refine (boFrom_any xb XS.out _ _ (h6v.below hb).fresh).mono ?_
      rintro e wy ⟨q, rfl, hq, bb⟩
      exact hK.out _ _ ⟨e2, e5, e6, e8, e10, e12, e7, e9, e11, e13, (hb.trans (bb.mono hb.size)), f0, f1, f2, f3, f4, f5, f6, fun _ => hq, f8, f9, f10, f11, f12, f13, f14, f15, f16, f17, f18, (fun h => (f19 h).below bb), f20, f21, f22, f23, f24, f25, f26, f27, f28⟩
    case s8 =>
      rintro L a v w hv hg hL hd hcl ⟨e2, e5, e6, e8, e10, e12, e7, e9, e11, e13, hb, f0, f1, f2, f3, f4, f5, f6, f7, f8, f9, f10, f11, f12, f13, f14, f15, f16, f17, f18, f19, f20, f21, f22, f23, f24, f25, f26, f27, f28⟩ K hK
      refine step_want (j := 5) (s := 69) (b := false) rfl rfl ((hv 69).trans (f5 (hd 5 (by decide)))) ?_
      refine wp_ld rowRBo (.tmp 8) rfl ((hv 8).trans e8) (k8.below hb k8.lt) s8 ?_
      exact hK.out _ _ ⟨e2, e5, e6, e8, e10, e12, e7, e9, e11, e13, hb, f0, f1, f2, f3, f4, f5, f6, f7, fun _ => rfl, f9, f10, f11, f12, f13, f14, f15, f16, f17, f18, f19, f20, f21, f22, f23, f24, f25, f26, f27, f28⟩
    case s9 =>
      rintro L a v w hv hg hL hd hcl ⟨e2, e5, e6, e8, e10, e12, e7, e9, e11, e13, hb, f0, f1, f2, f3, f4, f5, f6, f7, f8, f9, f10, f11, f12, f13, f14, f15, f16, f17, f18, f19, f20, f21, f22, f23, f24, f25, f26, f27, f28⟩ K hK
      have h7 := f7 (hd 7 (by decide))
      have h8 := f8 (hd 8 (by decide))
      refine step_want (j := 5) (s := 69) (b := false) rfl rfl ((hv 69).trans (f5 (hd 5 (by decide)))) ?_
      clear hv
      go_simp
      refine (sameTB XS.out XW.out h7.fresh (h8v.below hb)).mono ?_
      rintro e wy ⟨rfl, bb⟩
      exact hK.out _ _ ⟨e2, e5, e6, e8, e10, e12, e7, e9, e11, e13, (hb.trans (bb.mono hb.size)), f0, f1, f2, f3, f4, f5, f6, (fun h => (f7 h).below bb), f8, fun _ => rfl, f10, f11, f12, f13, f14, f15, f16, f17, f18, (fun h => (f19 h).below bb), f20, f21, f22, f23, f24, f25, f26, f27, f28⟩
    case s10 =>
      rintro L a v w hv hg hL hd hcl ⟨e2, e5, e6, e8, e10, e12, e7, e9, e11, e13, hb, f0, f1, f2, f3, f4, f5, f6, f7, f8, f9, f10, f11, f12, f13, f14, f15, f16, f17, f18, f19, f20, f21, f22, f23, f24, f25, f26, f27, f28⟩ K hK
      have g5 := f5 (hd 5 (by decide))
      refine step_want (j := 5) (s := 69) (b := false) rfl rfl ((hv 69).trans (f5 (hd 5 (by decide)))) ?_
      clear hv
      go_simp
      exact hK.out _ _ ⟨e2, e5, e6, e8, e10, e12, e7, e9, e11, e13, hb, f0, f1, f2, f3, f4, f5, f6, f7, f8, f9, fun _ => rfl, f11, f12, f13, f14, f15, f16, f17, f18, f19, f20, f21, f22, f23, f24, f25, f26, f27, f28⟩
    case s11 =>
      rintro L a v w hv hg hL hd hcl ⟨e2, e5, e6, e8, e10, e12, e7, e9, e11, e13, hb, f0, f1, f2, f3, f4, f5, f6, f7, f8, f9, f10, f11, f12, f13, f14, f15, f16, f17, f18, f19, f20, f21, f22, f23, f24, f25, f26, f27, f28⟩ K hK
      have g5 := f5 (hd 5 (by decide))
      have g10 := f10 (hd 10 (by decide))
      refine step_do rfl ?_
      clear hv
      go_simp
      exact hK.out _ _ ⟨e2, e5, e6, e8, e10, e12, e7, e9, e11, e13, hb, f0, f1, f2, f3, f4, f5, f6, f7, f8, f9, f10, fun _ => rfl, f12, f13, f14, f15, f16, f17, f18, f19, f20, f21, f22, f23, f24, f25, f26, f27, f28⟩
    case s12 =>
      rintro L a v w hv hg hL hd hcl ⟨e2, e5, e6, e8, e10, e12, e7, e9, e11, e13, hb, f0, f1, f2, f3, f4, f5, f6, f7, f8, f9, f10, f11, f12, f13, f14, f15, f16, f17, f18, f19, f20, f21, f22, f23, f24, f25, f26, f27, f28⟩ K hK
      have g11 := f11 (hd 11 (by decide))
      refine step_do rfl ?_
      clear hv
      go_simp
      exact hK.out _ _ ⟨e2, e5, e6, e8, e10, e12, e7, e9, e11, e13, hb, f0, f1, f2, f3, f4, f5, f6, f7, f8, f9, f10, f11, fun _ => rfl, f13, f14, f15, f16, f17, f18, f19, f20, f21, f22, f23, f24, f25, f26, f27, f28⟩
    case s13 =>
      rintro L a v w hv hg hL hd hcl ⟨e2, e5, e6, e8, e10, e12, e7, e9, e11, e13, hb, f0, f1, f2, f3, f4, f5, f6, f7, f8, f9, f10, f11, f12, f13, f14, f15, f16, f17, f18, f19, f20, f21, f22, f23, f24, f25, f26, f27, f28⟩ K hK
      have g12 := f12 (hd 12 (by decide))
      refine step_want (j := 12) (s := 76) (b := false) rfl rfl ((hv 76).trans (f12 (hd 12 (by decide)))) ?_
      clear hv
      go_simp
      exact hK.out _ _ ⟨e2, e5, e6, e8, e10, e12, e7, e9, e11, e13, hb, f0, f1, f2, f3, f4, f5, f6, f7, f8, f9, f10, f11, f12, fun _ => rfl, f14, f15, f16, f17, f18, f19, f20, f21, f22, f23, f24, f25, f26, f27, f28⟩
    case s14 =>
      rintro L a v w hv hg hL hd hcl ⟨e2, e5, e6, e8, e10, e12, e7, e9, e11, e13, hb, f0, f1, f2, f3, f4, f5, f6, f7, f8, f9, f10, f11, f12, f13, f14, f15, f16, f17, f18, f19, f20, f21, f22, f23, f24, f25, f26, f27, f28⟩ K hK
      have g12 := f12 (hd 12 (by decide))
      refine step_want (j := 12) (s := 76) (b := false) rfl rfl ((hv 76).trans (f12 (hd 12 (by decide)))) ?_
      clear hv
      go_simp
      exact hK.out _ _ ⟨e2, e5, e6, e8, e10, e12, e7, e9, e11, e13, hb, f0, f1, f2, f3, f4, f5, f6, f7, f8, f9, f10, f11, f12, f13, fun _ => rfl, f15, f16, f17, f18, f19, f20, f21, f22, f23, f24, f25, f26, f27, f28⟩
    case s15 =>
      rintro L a v w hv hg hL hd hcl ⟨e2, e5, e6, e8, e10, e12, e7, e9, e11, e13, hb, f0, f1, f2, f3, f4, f5, f6, f7, f8, f9, f10, f11, f12, f13, f14, f15, f16, f17, f18, f19, f20, f21, f22, f23, f24, f25, f26, f27, f28⟩ K hK
      have g12 := f12 (hd 12 (by decide))
      have g13 := f13 (hd 13 (by decide))
      have g14 := f14 (hd 14 (by decide))
      refine step_want (j := 12) (s := 76) (b := false) rfl rfl ((hv 76).trans (f12 (hd 12 (by decide)))) ?_
      clear hv
      go_simp
      exact hK.out _ _ ⟨e2, e5, e6, e8, e10, e12, e7, e9, e11, e13, hb, f0, f1, f2, f3, f4, f5, f6, f7, f8, f9, f10, f11, f12, f13, f14, fun _ => rfl, f16, f17, f18, f19, f20, f21, f22, f23, f24, f25, f26, f27, f28⟩
    case s16 =>
      rintro L a v w hv hg hL hd hcl ⟨e2, e5, e6, e8, e10, e12, e7, e9, e11, e13, hb, f0, f1, f2, f3, f4, f5, f6, f7, f8, f9, f10, f11, f12, f13, f14, f15, f16, f17, f18, f19, f20, f21, f22, f23, f24, f25, f26, f27, f28⟩ K hK
      have g12 := f12 (hd 12 (by decide))
      have g15 := f15 (hd 15 (by decide))
      refine step_do rfl ?_
      clear hv
      go_simp
      exact hK.out _ _ ⟨e2, e5, e6, e8, e10, e12, e7, e9, e11, e13, hb, f0, f1, f2, f3, f4, f5, f6, f7, f8, f9, f10, f11, f12, f13, f14, f15, fun _ => rfl, f17, f18, f19, f20, f21, f22, f23, f24, f25, f26, f27, f28⟩
    case s17 =>
      rintro L a v w hv hg hL hd hcl ⟨e2, e5, e6, e8, e10, e12, e7, e9, e11, e13, hb, f0, f1, f2, f3, f4, f5, f6, f7, f8, f9, f10, f11, f12, f13, f14, f15, f16, f17, f18, f19, f20, f21, f22, f23, f24, f25, f26, f27, f28⟩ K hK
      have g12 := f12 (hd 12 (by decide))
      have g16 := f16 (hd 16 (by decide))
      refine step_do rfl ?_
      clear hv
      go_simp
      exact hK.out _ _ ⟨e2, e5, e6, e8, e10, e12, e7, e9, e11, e13, hb, f0, f1, f2, f3, f4, f5, f6, f7, f8, f9, f10, f11, f12, f13, f14, f15, f16, fun _ => rfl, f18, f19, f20, f21, f22, f23, f24, f25, f26, f27, f28⟩
    case s18 =>
      rintro L a v w hv hg hL hd hcl ⟨e2, e5, e6, e8, e10, e12, e7, e9, e11, e13, hb, f0, f1, f2, f3, f4, f5, f6, f7, f8, f9, f10, f11, f12, f13, f14, f15, f16, f17, f18, f19, f20, f21, f22, f23, f24, f25, f26, f27, f28⟩ K hK
      refine step_want (j := 17) (s := 81) (b := false) rfl rfl ((hv 81).trans (f17 (hd 17 (by decide)))) ?_
      refine wp_ld rowBo (.tmp 10) rfl ((hv 10).trans e10) (k10.below hb k10.lt) s10 ?_
      exact hK.out _ _ ⟨e2, e5, e6, e8, e10, e12, e7, e9, e11, e13, hb, f0, f1, f2, f3, f4, f5, f6, f7, f8, f9, f10, f11, f12, f13, f14, f15, f16, f17, fun _ => rfl, f19, f20, f21, f22, f23, f24, f25, f26, f27, f28⟩
    case s19 =>
      rintro L a v w hv hg hL hd hcl ⟨e2, e5, e6, e8, e10, e12, e7, e9, e11, e13, hb, f0, f1, f2, f3, f4, f5, f6, f7, f8, f9, f10, f11, f12, f13, f14, f15, f16, f17, f18, f19, f20, f21, f22, f23, f24, f25, f26, f27, f28⟩ K hK
      have h18 := f18 (hd 18 (by decide))
      refine step_want (j := 17) (s := 81) (b := false) rfl rfl ((hv 81).trans (f17 (hd 17 (by decide)))) ?_
      clear hv
      go_simp
      refine (boFrom_any ub US.out _ _ (h10v.below hb).fresh).mono ?_
      rintro e wy ⟨q, rfl, hq, bb⟩
      exact hK.out _ _ ⟨e2, e5, e6, e8, e10, e12, e7, e9, e11, e13, (hb.trans (bb.mono hb.size)), f0, f1, f2, f3, f4, f5, f6, (fun h => (f7 h).below bb), f8, f9, f10, f11, f12, f13, f14, f15, f16, f17, f18, fun _ => hq, f20, f21, f22, f23, f24, f25, f26, f27, f28⟩
    case s20 =>
      rintro L a v w hv hg hL hd hcl ⟨e2, e5, e6, e8, e10, e12, e7, e9, e11, e13, hb, f0, f1, f2, f3, f4, f5, f6, f7, f8, f9, f10, f11, f12, f13, f14, f15, f16, f17, f18, f19, f20, f21, f22, f23, f24, f25, f26, f27, f28⟩ K hK
      refine step_want (j := 17) (s := 81) (b := false) rfl rfl ((hv 81).trans (f17 (hd 17 (by decide)))) ?_
      refine wp_ld rowRBo (.tmp 12) rfl ((hv 12).trans e12) (k12.below hb k12.lt) s12 ?_
      exact hK.out _ _ ⟨e2, e5, e6, e8, e10, e12, e7, e9, e11, e13, hb, f0, f1, f2, f3, f4, f5, f6, f7, f8, f9, f10, f11, f12, f13, f14, f15, f16, f17, f18, f19, fun _ => rfl, f21, f22, f23, f24, f25, f26, f27, f28⟩
    case s21 =>
      rintro L a v w hv hg hL hd hcl ⟨e2, e5, e6, e8, e10, e12, e7, e9, e11, e13, hb, f0, f1, f2, f3, f4, f5, f6, f7, f8, f9, f10, f11, f12, f13, f14, f15, f16, f17, f18, f19, f20, f21, f22, f23, f24, f25, f26, f27, f28⟩ K hK
      have h19 := f19 (hd 19 (by decide))
      have h20 := f20 (hd 20 (by decide))
      refine step_want (j := 17) (s := 81) (b := false) rfl rfl ((hv 81).trans (f17 (hd 17 (by decide)))) ?_
      clear hv
      go_simp
      refine (sameTB US.out UW.out h19.fresh (h12v.below hb)).mono ?_
      rintro e wy ⟨rfl, bb⟩
      exact hK.out _ _ ⟨e2, e5, e6, e8, e10, e12, e7, e9, e11, e13, (hb.trans (bb.mono hb.size)), f0, f1, f2, f3, f4, f5, f6, (fun h => (f7 h).below bb), f8, f9, f10, f11, f12, f13, f14, f15, f16, f17, f18, (fun h => (f19 h).below bb), f20, fun _ => rfl, f22, f23, f24, f25, f26, f27, f28⟩
    case s22 =>
      rintro L a v w hv hg hL hd hcl ⟨e2, e5, e6, e8, e10, e12, e7, e9, e11, e13, hb, f0, f1, f2, f3, f4, f5, f6, f7, f8, f9, f10, f11, f12, f13, f14, f15, f16, f17, f18, f19, f20, f21, f22, f23, f24, f25, f26, f27, f28⟩ K hK
      have g17 := f17 (hd 17 (by decide))
      refine step_want (j := 17) (s := 81) (b := false) rfl rfl ((hv 81).trans (f17 (hd 17 (by decide)))) ?_
      clear hv
      go_simp
      exact hK.out _ _ ⟨e2, e5, e6, e8, e10, e12, e7, e9, e11, e13, hb, f0, f1, f2, f3, f4, f5, f6, f7, f8, f9, f10, f11, f12, f13, f14, f15, f16, f17, f18, f19, f20, f21, fun _ => rfl, f23, f24, f25, f26, f27, f28⟩
    case s23 =>
      rintro L a v w hv hg hL hd hcl ⟨e2, e5, e6, e8, e10, e12, e7, e9, e11, e13, hb, f0, f1, f2, f3, f4, f5, f6, f7, f8, f9, f10, f11, f12, f13, f14, f15, f16, f17, f18, f19, f20, f21, f22, f23, f24, f25, f26, f27, f28⟩ K hK
      have g17 := f17 (hd 17 (by decide))
      have g22 := f22 (hd 22 (by decide))
      refine step_do rfl ?_
      clear hv
      go_simp
      exact hK.out _ _ ⟨e2, e5, e6, e8, e10, e12, e7, e9, e11, e13, hb, f0, f1, f2, f3, f4, f5, f6, f7, f8, f9, f10, f11, f12, f13, f14, f15, f16, f17, f18, f19, f20, f21, f22, fun _ => rfl, f24, f25, f26, f27, f28⟩
    case s24 =>
      rintro L a v w hv hg hL hd hcl ⟨e2, e5, e6, e8, e10, e12, e7, e9, e11, e13, hb, f0, f1, f2, f3, f4, f5, f6, f7, f8, f9, f10, f11, f12, f13, f14, f15, f16, f17, f18, f19, f20, f21, f22, f23, f24, f25, f26, f27, f28⟩ K hK
      have g23 := f23 (hd 23 (by decide))
      refine step_do rfl ?_
      clear hv
      go_simp
      exact hK.out _ _ ⟨e2, e5, e6, e8, e10, e12, e7, e9, e11, e13, hb, f0, f1, f2, f3, f4, f5, f6, f7, f8, f9, f10, f11, f12, f13, f14, f15, f16, f17, f18, f19, f20, f21, f22, f23, fun _ => rfl, f25, f26, f27, f28⟩
    case s25 =>
      rintro L a v w hv hg hL hd hcl ⟨e2, e5, e6, e8, e10, e12, e7, e9, e11, e13, hb, f0, f1, f2, f3, f4, f5, f6, f7, f8, f9, f10, f11, f12, f13, f14, f15, f16, f17, f18, f19, f20, f21, f22, f23, f24, f25, f26, f27, f28⟩ K hK
      have g24 := f24 (hd 24 (by decide))
      refine step_want (j := 24) (s := 88) (b := false) rfl rfl ((hv 88).trans (f24 (hd 24 (by decide)))) ?_
      clear hv
      go_simp
      exact hK.out _ _ ⟨e2, e5, e6, e8, e10, e12, e7, e9, e11, e13, hb, f0, f1, f2, f3, f4, f5, f6, f7, f8, f9, f10, f11, f12, f13, f14, f15, f16, f17, f18, f19, f20, f21, f22, f23, f24, fun _ => rfl, f26, f27, f28⟩
    case s26 =>
      rintro L a v w hv hg hL hd hcl ⟨e2, e5, e6, e8, e10, e12, e7, e9, e11, e13, hb, f0, f1, f2, f3, f4, f5, f6, f7, f8, f9, f10, f11, f12, f13, f14, f15, f16, f17, f18, f19, f20, f21, f22, f23, f24, f25, f26, f27, f28⟩ K hK
      have g24 := f24 (hd 24 (by decide))
      refine step_want (j := 24) (s := 88) (b := false) rfl rfl ((hv 88).trans (f24 (hd 24 (by decide)))) ?_
      clear hv
      go_simp
      exact hK.out _ _ ⟨e2, e5, e6, e8, e10, e12, e7, e9, e11, e13, hb, f0, f1, f2, f3, f4, f5, f6, f7, f8, f9, f10, f11, f12, f13, f14, f15, f16, f17, f18, f19, f20, f21, f22, f23, f24, f25, fun _ => rfl, f27, f28⟩
    case s27 =>
      rintro L a v w hv hg hL hd hcl ⟨e2, e5, e6, e8, e10, e12, e7, e9, e11, e13, hb, f0, f1, f2, f3, f4, f5, f6, f7, f8, f9, f10, f11, f12, f13, f14, f15, f16, f17, f18, f19, f20, f21, f22, f23, f24, f25, f26, f27, f28⟩ K hK
      have g24 := f24 (hd 24 (by decide))
      have g25 := f25 (hd 25 (by decide))
      have g26 := f26 (hd 26 (by decide))
      refine step_want (j := 24) (s := 88) (b := false) rfl rfl ((hv 88).trans (f24 (hd 24 (by decide)))) ?_
      clear hv
      go_simp
      exact hK.out _ _ ⟨e2, e5, e6, e8, e10, e12, e7, e9, e11, e13, hb, f0, f1, f2, f3, f4, f5, f6, f7, f8, f9, f10, f11, f12, f13, f14, f15, f16, f17, f18, f19, f20, f21, f22, f23, f24, f25, f26, fun _ => rfl, f28⟩
    case s28 =>
      rintro L a v w hv hg hL hd hcl ⟨e2, e5, e6, e8, e10, e12, e7, e9, e11, e13, hb, f0, f1, f2, f3, f4, f5, f6, f7, f8, f9, f10, f11, f12, f13, f14, f15, f16, f17, f18, f19, f20, f21, f22, f23, f24, f25, f26, f27, f28⟩ K hK
      have g24 := f24 (hd 24 (by decide))
      have g27 := f27 (hd 27 (by decide))
      refine step_do rfl ?_
      clear hv
      go_simp
      exact hK.out _ _ ⟨e2, e5, e6, e8, e10, e12, e7, e9, e11, e13, hb, f0, f1, f2, f3, f4, f5, f6, f7, f8, f9, f10, f11, f12, f13, f14, f15, f16, f17, f18, f19, f20, f21, f22, f23, f24, f25, f26, f27, fun _ => rfl⟩
  case hend =>
  rintro L v wg hall ⟨e2, e5, e6, e8, e10, e12, e7, e9, e11, e13, hb, f0, f1, f2, f3, f4, f5, f6, f7, f8, f9, f10, f11, f12, f13, f14, f15, f16, f17, f18, f19, f20, f21, f22, f23, f24, f25, f26, f27, f28⟩
  have hL : ∀ i, i < 29 → L i = true := hall
  have f0 := f0 (hL 0 (by decide))
  have f1 := f1 (hL 1 (by decide))
  have f2 := f2 (hL 2 (by decide))
  have f3 := f3 (hL 3 (by decide))
  have f4 := f4 (hL 4 (by decide))
  have f5 := f5 (hL 5 (by decide))
  have f6 := f6 (hL 6 (by decide))
  have f7 := f7 (hL 7 (by decide))
  have f8 := f8 (hL 8 (by decide))
  have f9 := f9 (hL 9 (by decide))
  have f10 := f10 (hL 10 (by decide))
  have f11 := f11 (hL 11 (by decide))
  have f12 := f12 (hL 12 (by decide))
  have f13 := f13 (hL 13 (by decide))
  have f14 := f14 (hL 14 (by decide))
  have f15 := f15 (hL 15 (by decide))
  have f16 := f16 (hL 16 (by decide))
  have f17 := f17 (hL 17 (by decide))
  have f18 := f18 (hL 18 (by decide))
  have f19 := f19 (hL 19 (by decide))
  have f20 := f20 (hL 20 (by decide))
  have f21 := f21 (hL 21 (by decide))
  have f22 := f22 (hL 22 (by decide))
  have f23 := f23 (hL 23 (by decide))
  have f24 := f24 (hL 24 (by decide))
  have f25 := f25 (hL 25 (by decide))
  have f26 := f26 (hL 26 (by decide))
  have f27 := f27 (hL 27 (by decide))
  have f28 := f28 (hL 28 (by decide))
  simp only [finA, List.foldl_cons, List.foldl_nil, Act.put, List.setIfInBounds_toArray, List.set_cons_succ, List.set_cons_zero, f0, f2, f4, f5, f6, f8, f10, f11, f12, f13, f14, f15, f16, f17, f18, f20, f22, f23, f24, f25, f26, f27, f28, f1, f3, f9, f21]
  have bm := bm.trans (hb.mono (by have := bm.size; have := HBe.out; omega))
  have k6 := k6.below hb k6.lt
  have o6r := o6r.below hb (Nat.le_refl _)
  clear e2 e5 e6 e8 e10 e12 e7 e9 e11 e13 f0 f1 f2 f3 f4 f5 f6 f7 f8 f9 f10 f11 f12 f13 f14 f15 f16 f17 f18 f19 f20 f21 f22 f23 f24 f25 f26 f27 f28 hL hall
  clear hb HRI1 HRI2 h2v h5v h6 h8 h10 h12 h6v h8v h10v h12v k8 k10 k12 h2 h5 kb k5
  have hrow : ∀ gr, A6 = some ⟨gr, 0, none⟩ → ∃ cur, Blk wg gr 49 cur ∧ m6 * 3 ≤ cur.size ∧ B6 ≤ gr ∧ gr ≠ g6 := fun gr hgr => by
    subst hgr
    obtain ⟨cur, hc⟩ := ownsRow_type o6r.2 rfl
    have hcb : Blk wg gr 49 cur := hc
    refine ⟨cur, hcb, ?_, (o6r.lt gr rfl).1, fun e => ?_⟩
    · by_cases h0 : m6 = 0
      · omega
      · obtain ⟨ad, e, hlt, hx⟩ := o6r.raw.at_ (k := m6 * 3 - 1) (by rw [vcs_len, ← o6r.1]; omega)
        injection e with e
        subst e
        rw [add_mk, Nat.zero_add, hcb.cell] at hx
        have := (Array.getElem?_eq_some_iff.1 hx).1
        omega
    · subst e
      have := own_ne o6r.2 k6 (by decide)
      exact this rfl
  have hnil : 0 < m6 → ∃ gr, A6 = some ⟨gr, 0, none⟩ := fun h0 => by
    obtain ⟨gr, e, _⟩ := o6r.form h0
    exact ⟨gr, e⟩
  have HNIL := Lib.hid hnil
  clear hnil o6r
  have t6 : wg.cell? ⟨g6, 48, none⟩ = some (.slice A6 m6 c6) := (k6.cell 48).trans HT6.out
  go_wp2_with fail
  go_loopw [97] (fun i wr => ∃ k : Nat, k ≤ m6 ∧ i = .int .i64 k ∧ (∀ gr, A6 = some ⟨gr, 0, none⟩ → ∃ cur, Blk wr gr 49 cur ∧ m6 * 3 ≤ cur.size ∧ B6 ≤ gr ∧ gr ≠ g6) ∧ Blk wr g6 83 Q6 ∧ Below B6 gaw wr) (fun i _ => m6 - (intOf i).toNat)
  case atStart => exact ⟨0, by omega, rfl, hrow, k6, bm⟩
  case round =>
  clear hrow k6 bm t6
  obtain ⟨k, hk, rfl, hrow, k6, bm⟩ := hrel
  by_cases hlt : k < m6
  · obtain ⟨gr, hgr⟩ := HNIL.out (by omega)
    obtain ⟨cur, kr, hcs, hBg, hne⟩ := hrow gr hgr
    have hrow2 : ∀ gr', A6 = some ⟨gr', 0, none⟩ → ∃ cur, Blk (wr.setCell ⟨gr, k * 3 + 1, none⟩ (.int .i64 (-1))) gr' 49 cur ∧ m6 * 3 ≤ cur.size ∧ B6 ≤ gr' ∧ gr' ≠ g6 := fun gr' e => by
      rw [hgr] at e
      injection e with e
      injection e with e
      subst e
      exact ⟨_, kr.set_ _ _, by simpa using hcs, hBg, hne⟩
    have k6b := k6.far (p := ⟨gr, k * 3 + 1, none⟩) (by show g6 ≠ gr; omega) (.int .i64 (-1))
    have bmb := bm.setCell (p := ⟨gr, k * 3 + 1, none⟩) hBg (.int .i64 (-1))
    have HH := Lib.hid (And.intro hrow2 (And.intro k6b bmb))
    have t6 : wr.cell? ⟨g6, 48, none⟩ = some (.slice A6 m6 c6) := (k6.cell 48).trans HT6.out
    have x0 : wr.cell? ⟨gr, k * 3, none⟩ = some cur[k * 3] := (kr.cell _).trans (Array.getElem?_eq_getElem (by omega))
    have x1 : wr.cell? ⟨gr, k * 3 + 1, none⟩ = some cur[k * 3 + 1] := (kr.cell _).trans (Array.getElem?_eq_getElem (by omega))
    have x2 := kr.free (k * 3 + 1)
    have hk0 : (0 : Int) ≤ (k : Int) := by omega
    have hkn : (k : Int) < (m6 : Int) := by omega
    clear hrow hrow2 k6b bmb kr
    subst hgr
    go_wp2_with fail
    go_roundw
    case rel => exact ⟨k + 1, by omega, by go_num, HH.out.1, HH.out.2.1, HH.out.2.2⟩
    case measure => simp [intOf]; omega
  obtain ⟨p2, p5, j2, j5⟩ := HJ.out
  have h2 := (p2.below bm).fresh
  have h5 := (p5.below bm).fresh
  have kb := j2.below bm q2
  have k5 := j5.below bm q5
  have gb := GBD.out.trans (bm.mono HBw.out)
  clear p2 p5 j2 j5 hrow k6 bm HJ
  have h2v := h2
  go_wp2_with fail
  refine wp_region_facts (fun L v w => v 2 = .pointer (some ⟨B, 0, none⟩) ∧ v 5 = .pointer (some ⟨g5, 0, none⟩) ∧ Below wr.heap.size wr w ∧ (L 0 = true → v 107 = .agg Q5) ∧ (L 1 = true → FoBo 105 b (v 108) w) ∧ (L 2 = true → v 109 = .agg C) ∧ (L 3 = true → v 110 = .bool true) ∧ (L 4 = true → v 4 = .bool true)) [107, 108, 109, 110, 4] (by kernel_rfl) (by kernel_rfl) (by kernel_rfl) (by kernel_rfl) ?h0 ?hst ?hend
  case h0 =>
    intro L h0
    have h0 : ∀ i, i < 5 → L i = false := h0
    exact ⟨rfl, rfl, (Below.refl _ _).drew, offF h0 (i := 0) (by decide), offF h0 (i := 1) (by decide), offF h0 (i := 2) (by decide), offF h0 (i := 3) (by decide), offF h0 (i := 4) (by decide)⟩
  case hst =>
    show FactSteps _ _ _ _ [0, 1, 2, 3, 4]
    refine @FactSteps.cons _ _ _ _ 0 _ [] _ rfl (by kernel_rfl) ?s0 ?_
    rotate_left
    refine @FactSteps.cons _ _ _ _ 1 _ [0] _ rfl (by kernel_rfl) ?s1 ?_
    rotate_left
    refine @FactSteps.cons _ _ _ _ 2 _ [] _ rfl (by kernel_rfl) ?s2 ?_
    rotate_left
    refine @FactSteps.cons _ _ _ _ 3 _ [1, 2, 1] _ rfl (by kernel_rfl) ?s3 ?_
    rotate_left
    refine @FactSteps.cons _ _ _ _ 4 _ [3, 3, 0, 1, 2, 3] _ rfl (by kernel_rfl) ?s4 ?_
    rotate_left
    exact FactSteps.nil
    case s0 =>
      rintro L a v w hv hg hL hd hcl ⟨e2, e5, hb, f0, f1, f2, f3, f4⟩ K hK
      refine step_do rfl ?_
      refine wp_ld rowBo (.tmp 5) rfl ((hv 5).trans e5) (k5.below hb k5.lt) s5 ?_
      exact hK.out _ _ ⟨e2, e5, hb, fun _ => rfl, f1, f2, f3, f4⟩
    case s1 =>
      rintro L a v w hv hg hL hd hcl ⟨e2, e5, hb, f0, f1, f2, f3, f4⟩ K hK
      have h0 := f0 (hd 0 (by decide))
      refine step_do rfl ?_
      clear hv
      go_simp
      refine (boFrom_any b HS.out _ _ (h5.below hb)).mono ?_
      rintro e wy ⟨q, rfl, hq, bb⟩
      exact hK.out _ _ ⟨e2, e5, (hb.trans (bb.mono hb.size)), f0, fun _ => hq, f2, f3, f4⟩
    case s2 =>
      rintro L a v w hv hg hL hd hcl ⟨e2, e5, hb, f0, f1, f2, f3, f4⟩ K hK
      refine step_do rfl ?_
      refine wp_ld rowRBo (.tmp 2) rfl ((hv 2).trans e2) (kb.below hb kb.lt) HSZ.out ?_
      exact hK.out _ _ ⟨e2, e5, hb, f0, f1, fun _ => rfl, f3, f4⟩
    case s3 =>
      rintro L a v w hv hg hL hd hcl ⟨e2, e5, hb, f0, f1, f2, f3, f4⟩ K hK
      have h1 := f1 (hd 1 (by decide))
      have h2 := f2 (hd 2 (by decide))
      refine step_do rfl ?_
      clear hv
      go_simp
      refine (sameTB HS.out HW.out h1.fresh (h2v.below hb)).mono ?_
      rintro e wy ⟨rfl, bb⟩
      exact hK.out _ _ ⟨e2, e5, (hb.trans (bb.mono hb.size)), f0, (fun h => (f1 h).below bb), f2, fun _ => rfl, f4⟩
    case s4 =>
      rintro L a v w hv hg hL hd hcl ⟨e2, e5, hb, f0, f1, f2, f3, f4⟩ K hK
      have g0 := f0 (hd 0 (by decide))
      have g2 := f2 (hd 2 (by decide))
      refine step_do rfl ?_
      clear hv
      go_simp
      exact hK.out _ _ ⟨e2, e5, hb, f0, f1, f2, f3, fun _ => rfl⟩
  case hend =>
  rintro L v wz hall ⟨e2, e5, hb, f0, f1, f2, f3, f4⟩
  have hL : ∀ i, i < 5 → L i = true := hall
  have f0 := f0 (hL 0 (by decide))
  have f1 := f1 (hL 1 (by decide))
  have f2 := f2 (hL 2 (by decide))
  have f3 := f3 (hL 3 (by decide))
  have f4 := f4 (hL 4 (by decide))
  simp only [finA, List.foldl_cons, List.foldl_nil, Act.put, List.setIfInBounds_toArray, List.set_cons_succ, List.set_cons_zero, f0, f2, f4, f3]
  have gb := gb.trans (hb.mono gb.size)
  clear e2 e5 f0 f1 f2 f3 f4 hL hall
  go_wp2_with fail
  go_ret
  exact ⟨rfl, gb⟩
set_option maxRecDepth 100000 in
theorem lifted (os : Os) (started : os.Started) (H : Type) (enc : TypeId × Value → H) :
    ReturnsInHanded {} Try.checked os 8 .any (Rows.boardWritesSpec.pre6 enc Try.prog Try.f8 Rows.boardWritesRow.domain false) (Rows.boardWritesSpec.post enc Try.prog Try.f8 false true false false) := by
  refine returnsInHanded_of_change (C := Try.checked) own started (by kernel_rfl) Try.func8
    (ChangeSpec.witness6 (enc := enc) (C := Try.checked) false ⟨#[], #[.agg #[.int .i64 0, .int .i64 0, .int .i64 0, .int .i64 0, .int .i64 0, .int .i64 0, .int .i64 0, .int .i64 0, .int .i64 0, .int .i64 0, .int .i64 0, .int .i64 0, .int .i64 0, .int .i64 0, .int .i64 0, .int .i64 0, .int .i64 0, .int .i64 0, .int .i64 0, .int .i64 0, .int .i64 0, .int .i64 0, .int .i64 0, .int .i64 0, .int .i64 0, .int .i64 0, .int .i64 0, .int .i64 0, .int .i64 0, .int .i64 0, .int .i64 0, .int .i64 0, .int .i64 0, .int .i64 0, .int .i64 0, .int .i64 0, .int .i64 0, .int .i64 0, .int .i64 0, .int .i64 0, .int .i64 0, .int .i64 0, .int .i64 0, .int .i64 0, .int .i64 0, .int .i64 0, .int .i64 0, .int .i64 0, .slice none 0 0], .agg #[.int .i64 0, .int .i64 0, .int .i64 0]], []⟩ 8 (by kernel_rfl) (by kernel_rfl) (by kernel_rfl) (by kernel_rfl)) ?_
  intro W base args ds gs before hval0 hW hcnd _
  have hval : ∀ (j : Nat) t v, Try.f8.params[j]? = some t → args[j]? = some v → Value.okWide Try.prog W .any base t v := hval0
  have hW' := hW
  obtain ⟨p, q, hA0, hV, rfl, hfz, hnd⟩ := hW
  have hA : DataW.TrodAll enc Try.prog W 0 (fun _ => true) true Try.f8.params.toList args.toList ds p := hA0
  rw [Try.params8] at hA hval
  obtain ⟨v0, vs0, d0, ds0, p0, q0, hargs, rfl, rfl, h0, r0⟩ := trodAll_cons hA
  obtain ⟨v1, vs1, d1, ds1, p1, q1, rfl, rfl, rfl, h1, r1⟩ := trodAll_cons r0
  obtain ⟨rfl, rfl, rfl⟩ := trodAll_nil r1
  obtain rfl : args = #[v0, v1] := by cases args; simp_all
  obtain ⟨rfl, rfl⟩ := trodVars_none hV
  have lt0 : ∀ x ∈ p0, x.block < W.heap.size := by obtain ⟨m, hm⟩ := h0; exact DataW.trod_lt m _ _ _ hm
  have k0 := h0
  have lt1 : ∀ x ∈ p1, x.block < W.heap.size := by obtain ⟨m, hm⟩ := h1; exact DataW.trod_lt m _ _ _ hm
  have k1 := h1
  obtain ⟨b0, A0, n0, c0, rfl, hs0, hw0, hr0, hn0⟩ := open_board (hval 0 76 v0 rfl rfl) h0
  obtain ⟨x1, y1, z1, rfl, wx1, wy1, wz1⟩ := open_stp (hval 1 97 v1 rfl rfl) h1
  clear hA0 hval0
  refine (walk b0 A0 n0 c0 x1 y1 z1 W hs0 hw0 hr0 hn0).mono fun e W' ⟨he, bel⟩ => ?_
  subst he
  exact ⟨_, rfl, _, _, _, [], _, [], hW', trodAll_mk1 (shut_bool Try.underlying4 _), (trodAll_cons_mk (Below.trod laidOut (by kernel_rfl) (of_decide_eq_true (by kernel_rfl)) k0 bel lt0) (trodAll_cons_mk (Below.trod laidOut (by kernel_rfl) (of_decide_eq_true (by kernel_rfl)) k1 bel lt1) trodAll_mk0)), rfl, bel.frame _, fun h => by cases h⟩

theorem proved : Rows.BoardWritesSaid :=
  OpenClaim.holds_of_wide 8 Try.f8 rfl rfl rfl rfl rfl rfl rfl ⟨rfl, rfl, rfl, rfl, rfl⟩ rfl rfl rfl rfl rfl (by kernel_rfl) Try.func8 (by kernel_rfl)
    (of_decide_eq_true (by kernel_rfl)) (by unfold Func.isWrapper; first | (rw [if_pos (by decide +kernel)]; kernel_rfl) | (rw [if_neg (by decide +kernel)]; exact ⟨rfl, rfl⟩))
    (fun os started H enc _ => lifted os started H enc)
#print axioms proved
end Go.Proofs.Ytocoohpekpkmkaa.BoardWrites

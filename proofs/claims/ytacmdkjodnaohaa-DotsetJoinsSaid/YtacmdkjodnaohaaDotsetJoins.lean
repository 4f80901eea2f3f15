/- DotsetJoins: joins go both ways, in any order; joined once more nothing changes; what a join has the one or the other has: the whole statement, without a condition (regions 3 and 6 printed by wip/gen/joins.py). -/
import Derived.Test.YtacmdkjodnaohaaDotSame1
namespace Go.Proofs.Ytacmdkjodnaohaa.DotsetJoins
open Go.ChangeShapes Go.WideShapes Go.ChangeAt Go.RowKit Go.Deep
open Dot
set_option linter.unusedVariables false
set_option linter.unusedSimpArgs false
theorem meet2 {a1 a2 : Type} {F : a1 → a2 → Prop} {M : a1 → a2 → Prop} {G : Prop} (hmain : (∀ x1 x2, F x1 x2 → M x1 x2) → G) (hkey : ∀ x1 x2, F x1 x2 → M x1 x2) : G := hmain hkey
theorem meet3 {a1 a2 a3 : Type} {F : a1 → a2 → a3 → Prop} {M : a1 → a2 → a3 → Prop} {G : Prop} (hmain : (∀ x1 x2 x3, F x1 x2 x3 → M x1 x2 x3) → G) (hkey : ∀ x1 x2 x3, F x1 x2 x3 → M x1 x2 x3) : G := hmain hkey
theorem meet4 {a1 a2 a3 a4 : Type} {F : a1 → a2 → a3 → a4 → Prop} {M : a1 → a2 → a3 → a4 → Prop} {G : Prop} (hmain : (∀ x1 x2 x3 x4, F x1 x2 x3 x4 → M x1 x2 x3 x4) → G) (hkey : ∀ x1 x2 x3 x4, F x1 x2 x3 x4 → M x1 x2 x3 x4) : G := hmain hkey
theorem meet5 {a1 a2 a3 a4 a5 : Type} {F : a1 → a2 → a3 → a4 → a5 → Prop} {M : a1 → a2 → a3 → a4 → a5 → Prop} {G : Prop} (hmain : (∀ x1 x2 x3 x4 x5, F x1 x2 x3 x4 x5 → M x1 x2 x3 x4 x5) → G) (hkey : ∀ x1 x2 x3 x4 x5, F x1 x2 x3 x4 x5 → M x1 x2 x3 x4 x5) : G := hmain hkey
theorem meet6 {a1 a2 a3 a4 a5 a6 : Type} {F : a1 → a2 → a3 → a4 → a5 → a6 → Prop} {M : a1 → a2 → a3 → a4 → a5 → a6 → Prop} {G : Prop} (hmain : (∀ x1 x2 x3 x4 x5 x6, F x1 x2 x3 x4 x5 x6 → M x1 x2 x3 x4 x5 x6) → G) (hkey : ∀ x1 x2 x3 x4 x5 x6, F x1 x2 x3 x4 x5 x6 → M x1 x2 x3 x4 x5 x6) : G := hmain hkey
theorem meet7 {a1 a2 a3 a4 a5 a6 a7 : Type} {F : a1 → a2 → a3 → a4 → a5 → a6 → a7 → Prop} {M : a1 → a2 → a3 → a4 → a5 → a6 → a7 → Prop} {G : Prop} (hmain : (∀ x1 x2 x3 x4 x5 x6 x7, F x1 x2 x3 x4 x5 x6 x7 → M x1 x2 x3 x4 x5 x6 x7) → G) (hkey : ∀ x1 x2 x3 x4 x5 x6 x7, F x1 x2 x3 x4 x5 x6 x7 → M x1 x2 x3 x4 x5 x6 x7) : G := hmain hkey
theorem meet8 {a1 a2 a3 a4 a5 a6 a7 a8 : Type} {F : a1 → a2 → a3 → a4 → a5 → a6 → a7 → a8 → Prop} {M : a1 → a2 → a3 → a4 → a5 → a6 → a7 → a8 → Prop} {G : Prop} (hmain : (∀ x1 x2 x3 x4 x5 x6 x7 x8, F x1 x2 x3 x4 x5 x6 x7 x8 → M x1 x2 x3 x4 x5 x6 x7 x8) → G) (hkey : ∀ x1 x2 x3 x4 x5 x6 x7 x8, F x1 x2 x3 x4 x5 x6 x7 x8 → M x1 x2 x3 x4 x5 x6 x7 x8) : G := hmain hkey
theorem meet9 {a1 a2 a3 a4 a5 a6 a7 a8 a9 : Type} {F : a1 → a2 → a3 → a4 → a5 → a6 → a7 → a8 → a9 → Prop} {M : a1 → a2 → a3 → a4 → a5 → a6 → a7 → a8 → a9 → Prop} {G : Prop} (hmain : (∀ x1 x2 x3 x4 x5 x6 x7 x8 x9, F x1 x2 x3 x4 x5 x6 x7 x8 x9 → M x1 x2 x3 x4 x5 x6 x7 x8 x9) → G) (hkey : ∀ x1 x2 x3 x4 x5 x6 x7 x8 x9, F x1 x2 x3 x4 x5 x6 x7 x8 x9 → M x1 x2 x3 x4 x5 x6 x7 x8 x9) : G := hmain hkey
theorem meet10 {a1 a2 a3 a4 a5 a6 a7 a8 a9 a10 : Type} {F : a1 → a2 → a3 → a4 → a5 → a6 → a7 → a8 → a9 → a10 → Prop} {M : a1 → a2 → a3 → a4 → a5 → a6 → a7 → a8 → a9 → a10 → Prop} {G : Prop} (hmain : (∀ x1 x2 x3 x4 x5 x6 x7 x8 x9 x10, F x1 x2 x3 x4 x5 x6 x7 x8 x9 x10 → M x1 x2 x3 x4 x5 x6 x7 x8 x9 x10) → G) (hkey : ∀ x1 x2 x3 x4 x5 x6 x7 x8 x9 x10, F x1 x2 x3 x4 x5 x6 x7 x8 x9 x10 → M x1 x2 x3 x4 x5 x6 x7 x8 x9 x10) : G := hmain hkey
theorem meet11 {a1 a2 a3 a4 a5 a6 a7 a8 a9 a10 a11 : Type} {F : a1 → a2 → a3 → a4 → a5 → a6 → a7 → a8 → a9 → a10 → a11 → Prop} {M : a1 → a2 → a3 → a4 → a5 → a6 → a7 → a8 → a9 → a10 → a11 → Prop} {G : Prop} (hmain : (∀ x1 x2 x3 x4 x5 x6 x7 x8 x9 x10 x11, F x1 x2 x3 x4 x5 x6 x7 x8 x9 x10 x11 → M x1 x2 x3 x4 x5 x6 x7 x8 x9 x10 x11) → G) (hkey : ∀ x1 x2 x3 x4 x5 x6 x7 x8 x9 x10 x11, F x1 x2 x3 x4 x5 x6 x7 x8 x9 x10 x11 → M x1 x2 x3 x4 x5 x6 x7 x8 x9 x10 x11) : G := hmain hkey
theorem meet12 {a1 a2 a3 a4 a5 a6 a7 a8 a9 a10 a11 a12 : Type} {F : a1 → a2 → a3 → a4 → a5 → a6 → a7 → a8 → a9 → a10 → a11 → a12 → Prop} {M : a1 → a2 → a3 → a4 → a5 → a6 → a7 → a8 → a9 → a10 → a11 → a12 → Prop} {G : Prop} (hmain : (∀ x1 x2 x3 x4 x5 x6 x7 x8 x9 x10 x11 x12, F x1 x2 x3 x4 x5 x6 x7 x8 x9 x10 x11 x12 → M x1 x2 x3 x4 x5 x6 x7 x8 x9 x10 x11 x12) → G) (hkey : ∀ x1 x2 x3 x4 x5 x6 x7 x8 x9 x10 x11 x12, F x1 x2 x3 x4 x5 x6 x7 x8 x9 x10 x11 x12 → M x1 x2 x3 x4 x5 x6 x7 x8 x9 x10 x11 x12) : G := hmain hkey
theorem meet13 {a1 a2 a3 a4 a5 a6 a7 a8 a9 a10 a11 a12 a13 : Type} {F : a1 → a2 → a3 → a4 → a5 → a6 → a7 → a8 → a9 → a10 → a11 → a12 → a13 → Prop} {M : a1 → a2 → a3 → a4 → a5 → a6 → a7 → a8 → a9 → a10 → a11 → a12 → a13 → Prop} {G : Prop} (hmain : (∀ x1 x2 x3 x4 x5 x6 x7 x8 x9 x10 x11 x12 x13, F x1 x2 x3 x4 x5 x6 x7 x8 x9 x10 x11 x12 x13 → M x1 x2 x3 x4 x5 x6 x7 x8 x9 x10 x11 x12 x13) → G) (hkey : ∀ x1 x2 x3 x4 x5 x6 x7 x8 x9 x10 x11 x12 x13, F x1 x2 x3 x4 x5 x6 x7 x8 x9 x10 x11 x12 x13 → M x1 x2 x3 x4 x5 x6 x7 x8 x9 x10 x11 x12 x13) : G := hmain hkey
/-- three sets and a dot, as they lie -/
def three (a b c : Array Value) (x q : Int) : Array Value := (a.toList ++ b.toList ++ c.toList ++ [Value.int .i64 x, Value.int .i64 q]).toArray
section
set_option maxRecDepth 100000
theorem cells3 : (Try.prog).cellsOf 56 = 29 := by kernel_rfl
theorem rd_set {H : Type} {enc : TypeId × Value → H} {W : World} {base : Nat} {sp : Nat → Bool} {held : Bool} {fuel : Nat} {cs : List Value} {x : DataW H × List MemPlace} (hf : DataW.trod enc Try.prog W base sp held fuel 25 cs = some x) :
    ∃ (U : List Int) (A : Option Addr) (n c : Nat) (l : List Dt), cs = (uc U (.slice A n c)).toList ∧ U.length = 8 ∧ Wf U ∧ RdD W W.heap.size A n l ∧ n ≤ maxLen := by
  have hl := rd_len Try.underlying25 cellsLS hf
  obtain ⟨_, _, g0⟩ := rd_field Try.underlying25 hf 0 22 0 8 rfl cellsA
  obtain ⟨_, _, g1⟩ := rd_field Try.underlying25 hf 1 23 8 1 rfl cellsDs
  obtain ⟨U, e0, hU, wU⟩ := rd_arr8 g0
  obtain ⟨A, n, c, l, e1, hr, hn⟩ := rd_dots g1
  refine ⟨U, A, n, c, l, ?_, hU, wU, hr, hn⟩
  unfold uc
  rw [← e0, ← e1, List.drop_zero, List.take_of_length_le (l := cs.drop 8) (by simp; omega), List.take_append_drop]
theorem open_three {H : Type} {enc : TypeId × Value → H} {W : World} {base : Nat} {sp : Nat → Bool} {held : Bool} {r : Reach} {b0 : Nat} {v : Value} {d : DataW H} {p : List MemPlace}
    (hv : Value.okWide Try.prog W r b0 56 v) (h : DataW.Trod enc Try.prog W base sp held 56 v d p) :
    ∃ (Ua : List Int) (Aa : Option Addr) (na ca : Nat) (la : List Dt) (Ub : List Int) (Ab : Option Addr) (nb cb : Nat) (lb : List Dt) (Uc : List Int) (Ac : Option Addr) (nc cc : Nat) (lc : List Dt) (x q : Int), v = .agg (three (uc Ua (.slice Aa na ca)) (uc Ub (.slice Ab nb cb)) (uc Uc (.slice Ac nc cc)) x q) ∧
      (Ua.length = 8 ∧ Wf Ua ∧ RdD W W.heap.size Aa na la ∧ na ≤ maxLen) ∧ (Ub.length = 8 ∧ Wf Ub ∧ RdD W W.heap.size Ab nb lb ∧ nb ≤ maxLen) ∧ (Uc.length = 8 ∧ Wf Uc ∧ RdD W W.heap.size Ac nc lc ∧ nc ≤ maxLen) := by
  obtain ⟨cs, rfl, hsz⟩ := okWide_struct Try.underlying56 hv
  obtain ⟨fuel, hf0⟩ := h
  have hf : DataW.trod enc Try.prog W base sp held fuel 56 cs.toList = some (d, p) := hf0
  have hl := rd_len Try.underlying56 cells3 hf
  obtain ⟨_, _, g0⟩ := rd_field Try.underlying56 hf 0 25 0 9 rfl cellsLS
  obtain ⟨_, _, g1⟩ := rd_field Try.underlying56 hf 1 25 9 9 rfl cellsLS
  obtain ⟨_, _, g2⟩ := rd_field Try.underlying56 hf 2 25 18 9 rfl cellsLS
  obtain ⟨_, _, g3⟩ := rd_field Try.underlying56 hf 3 27 27 2 rfl cellsD
  obtain ⟨Ua, Aa, na, ca, la, e0, h0⟩ := rd_set g0
  obtain ⟨Ub, Ab, nb, cb, lb, e1, h1⟩ := rd_set g1
  obtain ⟨Uc, Ac, nc, cc, lc, e2, h2⟩ := rd_set g2
  obtain ⟨dd, e3⟩ := rd_dot g3
  refine ⟨Ua, Aa, na, ca, la, Ub, Ab, nb, cb, lb, Uc, Ac, nc, cc, lc, dd.1, dd.2, ?_, h0, h1, h2⟩
  unfold three
  rw [← e0, ← e1, ← e2, ← e3]
  congr 1
  rw [← Array.toArray_toList (xs := cs)]
  congr 1
  generalize cs.toList = ys at hl
  rw [List.drop_zero, List.take_of_length_le (l := ys.drop 27) (by simp; omega)]
  have a1 : ys = ys.take 9 ++ ys.drop 9 := (List.take_append_drop 9 ys).symm
  have a2 : ys.drop 9 = (ys.drop 9).take 9 ++ ys.drop 18 := by have := (List.take_append_drop 9 (ys.drop 9)).symm; rwa [List.drop_drop] at this
  have a3 : ys.drop 18 = (ys.drop 18).take 9 ++ ys.drop 27 := by have := (List.take_append_drop 9 (ys.drop 18)).symm; rwa [List.drop_drop] at this
  conv => lhs; rw [a1, a2, a3]
  simp only [List.append_assoc]
end
theorem three_at {w : World} {b : Nat} {t : TypeId} {sa sb sc : Array Value} {x q : Int} (h : Blk w b t (three sa sb sc x q)) (ha : sa.size = 9) (hb : sb.size = 9) (hc : sc.size = 9) :
    w.rangeAt b 0 sa.toList ∧ w.rangeAt b 9 sb.toList ∧ w.rangeAt b 18 sc.toList ∧ w.rangeAt b 27 (#[.int .i64 x, .int .i64 q] : Array Value).toList := by
  have la : sa.toList.length = 9 := by rw [Array.length_toList, ha]
  have lb : sb.toList.length = 9 := by rw [Array.length_toList, hb]
  have lc : sc.toList.length = 9 := by rw [Array.length_toList, hc]
  have key : ∀ (pre mid post : List Value), sa.toList ++ sb.toList ++ sc.toList ++ [Value.int .i64 x, Value.int .i64 q] = pre ++ mid ++ post → w.rangeAt b pre.length mid := fun pre mid post e j v hv => by
    have hj : j < mid.length := (List.getElem?_eq_some_iff.1 hv).1
    rw [h.cell]
    unfold three
    rw [e, List.getElem?_toArray, List.append_assoc, List.getElem?_append_right (by omega), Nat.add_sub_cancel_left, List.getElem?_append_left hj]
    exact hv
  refine ⟨?_, ?_, ?_, ?_⟩
  · exact key [] sa.toList (sb.toList ++ sc.toList ++ [.int .i64 x, .int .i64 q]) (by simp)
  · have := key sa.toList sb.toList (sc.toList ++ [.int .i64 x, .int .i64 q]) (by simp)
    rwa [la] at this
  · have := key (sa.toList ++ sb.toList) sc.toList [.int .i64 x, .int .i64 q] (by simp)
    rwa [List.length_append, la, lb] at this
  · have := key (sa.toList ++ sb.toList ++ sc.toList) [.int .i64 x, .int .i64 q] [] (by simp)
    rwa [List.length_append, List.length_append, la, lb, lc] at this
theorem dt_one (x q : Int) : (#[Value.int .i64 x, Value.int .i64 q] : Array Value).all (·.oneCell') = true := by simp [Value.oneCell']
theorem yieldsIf_ldo {P : Program} {T : TypeId} {n g : Nat} {cs : Array Value} {ops : Array Oper} {S : World → Prop} {o : Oper} {a : Act} (hw : Region.wanted o (yielded ops a.tmps) = true) (hR : RowT P T n) (x : Operand) (ho : o.op = .load T x) (off : Nat) (hx : a.eval x = .pointer (some ⟨g, off, none⟩)) (hS : ∀ w, S w → w.rangeAt g off cs.toList) (hn : cs.size = n) : YieldsIf P ops S o (.agg cs) a := by
  obtain ⟨d, hu, hd, hi⟩ := hR
  rw [← hn, ← Array.length_toList] at hi
  have := yieldsIf_load_mid (P := P) (ops := ops) (S := S) (op := o) (a := a) hw T x ho g off hx cs.toList d hS hu hd hi
  simpa using this
theorem buildL3 {U V T : List Int} (h : U.length = 8) (h' : V.length = 8) (h'' : T.length = 8) (A B C : Option Addr) (n c m d k j : Nat) (w : World) : (Instr.buildSlice 69 3 #[(0, .agg (uc U (.slice A n c))), (1, .agg (uc V (.slice B m d))), (2, .agg (uc T (.slice C k j)))]).run Try.prog w = .ok (.slice (some ⟨w.heap.size, 0, none⟩) 3 3) (w.alloc (.cells (uc U (.slice A n c) ++ uc V (.slice B m d) ++ uc T (.slice C k j)) 25)) := by
  obtain ⟨a, b, c, d, e, f, g, i, rfl⟩ := eight h
  obtain ⟨a, b, c, d, e, f, g, i, rfl⟩ := eight h'
  obtain ⟨a, b, c, d, e, f, g, i, rfl⟩ := eight h''
  kernel_rfl
theorem rowset_three {w : World} {B : Nat} (s u v : SetV) (h : s.U.length = 8) (h' : u.U.length = 8) (h'' : v.U.length = 8) (hr : RdD w B s.A s.n s.l) (hr' : RdD w B u.A u.n u.l) (hr'' : RdD w B v.A v.n v.l) (hB : B ≤ w.heap.size) (t : TypeId) (mk : Nat × Nat) :
    RowSet (w.alloc (.cells (uc s.U (.slice s.A s.n s.c) ++ uc u.U (.slice u.A u.n u.c) ++ uc v.U (.slice v.A v.n v.c)) t mk)) B w.heap.size [s, u, v] := by
  refine ⟨by simp, fun i x hi => ?_⟩
  have hb : Below w.heap.size w (w.alloc (.cells (uc s.U (.slice s.A s.n s.c) ++ uc u.U (.slice u.A u.n u.c) ++ uc v.U (.slice v.A v.n v.c)) t mk)) := (Below.refl _ _).alloc (Nat.le_refl _) _
  have hs := uc_size h (.slice s.A s.n s.c)
  have hu := uc_size h' (.slice u.A u.n u.c)
  have hl9 : ∀ (z : SetV) (j : Nat) (y : Value), z.U.length = 8 → z.cs[j]? = some y → j < 9 := fun z j y hz hy => by
    have := (List.getElem?_eq_some_iff.1 hy).1
    unfold SetV.cs at this
    rw [List.length_append, List.length_map, hz] at this
    exact this
  match i, hi with
  | 0, hi =>
    simp at hi
    subst hi
    refine ⟨fun j y hy => ?_, h, hr.below (hb.mono hB)⟩
    have hj := hl9 _ j y h hy
    rw [Nat.zero_mul, Nat.zero_add, World.cell?_alloc_mark, Array.getElem?_append_left (by rw [Array.size_append]; omega), Array.getElem?_append_left (by omega)]
    unfold uc
    rw [List.getElem?_toArray]
    exact hy
  | 1, hi =>
    simp at hi
    subst hi
    refine ⟨fun j y hy => ?_, h', hr'.below (hb.mono hB)⟩
    have hj := hl9 _ j y h' hy
    rw [World.cell?_alloc_mark, Array.getElem?_append_left (by rw [Array.size_append]; omega), Array.getElem?_append_right (by omega), hs, show 1 * 9 + j - 9 = j by omega]
    unfold uc
    rw [List.getElem?_toArray]
    exact hy
  | 2, hi =>
    simp at hi
    subst hi
    refine ⟨fun j y hy => ?_, h'', hr''.below (hb.mono hB)⟩
    rw [World.cell?_alloc_mark, Array.getElem?_append_right (by rw [Array.size_append]; omega), Array.size_append, hs, hu, show 2 * 9 + j - (9 + 9) = j by omega]
    unfold uc
    rw [List.getElem?_toArray]
    exact hy
  | i + 3, hi => simp at hi
set_option maxRecDepth 100000 in
set_option maxHeartbeats 8000000 in
theorem walk (Ua : List Int) (Aa : Option Addr) (na ca : Nat) (la : List Dt) (Ub : List Int) (Ab : Option Addr) (nb cb : Nat) (lb : List Dt) (Uc : List Int) (Ac : Option Addr) (nc cc : Nat) (lc : List Dt) (x q : Int) (w : World)
    (ha : Ua.length = 8 ∧ Wf Ua ∧ RdD w w.heap.size Aa na la ∧ na ≤ maxLen) (hb : Ub.length = 8 ∧ Wf Ub ∧ RdD w w.heap.size Ab nb lb ∧ nb ≤ maxLen) (hc : Uc.length = 8 ∧ Wf Uc ∧ RdD w w.heap.size Ac nc lc ∧ nc ≤ maxLen) :
    Calls Try.prog 5 #[.agg (three (uc Ua (.slice Aa na ca)) (uc Ub (.slice Ab nb cb)) (uc Uc (.slice Ac nc cc)) x q)] w fun e w' => e = .returned (.bool true) ∧ Below w.heap.size w w' := by
  obtain ⟨hUa, wUa, hra, _⟩ := ha
  obtain ⟨hUb, wUb, hrb, _⟩ := hb
  obtain ⟨hUc, wUc, hrc, _⟩ := hc
  have hen : ∀ (args : Array Value) (w : World), (callFunc 28 args).run Try.prog w = .ok (.enter 28 args) w := fun _ _ => rfl
  have HSa := Lib.hid (uc_size hUa (.slice Aa na ca))
  have HSb := Lib.hid (uc_size hUb (.slice Ab nb cb))
  have HSc := Lib.hid (uc_size hUc (.slice Ac nc cc))
  have H1a := Lib.hid (uc_one (U := Ua) (s := .slice Aa na ca) rfl)
  have H1b := Lib.hid (uc_one (U := Ub) (s := .slice Ab nb cb) rfl)
  have H1c := Lib.hid (uc_one (U := Uc) (s := .slice Ac nc cc) rfl)
  have HUa := Lib.hid hUa
  have HUb := Lib.hid hUb
  have HUc := Lib.hid hUc
  have hrow := fun (w' : World) (hb : Below w.heap.size w w') => rowset_three ⟨Ua, Aa, na, ca, la⟩ ⟨Ub, Ab, nb, cb, lb⟩ ⟨Uc, Ac, nc, cc, lc⟩ hUa hUb hUc ((hra.below hb).more hb.size) ((hrb.below hb).more hb.size) ((hrc.below hb).more hb.size) (Nat.le_refl _) 25 (0, 0)
  have hbl := buildL3 hUa hUb hUc Aa Ab Ac na ca nb cb nc cc
  obtain ⟨sa, hsa⟩ : ∃ s, s = uc Ua (.slice Aa na ca) := ⟨_, rfl⟩
  obtain ⟨sb, hsb⟩ : ∃ s, s = uc Ub (.slice Ab nb cb) := ⟨_, rfl⟩
  obtain ⟨sc, hsc⟩ : ∃ s, s = uc Uc (.slice Ac nc cc) := ⟨_, rfl⟩
  simp only at hrow
  rw [← hsa, ← hsb, ← hsc] at hbl hrow ⊢
  obtain ⟨sq, hsq⟩ : ∃ s, s = sa ++ sb ++ sc := ⟨_, rfl⟩
  rw [← hsq] at hbl hrow
  clear hsq
  rw [← hsa] at HSa H1a
  rw [← hsb] at HSb H1b
  rw [← hsc] at HSc H1c
  have HROW := Lib.hid hrow
  have HBL := Lib.hid hbl
  have HSAE := Lib.hid hsa
  have HSBE := Lib.hid hsb
  have HSCE := Lib.hid hsc
  have h3z : three sa sb sc x q = three sa sb sc x q := rfl
  obtain ⟨s3, hs3⟩ : ∃ s, s = three sa sb sc x q := ⟨_, rfl⟩
  rw [← hs3]
  have HS3E := Lib.hid hs3
  clear hsa hsb hsc hbl hrow hUa hUb hUc h3z hs3
  have HRA := Lib.hid hra
  have HRB := Lib.hid hrb
  have HRC := Lib.hid hrc
  have WA := Lib.hid wUa
  have WB := Lib.hid wUb
  have WC := Lib.hid wUc
  clear hra hrb hrc wUa wUb wUc
  go_enter Try.func5, Try.ntmps5
  go_upto_region 1 with fail
  refine nameW ?_
  intro wv hwv
  obtain ⟨b, hb⟩ : ∃ b, b = w.heap.size := ⟨_, rfl⟩
  rw [← hb]
  have kb : Blk wv b 56 s3 := by rw [hwv, hb]; exact Blk.new w _ _
  have gb : Below w.heap.size w wv := by rw [hwv]; exact (Below.refl _ _).alloc (Nat.le_refl _) _
  have hbw : w.heap.size ≤ b := by omega
  clear hwv hb
  go_wp2_with fail
  refine (alive06 wv).mono ?_
  rintro e w1 ⟨rfl, h1⟩
  have kb1 := kb.below h1 kb.lt
  have b1 := gb.trans (h1.mono gb.size)
  clear kb gb h1
  rw [HS3E.out] at kb1
  obtain ⟨ra, rb, rc, rdd⟩ := three_at kb1 HSa.out HSb.out HSc.out
  have hb1 := kb1.lt
  have HRa := Lib.hid ra
  have HRb := Lib.hid rb
  have HRc := Lib.hid rc
  have HRd := Lib.hid rdd
  clear ra rb rc rdd kb1
  go_upto_region 3 with fail
  refine wp_region_held_drew (S := fun w' => Below w1.heap.size w1 w') (by kernel_rfl) (Below.refl _ _).drew (fun hS => ?_)
  generalize w1.drew = wd at *
  refine wpAnyH_take (i := 0) (v := ?rv208) rfl (by kernel_rfl) (by kernel_rfl) (by kernel_rfl) (fun _ _ _ h => h) (Or.inl ⟨by rfl, ?ry208⟩) hS ?_
  case ry208 => (intro wS hSw; clear hSw; go_simp; (try with_reducible rfl))
  simp only [Act.put, List.getElem_toArray, List.getElem_cons_zero, List.getElem_cons_succ, List.setIfInBounds_toArray, List.set_cons_succ, List.set_cons_zero]
  refine wpAnyH_take (i := 2) (v := ?rv211) rfl (by kernel_rfl) (by kernel_rfl) (by kernel_rfl) (fun _ _ _ h => h) (Or.inl ⟨by rfl, ?ry211⟩) hS ?_
  case ry211 => (intro wS hSw; clear hSw; go_simp; (try with_reducible rfl))
  simp only [Act.put, List.getElem_toArray, List.getElem_cons_zero, List.getElem_cons_succ, List.setIfInBounds_toArray, List.set_cons_succ, List.set_cons_zero]
  refine wpAnyH_take (i := 4) (v := ?rv214) rfl (by kernel_rfl) (by kernel_rfl) (by kernel_rfl) (fun _ _ _ h => h) (Or.inl ⟨by rfl, ?ry214⟩) hS ?_
  case ry214 => (intro wS hSw; clear hSw; go_simp; (try with_reducible rfl))
  simp only [Act.put, List.getElem_toArray, List.getElem_cons_zero, List.getElem_cons_succ, List.setIfInBounds_toArray, List.set_cons_succ, List.set_cons_zero]
  refine wpAnyH_take (i := 6) (v := ?rv217) rfl (by kernel_rfl) (by kernel_rfl) (by kernel_rfl) (fun _ _ _ h => h) (Or.inl ⟨by rfl, ?ry217⟩) hS ?_
  case ry217 => (intro wS hSw; clear hSw; go_simp; (try with_reducible rfl))
  simp only [Act.put, List.getElem_toArray, List.getElem_cons_zero, List.getElem_cons_succ, List.setIfInBounds_toArray, List.set_cons_succ, List.set_cons_zero]
  refine wpAnyH_take (i := 1) rfl (by kernel_rfl) (by kernel_rfl) (by kernel_rfl) (fun _ _ _ h => h) (yieldsIf_ldo (by rfl) rowLS (.tmp 14) rfl 0 rfl (fun w hw => range_keep HRa.out hw hb1) HSa.out) hS ?_
  simp only [Act.put, List.getElem_toArray, List.getElem_cons_zero, List.getElem_cons_succ, List.setIfInBounds_toArray, List.set_cons_succ, List.set_cons_zero]
  refine wpAnyH_take (i := 3) rfl (by kernel_rfl) (by kernel_rfl) (by kernel_rfl) (fun _ _ _ h => h) (yieldsIf_ldo (by rfl) rowLS (.tmp 16) rfl 9 rfl (fun w hw => range_keep HRb.out hw hb1) HSb.out) hS ?_
  simp only [Act.put, List.getElem_toArray, List.getElem_cons_zero, List.getElem_cons_succ, List.setIfInBounds_toArray, List.set_cons_succ, List.set_cons_zero]
  refine wpAnyH_take (i := 5) rfl (by kernel_rfl) (by kernel_rfl) (by kernel_rfl) (fun _ _ _ h => h) (yieldsIf_ldo (by rfl) rowLS (.tmp 18) rfl 18 rfl (fun w hw => range_keep HRc.out hw hb1) HSc.out) hS ?_
  simp only [Act.put, List.getElem_toArray, List.getElem_cons_zero, List.getElem_cons_succ, List.setIfInBounds_toArray, List.set_cons_succ, List.set_cons_zero]
  refine wpAnyH_take (i := 7) rfl (by kernel_rfl) (by kernel_rfl) (by kernel_rfl) (fun _ _ _ h => h) (yieldsIf_ldo (by rfl) rowDt (.tmp 20) rfl 27 rfl (fun w hw => range_keep HRd.out hw hb1) (by rfl)) hS ?_
  simp only [Act.put, List.getElem_toArray, List.getElem_cons_zero, List.getElem_cons_succ, List.setIfInBounds_toArray, List.set_cons_succ, List.set_cons_zero]
  apply meet5 (F := fun (wz : World) (gx8 : Nat) (gx9 : Nat) (gx10 : Nat) (gx11 : Nat) => (Below w1.heap.size w1 wz) ∧ (Blk wz gx8 25 #[.int .i64 0, .int .i64 0, .int .i64 0, .int .i64 0, .int .i64 0, .int .i64 0, .int .i64 0, .int .i64 0, .slice none 0 0]) ∧ (w1.heap.size ≤ gx8) ∧ (Blk wz gx9 25 #[.int .i64 0, .int .i64 0, .int .i64 0, .int .i64 0, .int .i64 0, .int .i64 0, .int .i64 0, .int .i64 0, .slice none 0 0]) ∧ (w1.heap.size ≤ gx9) ∧ (Blk wz gx10 25 #[.int .i64 0, .int .i64 0, .int .i64 0, .int .i64 0, .int .i64 0, .int .i64 0, .int .i64 0, .int .i64 0, .slice none 0 0]) ∧ (w1.heap.size ≤ gx10) ∧ (Blk wz gx11 27 #[.int .i64 0, .int .i64 0]) ∧ (w1.heap.size ≤ gx11) ∧ (gx8 ≠ gx9) ∧ (gx8 ≠ gx10) ∧ (gx8 ≠ gx11) ∧ (gx9 ≠ gx10) ∧ (gx9 ≠ gx11) ∧ (gx10 ≠ gx11))
  intro key_8_9_10_11
  apply meet4 (F := fun (wz : World) (gx9 : Nat) (gx10 : Nat) (gx11 : Nat) => (Below w1.heap.size w1 wz) ∧ (Blk wz gx9 25 #[.int .i64 0, .int .i64 0, .int .i64 0, .int .i64 0, .int .i64 0, .int .i64 0, .int .i64 0, .int .i64 0, .slice none 0 0]) ∧ (w1.heap.size ≤ gx9) ∧ (Blk wz gx10 25 #[.int .i64 0, .int .i64 0, .int .i64 0, .int .i64 0, .int .i64 0, .int .i64 0, .int .i64 0, .int .i64 0, .slice none 0 0]) ∧ (w1.heap.size ≤ gx10) ∧ (Blk wz gx11 27 #[.int .i64 0, .int .i64 0]) ∧ (w1.heap.size ≤ gx11) ∧ (gx9 ≠ gx10) ∧ (gx9 ≠ gx11) ∧ (gx10 ≠ gx11))
  intro key_9_10_11
  apply meet4 (F := fun (wz : World) (gx8 : Nat) (gx10 : Nat) (gx11 : Nat) => (Below w1.heap.size w1 wz) ∧ (Blk wz gx8 25 #[.int .i64 0, .int .i64 0, .int .i64 0, .int .i64 0, .int .i64 0, .int .i64 0, .int .i64 0, .int .i64 0, .slice none 0 0]) ∧ (w1.heap.size ≤ gx8) ∧ (Blk wz gx10 25 #[.int .i64 0, .int .i64 0, .int .i64 0, .int .i64 0, .int .i64 0, .int .i64 0, .int .i64 0, .int .i64 0, .slice none 0 0]) ∧ (w1.heap.size ≤ gx10) ∧ (Blk wz gx11 27 #[.int .i64 0, .int .i64 0]) ∧ (w1.heap.size ≤ gx11) ∧ (gx8 ≠ gx10) ∧ (gx8 ≠ gx11) ∧ (gx10 ≠ gx11))
  intro key_8_10_11
  apply meet4 (F := fun (wz : World) (gx8 : Nat) (gx9 : Nat) (gx11 : Nat) => (Below w1.heap.size w1 wz) ∧ (Blk wz gx8 25 #[.int .i64 0, .int .i64 0, .int .i64 0, .int .i64 0, .int .i64 0, .int .i64 0, .int .i64 0, .int .i64 0, .slice none 0 0]) ∧ (w1.heap.size ≤ gx8) ∧ (Blk wz gx9 25 #[.int .i64 0, .int .i64 0, .int .i64 0, .int .i64 0, .int .i64 0, .int .i64 0, .int .i64 0, .int .i64 0, .slice none 0 0]) ∧ (w1.heap.size ≤ gx9) ∧ (Blk wz gx11 27 #[.int .i64 0, .int .i64 0]) ∧ (w1.heap.size ≤ gx11) ∧ (gx8 ≠ gx9) ∧ (gx8 ≠ gx11) ∧ (gx9 ≠ gx11))
  intro key_8_9_11
  apply meet4 (F := fun (wz : World) (gx8 : Nat) (gx9 : Nat) (gx10 : Nat) => (Below w1.heap.size w1 wz) ∧ (Blk wz gx8 25 #[.int .i64 0, .int .i64 0, .int .i64 0, .int .i64 0, .int .i64 0, .int .i64 0, .int .i64 0, .int .i64 0, .slice none 0 0]) ∧ (w1.heap.size ≤ gx8) ∧ (Blk wz gx9 25 #[.int .i64 0, .int .i64 0, .int .i64 0, .int .i64 0, .int .i64 0, .int .i64 0, .int .i64 0, .int .i64 0, .slice none 0 0]) ∧ (w1.heap.size ≤ gx9) ∧ (Blk wz gx10 25 #[.int .i64 0, .int .i64 0, .int .i64 0, .int .i64 0, .int .i64 0, .int .i64 0, .int .i64 0, .int .i64 0, .slice none 0 0]) ∧ (w1.heap.size ≤ gx10) ∧ (gx8 ≠ gx9) ∧ (gx8 ≠ gx10) ∧ (gx9 ≠ gx10))
  intro key_8_9_10
  apply meet3 (F := fun (wz : World) (gx10 : Nat) (gx11 : Nat) => (Below w1.heap.size w1 wz) ∧ (Blk wz gx10 25 #[.int .i64 0, .int .i64 0, .int .i64 0, .int .i64 0, .int .i64 0, .int .i64 0, .int .i64 0, .int .i64 0, .slice none 0 0]) ∧ (w1.heap.size ≤ gx10) ∧ (Blk wz gx11 27 #[.int .i64 0, .int .i64 0]) ∧ (w1.heap.size ≤ gx11) ∧ (gx10 ≠ gx11))
  intro key_10_11
  apply meet3 (F := fun (wz : World) (gx9 : Nat) (gx11 : Nat) => (Below w1.heap.size w1 wz) ∧ (Blk wz gx9 25 #[.int .i64 0, .int .i64 0, .int .i64 0, .int .i64 0, .int .i64 0, .int .i64 0, .int .i64 0, .int .i64 0, .slice none 0 0]) ∧ (w1.heap.size ≤ gx9) ∧ (Blk wz gx11 27 #[.int .i64 0, .int .i64 0]) ∧ (w1.heap.size ≤ gx11) ∧ (gx9 ≠ gx11))
  intro key_9_11
  apply meet3 (F := fun (wz : World) (gx9 : Nat) (gx10 : Nat) => (Below w1.heap.size w1 wz) ∧ (Blk wz gx9 25 #[.int .i64 0, .int .i64 0, .int .i64 0, .int .i64 0, .int .i64 0, .int .i64 0, .int .i64 0, .int .i64 0, .slice none 0 0]) ∧ (w1.heap.size ≤ gx9) ∧ (Blk wz gx10 25 #[.int .i64 0, .int .i64 0, .int .i64 0, .int .i64 0, .int .i64 0, .int .i64 0, .int .i64 0, .int .i64 0, .slice none 0 0]) ∧ (w1.heap.size ≤ gx10) ∧ (gx9 ≠ gx10))
  intro key_9_10
  apply meet3 (F := fun (wz : World) (gx8 : Nat) (gx11 : Nat) => (Below w1.heap.size w1 wz) ∧ (Blk wz gx8 25 #[.int .i64 0, .int .i64 0, .int .i64 0, .int .i64 0, .int .i64 0, .int .i64 0, .int .i64 0, .int .i64 0, .slice none 0 0]) ∧ (w1.heap.size ≤ gx8) ∧ (Blk wz gx11 27 #[.int .i64 0, .int .i64 0]) ∧ (w1.heap.size ≤ gx11) ∧ (gx8 ≠ gx11))
  intro key_8_11
  apply meet3 (F := fun (wz : World) (gx8 : Nat) (gx10 : Nat) => (Below w1.heap.size w1 wz) ∧ (Blk wz gx8 25 #[.int .i64 0, .int .i64 0, .int .i64 0, .int .i64 0, .int .i64 0, .int .i64 0, .int .i64 0, .int .i64 0, .slice none 0 0]) ∧ (w1.heap.size ≤ gx8) ∧ (Blk wz gx10 25 #[.int .i64 0, .int .i64 0, .int .i64 0, .int .i64 0, .int .i64 0, .int .i64 0, .int .i64 0, .int .i64 0, .slice none 0 0]) ∧ (w1.heap.size ≤ gx10) ∧ (gx8 ≠ gx10))
  intro key_8_10
  apply meet3 (F := fun (wz : World) (gx8 : Nat) (gx9 : Nat) => (Below w1.heap.size w1 wz) ∧ (Blk wz gx8 25 #[.int .i64 0, .int .i64 0, .int .i64 0, .int .i64 0, .int .i64 0, .int .i64 0, .int .i64 0, .int .i64 0, .slice none 0 0]) ∧ (w1.heap.size ≤ gx8) ∧ (Blk wz gx9 25 #[.int .i64 0, .int .i64 0, .int .i64 0, .int .i64 0, .int .i64 0, .int .i64 0, .int .i64 0, .int .i64 0, .slice none 0 0]) ∧ (w1.heap.size ≤ gx9) ∧ (gx8 ≠ gx9))
  intro key_8_9
  apply meet2 (F := fun (wz : World) (gx11 : Nat) => (Below w1.heap.size w1 wz) ∧ (Blk wz gx11 27 #[.int .i64 0, .int .i64 0]) ∧ (w1.heap.size ≤ gx11))
  intro key_11
  apply meet2 (F := fun (wz : World) (gx10 : Nat) => (Below w1.heap.size w1 wz) ∧ (Blk wz gx10 25 #[.int .i64 0, .int .i64 0, .int .i64 0, .int .i64 0, .int .i64 0, .int .i64 0, .int .i64 0, .int .i64 0, .slice none 0 0]) ∧ (w1.heap.size ≤ gx10))
  intro key_10
  apply meet2 (F := fun (wz : World) (gx9 : Nat) => (Below w1.heap.size w1 wz) ∧ (Blk wz gx9 25 #[.int .i64 0, .int .i64 0, .int .i64 0, .int .i64 0, .int .i64 0, .int .i64 0, .int .i64 0, .int .i64 0, .slice none 0 0]) ∧ (w1.heap.size ≤ gx9))
  intro key_9
  apply meet2 (F := fun (wz : World) (gx8 : Nat) => (Below w1.heap.size w1 wz) ∧ (Blk wz gx8 25 #[.int .i64 0, .int .i64 0, .int .i64 0, .int .i64 0, .int .i64 0, .int .i64 0, .int .i64 0, .int .i64 0, .slice none 0 0]) ∧ (w1.heap.size ≤ gx8))
  intro key_8
  · refine wpAnyH_ready (rs := [8, 9, 10, 11]) (by kernel_rfl) (by simp) ?_
    refine AllReadyH.cons rfl (fun K hK => ?r_at8) (AllReadyH.cons rfl (fun K hK => ?r_at9) (AllReadyH.cons rfl (fun K hK => ?r_at10) (AllReadyH.cons rfl (fun K hK => ?r_at11) .nil)))
    case r_at8 =>
      go_simp
      have hg8 := hS.size
      refine hK.out _ _ (hS.alloc hS.size _) (fun hS => ?_)
      clear hK K
      have k8 := Blk.new wd 25 #[.int .i64 0, .int .i64 0, .int .i64 0, .int .i64 0, .int .i64 0, .int .i64 0, .int .i64 0, .int .i64 0, .slice none 0 0]
      generalize wd.alloc (.cells #[.int .i64 0, .int .i64 0, .int .i64 0, .int .i64 0, .int .i64 0, .int .i64 0, .int .i64 0, .int .i64 0, .slice none 0 0] 25) = wn at *
      generalize wd.heap.size = gx8 at *
      exact key_8 wn gx8 ⟨hS, k8, hg8⟩
    case r_at9 =>
      go_simp
      have hg9 := hS.size
      refine hK.out _ _ (hS.alloc hS.size _) (fun hS => ?_)
      clear hK K
      have k9 := Blk.new wd 25 #[.int .i64 0, .int .i64 0, .int .i64 0, .int .i64 0, .int .i64 0, .int .i64 0, .int .i64 0, .int .i64 0, .slice none 0 0]
      generalize wd.alloc (.cells #[.int .i64 0, .int .i64 0, .int .i64 0, .int .i64 0, .int .i64 0, .int .i64 0, .int .i64 0, .int .i64 0, .slice none 0 0] 25) = wn at *
      generalize wd.heap.size = gx9 at *
      exact key_9 wn gx9 ⟨hS, k9, hg9⟩
    case r_at10 =>
      go_simp
      have hg10 := hS.size
      refine hK.out _ _ (hS.alloc hS.size _) (fun hS => ?_)
      clear hK K
      have k10 := Blk.new wd 25 #[.int .i64 0, .int .i64 0, .int .i64 0, .int .i64 0, .int .i64 0, .int .i64 0, .int .i64 0, .int .i64 0, .slice none 0 0]
      generalize wd.alloc (.cells #[.int .i64 0, .int .i64 0, .int .i64 0, .int .i64 0, .int .i64 0, .int .i64 0, .int .i64 0, .int .i64 0, .slice none 0 0] 25) = wn at *
      generalize wd.heap.size = gx10 at *
      exact key_10 wn gx10 ⟨hS, k10, hg10⟩
    case r_at11 =>
      go_simp
      have hg11 := hS.size
      refine hK.out _ _ (hS.alloc hS.size _) (fun hS => ?_)
      clear hK K
      have k11 := Blk.new wd 27 #[.int .i64 0, .int .i64 0]
      generalize wd.alloc (.cells #[.int .i64 0, .int .i64 0] 27) = wn at *
      generalize wd.heap.size = gx11 at *
      exact key_11 wn gx11 ⟨hS, k11, hg11⟩
  · rintro wz gx8 ⟨hS, k8, hg8⟩
    refine wpAnyH_ready (rs := [9, 10, 11]) (by kernel_rfl) (by simp) ?_
    refine AllReadyH.cons rfl (fun K hK => ?r_8_at9) (AllReadyH.cons rfl (fun K hK => ?r_8_at10) (AllReadyH.cons rfl (fun K hK => ?r_8_at11) .nil))
    case r_8_at9 =>
      go_simp
      have hg9 := hS.size
      have n8_9 := Nat.ne_of_lt k8.lt
      refine hK.out _ _ (hS.alloc hS.size _) (fun hS => ?_)
      clear hK K
      have k9 := Blk.new wz 25 #[.int .i64 0, .int .i64 0, .int .i64 0, .int .i64 0, .int .i64 0, .int .i64 0, .int .i64 0, .int .i64 0, .slice none 0 0]
      replace k8 := k8.alloc (.cells #[.int .i64 0, .int .i64 0, .int .i64 0, .int .i64 0, .int .i64 0, .int .i64 0, .int .i64 0, .int .i64 0, .slice none 0 0] 25)
      generalize wz.alloc (.cells #[.int .i64 0, .int .i64 0, .int .i64 0, .int .i64 0, .int .i64 0, .int .i64 0, .int .i64 0, .int .i64 0, .slice none 0 0] 25) = wn at *
      generalize wz.heap.size = gx9 at *
      exact key_8_9 wn gx8 gx9 ⟨hS, k8, hg8, k9, hg9, n8_9⟩
    case r_8_at10 =>
      go_simp
      have hg10 := hS.size
      have n8_10 := Nat.ne_of_lt k8.lt
      refine hK.out _ _ (hS.alloc hS.size _) (fun hS => ?_)
      clear hK K
      have k10 := Blk.new wz 25 #[.int .i64 0, .int .i64 0, .int .i64 0, .int .i64 0, .int .i64 0, .int .i64 0, .int .i64 0, .int .i64 0, .slice none 0 0]
      replace k8 := k8.alloc (.cells #[.int .i64 0, .int .i64 0, .int .i64 0, .int .i64 0, .int .i64 0, .int .i64 0, .int .i64 0, .int .i64 0, .slice none 0 0] 25)
      generalize wz.alloc (.cells #[.int .i64 0, .int .i64 0, .int .i64 0, .int .i64 0, .int .i64 0, .int .i64 0, .int .i64 0, .int .i64 0, .slice none 0 0] 25) = wn at *
      generalize wz.heap.size = gx10 at *
      exact key_8_10 wn gx8 gx10 ⟨hS, k8, hg8, k10, hg10, n8_10⟩
    case r_8_at11 =>
      go_simp
      have hg11 := hS.size
      have n8_11 := Nat.ne_of_lt k8.lt
      refine hK.out _ _ (hS.alloc hS.size _) (fun hS => ?_)
      clear hK K
      have k11 := Blk.new wz 27 #[.int .i64 0, .int .i64 0]
      replace k8 := k8.alloc (.cells #[.int .i64 0, .int .i64 0] 27)
      generalize wz.alloc (.cells #[.int .i64 0, .int .i64 0] 27) = wn at *
      generalize wz.heap.size = gx11 at *
      exact key_8_11 wn gx8 gx11 ⟨hS, k8, hg8, k11, hg11, n8_11⟩
  · rintro wz gx9 ⟨hS, k9, hg9⟩
    refine wpAnyH_ready (rs := [8, 10, 11]) (by kernel_rfl) (by simp) ?_
    refine AllReadyH.cons rfl (fun K hK => ?r_9_at8) (AllReadyH.cons rfl (fun K hK => ?r_9_at10) (AllReadyH.cons rfl (fun K hK => ?r_9_at11) .nil))
    case r_9_at8 =>
      go_simp
      have hg8 := hS.size
      have n8_9 := (Nat.ne_of_lt k9.lt).symm
      refine hK.out _ _ (hS.alloc hS.size _) (fun hS => ?_)
      clear hK K
      have k8 := Blk.new wz 25 #[.int .i64 0, .int .i64 0, .int .i64 0, .int .i64 0, .int .i64 0, .int .i64 0, .int .i64 0, .int .i64 0, .slice none 0 0]
      replace k9 := k9.alloc (.cells #[.int .i64 0, .int .i64 0, .int .i64 0, .int .i64 0, .int .i64 0, .int .i64 0, .int .i64 0, .int .i64 0, .slice none 0 0] 25)
      generalize wz.alloc (.cells #[.int .i64 0, .int .i64 0, .int .i64 0, .int .i64 0, .int .i64 0, .int .i64 0, .int .i64 0, .int .i64 0, .slice none 0 0] 25) = wn at *
      generalize wz.heap.size = gx8 at *
      exact key_8_9 wn gx8 gx9 ⟨hS, k8, hg8, k9, hg9, n8_9⟩
    case r_9_at10 =>
      go_simp
      have hg10 := hS.size
      have n9_10 := Nat.ne_of_lt k9.lt
      refine hK.out _ _ (hS.alloc hS.size _) (fun hS => ?_)
      clear hK K
      have k10 := Blk.new wz 25 #[.int .i64 0, .int .i64 0, .int .i64 0, .int .i64 0, .int .i64 0, .int .i64 0, .int .i64 0, .int .i64 0, .slice none 0 0]
      replace k9 := k9.alloc (.cells #[.int .i64 0, .int .i64 0, .int .i64 0, .int .i64 0, .int .i64 0, .int .i64 0, .int .i64 0, .int .i64 0, .slice none 0 0] 25)
      generalize wz.alloc (.cells #[.int .i64 0, .int .i64 0, .int .i64 0, .int .i64 0, .int .i64 0, .int .i64 0, .int .i64 0, .int .i64 0, .slice none 0 0] 25) = wn at *
      generalize wz.heap.size = gx10 at *
      exact key_9_10 wn gx9 gx10 ⟨hS, k9, hg9, k10, hg10, n9_10⟩
    case r_9_at11 =>
      go_simp
      have hg11 := hS.size
      have n9_11 := Nat.ne_of_lt k9.lt
      refine hK.out _ _ (hS.alloc hS.size _) (fun hS => ?_)
      clear hK K
      have k11 := Blk.new wz 27 #[.int .i64 0, .int .i64 0]
      replace k9 := k9.alloc (.cells #[.int .i64 0, .int .i64 0] 27)
      generalize wz.alloc (.cells #[.int .i64 0, .int .i64 0] 27) = wn at *
      generalize wz.heap.size = gx11 at *
      exact key_9_11 wn gx9 gx11 ⟨hS, k9, hg9, k11, hg11, n9_11⟩
  · rintro wz gx10 ⟨hS, k10, hg10⟩
    refine wpAnyH_ready (rs := [8, 9, 11]) (by kernel_rfl) (by simp) ?_
    refine AllReadyH.cons rfl (fun K hK => ?r_10_at8) (AllReadyH.cons rfl (fun K hK => ?r_10_at9) (AllReadyH.cons rfl (fun K hK => ?r_10_at11) .nil))
    case r_10_at8 =>
      go_simp
      have hg8 := hS.size
      have n8_10 := (Nat.ne_of_lt k10.lt).symm
      refine hK.out _ _ (hS.alloc hS.size _) (fun hS => ?_)
      clear hK K
      have k8 := Blk.new wz 25 #[.int .i64 0, .int .i64 0, .int .i64 0, .int .i64 0, .int .i64 0, .int .i64 0, .int .i64 0, .int .i64 0, .slice none 0 0]
      replace k10 := k10.alloc (.cells #[.int .i64 0, .int .i64 0, .int .i64 0, .int .i64 0, .int .i64 0, .int .i64 0, .int .i64 0, .int .i64 0, .slice none 0 0] 25)
      generalize wz.alloc (.cells #[.int .i64 0, .int .i64 0, .int .i64 0, .int .i64 0, .int .i64 0, .int .i64 0, .int .i64 0, .int .i64 0, .slice none 0 0] 25) = wn at *
      generalize wz.heap.size = gx8 at *
      exact key_8_10 wn gx8 gx10 ⟨hS, k8, hg8, k10, hg10, n8_10⟩
    case r_10_at9 =>
      go_simp
      have hg9 := hS.size
      have n9_10 := (Nat.ne_of_lt k10.lt).symm
      refine hK.out _ _ (hS.alloc hS.size _) (fun hS => ?_)
      clear hK K
      have k9 := Blk.new wz 25 #[.int .i64 0, .int .i64 0, .int .i64 0, .int .i64 0, .int .i64 0, .int .i64 0, .int .i64 0, .int .i64 0, .slice none 0 0]
      replace k10 := k10.alloc (.cells #[.int .i64 0, .int .i64 0, .int .i64 0, .int .i64 0, .int .i64 0, .int .i64 0, .int .i64 0, .int .i64 0, .slice none 0 0] 25)
      generalize wz.alloc (.cells #[.int .i64 0, .int .i64 0, .int .i64 0, .int .i64 0, .int .i64 0, .int .i64 0, .int .i64 0, .int .i64 0, .slice none 0 0] 25) = wn at *
      generalize wz.heap.size = gx9 at *
      exact key_9_10 wn gx9 gx10 ⟨hS, k9, hg9, k10, hg10, n9_10⟩
    case r_10_at11 =>
      go_simp
      have hg11 := hS.size
      have n10_11 := Nat.ne_of_lt k10.lt
      refine hK.out _ _ (hS.alloc hS.size _) (fun hS => ?_)
      clear hK K
      have k11 := Blk.new wz 27 #[.int .i64 0, .int .i64 0]
      replace k10 := k10.alloc (.cells #[.int .i64 0, .int .i64 0] 27)
      generalize wz.alloc (.cells #[.int .i64 0, .int .i64 0] 27) = wn at *
      generalize wz.heap.size = gx11 at *
      exact key_10_11 wn gx10 gx11 ⟨hS, k10, hg10, k11, hg11, n10_11⟩
  · rintro wz gx11 ⟨hS, k11, hg11⟩
    refine wpAnyH_ready (rs := [8, 9, 10]) (by kernel_rfl) (by simp) ?_
    refine AllReadyH.cons rfl (fun K hK => ?r_11_at8) (AllReadyH.cons rfl (fun K hK => ?r_11_at9) (AllReadyH.cons rfl (fun K hK => ?r_11_at10) .nil))
    case r_11_at8 =>
      go_simp
      have hg8 := hS.size
      have n8_11 := (Nat.ne_of_lt k11.lt).symm
      refine hK.out _ _ (hS.alloc hS.size _) (fun hS => ?_)
      clear hK K
      have k8 := Blk.new wz 25 #[.int .i64 0, .int .i64 0, .int .i64 0, .int .i64 0, .int .i64 0, .int .i64 0, .int .i64 0, .int .i64 0, .slice none 0 0]
      replace k11 := k11.alloc (.cells #[.int .i64 0, .int .i64 0, .int .i64 0, .int .i64 0, .int .i64 0, .int .i64 0, .int .i64 0, .int .i64 0, .slice none 0 0] 25)
      generalize wz.alloc (.cells #[.int .i64 0, .int .i64 0, .int .i64 0, .int .i64 0, .int .i64 0, .int .i64 0, .int .i64 0, .int .i64 0, .slice none 0 0] 25) = wn at *
      generalize wz.heap.size = gx8 at *
      exact key_8_11 wn gx8 gx11 ⟨hS, k8, hg8, k11, hg11, n8_11⟩
    case r_11_at9 =>
      go_simp
      have hg9 := hS.size
      have n9_11 := (Nat.ne_of_lt k11.lt).symm
      refine hK.out _ _ (hS.alloc hS.size _) (fun hS => ?_)
      clear hK K
      have k9 := Blk.new wz 25 #[.int .i64 0, .int .i64 0, .int .i64 0, .int .i64 0, .int .i64 0, .int .i64 0, .int .i64 0, .int .i64 0, .slice none 0 0]
      replace k11 := k11.alloc (.cells #[.int .i64 0, .int .i64 0, .int .i64 0, .int .i64 0, .int .i64 0, .int .i64 0, .int .i64 0, .int .i64 0, .slice none 0 0] 25)
      generalize wz.alloc (.cells #[.int .i64 0, .int .i64 0, .int .i64 0, .int .i64 0, .int .i64 0, .int .i64 0, .int .i64 0, .int .i64 0, .slice none 0 0] 25) = wn at *
      generalize wz.heap.size = gx9 at *
      exact key_9_11 wn gx9 gx11 ⟨hS, k9, hg9, k11, hg11, n9_11⟩
    case r_11_at10 =>
      go_simp
      have hg10 := hS.size
      have n10_11 := (Nat.ne_of_lt k11.lt).symm
      refine hK.out _ _ (hS.alloc hS.size _) (fun hS => ?_)
      clear hK K
      have k10 := Blk.new wz 25 #[.int .i64 0, .int .i64 0, .int .i64 0, .int .i64 0, .int .i64 0, .int .i64 0, .int .i64 0, .int .i64 0, .slice none 0 0]
      replace k11 := k11.alloc (.cells #[.int .i64 0, .int .i64 0, .int .i64 0, .int .i64 0, .int .i64 0, .int .i64 0, .int .i64 0, .int .i64 0, .slice none 0 0] 25)
      generalize wz.alloc (.cells #[.int .i64 0, .int .i64 0, .int .i64 0, .int .i64 0, .int .i64 0, .int .i64 0, .int .i64 0, .int .i64 0, .slice none 0 0] 25) = wn at *
      generalize wz.heap.size = gx10 at *
      exact key_10_11 wn gx10 gx11 ⟨hS, k10, hg10, k11, hg11, n10_11⟩
  · rintro wz gx8 gx9 ⟨hS, k8, hg8, k9, hg9, n8_9⟩
    refine wpAnyH_ready (rs := [10, 11]) (by kernel_rfl) (by simp) ?_
    refine AllReadyH.cons rfl (fun K hK => ?r_8_9_at10) (AllReadyH.cons rfl (fun K hK => ?r_8_9_at11) .nil)
    case r_8_9_at10 =>
      go_simp
      have hg10 := hS.size
      have n8_10 := Nat.ne_of_lt k8.lt
      have n9_10 := Nat.ne_of_lt k9.lt
      refine hK.out _ _ (hS.alloc hS.size _) (fun hS => ?_)
      clear hK K
      have k10 := Blk.new wz 25 #[.int .i64 0, .int .i64 0, .int .i64 0, .int .i64 0, .int .i64 0, .int .i64 0, .int .i64 0, .int .i64 0, .slice none 0 0]
      replace k8 := k8.alloc (.cells #[.int .i64 0, .int .i64 0, .int .i64 0, .int .i64 0, .int .i64 0, .int .i64 0, .int .i64 0, .int .i64 0, .slice none 0 0] 25)
      replace k9 := k9.alloc (.cells #[.int .i64 0, .int .i64 0, .int .i64 0, .int .i64 0, .int .i64 0, .int .i64 0, .int .i64 0, .int .i64 0, .slice none 0 0] 25)
      generalize wz.alloc (.cells #[.int .i64 0, .int .i64 0, .int .i64 0, .int .i64 0, .int .i64 0, .int .i64 0, .int .i64 0, .int .i64 0, .slice none 0 0] 25) = wn at *
      generalize wz.heap.size = gx10 at *
      exact key_8_9_10 wn gx8 gx9 gx10 ⟨hS, k8, hg8, k9, hg9, k10, hg10, n8_9, n8_10, n9_10⟩
    case r_8_9_at11 =>
      go_simp
      have hg11 := hS.size
      have n8_11 := Nat.ne_of_lt k8.lt
      have n9_11 := Nat.ne_of_lt k9.lt
      refine hK.out _ _ (hS.alloc hS.size _) (fun hS => ?_)
      clear hK K
      have k11 := Blk.new wz 27 #[.int .i64 0, .int .i64 0]
      replace k8 := k8.alloc (.cells #[.int .i64 0, .int .i64 0] 27)
      replace k9 := k9.alloc (.cells #[.int .i64 0, .int .i64 0] 27)
      generalize wz.alloc (.cells #[.int .i64 0, .int .i64 0] 27) = wn at *
      generalize wz.heap.size = gx11 at *
      exact key_8_9_11 wn gx8 gx9 gx11 ⟨hS, k8, hg8, k9, hg9, k11, hg11, n8_9, n8_11, n9_11⟩
  · rintro wz gx8 gx10 ⟨hS, k8, hg8, k10, hg10, n8_10⟩
    refine wpAnyH_ready (rs := [9, 11]) (by kernel_rfl) (by simp) ?_
    refine AllReadyH.cons rfl (fun K hK => ?r_8_10_at9) (AllReadyH.cons rfl (fun K hK => ?r_8_10_at11) .nil)
    case r_8_10_at9 =>
      go_simp
      have hg9 := hS.size
      have n8_9 := Nat.ne_of_lt k8.lt
      have n9_10 := (Nat.ne_of_lt k10.lt).symm
      refine hK.out _ _ (hS.alloc hS.size _) (fun hS => ?_)
      clear hK K
      have k9 := Blk.new wz 25 #[.int .i64 0, .int .i64 0, .int .i64 0, .int .i64 0, .int .i64 0, .int .i64 0, .int .i64 0, .int .i64 0, .slice none 0 0]
      replace k8 := k8.alloc (.cells #[.int .i64 0, .int .i64 0, .int .i64 0, .int .i64 0, .int .i64 0, .int .i64 0, .int .i64 0, .int .i64 0, .slice none 0 0] 25)
      replace k10 := k10.alloc (.cells #[.int .i64 0, .int .i64 0, .int .i64 0, .int .i64 0, .int .i64 0, .int .i64 0, .int .i64 0, .int .i64 0, .slice none 0 0] 25)
      generalize wz.alloc (.cells #[.int .i64 0, .int .i64 0, .int .i64 0, .int .i64 0, .int .i64 0, .int .i64 0, .int .i64 0, .int .i64 0, .slice none 0 0] 25) = wn at *
      generalize wz.heap.size = gx9 at *
      exact key_8_9_10 wn gx8 gx9 gx10 ⟨hS, k8, hg8, k9, hg9, k10, hg10, n8_9, n8_10, n9_10⟩
    case r_8_10_at11 =>
      go_simp
      have hg11 := hS.size
      have n8_11 := Nat.ne_of_lt k8.lt
      have n10_11 := Nat.ne_of_lt k10.lt
      refine hK.out _ _ (hS.alloc hS.size _) (fun hS => ?_)
      clear hK K
      have k11 := Blk.new wz 27 #[.int .i64 0, .int .i64 0]
      replace k8 := k8.alloc (.cells #[.int .i64 0, .int .i64 0] 27)
      replace k10 := k10.alloc (.cells #[.int .i64 0, .int .i64 0] 27)
      generalize wz.alloc (.cells #[.int .i64 0, .int .i64 0] 27) = wn at *
      generalize wz.heap.size = gx11 at *
      exact key_8_10_11 wn gx8 gx10 gx11 ⟨hS, k8, hg8, k10, hg10, k11, hg11, n8_10, n8_11, n10_11⟩
  · rintro wz gx8 gx11 ⟨hS, k8, hg8, k11, hg11, n8_11⟩
    refine wpAnyH_ready (rs := [9, 10]) (by kernel_rfl) (by simp) ?_
    refine AllReadyH.cons rfl (fun K hK => ?r_8_11_at9) (AllReadyH.cons rfl (fun K hK => ?r_8_11_at10) .nil)
    case r_8_11_at9 =>
      go_simp
      have hg9 := hS.size
      have n8_9 := Nat.ne_of_lt k8.lt
      have n9_11 := (Nat.ne_of_lt k11.lt).symm
      refine hK.out _ _ (hS.alloc hS.size _) (fun hS => ?_)
      clear hK K
      have k9 := Blk.new wz 25 #[.int .i64 0, .int .i64 0, .int .i64 0, .int .i64 0, .int .i64 0, .int .i64 0, .int .i64 0, .int .i64 0, .slice none 0 0]
      replace k8 := k8.alloc (.cells #[.int .i64 0, .int .i64 0, .int .i64 0, .int .i64 0, .int .i64 0, .int .i64 0, .int .i64 0, .int .i64 0, .slice none 0 0] 25)
      replace k11 := k11.alloc (.cells #[.int .i64 0, .int .i64 0, .int .i64 0, .int .i64 0, .int .i64 0, .int .i64 0, .int .i64 0, .int .i64 0, .slice none 0 0] 25)
      generalize wz.alloc (.cells #[.int .i64 0, .int .i64 0, .int .i64 0, .int .i64 0, .int .i64 0, .int .i64 0, .int .i64 0, .int .i64 0, .slice none 0 0] 25) = wn at *
      generalize wz.heap.size = gx9 at *
      exact key_8_9_11 wn gx8 gx9 gx11 ⟨hS, k8, hg8, k9, hg9, k11, hg11, n8_9, n8_11, n9_11⟩
    case r_8_11_at10 =>
      go_simp
      have hg10 := hS.size
      have n8_10 := Nat.ne_of_lt k8.lt
      have n10_11 := (Nat.ne_of_lt k11.lt).symm
      refine hK.out _ _ (hS.alloc hS.size _) (fun hS => ?_)
      clear hK K
      have k10 := Blk.new wz 25 #[.int .i64 0, .int .i64 0, .int .i64 0, .int .i64 0, .int .i64 0, .int .i64 0, .int .i64 0, .int .i64 0, .slice none 0 0]
      replace k8 := k8.alloc (.cells #[.int .i64 0, .int .i64 0, .int .i64 0, .int .i64 0, .int .i64 0, .int .i64 0, .int .i64 0, .int .i64 0, .slice none 0 0] 25)
      replace k11 := k11.alloc (.cells #[.int .i64 0, .int .i64 0, .int .i64 0, .int .i64 0, .int .i64 0, .int .i64 0, .int .i64 0, .int .i64 0, .slice none 0 0] 25)
      generalize wz.alloc (.cells #[.int .i64 0, .int .i64 0, .int .i64 0, .int .i64 0, .int .i64 0, .int .i64 0, .int .i64 0, .int .i64 0, .slice none 0 0] 25) = wn at *
      generalize wz.heap.size = gx10 at *
      exact key_8_10_11 wn gx8 gx10 gx11 ⟨hS, k8, hg8, k10, hg10, k11, hg11, n8_10, n8_11, n10_11⟩
  · rintro wz gx9 gx10 ⟨hS, k9, hg9, k10, hg10, n9_10⟩
    refine wpAnyH_ready (rs := [8, 11]) (by kernel_rfl) (by simp) ?_
    refine AllReadyH.cons rfl (fun K hK => ?r_9_10_at8) (AllReadyH.cons rfl (fun K hK => ?r_9_10_at11) .nil)
    case r_9_10_at8 =>
      go_simp
      have hg8 := hS.size
      have n8_9 := (Nat.ne_of_lt k9.lt).symm
      have n8_10 := (Nat.ne_of_lt k10.lt).symm
      refine hK.out _ _ (hS.alloc hS.size _) (fun hS => ?_)
      clear hK K
      have k8 := Blk.new wz 25 #[.int .i64 0, .int .i64 0, .int .i64 0, .int .i64 0, .int .i64 0, .int .i64 0, .int .i64 0, .int .i64 0, .slice none 0 0]
      replace k9 := k9.alloc (.cells #[.int .i64 0, .int .i64 0, .int .i64 0, .int .i64 0, .int .i64 0, .int .i64 0, .int .i64 0, .int .i64 0, .slice none 0 0] 25)
      replace k10 := k10.alloc (.cells #[.int .i64 0, .int .i64 0, .int .i64 0, .int .i64 0, .int .i64 0, .int .i64 0, .int .i64 0, .int .i64 0, .slice none 0 0] 25)
      generalize wz.alloc (.cells #[.int .i64 0, .int .i64 0, .int .i64 0, .int .i64 0, .int .i64 0, .int .i64 0, .int .i64 0, .int .i64 0, .slice none 0 0] 25) = wn at *
      generalize wz.heap.size = gx8 at *
      exact key_8_9_10 wn gx8 gx9 gx10 ⟨hS, k8, hg8, k9, hg9, k10, hg10, n8_9, n8_10, n9_10⟩
    case r_9_10_at11 =>
      go_simp
      have hg11 := hS.size
      have n9_11 := Nat.ne_of_lt k9.lt
      have n10_11 := Nat.ne_of_lt k10.lt
      refine hK.out _ _ (hS.alloc hS.size _) (fun hS => ?_)
      clear hK K
      have k11 := Blk.new wz 27 #[.int .i64 0, .int .i64 0]
      replace k9 := k9.alloc (.cells #[.int .i64 0, .int .i64 0] 27)
      replace k10 := k10.alloc (.cells #[.int .i64 0, .int .i64 0] 27)
      generalize wz.alloc (.cells #[.int .i64 0, .int .i64 0] 27) = wn at *
      generalize wz.heap.size = gx11 at *
      exact key_9_10_11 wn gx9 gx10 gx11 ⟨hS, k9, hg9, k10, hg10, k11, hg11, n9_10, n9_11, n10_11⟩
  · rintro wz gx9 gx11 ⟨hS, k9, hg9, k11, hg11, n9_11⟩
    refine wpAnyH_ready (rs := [8, 10]) (by kernel_rfl) (by simp) ?_
    refine AllReadyH.cons rfl (fun K hK => ?r_9_11_at8) (AllReadyH.cons rfl (fun K hK => ?r_9_11_at10) .nil)
    case r_9_11_at8 =>
      go_simp
      have hg8 := hS.size
      have n8_9 := (Nat.ne_of_lt k9.lt).symm
      have n8_11 := (Nat.ne_of_lt k11.lt).symm
      refine hK.out _ _ (hS.alloc hS.size _) (fun hS => ?_)
      clear hK K
      have k8 := Blk.new wz 25 #[.int .i64 0, .int .i64 0, .int .i64 0, .int .i64 0, .int .i64 0, .int .i64 0, .int .i64 0, .int .i64 0, .slice none 0 0]
      replace k9 := k9.alloc (.cells #[.int .i64 0, .int .i64 0, .int .i64 0, .int .i64 0, .int .i64 0, .int .i64 0, .int .i64 0, .int .i64 0, .slice none 0 0] 25)
      replace k11 := k11.alloc (.cells #[.int .i64 0, .int .i64 0, .int .i64 0, .int .i64 0, .int .i64 0, .int .i64 0, .int .i64 0, .int .i64 0, .slice none 0 0] 25)
      generalize wz.alloc (.cells #[.int .i64 0, .int .i64 0, .int .i64 0, .int .i64 0, .int .i64 0, .int .i64 0, .int .i64 0, .int .i64 0, .slice none 0 0] 25) = wn at *
      generalize wz.heap.size = gx8 at *
      exact key_8_9_11 wn gx8 gx9 gx11 ⟨hS, k8, hg8, k9, hg9, k11, hg11, n8_9, n8_11, n9_11⟩
    case r_9_11_at10 =>
      go_simp
      have hg10 := hS.size
      have n9_10 := Nat.ne_of_lt k9.lt
      have n10_11 := (Nat.ne_of_lt k11.lt).symm
      refine hK.out _ _ (hS.alloc hS.size _) (fun hS => ?_)
      clear hK K
      have k10 := Blk.new wz 25 #[.int .i64 0, .int .i64 0, .int .i64 0, .int .i64 0, .int .i64 0, .int .i64 0, .int .i64 0, .int .i64 0, .slice none 0 0]
      replace k9 := k9.alloc (.cells #[.int .i64 0, .int .i64 0, .int .i64 0, .int .i64 0, .int .i64 0, .int .i64 0, .int .i64 0, .int .i64 0, .slice none 0 0] 25)
      replace k11 := k11.alloc (.cells #[.int .i64 0, .int .i64 0, .int .i64 0, .int .i64 0, .int .i64 0, .int .i64 0, .int .i64 0, .int .i64 0, .slice none 0 0] 25)
      generalize wz.alloc (.cells #[.int .i64 0, .int .i64 0, .int .i64 0, .int .i64 0, .int .i64 0, .int .i64 0, .int .i64 0, .int .i64 0, .slice none 0 0] 25) = wn at *
      generalize wz.heap.size = gx10 at *
      exact key_9_10_11 wn gx9 gx10 gx11 ⟨hS, k9, hg9, k10, hg10, k11, hg11, n9_10, n9_11, n10_11⟩
  · rintro wz gx10 gx11 ⟨hS, k10, hg10, k11, hg11, n10_11⟩
    refine wpAnyH_ready (rs := [8, 9]) (by kernel_rfl) (by simp) ?_
    refine AllReadyH.cons rfl (fun K hK => ?r_10_11_at8) (AllReadyH.cons rfl (fun K hK => ?r_10_11_at9) .nil)
    case r_10_11_at8 =>
      go_simp
      have hg8 := hS.size
      have n8_10 := (Nat.ne_of_lt k10.lt).symm
      have n8_11 := (Nat.ne_of_lt k11.lt).symm
      refine hK.out _ _ (hS.alloc hS.size _) (fun hS => ?_)
      clear hK K
      have k8 := Blk.new wz 25 #[.int .i64 0, .int .i64 0, .int .i64 0, .int .i64 0, .int .i64 0, .int .i64 0, .int .i64 0, .int .i64 0, .slice none 0 0]
      replace k10 := k10.alloc (.cells #[.int .i64 0, .int .i64 0, .int .i64 0, .int .i64 0, .int .i64 0, .int .i64 0, .int .i64 0, .int .i64 0, .slice none 0 0] 25)
      replace k11 := k11.alloc (.cells #[.int .i64 0, .int .i64 0, .int .i64 0, .int .i64 0, .int .i64 0, .int .i64 0, .int .i64 0, .int .i64 0, .slice none 0 0] 25)
      generalize wz.alloc (.cells #[.int .i64 0, .int .i64 0, .int .i64 0, .int .i64 0, .int .i64 0, .int .i64 0, .int .i64 0, .int .i64 0, .slice none 0 0] 25) = wn at *
      generalize wz.heap.size = gx8 at *
      exact key_8_10_11 wn gx8 gx10 gx11 ⟨hS, k8, hg8, k10, hg10, k11, hg11, n8_10, n8_11, n10_11⟩
    case r_10_11_at9 =>
      go_simp
      have hg9 := hS.size
      have n9_10 := (Nat.ne_of_lt k10.lt).symm
      have n9_11 := (Nat.ne_of_lt k11.lt).symm
      refine hK.out _ _ (hS.alloc hS.size _) (fun hS => ?_)
      clear hK K
      have k9 := Blk.new wz 25 #[.int .i64 0, .int .i64 0, .int .i64 0, .int .i64 0, .int .i64 0, .int .i64 0, .int .i64 0, .int .i64 0, .slice none 0 0]
      replace k10 := k10.alloc (.cells #[.int .i64 0, .int .i64 0, .int .i64 0, .int .i64 0, .int .i64 0, .int .i64 0, .int .i64 0, .int .i64 0, .slice none 0 0] 25)
      replace k11 := k11.alloc (.cells #[.int .i64 0, .int .i64 0, .int .i64 0, .int .i64 0, .int .i64 0, .int .i64 0, .int .i64 0, .int .i64 0, .slice none 0 0] 25)
      generalize wz.alloc (.cells #[.int .i64 0, .int .i64 0, .int .i64 0, .int .i64 0, .int .i64 0, .int .i64 0, .int .i64 0, .int .i64 0, .slice none 0 0] 25) = wn at *
      generalize wz.heap.size = gx9 at *
      exact key_9_10_11 wn gx9 gx10 gx11 ⟨hS, k9, hg9, k10, hg10, k11, hg11, n9_10, n9_11, n10_11⟩
  · rintro wz gx8 gx9 gx10 ⟨hS, k8, hg8, k9, hg9, k10, hg10, n8_9, n8_10, n9_10⟩
    refine wpAnyH_ready (rs := [11]) (by kernel_rfl) (by simp) ?_
    refine AllReadyH.cons rfl (fun K hK => ?_) .nil
    go_simp
    have hg11 := hS.size
    have n8_11 := Nat.ne_of_lt k8.lt
    have n9_11 := Nat.ne_of_lt k9.lt
    have n10_11 := Nat.ne_of_lt k10.lt
    refine hK.out _ _ (hS.alloc hS.size _) (fun hS => ?_)
    clear hK K
    have k11 := Blk.new wz 27 #[.int .i64 0, .int .i64 0]
    replace k8 := k8.alloc (.cells #[.int .i64 0, .int .i64 0] 27)
    replace k9 := k9.alloc (.cells #[.int .i64 0, .int .i64 0] 27)
    replace k10 := k10.alloc (.cells #[.int .i64 0, .int .i64 0] 27)
    generalize wz.alloc (.cells #[.int .i64 0, .int .i64 0] 27) = wn at *
    generalize wz.heap.size = gx11 at *
    exact key_8_9_10_11 wn gx8 gx9 gx10 gx11 ⟨hS, k8, hg8, k9, hg9, k10, hg10, k11, hg11, n8_9, n8_10, n8_11, n9_10, n9_11, n10_11⟩
  · rintro wz gx8 gx9 gx11 ⟨hS, k8, hg8, k9, hg9, k11, hg11, n8_9, n8_11, n9_11⟩
    refine wpAnyH_ready (rs := [10]) (by kernel_rfl) (by simp) ?_
    refine AllReadyH.cons rfl (fun K hK => ?_) .nil
    go_simp
    have hg10 := hS.size
    have n8_10 := Nat.ne_of_lt k8.lt
    have n9_10 := Nat.ne_of_lt k9.lt
    have n10_11 := (Nat.ne_of_lt k11.lt).symm
    refine hK.out _ _ (hS.alloc hS.size _) (fun hS => ?_)
    clear hK K
    have k10 := Blk.new wz 25 #[.int .i64 0, .int .i64 0, .int .i64 0, .int .i64 0, .int .i64 0, .int .i64 0, .int .i64 0, .int .i64 0, .slice none 0 0]
    replace k8 := k8.alloc (.cells #[.int .i64 0, .int .i64 0, .int .i64 0, .int .i64 0, .int .i64 0, .int .i64 0, .int .i64 0, .int .i64 0, .slice none 0 0] 25)
    replace k9 := k9.alloc (.cells #[.int .i64 0, .int .i64 0, .int .i64 0, .int .i64 0, .int .i64 0, .int .i64 0, .int .i64 0, .int .i64 0, .slice none 0 0] 25)
    replace k11 := k11.alloc (.cells #[.int .i64 0, .int .i64 0, .int .i64 0, .int .i64 0, .int .i64 0, .int .i64 0, .int .i64 0, .int .i64 0, .slice none 0 0] 25)
    generalize wz.alloc (.cells #[.int .i64 0, .int .i64 0, .int .i64 0, .int .i64 0, .int .i64 0, .int .i64 0, .int .i64 0, .int .i64 0, .slice none 0 0] 25) = wn at *
    generalize wz.heap.size = gx10 at *
    exact key_8_9_10_11 wn gx8 gx9 gx10 gx11 ⟨hS, k8, hg8, k9, hg9, k10, hg10, k11, hg11, n8_9, n8_10, n8_11, n9_10, n9_11, n10_11⟩
  · rintro wz gx8 gx10 gx11 ⟨hS, k8, hg8, k10, hg10, k11, hg11, n8_10, n8_11, n10_11⟩
    refine wpAnyH_ready (rs := [9]) (by kernel_rfl) (by simp) ?_
    refine AllReadyH.cons rfl (fun K hK => ?_) .nil
    go_simp
    have hg9 := hS.size
    have n8_9 := Nat.ne_of_lt k8.lt
    have n9_10 := (Nat.ne_of_lt k10.lt).symm
    have n9_11 := (Nat.ne_of_lt k11.lt).symm
    refine hK.out _ _ (hS.alloc hS.size _) (fun hS => ?_)
    clear hK K
    have k9 := Blk.new wz 25 #[.int .i64 0, .int .i64 0, .int .i64 0, .int .i64 0, .int .i64 0, .int .i64 0, .int .i64 0, .int .i64 0, .slice none 0 0]
    replace k8 := k8.alloc (.cells #[.int .i64 0, .int .i64 0, .int .i64 0, .int .i64 0, .int .i64 0, .int .i64 0, .int .i64 0, .int .i64 0, .slice none 0 0] 25)
    replace k10 := k10.alloc (.cells #[.int .i64 0, .int .i64 0, .int .i64 0, .int .i64 0, .int .i64 0, .int .i64 0, .int .i64 0, .int .i64 0, .slice none 0 0] 25)
    replace k11 := k11.alloc (.cells #[.int .i64 0, .int .i64 0, .int .i64 0, .int .i64 0, .int .i64 0, .int .i64 0, .int .i64 0, .int .i64 0, .slice none 0 0] 25)
    generalize wz.alloc (.cells #[.int .i64 0, .int .i64 0, .int .i64 0, .int .i64 0, .int .i64 0, .int .i64 0, .int .i64 0, .int .i64 0, .slice none 0 0] 25) = wn at *
    generalize wz.heap.size = gx9 at *
    exact key_8_9_10_11 wn gx8 gx9 gx10 gx11 ⟨hS, k8, hg8, k9, hg9, k10, hg10, k11, hg11, n8_9, n8_10, n8_11, n9_10, n9_11, n10_11⟩
  · rintro wz gx9 gx10 gx11 ⟨hS, k9, hg9, k10, hg10, k11, hg11, n9_10, n9_11, n10_11⟩
    refine wpAnyH_ready (rs := [8]) (by kernel_rfl) (by simp) ?_
    refine AllReadyH.cons rfl (fun K hK => ?_) .nil
    go_simp
    have hg8 := hS.size
    have n8_9 := (Nat.ne_of_lt k9.lt).symm
    have n8_10 := (Nat.ne_of_lt k10.lt).symm
    have n8_11 := (Nat.ne_of_lt k11.lt).symm
    refine hK.out _ _ (hS.alloc hS.size _) (fun hS => ?_)
    clear hK K
    have k8 := Blk.new wz 25 #[.int .i64 0, .int .i64 0, .int .i64 0, .int .i64 0, .int .i64 0, .int .i64 0, .int .i64 0, .int .i64 0, .slice none 0 0]
    replace k9 := k9.alloc (.cells #[.int .i64 0, .int .i64 0, .int .i64 0, .int .i64 0, .int .i64 0, .int .i64 0, .int .i64 0, .int .i64 0, .slice none 0 0] 25)
    replace k10 := k10.alloc (.cells #[.int .i64 0, .int .i64 0, .int .i64 0, .int .i64 0, .int .i64 0, .int .i64 0, .int .i64 0, .int .i64 0, .slice none 0 0] 25)
    replace k11 := k11.alloc (.cells #[.int .i64 0, .int .i64 0, .int .i64 0, .int .i64 0, .int .i64 0, .int .i64 0, .int .i64 0, .int .i64 0, .slice none 0 0] 25)
    generalize wz.alloc (.cells #[.int .i64 0, .int .i64 0, .int .i64 0, .int .i64 0, .int .i64 0, .int .i64 0, .int .i64 0, .int .i64 0, .slice none 0 0] 25) = wn at *
    generalize wz.heap.size = gx8 at *
    exact key_8_9_10_11 wn gx8 gx9 gx10 gx11 ⟨hS, k8, hg8, k9, hg9, k10, hg10, k11, hg11, n8_9, n8_10, n8_11, n9_10, n9_11, n10_11⟩
  rintro wz gx8 gx9 gx10 gx11 ⟨hS, k8, hg8, k9, hg9, k10, hg10, k11, hg11, n8_9, n8_10, n8_11, n9_10, n9_11, n10_11⟩
  rename Below w1.heap.size w1 wd => hSd
  clear hSd
  have HOA := Lib.hid k8
  refine wpAnyH_ready (rs := [12]) (by kernel_rfl) (by simp) ?_
  refine AllReadyH.cons rfl (fun K hK => ?_) .nil
  refine step_st rfl rowLS (.tmp 3) (.tmp 15) rfl (by rfl) (by rfl) k8 HSa.out (by rfl) H1a.out ?_
  intro w2 j8 y2 z2
  replace k9 := k9.grown y2 (fun h => n8_9 (by injection h))
  replace k10 := k10.grown y2 (fun h => n8_10 (by injection h))
  replace k11 := k11.grown y2 (fun h => n8_11 (by injection h))
  have hS2 := hS.grown y2 hS.size (fun q hq => by injection hq; omega)
  refine hK.out _ _ hS2 (fun hS => ?_)
  clear hK K k8 HOA y2 z2 hS2
  refine wpAnyH_ready (rs := [13]) (by kernel_rfl) (by simp) ?_
  refine AllReadyH.cons rfl (fun K hK => ?_) .nil
  refine step_st rfl rowLS (.tmp 4) (.tmp 17) rfl (by rfl) (by rfl) k9 HSb.out (by rfl) H1b.out ?_
  intro w3 j9 y2 z2
  replace j8 := j8.grown y2 (fun h => n8_9 (by injection h with h; exact h.symm))
  replace k10 := k10.grown y2 (fun h => n9_10 (by injection h))
  replace k11 := k11.grown y2 (fun h => n9_11 (by injection h))
  have hS2 := hS.grown y2 hS.size (fun q hq => by injection hq; omega)
  refine hK.out _ _ hS2 (fun hS => ?_)
  clear hK K k9 y2 z2 hS2
  refine wpAnyH_ready (rs := [14]) (by kernel_rfl) (by simp) ?_
  refine AllReadyH.cons rfl (fun K hK => ?_) .nil
  refine step_st rfl rowLS (.tmp 5) (.tmp 19) rfl (by rfl) (by rfl) k10 HSc.out (by rfl) H1c.out ?_
  intro w4 j10 y2 z2
  replace j8 := j8.grown y2 (fun h => n8_10 (by injection h with h; exact h.symm))
  replace j9 := j9.grown y2 (fun h => n9_10 (by injection h with h; exact h.symm))
  replace k11 := k11.grown y2 (fun h => n10_11 (by injection h))
  have hS2 := hS.grown y2 hS.size (fun q hq => by injection hq; omega)
  refine hK.out _ _ hS2 (fun hS => ?_)
  clear hK K k10 y2 z2 hS2
  refine wpAnyH_ready (rs := [15]) (by kernel_rfl) (by simp) ?_
  refine AllReadyH.cons rfl (fun K hK => ?_) .nil
  refine step_st rfl rowDt (.tmp 6) (.tmp 21) rfl (by rfl) (by rfl) k11 (by rfl) (by rfl) (dt_one x q) ?_
  intro w5 j11 y2 z2
  replace j8 := j8.grown y2 (fun h => n8_11 (by injection h with h; exact h.symm))
  replace j9 := j9.grown y2 (fun h => n9_11 (by injection h with h; exact h.symm))
  replace j10 := j10.grown y2 (fun h => n10_11 (by injection h with h; exact h.symm))
  have hS2 := hS.grown y2 hS.size (fun q hq => by injection hq; omega)
  refine hK.out _ _ hS2 (fun hS => ?_)
  clear hK K k11 y2 z2 hS2
  refine wpAnyH_done (by kernel_rfl) ?_ _
  have b5 := b1.trans (hS.mono b1.size)
  rename Below w1.heap.size w1 wz => hSz
  clear hS hSz
  go_wp2_with first
    | ((with_reducible refine wpList_ld rowLS j8 HSa.out ?_ ?_); rotate_left; (rfl))
    | ((with_reducible refine wpList_ld rowLS j9 HSb.out ?_ ?_); rotate_left; (rfl))
    | ((with_reducible refine wpList_ld rowLS j10 HSc.out ?_ ?_); rotate_left; (rfl))
    | ((refine wpList_bs (v := .slice (some ⟨w5.heap.size, 0, none⟩) 3 3) (w' := w5.alloc (.cells sq 25)) rfl 69 3 #[(0, .tmp 22), (1, .tmp 23), (2, .tmp 24)] rfl ?_ ?_); (simp only [List.map_toArray, List.map_cons, List.map_nil]; exact HBL.out w5))
  refine (great_any [⟨Ua, Aa, na, ca, la⟩, ⟨Ub, Ab, nb, cb, lb⟩, ⟨Uc, Ac, nc, cc, lc⟩] 3 w5.heap.size _ rfl (by decide) ((HROW.out w5 b5).more (by simp))).mono ?_
  rintro e w6 ⟨rfl, h6⟩
  simp only [List.any_cons, List.any_nil, Bool.or_false]
  have bx := (b5.alloc b5.size (.cells sq 25)).trans (h6.mono (b5.alloc b5.size _).size)
  have by2 := ((Below.refl w5.heap.size w5).alloc (Nat.le_refl _) (.cells sq 25)).trans (h6.mono (by simp))
  replace j8 := j8.below by2 j8.lt
  replace j9 := j9.below by2 j9.lt
  replace j10 := j10.below by2 j10.lt
  replace j11 := j11.below by2 j11.lt
  clear b1 b5 by2 h6 HROW HBL HRa HRb HRc HRd
  by_cases hbig : 1000 < na ∨ 1000 < nb ∨ 1000 < nc
  · have hd : (decide (1000 < na) || (decide (1000 < nb) || decide (1000 < nc))) = true := by simpa using hbig
    rw [hd]
    go_wp2_with fail
    go_ret
    exact ⟨rfl, bx⟩
  have hd : (decide (1000 < na) || (decide (1000 < nb) || decide (1000 < nc))) = false := by simpa using hbig
  have hna1 : na ≤ 1000 := by omega
  have hnb1 : nb ≤ 1000 := by omega
  have hnc1 : nc ≤ 1000 := by omega
  rw [hd]
  clear hbig hd
  have hra := HRA.out.below bx
  have hrb := HRB.out.below bx
  have hrc := HRC.out.below bx
  clear HRA HRB HRC
  have htoa := fun (w' : World) (hb : Below w6.heap.size w6 w') => to_any Ua HUa.out Aa na ca la w' ((hra.below (hb.mono bx.size)).more (Nat.le_trans bx.size hb.size)) (by omega)
  have htob := fun (w' : World) (hb : Below w6.heap.size w6 w') => to_any Ub HUb.out Ab nb cb lb w' ((hrb.below (hb.mono bx.size)).more (Nat.le_trans bx.size hb.size)) (by omega)
  have htoc := fun (w' : World) (hb : Below w6.heap.size w6 w') => to_any Uc HUc.out Ac nc cc lc w' ((hrc.below (hb.mono bx.size)).more (Nat.le_trans bx.size hb.size)) (by omega)
  rw [← HSAE.out] at htoa
  rw [← HSBE.out] at htob
  rw [← HSCE.out] at htoc
  unfold CopyEnd at htoa htob htoc
  have HTOA := Lib.hid htoa
  have HTOB := Lib.hid htob
  have HTOC := Lib.hid htoc
  clear htoa htob htoc hra hrb hrc
  go_upto_region 6 with fail
  refine wp_region_held_drew (S := fun w' => Below w6.heap.size w6 w') (by kernel_rfl) (Below.refl _ _).drew (fun hS => ?_)
  generalize w6.drew = wd at *
  refine wpAnyH_take (i := 0) rfl (by kernel_rfl) (by kernel_rfl) (by kernel_rfl) (fun _ _ _ h => h) (yieldsIf_ld (by rfl) rowLS (.tmp 3) rfl rfl (fun w hw => j8.below hw j8.lt) HSa.out) hS ?_
  simp only [Act.put, List.getElem_toArray, List.getElem_cons_zero, List.getElem_cons_succ, List.setIfInBounds_toArray, List.set_cons_succ, List.set_cons_zero]
  refine wpAnyH_take (i := 2) rfl (by kernel_rfl) (by kernel_rfl) (by kernel_rfl) (fun _ _ _ h => h) (yieldsIf_ld (by rfl) rowLS (.tmp 4) rfl rfl (fun w hw => j9.below hw j9.lt) HSb.out) hS ?_
  simp only [Act.put, List.getElem_toArray, List.getElem_cons_zero, List.getElem_cons_succ, List.setIfInBounds_toArray, List.set_cons_succ, List.set_cons_zero]
  refine wpAnyH_take (i := 4) rfl (by kernel_rfl) (by kernel_rfl) (by kernel_rfl) (fun _ _ _ h => h) (yieldsIf_ld (by rfl) rowLS (.tmp 5) rfl rfl (fun w hw => j10.below hw j10.lt) HSc.out) hS ?_
  simp only [Act.put, List.getElem_toArray, List.getElem_cons_zero, List.getElem_cons_succ, List.setIfInBounds_toArray, List.set_cons_succ, List.set_cons_zero]
  apply meet13 (F := fun (wz : World) (A2 : Option Addr) (m2 : Nat) (c2 : Nat) (A3 : Option Addr) (m3 : Nat) (c3 : Nat) (A4 : Option Addr) (m4 : Nat) (c4 : Nat) (gy6 : Nat) (gy7 : Nat) (gy8 : Nat) => (Below w6.heap.size w6 wz) ∧ (OwnD wz w6.heap.size A2 m2 c2 la) ∧ (OwnD wz w6.heap.size A3 m3 c3 lb) ∧ (OwnD wz w6.heap.size A4 m4 c4 lc) ∧ (Blk wz gy6 30 #[.int .i64 0, .int .i64 0, .int .i64 0, .int .i64 0, .int .i64 0, .int .i64 0, .int .i64 0, .int .i64 0, .slice none 0 0]) ∧ (w6.heap.size ≤ gy6) ∧ (Blk wz gy7 30 #[.int .i64 0, .int .i64 0, .int .i64 0, .int .i64 0, .int .i64 0, .int .i64 0, .int .i64 0, .int .i64 0, .slice none 0 0]) ∧ (w6.heap.size ≤ gy7) ∧ (Blk wz gy8 30 #[.int .i64 0, .int .i64 0, .int .i64 0, .int .i64 0, .int .i64 0, .int .i64 0, .int .i64 0, .int .i64 0, .slice none 0 0]) ∧ (w6.heap.size ≤ gy8) ∧ (gy6 ≠ gy7) ∧ (gy6 ≠ gy8) ∧ (gy7 ≠ gy8))
  intro key_1_3_5_6_7_8
  apply meet10 (F := fun (wz : World) (A2 : Option Addr) (m2 : Nat) (c2 : Nat) (A3 : Option Addr) (m3 : Nat) (c3 : Nat) (gy6 : Nat) (gy7 : Nat) (gy8 : Nat) => (Below w6.heap.size w6 wz) ∧ (OwnD wz w6.heap.size A2 m2 c2 la) ∧ (OwnD wz w6.heap.size A3 m3 c3 lb) ∧ (Blk wz gy6 30 #[.int .i64 0, .int .i64 0, .int .i64 0, .int .i64 0, .int .i64 0, .int .i64 0, .int .i64 0, .int .i64 0, .slice none 0 0]) ∧ (w6.heap.size ≤ gy6) ∧ (Blk wz gy7 30 #[.int .i64 0, .int .i64 0, .int .i64 0, .int .i64 0, .int .i64 0, .int .i64 0, .int .i64 0, .int .i64 0, .slice none 0 0]) ∧ (w6.heap.size ≤ gy7) ∧ (Blk wz gy8 30 #[.int .i64 0, .int .i64 0, .int .i64 0, .int .i64 0, .int .i64 0, .int .i64 0, .int .i64 0, .int .i64 0, .slice none 0 0]) ∧ (w6.heap.size ≤ gy8) ∧ (gy6 ≠ gy7) ∧ (gy6 ≠ gy8) ∧ (gy7 ≠ gy8))
  intro key_1_3_6_7_8
  apply meet12 (F := fun (wz : World) (A2 : Option Addr) (m2 : Nat) (c2 : Nat) (A3 : Option Addr) (m3 : Nat) (c3 : Nat) (A4 : Option Addr) (m4 : Nat) (c4 : Nat) (gy7 : Nat) (gy8 : Nat) => (Below w6.heap.size w6 wz) ∧ (OwnD wz w6.heap.size A2 m2 c2 la) ∧ (OwnD wz w6.heap.size A3 m3 c3 lb) ∧ (OwnD wz w6.heap.size A4 m4 c4 lc) ∧ (Blk wz gy7 30 #[.int .i64 0, .int .i64 0, .int .i64 0, .int .i64 0, .int .i64 0, .int .i64 0, .int .i64 0, .int .i64 0, .slice none 0 0]) ∧ (w6.heap.size ≤ gy7) ∧ (Blk wz gy8 30 #[.int .i64 0, .int .i64 0, .int .i64 0, .int .i64 0, .int .i64 0, .int .i64 0, .int .i64 0, .int .i64 0, .slice none 0 0]) ∧ (w6.heap.size ≤ gy8) ∧ (gy7 ≠ gy8))
  intro key_1_3_5_7_8
  apply meet12 (F := fun (wz : World) (A2 : Option Addr) (m2 : Nat) (c2 : Nat) (A3 : Option Addr) (m3 : Nat) (c3 : Nat) (A4 : Option Addr) (m4 : Nat) (c4 : Nat) (gy6 : Nat) (gy8 : Nat) => (Below w6.heap.size w6 wz) ∧ (OwnD wz w6.heap.size A2 m2 c2 la) ∧ (OwnD wz w6.heap.size A3 m3 c3 lb) ∧ (OwnD wz w6.heap.size A4 m4 c4 lc) ∧ (Blk wz gy6 30 #[.int .i64 0, .int .i64 0, .int .i64 0, .int .i64 0, .int .i64 0, .int .i64 0, .int .i64 0, .int .i64 0, .slice none 0 0]) ∧ (w6.heap.size ≤ gy6) ∧ (Blk wz gy8 30 #[.int .i64 0, .int .i64 0, .int .i64 0, .int .i64 0, .int .i64 0, .int .i64 0, .int .i64 0, .int .i64 0, .slice none 0 0]) ∧ (w6.heap.size ≤ gy8) ∧ (gy6 ≠ gy8))
  intro key_1_3_5_6_8
  apply meet12 (F := fun (wz : World) (A2 : Option Addr) (m2 : Nat) (c2 : Nat) (A3 : Option Addr) (m3 : Nat) (c3 : Nat) (A4 : Option Addr) (m4 : Nat) (c4 : Nat) (gy6 : Nat) (gy7 : Nat) => (Below w6.heap.size w6 wz) ∧ (OwnD wz w6.heap.size A2 m2 c2 la) ∧ (OwnD wz w6.heap.size A3 m3 c3 lb) ∧ (OwnD wz w6.heap.size A4 m4 c4 lc) ∧ (Blk wz gy6 30 #[.int .i64 0, .int .i64 0, .int .i64 0, .int .i64 0, .int .i64 0, .int .i64 0, .int .i64 0, .int .i64 0, .slice none 0 0]) ∧ (w6.heap.size ≤ gy6) ∧ (Blk wz gy7 30 #[.int .i64 0, .int .i64 0, .int .i64 0, .int .i64 0, .int .i64 0, .int .i64 0, .int .i64 0, .int .i64 0, .slice none 0 0]) ∧ (w6.heap.size ≤ gy7) ∧ (gy6 ≠ gy7))
  intro key_1_3_5_6_7
  apply meet7 (F := fun (wz : World) (A2 : Option Addr) (m2 : Nat) (c2 : Nat) (gy6 : Nat) (gy7 : Nat) (gy8 : Nat) => (Below w6.heap.size w6 wz) ∧ (OwnD wz w6.heap.size A2 m2 c2 la) ∧ (Blk wz gy6 30 #[.int .i64 0, .int .i64 0, .int .i64 0, .int .i64 0, .int .i64 0, .int .i64 0, .int .i64 0, .int .i64 0, .slice none 0 0]) ∧ (w6.heap.size ≤ gy6) ∧ (Blk wz gy7 30 #[.int .i64 0, .int .i64 0, .int .i64 0, .int .i64 0, .int .i64 0, .int .i64 0, .int .i64 0, .int .i64 0, .slice none 0 0]) ∧ (w6.heap.size ≤ gy7) ∧ (Blk wz gy8 30 #[.int .i64 0, .int .i64 0, .int .i64 0, .int .i64 0, .int .i64 0, .int .i64 0, .int .i64 0, .int .i64 0, .slice none 0 0]) ∧ (w6.heap.size ≤ gy8) ∧ (gy6 ≠ gy7) ∧ (gy6 ≠ gy8) ∧ (gy7 ≠ gy8))
  intro key_1_6_7_8
  apply meet9 (F := fun (wz : World) (A2 : Option Addr) (m2 : Nat) (c2 : Nat) (A3 : Option Addr) (m3 : Nat) (c3 : Nat) (gy7 : Nat) (gy8 : Nat) => (Below w6.heap.size w6 wz) ∧ (OwnD wz w6.heap.size A2 m2 c2 la) ∧ (OwnD wz w6.heap.size A3 m3 c3 lb) ∧ (Blk wz gy7 30 #[.int .i64 0, .int .i64 0, .int .i64 0, .int .i64 0, .int .i64 0, .int .i64 0, .int .i64 0, .int .i64 0, .slice none 0 0]) ∧ (w6.heap.size ≤ gy7) ∧ (Blk wz gy8 30 #[.int .i64 0, .int .i64 0, .int .i64 0, .int .i64 0, .int .i64 0, .int .i64 0, .int .i64 0, .int .i64 0, .slice none 0 0]) ∧ (w6.heap.size ≤ gy8) ∧ (gy7 ≠ gy8))
  intro key_1_3_7_8
  apply meet9 (F := fun (wz : World) (A2 : Option Addr) (m2 : Nat) (c2 : Nat) (A3 : Option Addr) (m3 : Nat) (c3 : Nat) (gy6 : Nat) (gy8 : Nat) => (Below w6.heap.size w6 wz) ∧ (OwnD wz w6.heap.size A2 m2 c2 la) ∧ (OwnD wz w6.heap.size A3 m3 c3 lb) ∧ (Blk wz gy6 30 #[.int .i64 0, .int .i64 0, .int .i64 0, .int .i64 0, .int .i64 0, .int .i64 0, .int .i64 0, .int .i64 0, .slice none 0 0]) ∧ (w6.heap.size ≤ gy6) ∧ (Blk wz gy8 30 #[.int .i64 0, .int .i64 0, .int .i64 0, .int .i64 0, .int .i64 0, .int .i64 0, .int .i64 0, .int .i64 0, .slice none 0 0]) ∧ (w6.heap.size ≤ gy8) ∧ (gy6 ≠ gy8))
  intro key_1_3_6_8
  apply meet9 (F := fun (wz : World) (A2 : Option Addr) (m2 : Nat) (c2 : Nat) (A3 : Option Addr) (m3 : Nat) (c3 : Nat) (gy6 : Nat) (gy7 : Nat) => (Below w6.heap.size w6 wz) ∧ (OwnD wz w6.heap.size A2 m2 c2 la) ∧ (OwnD wz w6.heap.size A3 m3 c3 lb) ∧ (Blk wz gy6 30 #[.int .i64 0, .int .i64 0, .int .i64 0, .int .i64 0, .int .i64 0, .int .i64 0, .int .i64 0, .int .i64 0, .slice none 0 0]) ∧ (w6.heap.size ≤ gy6) ∧ (Blk wz gy7 30 #[.int .i64 0, .int .i64 0, .int .i64 0, .int .i64 0, .int .i64 0, .int .i64 0, .int .i64 0, .int .i64 0, .slice none 0 0]) ∧ (w6.heap.size ≤ gy7) ∧ (gy6 ≠ gy7))
  intro key_1_3_6_7
  apply meet11 (F := fun (wz : World) (A2 : Option Addr) (m2 : Nat) (c2 : Nat) (A3 : Option Addr) (m3 : Nat) (c3 : Nat) (A4 : Option Addr) (m4 : Nat) (c4 : Nat) (gy8 : Nat) => (Below w6.heap.size w6 wz) ∧ (OwnD wz w6.heap.size A2 m2 c2 la) ∧ (OwnD wz w6.heap.size A3 m3 c3 lb) ∧ (OwnD wz w6.heap.size A4 m4 c4 lc) ∧ (Blk wz gy8 30 #[.int .i64 0, .int .i64 0, .int .i64 0, .int .i64 0, .int .i64 0, .int .i64 0, .int .i64 0, .int .i64 0, .slice none 0 0]) ∧ (w6.heap.size ≤ gy8))
  intro key_1_3_5_8
  apply meet11 (F := fun (wz : World) (A2 : Option Addr) (m2 : Nat) (c2 : Nat) (A3 : Option Addr) (m3 : Nat) (c3 : Nat) (A4 : Option Addr) (m4 : Nat) (c4 : Nat) (gy7 : Nat) => (Below w6.heap.size w6 wz) ∧ (OwnD wz w6.heap.size A2 m2 c2 la) ∧ (OwnD wz w6.heap.size A3 m3 c3 lb) ∧ (OwnD wz w6.heap.size A4 m4 c4 lc) ∧ (Blk wz gy7 30 #[.int .i64 0, .int .i64 0, .int .i64 0, .int .i64 0, .int .i64 0, .int .i64 0, .int .i64 0, .int .i64 0, .slice none 0 0]) ∧ (w6.heap.size ≤ gy7))
  intro key_1_3_5_7
  apply meet11 (F := fun (wz : World) (A2 : Option Addr) (m2 : Nat) (c2 : Nat) (A3 : Option Addr) (m3 : Nat) (c3 : Nat) (A4 : Option Addr) (m4 : Nat) (c4 : Nat) (gy6 : Nat) => (Below w6.heap.size w6 wz) ∧ (OwnD wz w6.heap.size A2 m2 c2 la) ∧ (OwnD wz w6.heap.size A3 m3 c3 lb) ∧ (OwnD wz w6.heap.size A4 m4 c4 lc) ∧ (Blk wz gy6 30 #[.int .i64 0, .int .i64 0, .int .i64 0, .int .i64 0, .int .i64 0, .int .i64 0, .int .i64 0, .int .i64 0, .slice none 0 0]) ∧ (w6.heap.size ≤ gy6))
  intro key_1_3_5_6
  apply meet4 (F := fun (wz : World) (gy6 : Nat) (gy7 : Nat) (gy8 : Nat) => (Below w6.heap.size w6 wz) ∧ (Blk wz gy6 30 #[.int .i64 0, .int .i64 0, .int .i64 0, .int .i64 0, .int .i64 0, .int .i64 0, .int .i64 0, .int .i64 0, .slice none 0 0]) ∧ (w6.heap.size ≤ gy6) ∧ (Blk wz gy7 30 #[.int .i64 0, .int .i64 0, .int .i64 0, .int .i64 0, .int .i64 0, .int .i64 0, .int .i64 0, .int .i64 0, .slice none 0 0]) ∧ (w6.heap.size ≤ gy7) ∧ (Blk wz gy8 30 #[.int .i64 0, .int .i64 0, .int .i64 0, .int .i64 0, .int .i64 0, .int .i64 0, .int .i64 0, .int .i64 0, .slice none 0 0]) ∧ (w6.heap.size ≤ gy8) ∧ (gy6 ≠ gy7) ∧ (gy6 ≠ gy8) ∧ (gy7 ≠ gy8))
  intro key_6_7_8
  apply meet6 (F := fun (wz : World) (A2 : Option Addr) (m2 : Nat) (c2 : Nat) (gy7 : Nat) (gy8 : Nat) => (Below w6.heap.size w6 wz) ∧ (OwnD wz w6.heap.size A2 m2 c2 la) ∧ (Blk wz gy7 30 #[.int .i64 0, .int .i64 0, .int .i64 0, .int .i64 0, .int .i64 0, .int .i64 0, .int .i64 0, .int .i64 0, .slice none 0 0]) ∧ (w6.heap.size ≤ gy7) ∧ (Blk wz gy8 30 #[.int .i64 0, .int .i64 0, .int .i64 0, .int .i64 0, .int .i64 0, .int .i64 0, .int .i64 0, .int .i64 0, .slice none 0 0]) ∧ (w6.heap.size ≤ gy8) ∧ (gy7 ≠ gy8))
  intro key_1_7_8
  apply meet6 (F := fun (wz : World) (A2 : Option Addr) (m2 : Nat) (c2 : Nat) (gy6 : Nat) (gy8 : Nat) => (Below w6.heap.size w6 wz) ∧ (OwnD wz w6.heap.size A2 m2 c2 la) ∧ (Blk wz gy6 30 #[.int .i64 0, .int .i64 0, .int .i64 0, .int .i64 0, .int .i64 0, .int .i64 0, .int .i64 0, .int .i64 0, .slice none 0 0]) ∧ (w6.heap.size ≤ gy6) ∧ (Blk wz gy8 30 #[.int .i64 0, .int .i64 0, .int .i64 0, .int .i64 0, .int .i64 0, .int .i64 0, .int .i64 0, .int .i64 0, .slice none 0 0]) ∧ (w6.heap.size ≤ gy8) ∧ (gy6 ≠ gy8))
  intro key_1_6_8
  apply meet6 (F := fun (wz : World) (A2 : Option Addr) (m2 : Nat) (c2 : Nat) (gy6 : Nat) (gy7 : Nat) => (Below w6.heap.size w6 wz) ∧ (OwnD wz w6.heap.size A2 m2 c2 la) ∧ (Blk wz gy6 30 #[.int .i64 0, .int .i64 0, .int .i64 0, .int .i64 0, .int .i64 0, .int .i64 0, .int .i64 0, .int .i64 0, .slice none 0 0]) ∧ (w6.heap.size ≤ gy6) ∧ (Blk wz gy7 30 #[.int .i64 0, .int .i64 0, .int .i64 0, .int .i64 0, .int .i64 0, .int .i64 0, .int .i64 0, .int .i64 0, .slice none 0 0]) ∧ (w6.heap.size ≤ gy7) ∧ (gy6 ≠ gy7))
  intro key_1_6_7
  apply meet8 (F := fun (wz : World) (A2 : Option Addr) (m2 : Nat) (c2 : Nat) (A3 : Option Addr) (m3 : Nat) (c3 : Nat) (gy8 : Nat) => (Below w6.heap.size w6 wz) ∧ (OwnD wz w6.heap.size A2 m2 c2 la) ∧ (OwnD wz w6.heap.size A3 m3 c3 lb) ∧ (Blk wz gy8 30 #[.int .i64 0, .int .i64 0, .int .i64 0, .int .i64 0, .int .i64 0, .int .i64 0, .int .i64 0, .int .i64 0, .slice none 0 0]) ∧ (w6.heap.size ≤ gy8))
  intro key_1_3_8
  apply meet8 (F := fun (wz : World) (A2 : Option Addr) (m2 : Nat) (c2 : Nat) (A3 : Option Addr) (m3 : Nat) (c3 : Nat) (gy7 : Nat) => (Below w6.heap.size w6 wz) ∧ (OwnD wz w6.heap.size A2 m2 c2 la) ∧ (OwnD wz w6.heap.size A3 m3 c3 lb) ∧ (Blk wz gy7 30 #[.int .i64 0, .int .i64 0, .int .i64 0, .int .i64 0, .int .i64 0, .int .i64 0, .int .i64 0, .int .i64 0, .slice none 0 0]) ∧ (w6.heap.size ≤ gy7))
  intro key_1_3_7
  apply meet8 (F := fun (wz : World) (A2 : Option Addr) (m2 : Nat) (c2 : Nat) (A3 : Option Addr) (m3 : Nat) (c3 : Nat) (gy6 : Nat) => (Below w6.heap.size w6 wz) ∧ (OwnD wz w6.heap.size A2 m2 c2 la) ∧ (OwnD wz w6.heap.size A3 m3 c3 lb) ∧ (Blk wz gy6 30 #[.int .i64 0, .int .i64 0, .int .i64 0, .int .i64 0, .int .i64 0, .int .i64 0, .int .i64 0, .int .i64 0, .slice none 0 0]) ∧ (w6.heap.size ≤ gy6))
  intro key_1_3_6
  apply meet10 (F := fun (wz : World) (A2 : Option Addr) (m2 : Nat) (c2 : Nat) (A3 : Option Addr) (m3 : Nat) (c3 : Nat) (A4 : Option Addr) (m4 : Nat) (c4 : Nat) => (Below w6.heap.size w6 wz) ∧ (OwnD wz w6.heap.size A2 m2 c2 la) ∧ (OwnD wz w6.heap.size A3 m3 c3 lb) ∧ (OwnD wz w6.heap.size A4 m4 c4 lc))
  intro key_1_3_5
  apply meet3 (F := fun (wz : World) (gy7 : Nat) (gy8 : Nat) => (Below w6.heap.size w6 wz) ∧ (Blk wz gy7 30 #[.int .i64 0, .int .i64 0, .int .i64 0, .int .i64 0, .int .i64 0, .int .i64 0, .int .i64 0, .int .i64 0, .slice none 0 0]) ∧ (w6.heap.size ≤ gy7) ∧ (Blk wz gy8 30 #[.int .i64 0, .int .i64 0, .int .i64 0, .int .i64 0, .int .i64 0, .int .i64 0, .int .i64 0, .int .i64 0, .slice none 0 0]) ∧ (w6.heap.size ≤ gy8) ∧ (gy7 ≠ gy8))
  intro key_7_8
  apply meet3 (F := fun (wz : World) (gy6 : Nat) (gy8 : Nat) => (Below w6.heap.size w6 wz) ∧ (Blk wz gy6 30 #[.int .i64 0, .int .i64 0, .int .i64 0, .int .i64 0, .int .i64 0, .int .i64 0, .int .i64 0, .int .i64 0, .slice none 0 0]) ∧ (w6.heap.size ≤ gy6) ∧ (Blk wz gy8 30 #[.int .i64 0, .int .i64 0, .int .i64 0, .int .i64 0, .int .i64 0, .int .i64 0, .int .i64 0, .int .i64 0, .slice none 0 0]) ∧ (w6.heap.size ≤ gy8) ∧ (gy6 ≠ gy8))
  intro key_6_8
  apply meet3 (F := fun (wz : World) (gy6 : Nat) (gy7 : Nat) => (Below w6.heap.size w6 wz) ∧ (Blk wz gy6 30 #[.int .i64 0, .int .i64 0, .int .i64 0, .int .i64 0, .int .i64 0, .int .i64 0, .int .i64 0, .int .i64 0, .slice none 0 0]) ∧ (w6.heap.size ≤ gy6) ∧ (Blk wz gy7 30 #[.int .i64 0, .int .i64 0, .int .i64 0, .int .i64 0, .int .i64 0, .int .i64 0, .int .i64 0, .int .i64 0, .slice none 0 0]) ∧ (w6.heap.size ≤ gy7) ∧ (gy6 ≠ gy7))
  intro key_6_7
  apply meet5 (F := fun (wz : World) (A2 : Option Addr) (m2 : Nat) (c2 : Nat) (gy8 : Nat) => (Below w6.heap.size w6 wz) ∧ (OwnD wz w6.heap.size A2 m2 c2 la) ∧ (Blk wz gy8 30 #[.int .i64 0, .int .i64 0, .int .i64 0, .int .i64 0, .int .i64 0, .int .i64 0, .int .i64 0, .int .i64 0, .slice none 0 0]) ∧ (w6.heap.size ≤ gy8))
  intro key_1_8
  apply meet5 (F := fun (wz : World) (A2 : Option Addr) (m2 : Nat) (c2 : Nat) (gy7 : Nat) => (Below w6.heap.size w6 wz) ∧ (OwnD wz w6.heap.size A2 m2 c2 la) ∧ (Blk wz gy7 30 #[.int .i64 0, .int .i64 0, .int .i64 0, .int .i64 0, .int .i64 0, .int .i64 0, .int .i64 0, .int .i64 0, .slice none 0 0]) ∧ (w6.heap.size ≤ gy7))
  intro key_1_7
  apply meet5 (F := fun (wz : World) (A2 : Option Addr) (m2 : Nat) (c2 : Nat) (gy6 : Nat) => (Below w6.heap.size w6 wz) ∧ (OwnD wz w6.heap.size A2 m2 c2 la) ∧ (Blk wz gy6 30 #[.int .i64 0, .int .i64 0, .int .i64 0, .int .i64 0, .int .i64 0, .int .i64 0, .int .i64 0, .int .i64 0, .slice none 0 0]) ∧ (w6.heap.size ≤ gy6))
  intro key_1_6
  apply meet7 (F := fun (wz : World) (A2 : Option Addr) (m2 : Nat) (c2 : Nat) (A3 : Option Addr) (m3 : Nat) (c3 : Nat) => (Below w6.heap.size w6 wz) ∧ (OwnD wz w6.heap.size A2 m2 c2 la) ∧ (OwnD wz w6.heap.size A3 m3 c3 lb))
  intro key_1_3
  apply meet2 (F := fun (wz : World) (gy8 : Nat) => (Below w6.heap.size w6 wz) ∧ (Blk wz gy8 30 #[.int .i64 0, .int .i64 0, .int .i64 0, .int .i64 0, .int .i64 0, .int .i64 0, .int .i64 0, .int .i64 0, .slice none 0 0]) ∧ (w6.heap.size ≤ gy8))
  intro key_8
  apply meet2 (F := fun (wz : World) (gy7 : Nat) => (Below w6.heap.size w6 wz) ∧ (Blk wz gy7 30 #[.int .i64 0, .int .i64 0, .int .i64 0, .int .i64 0, .int .i64 0, .int .i64 0, .int .i64 0, .int .i64 0, .slice none 0 0]) ∧ (w6.heap.size ≤ gy7))
  intro key_7
  apply meet2 (F := fun (wz : World) (gy6 : Nat) => (Below w6.heap.size w6 wz) ∧ (Blk wz gy6 30 #[.int .i64 0, .int .i64 0, .int .i64 0, .int .i64 0, .int .i64 0, .int .i64 0, .int .i64 0, .int .i64 0, .slice none 0 0]) ∧ (w6.heap.size ≤ gy6))
  intro key_6
  apply meet4 (F := fun (wz : World) (A2 : Option Addr) (m2 : Nat) (c2 : Nat) => (Below w6.heap.size w6 wz) ∧ (OwnD wz w6.heap.size A2 m2 c2 la))
  intro key_1
  · refine wpAnyH_ready (rs := [1, 6, 7, 8]) (by kernel_rfl) (by simp) ?_
    refine AllReadyH.cons rfl (fun K hK => ?r_at1) (AllReadyH.cons rfl (fun K hK => ?r_at6) (AllReadyH.cons rfl (fun K hK => ?r_at7) (AllReadyH.cons rfl (fun K hK => ?r_at8) .nil)))
    case r_at1 =>
      go_simp
      refine (HTOA.out wd hS).mono ?_
      rintro e wn ⟨A2, m2, c2, rfl, o1, hh⟩
      replace o1 := o1.mono hS.size
      refine hK.out _ _ (hS.trans (hh.mono hS.size)) (fun hS => ?_)
      clear hK K hh
      exact key_1 wn A2 m2 c2 ⟨hS, o1⟩
    case r_at6 =>
      go_simp
      have hg6 := hS.size
      refine hK.out _ _ (hS.alloc hS.size _) (fun hS => ?_)
      clear hK K
      have k6 := Blk.new wd 30 #[.int .i64 0, .int .i64 0, .int .i64 0, .int .i64 0, .int .i64 0, .int .i64 0, .int .i64 0, .int .i64 0, .slice none 0 0]
      generalize wd.alloc (.cells #[.int .i64 0, .int .i64 0, .int .i64 0, .int .i64 0, .int .i64 0, .int .i64 0, .int .i64 0, .int .i64 0, .slice none 0 0] 30) = wn at *
      generalize wd.heap.size = gy6 at *
      exact key_6 wn gy6 ⟨hS, k6, hg6⟩
    case r_at7 =>
      go_simp
      have hg7 := hS.size
      refine hK.out _ _ (hS.alloc hS.size _) (fun hS => ?_)
      clear hK K
      have k7 := Blk.new wd 30 #[.int .i64 0, .int .i64 0, .int .i64 0, .int .i64 0, .int .i64 0, .int .i64 0, .int .i64 0, .int .i64 0, .slice none 0 0]
      generalize wd.alloc (.cells #[.int .i64 0, .int .i64 0, .int .i64 0, .int .i64 0, .int .i64 0, .int .i64 0, .int .i64 0, .int .i64 0, .slice none 0 0] 30) = wn at *
      generalize wd.heap.size = gy7 at *
      exact key_7 wn gy7 ⟨hS, k7, hg7⟩
    case r_at8 =>
      go_simp
      have hg8 := hS.size
      refine hK.out _ _ (hS.alloc hS.size _) (fun hS => ?_)
      clear hK K
      have k8 := Blk.new wd 30 #[.int .i64 0, .int .i64 0, .int .i64 0, .int .i64 0, .int .i64 0, .int .i64 0, .int .i64 0, .int .i64 0, .slice none 0 0]
      generalize wd.alloc (.cells #[.int .i64 0, .int .i64 0, .int .i64 0, .int .i64 0, .int .i64 0, .int .i64 0, .int .i64 0, .int .i64 0, .slice none 0 0] 30) = wn at *
      generalize wd.heap.size = gy8 at *
      exact key_8 wn gy8 ⟨hS, k8, hg8⟩
  · rintro wz A2 m2 c2 ⟨hS, o1⟩
    refine wpAnyH_ready (rs := [3, 6, 7, 8]) (by kernel_rfl) (by simp) ?_
    refine AllReadyH.cons rfl (fun K hK => ?r_1_at3) (AllReadyH.cons rfl (fun K hK => ?r_1_at6) (AllReadyH.cons rfl (fun K hK => ?r_1_at7) (AllReadyH.cons rfl (fun K hK => ?r_1_at8) .nil)))
    case r_1_at3 =>
      go_simp
      refine (HTOB.out wz hS).mono ?_
      rintro e wn ⟨A3, m3, c3, rfl, o3, hh⟩
      replace o3 := o3.mono hS.size
      replace o1 := o1.below hh (Nat.le_refl _)
      refine hK.out _ _ (hS.trans (hh.mono hS.size)) (fun hS => ?_)
      clear hK K hh
      exact key_1_3 wn A2 m2 c2 A3 m3 c3 ⟨hS, o1, o3⟩
    case r_1_at6 =>
      go_simp
      have hg6 := hS.size
      refine hK.out _ _ (hS.alloc hS.size _) (fun hS => ?_)
      clear hK K
      have k6 := Blk.new wz 30 #[.int .i64 0, .int .i64 0, .int .i64 0, .int .i64 0, .int .i64 0, .int .i64 0, .int .i64 0, .int .i64 0, .slice none 0 0]
      replace o1 := o1.alloc (.cells #[.int .i64 0, .int .i64 0, .int .i64 0, .int .i64 0, .int .i64 0, .int .i64 0, .int .i64 0, .int .i64 0, .slice none 0 0] 30)
      generalize wz.alloc (.cells #[.int .i64 0, .int .i64 0, .int .i64 0, .int .i64 0, .int .i64 0, .int .i64 0, .int .i64 0, .int .i64 0, .slice none 0 0] 30) = wn at *
      generalize wz.heap.size = gy6 at *
      exact key_1_6 wn A2 m2 c2 gy6 ⟨hS, o1, k6, hg6⟩
    case r_1_at7 =>
      go_simp
      have hg7 := hS.size
      refine hK.out _ _ (hS.alloc hS.size _) (fun hS => ?_)
      clear hK K
      have k7 := Blk.new wz 30 #[.int .i64 0, .int .i64 0, .int .i64 0, .int .i64 0, .int .i64 0, .int .i64 0, .int .i64 0, .int .i64 0, .slice none 0 0]
      replace o1 := o1.alloc (.cells #[.int .i64 0, .int .i64 0, .int .i64 0, .int .i64 0, .int .i64 0, .int .i64 0, .int .i64 0, .int .i64 0, .slice none 0 0] 30)
      generalize wz.alloc (.cells #[.int .i64 0, .int .i64 0, .int .i64 0, .int .i64 0, .int .i64 0, .int .i64 0, .int .i64 0, .int .i64 0, .slice none 0 0] 30) = wn at *
      generalize wz.heap.size = gy7 at *
      exact key_1_7 wn A2 m2 c2 gy7 ⟨hS, o1, k7, hg7⟩
    case r_1_at8 =>
      go_simp
      have hg8 := hS.size
      refine hK.out _ _ (hS.alloc hS.size _) (fun hS => ?_)
      clear hK K
      have k8 := Blk.new wz 30 #[.int .i64 0, .int .i64 0, .int .i64 0, .int .i64 0, .int .i64 0, .int .i64 0, .int .i64 0, .int .i64 0, .slice none 0 0]
      replace o1 := o1.alloc (.cells #[.int .i64 0, .int .i64 0, .int .i64 0, .int .i64 0, .int .i64 0, .int .i64 0, .int .i64 0, .int .i64 0, .slice none 0 0] 30)
      generalize wz.alloc (.cells #[.int .i64 0, .int .i64 0, .int .i64 0, .int .i64 0, .int .i64 0, .int .i64 0, .int .i64 0, .int .i64 0, .slice none 0 0] 30) = wn at *
      generalize wz.heap.size = gy8 at *
      exact key_1_8 wn A2 m2 c2 gy8 ⟨hS, o1, k8, hg8⟩
  · rintro wz gy6 ⟨hS, k6, hg6⟩
    refine wpAnyH_ready (rs := [1, 7, 8]) (by kernel_rfl) (by simp) ?_
    refine AllReadyH.cons rfl (fun K hK => ?r_6_at1) (AllReadyH.cons rfl (fun K hK => ?r_6_at7) (AllReadyH.cons rfl (fun K hK => ?r_6_at8) .nil))
    case r_6_at1 =>
      go_simp
      refine (HTOA.out wz hS).mono ?_
      rintro e wn ⟨A2, m2, c2, rfl, o1, hh⟩
      replace o1 := o1.mono hS.size
      replace k6 := k6.below hh k6.lt
      refine hK.out _ _ (hS.trans (hh.mono hS.size)) (fun hS => ?_)
      clear hK K hh
      exact key_1_6 wn A2 m2 c2 gy6 ⟨hS, o1, k6, hg6⟩
    case r_6_at7 =>
      go_simp
      have hg7 := hS.size
      have n6_7 := Nat.ne_of_lt k6.lt
      refine hK.out _ _ (hS.alloc hS.size _) (fun hS => ?_)
      clear hK K
      have k7 := Blk.new wz 30 #[.int .i64 0, .int .i64 0, .int .i64 0, .int .i64 0, .int .i64 0, .int .i64 0, .int .i64 0, .int .i64 0, .slice none 0 0]
      replace k6 := k6.alloc (.cells #[.int .i64 0, .int .i64 0, .int .i64 0, .int .i64 0, .int .i64 0, .int .i64 0, .int .i64 0, .int .i64 0, .slice none 0 0] 30)
      generalize wz.alloc (.cells #[.int .i64 0, .int .i64 0, .int .i64 0, .int .i64 0, .int .i64 0, .int .i64 0, .int .i64 0, .int .i64 0, .slice none 0 0] 30) = wn at *
      generalize wz.heap.size = gy7 at *
      exact key_6_7 wn gy6 gy7 ⟨hS, k6, hg6, k7, hg7, n6_7⟩
    case r_6_at8 =>
      go_simp
      have hg8 := hS.size
      have n6_8 := Nat.ne_of_lt k6.lt
      refine hK.out _ _ (hS.alloc hS.size _) (fun hS => ?_)
      clear hK K
      have k8 := Blk.new wz 30 #[.int .i64 0, .int .i64 0, .int .i64 0, .int .i64 0, .int .i64 0, .int .i64 0, .int .i64 0, .int .i64 0, .slice none 0 0]
      replace k6 := k6.alloc (.cells #[.int .i64 0, .int .i64 0, .int .i64 0, .int .i64 0, .int .i64 0, .int .i64 0, .int .i64 0, .int .i64 0, .slice none 0 0] 30)
      generalize wz.alloc (.cells #[.int .i64 0, .int .i64 0, .int .i64 0, .int .i64 0, .int .i64 0, .int .i64 0, .int .i64 0, .int .i64 0, .slice none 0 0] 30) = wn at *
      generalize wz.heap.size = gy8 at *
      exact key_6_8 wn gy6 gy8 ⟨hS, k6, hg6, k8, hg8, n6_8⟩
  · rintro wz gy7 ⟨hS, k7, hg7⟩
    refine wpAnyH_ready (rs := [1, 6, 8]) (by kernel_rfl) (by simp) ?_
    refine AllReadyH.cons rfl (fun K hK => ?r_7_at1) (AllReadyH.cons rfl (fun K hK => ?r_7_at6) (AllReadyH.cons rfl (fun K hK => ?r_7_at8) .nil))
    case r_7_at1 =>
      go_simp
      refine (HTOA.out wz hS).mono ?_
      rintro e wn ⟨A2, m2, c2, rfl, o1, hh⟩
      replace o1 := o1.mono hS.size
      replace k7 := k7.below hh k7.lt
      refine hK.out _ _ (hS.trans (hh.mono hS.size)) (fun hS => ?_)
      clear hK K hh
      exact key_1_7 wn A2 m2 c2 gy7 ⟨hS, o1, k7, hg7⟩
    case r_7_at6 =>
      go_simp
      have hg6 := hS.size
      have n6_7 := (Nat.ne_of_lt k7.lt).symm
      refine hK.out _ _ (hS.alloc hS.size _) (fun hS => ?_)
      clear hK K
      have k6 := Blk.new wz 30 #[.int .i64 0, .int .i64 0, .int .i64 0, .int .i64 0, .int .i64 0, .int .i64 0, .int .i64 0, .int .i64 0, .slice none 0 0]
      replace k7 := k7.alloc (.cells #[.int .i64 0, .int .i64 0, .int .i64 0, .int .i64 0, .int .i64 0, .int .i64 0, .int .i64 0, .int .i64 0, .slice none 0 0] 30)
      generalize wz.alloc (.cells #[.int .i64 0, .int .i64 0, .int .i64 0, .int .i64 0, .int .i64 0, .int .i64 0, .int .i64 0, .int .i64 0, .slice none 0 0] 30) = wn at *
      generalize wz.heap.size = gy6 at *
      exact key_6_7 wn gy6 gy7 ⟨hS, k6, hg6, k7, hg7, n6_7⟩
    case r_7_at8 =>
      go_simp
      have hg8 := hS.size
      have n7_8 := Nat.ne_of_lt k7.lt
      refine hK.out _ _ (hS.alloc hS.size _) (fun hS => ?_)
      clear hK K
      have k8 := Blk.new wz 30 #[.int .i64 0, .int .i64 0, .int .i64 0, .int .i64 0, .int .i64 0, .int .i64 0, .int .i64 0, .int .i64 0, .slice none 0 0]
      replace k7 := k7.alloc (.cells #[.int .i64 0, .int .i64 0, .int .i64 0, .int .i64 0, .int .i64 0, .int .i64 0, .int .i64 0, .int .i64 0, .slice none 0 0] 30)
      generalize wz.alloc (.cells #[.int .i64 0, .int .i64 0, .int .i64 0, .int .i64 0, .int .i64 0, .int .i64 0, .int .i64 0, .int .i64 0, .slice none 0 0] 30) = wn at *
      generalize wz.heap.size = gy8 at *
      exact key_7_8 wn gy7 gy8 ⟨hS, k7, hg7, k8, hg8, n7_8⟩
  · rintro wz gy8 ⟨hS, k8, hg8⟩
    refine wpAnyH_ready (rs := [1, 6, 7]) (by kernel_rfl) (by simp) ?_
    refine AllReadyH.cons rfl (fun K hK => ?r_8_at1) (AllReadyH.cons rfl (fun K hK => ?r_8_at6) (AllReadyH.cons rfl (fun K hK => ?r_8_at7) .nil))
    case r_8_at1 =>
      go_simp
      refine (HTOA.out wz hS).mono ?_
      rintro e wn ⟨A2, m2, c2, rfl, o1, hh⟩
      replace o1 := o1.mono hS.size
      replace k8 := k8.below hh k8.lt
      refine hK.out _ _ (hS.trans (hh.mono hS.size)) (fun hS => ?_)
      clear hK K hh
      exact key_1_8 wn A2 m2 c2 gy8 ⟨hS, o1, k8, hg8⟩
    case r_8_at6 =>
      go_simp
      have hg6 := hS.size
      have n6_8 := (Nat.ne_of_lt k8.lt).symm
      refine hK.out _ _ (hS.alloc hS.size _) (fun hS => ?_)
      clear hK K
      have k6 := Blk.new wz 30 #[.int .i64 0, .int .i64 0, .int .i64 0, .int .i64 0, .int .i64 0, .int .i64 0, .int .i64 0, .int .i64 0, .slice none 0 0]
      replace k8 := k8.alloc (.cells #[.int .i64 0, .int .i64 0, .int .i64 0, .int .i64 0, .int .i64 0, .int .i64 0, .int .i64 0, .int .i64 0, .slice none 0 0] 30)
      generalize wz.alloc (.cells #[.int .i64 0, .int .i64 0, .int .i64 0, .int .i64 0, .int .i64 0, .int .i64 0, .int .i64 0, .int .i64 0, .slice none 0 0] 30) = wn at *
      generalize wz.heap.size = gy6 at *
      exact key_6_8 wn gy6 gy8 ⟨hS, k6, hg6, k8, hg8, n6_8⟩
    case r_8_at7 =>
      go_simp
      have hg7 := hS.size
      have n7_8 := (Nat.ne_of_lt k8.lt).symm
      refine hK.out _ _ (hS.alloc hS.size _) (fun hS => ?_)
      clear hK K
      have k7 := Blk.new wz 30 #[.int .i64 0, .int .i64 0, .int .i64 0, .int .i64 0, .int .i64 0, .int .i64 0, .int .i64 0, .int .i64 0, .slice none 0 0]
      replace k8 := k8.alloc (.cells #[.int .i64 0, .int .i64 0, .int .i64 0, .int .i64 0, .int .i64 0, .int .i64 0, .int .i64 0, .int .i64 0, .slice none 0 0] 30)
      generalize wz.alloc (.cells #[.int .i64 0, .int .i64 0, .int .i64 0, .int .i64 0, .int .i64 0, .int .i64 0, .int .i64 0, .int .i64 0, .slice none 0 0] 30) = wn at *
      generalize wz.heap.size = gy7 at *
      exact key_7_8 wn gy7 gy8 ⟨hS, k7, hg7, k8, hg8, n7_8⟩
  · rintro wz A2 m2 c2 A3 m3 c3 ⟨hS, o1, o3⟩
    refine wpAnyH_ready (rs := [5, 6, 7, 8]) (by kernel_rfl) (by simp) ?_
    refine AllReadyH.cons rfl (fun K hK => ?r_1_3_at5) (AllReadyH.cons rfl (fun K hK => ?r_1_3_at6) (AllReadyH.cons rfl (fun K hK => ?r_1_3_at7) (AllReadyH.cons rfl (fun K hK => ?r_1_3_at8) .nil)))
    case r_1_3_at5 =>
      go_simp
      refine (HTOC.out wz hS).mono ?_
      rintro e wn ⟨A4, m4, c4, rfl, o5, hh⟩
      replace o5 := o5.mono hS.size
      replace o1 := o1.below hh (Nat.le_refl _)
      replace o3 := o3.below hh (Nat.le_refl _)
      refine hK.out _ _ (hS.trans (hh.mono hS.size)) (fun hS => ?_)
      clear hK K hh
      exact key_1_3_5 wn A2 m2 c2 A3 m3 c3 A4 m4 c4 ⟨hS, o1, o3, o5⟩
    case r_1_3_at6 =>
      go_simp
      have hg6 := hS.size
      refine hK.out _ _ (hS.alloc hS.size _) (fun hS => ?_)
      clear hK K
      have k6 := Blk.new wz 30 #[.int .i64 0, .int .i64 0, .int .i64 0, .int .i64 0, .int .i64 0, .int .i64 0, .int .i64 0, .int .i64 0, .slice none 0 0]
      replace o1 := o1.alloc (.cells #[.int .i64 0, .int .i64 0, .int .i64 0, .int .i64 0, .int .i64 0, .int .i64 0, .int .i64 0, .int .i64 0, .slice none 0 0] 30)
      replace o3 := o3.alloc (.cells #[.int .i64 0, .int .i64 0, .int .i64 0, .int .i64 0, .int .i64 0, .int .i64 0, .int .i64 0, .int .i64 0, .slice none 0 0] 30)
      generalize wz.alloc (.cells #[.int .i64 0, .int .i64 0, .int .i64 0, .int .i64 0, .int .i64 0, .int .i64 0, .int .i64 0, .int .i64 0, .slice none 0 0] 30) = wn at *
      generalize wz.heap.size = gy6 at *
      exact key_1_3_6 wn A2 m2 c2 A3 m3 c3 gy6 ⟨hS, o1, o3, k6, hg6⟩
    case r_1_3_at7 =>
      go_simp
      have hg7 := hS.size
      refine hK.out _ _ (hS.alloc hS.size _) (fun hS => ?_)
      clear hK K
      have k7 := Blk.new wz 30 #[.int .i64 0, .int .i64 0, .int .i64 0, .int .i64 0, .int .i64 0, .int .i64 0, .int .i64 0, .int .i64 0, .slice none 0 0]
      replace o1 := o1.alloc (.cells #[.int .i64 0, .int .i64 0, .int .i64 0, .int .i64 0, .int .i64 0, .int .i64 0, .int .i64 0, .int .i64 0, .slice none 0 0] 30)
      replace o3 := o3.alloc (.cells #[.int .i64 0, .int .i64 0, .int .i64 0, .int .i64 0, .int .i64 0, .int .i64 0, .int .i64 0, .int .i64 0, .slice none 0 0] 30)
      generalize wz.alloc (.cells #[.int .i64 0, .int .i64 0, .int .i64 0, .int .i64 0, .int .i64 0, .int .i64 0, .int .i64 0, .int .i64 0, .slice none 0 0] 30) = wn at *
      generalize wz.heap.size = gy7 at *
      exact key_1_3_7 wn A2 m2 c2 A3 m3 c3 gy7 ⟨hS, o1, o3, k7, hg7⟩
    case r_1_3_at8 =>
      go_simp
      have hg8 := hS.size
      refine hK.out _ _ (hS.alloc hS.size _) (fun hS => ?_)
      clear hK K
      have k8 := Blk.new wz 30 #[.int .i64 0, .int .i64 0, .int .i64 0, .int .i64 0, .int .i64 0, .int .i64 0, .int .i64 0, .int .i64 0, .slice none 0 0]
      replace o1 := o1.alloc (.cells #[.int .i64 0, .int .i64 0, .int .i64 0, .int .i64 0, .int .i64 0, .int .i64 0, .int .i64 0, .int .i64 0, .slice none 0 0] 30)
      replace o3 := o3.alloc (.cells #[.int .i64 0, .int .i64 0, .int .i64 0, .int .i64 0, .int .i64 0, .int .i64 0, .int .i64 0, .int .i64 0, .slice none 0 0] 30)
      generalize wz.alloc (.cells #[.int .i64 0, .int .i64 0, .int .i64 0, .int .i64 0, .int .i64 0, .int .i64 0, .int .i64 0, .int .i64 0, .slice none 0 0] 30) = wn at *
      generalize wz.heap.size = gy8 at *
      exact key_1_3_8 wn A2 m2 c2 A3 m3 c3 gy8 ⟨hS, o1, o3, k8, hg8⟩
  · rintro wz A2 m2 c2 gy6 ⟨hS, o1, k6, hg6⟩
    refine wpAnyH_ready (rs := [3, 7, 8]) (by kernel_rfl) (by simp) ?_
    refine AllReadyH.cons rfl (fun K hK => ?r_1_6_at3) (AllReadyH.cons rfl (fun K hK => ?r_1_6_at7) (AllReadyH.cons rfl (fun K hK => ?r_1_6_at8) .nil))
    case r_1_6_at3 =>
      go_simp
      refine (HTOB.out wz hS).mono ?_
      rintro e wn ⟨A3, m3, c3, rfl, o3, hh⟩
      replace o3 := o3.mono hS.size
      replace o1 := o1.below hh (Nat.le_refl _)
      replace k6 := k6.below hh k6.lt
      refine hK.out _ _ (hS.trans (hh.mono hS.size)) (fun hS => ?_)
      clear hK K hh
      exact key_1_3_6 wn A2 m2 c2 A3 m3 c3 gy6 ⟨hS, o1, o3, k6, hg6⟩
    case r_1_6_at7 =>
      go_simp
      have hg7 := hS.size
      have n6_7 := Nat.ne_of_lt k6.lt
      refine hK.out _ _ (hS.alloc hS.size _) (fun hS => ?_)
      clear hK K
      have k7 := Blk.new wz 30 #[.int .i64 0, .int .i64 0, .int .i64 0, .int .i64 0, .int .i64 0, .int .i64 0, .int .i64 0, .int .i64 0, .slice none 0 0]
      replace o1 := o1.alloc (.cells #[.int .i64 0, .int .i64 0, .int .i64 0, .int .i64 0, .int .i64 0, .int .i64 0, .int .i64 0, .int .i64 0, .slice none 0 0] 30)
      replace k6 := k6.alloc (.cells #[.int .i64 0, .int .i64 0, .int .i64 0, .int .i64 0, .int .i64 0, .int .i64 0, .int .i64 0, .int .i64 0, .slice none 0 0] 30)
      generalize wz.alloc (.cells #[.int .i64 0, .int .i64 0, .int .i64 0, .int .i64 0, .int .i64 0, .int .i64 0, .int .i64 0, .int .i64 0, .slice none 0 0] 30) = wn at *
      generalize wz.heap.size = gy7 at *
      exact key_1_6_7 wn A2 m2 c2 gy6 gy7 ⟨hS, o1, k6, hg6, k7, hg7, n6_7⟩
    case r_1_6_at8 =>
      go_simp
      have hg8 := hS.size
      have n6_8 := Nat.ne_of_lt k6.lt
      refine hK.out _ _ (hS.alloc hS.size _) (fun hS => ?_)
      clear hK K
      have k8 := Blk.new wz 30 #[.int .i64 0, .int .i64 0, .int .i64 0, .int .i64 0, .int .i64 0, .int .i64 0, .int .i64 0, .int .i64 0, .slice none 0 0]
      replace o1 := o1.alloc (.cells #[.int .i64 0, .int .i64 0, .int .i64 0, .int .i64 0, .int .i64 0, .int .i64 0, .int .i64 0, .int .i64 0, .slice none 0 0] 30)
      replace k6 := k6.alloc (.cells #[.int .i64 0, .int .i64 0, .int .i64 0, .int .i64 0, .int .i64 0, .int .i64 0, .int .i64 0, .int .i64 0, .slice none 0 0] 30)
      generalize wz.alloc (.cells #[.int .i64 0, .int .i64 0, .int .i64 0, .int .i64 0, .int .i64 0, .int .i64 0, .int .i64 0, .int .i64 0, .slice none 0 0] 30) = wn at *
      generalize wz.heap.size = gy8 at *
      exact key_1_6_8 wn A2 m2 c2 gy6 gy8 ⟨hS, o1, k6, hg6, k8, hg8, n6_8⟩
  · rintro wz A2 m2 c2 gy7 ⟨hS, o1, k7, hg7⟩
    refine wpAnyH_ready (rs := [3, 6, 8]) (by kernel_rfl) (by simp) ?_
    refine AllReadyH.cons rfl (fun K hK => ?r_1_7_at3) (AllReadyH.cons rfl (fun K hK => ?r_1_7_at6) (AllReadyH.cons rfl (fun K hK => ?r_1_7_at8) .nil))
    case r_1_7_at3 =>
      go_simp
      refine (HTOB.out wz hS).mono ?_
      rintro e wn ⟨A3, m3, c3, rfl, o3, hh⟩
      replace o3 := o3.mono hS.size
      replace o1 := o1.below hh (Nat.le_refl _)
      replace k7 := k7.below hh k7.lt
      refine hK.out _ _ (hS.trans (hh.mono hS.size)) (fun hS => ?_)
      clear hK K hh
      exact key_1_3_7 wn A2 m2 c2 A3 m3 c3 gy7 ⟨hS, o1, o3, k7, hg7⟩
    case r_1_7_at6 =>
      go_simp
      have hg6 := hS.size
      have n6_7 := (Nat.ne_of_lt k7.lt).symm
      refine hK.out _ _ (hS.alloc hS.size _) (fun hS => ?_)
      clear hK K
      have k6 := Blk.new wz 30 #[.int .i64 0, .int .i64 0, .int .i64 0, .int .i64 0, .int .i64 0, .int .i64 0, .int .i64 0, .int .i64 0, .slice none 0 0]
      replace o1 := o1.alloc (.cells #[.int .i64 0, .int .i64 0, .int .i64 0, .int .i64 0, .int .i64 0, .int .i64 0, .int .i64 0, .int .i64 0, .slice none 0 0] 30)
      replace k7 := k7.alloc (.cells #[.int .i64 0, .int .i64 0, .int .i64 0, .int .i64 0, .int .i64 0, .int .i64 0, .int .i64 0, .int .i64 0, .slice none 0 0] 30)
      generalize wz.alloc (.cells #[.int .i64 0, .int .i64 0, .int .i64 0, .int .i64 0, .int .i64 0, .int .i64 0, .int .i64 0, .int .i64 0, .slice none 0 0] 30) = wn at *
      generalize wz.heap.size = gy6 at *
      exact key_1_6_7 wn A2 m2 c2 gy6 gy7 ⟨hS, o1, k6, hg6, k7, hg7, n6_7⟩
    case r_1_7_at8 =>
      go_simp
      have hg8 := hS.size
      have n7_8 := Nat.ne_of_lt k7.lt
      refine hK.out _ _ (hS.alloc hS.size _) (fun hS => ?_)
      clear hK K
      have k8 := Blk.new wz 30 #[.int .i64 0, .int .i64 0, .int .i64 0, .int .i64 0, .int .i64 0, .int .i64 0, .int .i64 0, .int .i64 0, .slice none 0 0]
      replace o1 := o1.alloc (.cells #[.int .i64 0, .int .i64 0, .int .i64 0, .int .i64 0, .int .i64 0, .int .i64 0, .int .i64 0, .int .i64 0, .slice none 0 0] 30)
      replace k7 := k7.alloc (.cells #[.int .i64 0, .int .i64 0, .int .i64 0, .int .i64 0, .int .i64 0, .int .i64 0, .int .i64 0, .int .i64 0, .slice none 0 0] 30)
      generalize wz.alloc (.cells #[.int .i64 0, .int .i64 0, .int .i64 0, .int .i64 0, .int .i64 0, .int .i64 0, .int .i64 0, .int .i64 0, .slice none 0 0] 30) = wn at *
      generalize wz.heap.size = gy8 at *
      exact key_1_7_8 wn A2 m2 c2 gy7 gy8 ⟨hS, o1, k7, hg7, k8, hg8, n7_8⟩
  · rintro wz A2 m2 c2 gy8 ⟨hS, o1, k8, hg8⟩
    refine wpAnyH_ready (rs := [3, 6, 7]) (by kernel_rfl) (by simp) ?_
    refine AllReadyH.cons rfl (fun K hK => ?r_1_8_at3) (AllReadyH.cons rfl (fun K hK => ?r_1_8_at6) (AllReadyH.cons rfl (fun K hK => ?r_1_8_at7) .nil))
    case r_1_8_at3 =>
      go_simp
      refine (HTOB.out wz hS).mono ?_
      rintro e wn ⟨A3, m3, c3, rfl, o3, hh⟩
      replace o3 := o3.mono hS.size
      replace o1 := o1.below hh (Nat.le_refl _)
      replace k8 := k8.below hh k8.lt
      refine hK.out _ _ (hS.trans (hh.mono hS.size)) (fun hS => ?_)
      clear hK K hh
      exact key_1_3_8 wn A2 m2 c2 A3 m3 c3 gy8 ⟨hS, o1, o3, k8, hg8⟩
    case r_1_8_at6 =>
      go_simp
      have hg6 := hS.size
      have n6_8 := (Nat.ne_of_lt k8.lt).symm
      refine hK.out _ _ (hS.alloc hS.size _) (fun hS => ?_)
      clear hK K
      have k6 := Blk.new wz 30 #[.int .i64 0, .int .i64 0, .int .i64 0, .int .i64 0, .int .i64 0, .int .i64 0, .int .i64 0, .int .i64 0, .slice none 0 0]
      replace o1 := o1.alloc (.cells #[.int .i64 0, .int .i64 0, .int .i64 0, .int .i64 0, .int .i64 0, .int .i64 0, .int .i64 0, .int .i64 0, .slice none 0 0] 30)
      replace k8 := k8.alloc (.cells #[.int .i64 0, .int .i64 0, .int .i64 0, .int .i64 0, .int .i64 0, .int .i64 0, .int .i64 0, .int .i64 0, .slice none 0 0] 30)
      generalize wz.alloc (.cells #[.int .i64 0, .int .i64 0, .int .i64 0, .int .i64 0, .int .i64 0, .int .i64 0, .int .i64 0, .int .i64 0, .slice none 0 0] 30) = wn at *
      generalize wz.heap.size = gy6 at *
      exact key_1_6_8 wn A2 m2 c2 gy6 gy8 ⟨hS, o1, k6, hg6, k8, hg8, n6_8⟩
    case r_1_8_at7 =>
      go_simp
      have hg7 := hS.size
      have n7_8 := (Nat.ne_of_lt k8.lt).symm
      refine hK.out _ _ (hS.alloc hS.size _) (fun hS => ?_)
      clear hK K
      have k7 := Blk.new wz 30 #[.int .i64 0, .int .i64 0, .int .i64 0, .int .i64 0, .int .i64 0, .int .i64 0, .int .i64 0, .int .i64 0, .slice none 0 0]
      replace o1 := o1.alloc (.cells #[.int .i64 0, .int .i64 0, .int .i64 0, .int .i64 0, .int .i64 0, .int .i64 0, .int .i64 0, .int .i64 0, .slice none 0 0] 30)
      replace k8 := k8.alloc (.cells #[.int .i64 0, .int .i64 0, .int .i64 0, .int .i64 0, .int .i64 0, .int .i64 0, .int .i64 0, .int .i64 0, .slice none 0 0] 30)
      generalize wz.alloc (.cells #[.int .i64 0, .int .i64 0, .int .i64 0, .int .i64 0, .int .i64 0, .int .i64 0, .int .i64 0, .int .i64 0, .slice none 0 0] 30) = wn at *
      generalize wz.heap.size = gy7 at *
      exact key_1_7_8 wn A2 m2 c2 gy7 gy8 ⟨hS, o1, k7, hg7, k8, hg8, n7_8⟩
  · rintro wz gy6 gy7 ⟨hS, k6, hg6, k7, hg7, n6_7⟩
    refine wpAnyH_ready (rs := [1, 8]) (by kernel_rfl) (by simp) ?_
    refine AllReadyH.cons rfl (fun K hK => ?r_6_7_at1) (AllReadyH.cons rfl (fun K hK => ?r_6_7_at8) .nil)
    case r_6_7_at1 =>
      go_simp
      refine (HTOA.out wz hS).mono ?_
      rintro e wn ⟨A2, m2, c2, rfl, o1, hh⟩
      replace o1 := o1.mono hS.size
      replace k6 := k6.below hh k6.lt
      replace k7 := k7.below hh k7.lt
      refine hK.out _ _ (hS.trans (hh.mono hS.size)) (fun hS => ?_)
      clear hK K hh
      exact key_1_6_7 wn A2 m2 c2 gy6 gy7 ⟨hS, o1, k6, hg6, k7, hg7, n6_7⟩
    case r_6_7_at8 =>
      go_simp
      have hg8 := hS.size
      have n6_8 := Nat.ne_of_lt k6.lt
      have n7_8 := Nat.ne_of_lt k7.lt
      refine hK.out _ _ (hS.alloc hS.size _) (fun hS => ?_)
      clear hK K
      have k8 := Blk.new wz 30 #[.int .i64 0, .int .i64 0, .int .i64 0, .int .i64 0, .int .i64 0, .int .i64 0, .int .i64 0, .int .i64 0, .slice none 0 0]
      replace k6 := k6.alloc (.cells #[.int .i64 0, .int .i64 0, .int .i64 0, .int .i64 0, .int .i64 0, .int .i64 0, .int .i64 0, .int .i64 0, .slice none 0 0] 30)
      replace k7 := k7.alloc (.cells #[.int .i64 0, .int .i64 0, .int .i64 0, .int .i64 0, .int .i64 0, .int .i64 0, .int .i64 0, .int .i64 0, .slice none 0 0] 30)
      generalize wz.alloc (.cells #[.int .i64 0, .int .i64 0, .int .i64 0, .int .i64 0, .int .i64 0, .int .i64 0, .int .i64 0, .int .i64 0, .slice none 0 0] 30) = wn at *
      generalize wz.heap.size = gy8 at *
      exact key_6_7_8 wn gy6 gy7 gy8 ⟨hS, k6, hg6, k7, hg7, k8, hg8, n6_7, n6_8, n7_8⟩
  · rintro wz gy6 gy8 ⟨hS, k6, hg6, k8, hg8, n6_8⟩
    refine wpAnyH_ready (rs := [1, 7]) (by kernel_rfl) (by simp) ?_
    refine AllReadyH.cons rfl (fun K hK => ?r_6_8_at1) (AllReadyH.cons rfl (fun K hK => ?r_6_8_at7) .nil)
    case r_6_8_at1 =>
      go_simp
      refine (HTOA.out wz hS).mono ?_
      rintro e wn ⟨A2, m2, c2, rfl, o1, hh⟩
      replace o1 := o1.mono hS.size
      replace k6 := k6.below hh k6.lt
      replace k8 := k8.below hh k8.lt
      refine hK.out _ _ (hS.trans (hh.mono hS.size)) (fun hS => ?_)
      clear hK K hh
      exact key_1_6_8 wn A2 m2 c2 gy6 gy8 ⟨hS, o1, k6, hg6, k8, hg8, n6_8⟩
    case r_6_8_at7 =>
      go_simp
      have hg7 := hS.size
      have n6_7 := Nat.ne_of_lt k6.lt
      have n7_8 := (Nat.ne_of_lt k8.lt).symm
      refine hK.out _ _ (hS.alloc hS.size _) (fun hS => ?_)
      clear hK K
      have k7 := Blk.new wz 30 #[.int .i64 0, .int .i64 0, .int .i64 0, .int .i64 0, .int .i64 0, .int .i64 0, .int .i64 0, .int .i64 0, .slice none 0 0]
      replace k6 := k6.alloc (.cells #[.int .i64 0, .int .i64 0, .int .i64 0, .int .i64 0, .int .i64 0, .int .i64 0, .int .i64 0, .int .i64 0, .slice none 0 0] 30)
      replace k8 := k8.alloc (.cells #[.int .i64 0, .int .i64 0, .int .i64 0, .int .i64 0, .int .i64 0, .int .i64 0, .int .i64 0, .int .i64 0, .slice none 0 0] 30)
      generalize wz.alloc (.cells #[.int .i64 0, .int .i64 0, .int .i64 0, .int .i64 0, .int .i64 0, .int .i64 0, .int .i64 0, .int .i64 0, .slice none 0 0] 30) = wn at *
      generalize wz.heap.size = gy7 at *
      exact key_6_7_8 wn gy6 gy7 gy8 ⟨hS, k6, hg6, k7, hg7, k8, hg8, n6_7, n6_8, n7_8⟩
  · rintro wz gy7 gy8 ⟨hS, k7, hg7, k8, hg8, n7_8⟩
    refine wpAnyH_ready (rs := [1, 6]) (by kernel_rfl) (by simp) ?_
    refine AllReadyH.cons rfl (fun K hK => ?r_7_8_at1) (AllReadyH.cons rfl (fun K hK => ?r_7_8_at6) .nil)
    case r_7_8_at1 =>
      go_simp
      refine (HTOA.out wz hS).mono ?_
      rintro e wn ⟨A2, m2, c2, rfl, o1, hh⟩
      replace o1 := o1.mono hS.size
      replace k7 := k7.below hh k7.lt
      replace k8 := k8.below hh k8.lt
      refine hK.out _ _ (hS.trans (hh.mono hS.size)) (fun hS => ?_)
      clear hK K hh
      exact key_1_7_8 wn A2 m2 c2 gy7 gy8 ⟨hS, o1, k7, hg7, k8, hg8, n7_8⟩
    case r_7_8_at6 =>
      go_simp
      have hg6 := hS.size
      have n6_7 := (Nat.ne_of_lt k7.lt).symm
      have n6_8 := (Nat.ne_of_lt k8.lt).symm
      refine hK.out _ _ (hS.alloc hS.size _) (fun hS => ?_)
      clear hK K
      have k6 := Blk.new wz 30 #[.int .i64 0, .int .i64 0, .int .i64 0, .int .i64 0, .int .i64 0, .int .i64 0, .int .i64 0, .int .i64 0, .slice none 0 0]
      replace k7 := k7.alloc (.cells #[.int .i64 0, .int .i64 0, .int .i64 0, .int .i64 0, .int .i64 0, .int .i64 0, .int .i64 0, .int .i64 0, .slice none 0 0] 30)
      replace k8 := k8.alloc (.cells #[.int .i64 0, .int .i64 0, .int .i64 0, .int .i64 0, .int .i64 0, .int .i64 0, .int .i64 0, .int .i64 0, .slice none 0 0] 30)
      generalize wz.alloc (.cells #[.int .i64 0, .int .i64 0, .int .i64 0, .int .i64 0, .int .i64 0, .int .i64 0, .int .i64 0, .int .i64 0, .slice none 0 0] 30) = wn at *
      generalize wz.heap.size = gy6 at *
      exact key_6_7_8 wn gy6 gy7 gy8 ⟨hS, k6, hg6, k7, hg7, k8, hg8, n6_7, n6_8, n7_8⟩
  · rintro wz A2 m2 c2 A3 m3 c3 A4 m4 c4 ⟨hS, o1, o3, o5⟩
    refine wpAnyH_ready (rs := [6, 7, 8]) (by kernel_rfl) (by simp) ?_
    refine AllReadyH.cons rfl (fun K hK => ?r_1_3_5_at6) (AllReadyH.cons rfl (fun K hK => ?r_1_3_5_at7) (AllReadyH.cons rfl (fun K hK => ?r_1_3_5_at8) .nil))
    case r_1_3_5_at6 =>
      go_simp
      have hg6 := hS.size
      refine hK.out _ _ (hS.alloc hS.size _) (fun hS => ?_)
      clear hK K
      have k6 := Blk.new wz 30 #[.int .i64 0, .int .i64 0, .int .i64 0, .int .i64 0, .int .i64 0, .int .i64 0, .int .i64 0, .int .i64 0, .slice none 0 0]
      replace o1 := o1.alloc (.cells #[.int .i64 0, .int .i64 0, .int .i64 0, .int .i64 0, .int .i64 0, .int .i64 0, .int .i64 0, .int .i64 0, .slice none 0 0] 30)
      replace o3 := o3.alloc (.cells #[.int .i64 0, .int .i64 0, .int .i64 0, .int .i64 0, .int .i64 0, .int .i64 0, .int .i64 0, .int .i64 0, .slice none 0 0] 30)
      replace o5 := o5.alloc (.cells #[.int .i64 0, .int .i64 0, .int .i64 0, .int .i64 0, .int .i64 0, .int .i64 0, .int .i64 0, .int .i64 0, .slice none 0 0] 30)
      generalize wz.alloc (.cells #[.int .i64 0, .int .i64 0, .int .i64 0, .int .i64 0, .int .i64 0, .int .i64 0, .int .i64 0, .int .i64 0, .slice none 0 0] 30) = wn at *
      generalize wz.heap.size = gy6 at *
      exact key_1_3_5_6 wn A2 m2 c2 A3 m3 c3 A4 m4 c4 gy6 ⟨hS, o1, o3, o5, k6, hg6⟩
    case r_1_3_5_at7 =>
      go_simp
      have hg7 := hS.size
      refine hK.out _ _ (hS.alloc hS.size _) (fun hS => ?_)
      clear hK K
      have k7 := Blk.new wz 30 #[.int .i64 0, .int .i64 0, .int .i64 0, .int .i64 0, .int .i64 0, .int .i64 0, .int .i64 0, .int .i64 0, .slice none 0 0]
      replace o1 := o1.alloc (.cells #[.int .i64 0, .int .i64 0, .int .i64 0, .int .i64 0, .int .i64 0, .int .i64 0, .int .i64 0, .int .i64 0, .slice none 0 0] 30)
      replace o3 := o3.alloc (.cells #[.int .i64 0, .int .i64 0, .int .i64 0, .int .i64 0, .int .i64 0, .int .i64 0, .int .i64 0, .int .i64 0, .slice none 0 0] 30)
      replace o5 := o5.alloc (.cells #[.int .i64 0, .int .i64 0, .int .i64 0, .int .i64 0, .int .i64 0, .int .i64 0, .int .i64 0, .int .i64 0, .slice none 0 0] 30)
      generalize wz.alloc (.cells #[.int .i64 0, .int .i64 0, .int .i64 0, .int .i64 0, .int .i64 0, .int .i64 0, .int .i64 0, .int .i64 0, .slice none 0 0] 30) = wn at *
      generalize wz.heap.size = gy7 at *
      exact key_1_3_5_7 wn A2 m2 c2 A3 m3 c3 A4 m4 c4 gy7 ⟨hS, o1, o3, o5, k7, hg7⟩
    case r_1_3_5_at8 =>
      go_simp
      have hg8 := hS.size
      refine hK.out _ _ (hS.alloc hS.size _) (fun hS => ?_)
      clear hK K
      have k8 := Blk.new wz 30 #[.int .i64 0, .int .i64 0, .int .i64 0, .int .i64 0, .int .i64 0, .int .i64 0, .int .i64 0, .int .i64 0, .slice none 0 0]
      replace o1 := o1.alloc (.cells #[.int .i64 0, .int .i64 0, .int .i64 0, .int .i64 0, .int .i64 0, .int .i64 0, .int .i64 0, .int .i64 0, .slice none 0 0] 30)
      replace o3 := o3.alloc (.cells #[.int .i64 0, .int .i64 0, .int .i64 0, .int .i64 0, .int .i64 0, .int .i64 0, .int .i64 0, .int .i64 0, .slice none 0 0] 30)
      replace o5 := o5.alloc (.cells #[.int .i64 0, .int .i64 0, .int .i64 0, .int .i64 0, .int .i64 0, .int .i64 0, .int .i64 0, .int .i64 0, .slice none 0 0] 30)
      generalize wz.alloc (.cells #[.int .i64 0, .int .i64 0, .int .i64 0, .int .i64 0, .int .i64 0, .int .i64 0, .int .i64 0, .int .i64 0, .slice none 0 0] 30) = wn at *
      generalize wz.heap.size = gy8 at *
      exact key_1_3_5_8 wn A2 m2 c2 A3 m3 c3 A4 m4 c4 gy8 ⟨hS, o1, o3, o5, k8, hg8⟩
  · rintro wz A2 m2 c2 A3 m3 c3 gy6 ⟨hS, o1, o3, k6, hg6⟩
    refine wpAnyH_ready (rs := [5, 7, 8]) (by kernel_rfl) (by simp) ?_
    refine AllReadyH.cons rfl (fun K hK => ?r_1_3_6_at5) (AllReadyH.cons rfl (fun K hK => ?r_1_3_6_at7) (AllReadyH.cons rfl (fun K hK => ?r_1_3_6_at8) .nil))
    case r_1_3_6_at5 =>
      go_simp
      refine (HTOC.out wz hS).mono ?_
      rintro e wn ⟨A4, m4, c4, rfl, o5, hh⟩
      replace o5 := o5.mono hS.size
      replace o1 := o1.below hh (Nat.le_refl _)
      replace o3 := o3.below hh (Nat.le_refl _)
      replace k6 := k6.below hh k6.lt
      refine hK.out _ _ (hS.trans (hh.mono hS.size)) (fun hS => ?_)
      clear hK K hh
      exact key_1_3_5_6 wn A2 m2 c2 A3 m3 c3 A4 m4 c4 gy6 ⟨hS, o1, o3, o5, k6, hg6⟩
    case r_1_3_6_at7 =>
      go_simp
      have hg7 := hS.size
      have n6_7 := Nat.ne_of_lt k6.lt
      refine hK.out _ _ (hS.alloc hS.size _) (fun hS => ?_)
      clear hK K
      have k7 := Blk.new wz 30 #[.int .i64 0, .int .i64 0, .int .i64 0, .int .i64 0, .int .i64 0, .int .i64 0, .int .i64 0, .int .i64 0, .slice none 0 0]
      replace o1 := o1.alloc (.cells #[.int .i64 0, .int .i64 0, .int .i64 0, .int .i64 0, .int .i64 0, .int .i64 0, .int .i64 0, .int .i64 0, .slice none 0 0] 30)
      replace o3 := o3.alloc (.cells #[.int .i64 0, .int .i64 0, .int .i64 0, .int .i64 0, .int .i64 0, .int .i64 0, .int .i64 0, .int .i64 0, .slice none 0 0] 30)
      replace k6 := k6.alloc (.cells #[.int .i64 0, .int .i64 0, .int .i64 0, .int .i64 0, .int .i64 0, .int .i64 0, .int .i64 0, .int .i64 0, .slice none 0 0] 30)
      generalize wz.alloc (.cells #[.int .i64 0, .int .i64 0, .int .i64 0, .int .i64 0, .int .i64 0, .int .i64 0, .int .i64 0, .int .i64 0, .slice none 0 0] 30) = wn at *
      generalize wz.heap.size = gy7 at *
      exact key_1_3_6_7 wn A2 m2 c2 A3 m3 c3 gy6 gy7 ⟨hS, o1, o3, k6, hg6, k7, hg7, n6_7⟩
    case r_1_3_6_at8 =>
      go_simp
      have hg8 := hS.size
      have n6_8 := Nat.ne_of_lt k6.lt
      refine hK.out _ _ (hS.alloc hS.size _) (fun hS => ?_)
      clear hK K
      have k8 := Blk.new wz 30 #[.int .i64 0, .int .i64 0, .int .i64 0, .int .i64 0, .int .i64 0, .int .i64 0, .int .i64 0, .int .i64 0, .slice none 0 0]
      replace o1 := o1.alloc (.cells #[.int .i64 0, .int .i64 0, .int .i64 0, .int .i64 0, .int .i64 0, .int .i64 0, .int .i64 0, .int .i64 0, .slice none 0 0] 30)
      replace o3 := o3.alloc (.cells #[.int .i64 0, .int .i64 0, .int .i64 0, .int .i64 0, .int .i64 0, .int .i64 0, .int .i64 0, .int .i64 0, .slice none 0 0] 30)
      replace k6 := k6.alloc (.cells #[.int .i64 0, .int .i64 0, .int .i64 0, .int .i64 0, .int .i64 0, .int .i64 0, .int .i64 0, .int .i64 0, .slice none 0 0] 30)
      generalize wz.alloc (.cells #[.int .i64 0, .int .i64 0, .int .i64 0, .int .i64 0, .int .i64 0, .int .i64 0, .int .i64 0, .int .i64 0, .slice none 0 0] 30) = wn at *
      generalize wz.heap.size = gy8 at *
      exact key_1_3_6_8 wn A2 m2 c2 A3 m3 c3 gy6 gy8 ⟨hS, o1, o3, k6, hg6, k8, hg8, n6_8⟩
  · rintro wz A2 m2 c2 A3 m3 c3 gy7 ⟨hS, o1, o3, k7, hg7⟩
    refine wpAnyH_ready (rs := [5, 6, 8]) (by kernel_rfl) (by simp) ?_
    refine AllReadyH.cons rfl (fun K hK => ?r_1_3_7_at5) (AllReadyH.cons rfl (fun K hK => ?r_1_3_7_at6) (AllReadyH.cons rfl (fun K hK => ?r_1_3_7_at8) .nil))
    case r_1_3_7_at5 =>
      go_simp
      refine (HTOC.out wz hS).mono ?_
      rintro e wn ⟨A4, m4, c4, rfl, o5, hh⟩
      replace o5 := o5.mono hS.size
      replace o1 := o1.below hh (Nat.le_refl _)
      replace o3 := o3.below hh (Nat.le_refl _)
      replace k7 := k7.below hh k7.lt
      refine hK.out _ _ (hS.trans (hh.mono hS.size)) (fun hS => ?_)
      clear hK K hh
      exact key_1_3_5_7 wn A2 m2 c2 A3 m3 c3 A4 m4 c4 gy7 ⟨hS, o1, o3, o5, k7, hg7⟩
    case r_1_3_7_at6 =>
      go_simp
      have hg6 := hS.size
      have n6_7 := (Nat.ne_of_lt k7.lt).symm
      refine hK.out _ _ (hS.alloc hS.size _) (fun hS => ?_)
      clear hK K
      have k6 := Blk.new wz 30 #[.int .i64 0, .int .i64 0, .int .i64 0, .int .i64 0, .int .i64 0, .int .i64 0, .int .i64 0, .int .i64 0, .slice none 0 0]
      replace o1 := o1.alloc (.cells #[.int .i64 0, .int .i64 0, .int .i64 0, .int .i64 0, .int .i64 0, .int .i64 0, .int .i64 0, .int .i64 0, .slice none 0 0] 30)
      replace o3 := o3.alloc (.cells #[.int .i64 0, .int .i64 0, .int .i64 0, .int .i64 0, .int .i64 0, .int .i64 0, .int .i64 0, .int .i64 0, .slice none 0 0] 30)
      replace k7 := k7.alloc (.cells #[.int .i64 0, .int .i64 0, .int .i64 0, .int .i64 0, .int .i64 0, .int .i64 0, .int .i64 0, .int .i64 0, .slice none 0 0] 30)
      generalize wz.alloc (.cells #[.int .i64 0, .int .i64 0, .int .i64 0, .int .i64 0, .int .i64 0, .int .i64 0, .int .i64 0, .int .i64 0, .slice none 0 0] 30) = wn at *
      generalize wz.heap.size = gy6 at *
      exact key_1_3_6_7 wn A2 m2 c2 A3 m3 c3 gy6 gy7 ⟨hS, o1, o3, k6, hg6, k7, hg7, n6_7⟩
    case r_1_3_7_at8 =>
      go_simp
      have hg8 := hS.size
      have n7_8 := Nat.ne_of_lt k7.lt
      refine hK.out _ _ (hS.alloc hS.size _) (fun hS => ?_)
      clear hK K
      have k8 := Blk.new wz 30 #[.int .i64 0, .int .i64 0, .int .i64 0, .int .i64 0, .int .i64 0, .int .i64 0, .int .i64 0, .int .i64 0, .slice none 0 0]
      replace o1 := o1.alloc (.cells #[.int .i64 0, .int .i64 0, .int .i64 0, .int .i64 0, .int .i64 0, .int .i64 0, .int .i64 0, .int .i64 0, .slice none 0 0] 30)
      replace o3 := o3.alloc (.cells #[.int .i64 0, .int .i64 0, .int .i64 0, .int .i64 0, .int .i64 0, .int .i64 0, .int .i64 0, .int .i64 0, .slice none 0 0] 30)
      replace k7 := k7.alloc (.cells #[.int .i64 0, .int .i64 0, .int .i64 0, .int .i64 0, .int .i64 0, .int .i64 0, .int .i64 0, .int .i64 0, .slice none 0 0] 30)
      generalize wz.alloc (.cells #[.int .i64 0, .int .i64 0, .int .i64 0, .int .i64 0, .int .i64 0, .int .i64 0, .int .i64 0, .int .i64 0, .slice none 0 0] 30) = wn at *
      generalize wz.heap.size = gy8 at *
      exact key_1_3_7_8 wn A2 m2 c2 A3 m3 c3 gy7 gy8 ⟨hS, o1, o3, k7, hg7, k8, hg8, n7_8⟩
  · rintro wz A2 m2 c2 A3 m3 c3 gy8 ⟨hS, o1, o3, k8, hg8⟩
    refine wpAnyH_ready (rs := [5, 6, 7]) (by kernel_rfl) (by simp) ?_
    refine AllReadyH.cons rfl (fun K hK => ?r_1_3_8_at5) (AllReadyH.cons rfl (fun K hK => ?r_1_3_8_at6) (AllReadyH.cons rfl (fun K hK => ?r_1_3_8_at7) .nil))
    case r_1_3_8_at5 =>
      go_simp
      refine (HTOC.out wz hS).mono ?_
      rintro e wn ⟨A4, m4, c4, rfl, o5, hh⟩
      replace o5 := o5.mono hS.size
      replace o1 := o1.below hh (Nat.le_refl _)
      replace o3 := o3.below hh (Nat.le_refl _)
      replace k8 := k8.below hh k8.lt
      refine hK.out _ _ (hS.trans (hh.mono hS.size)) (fun hS => ?_)
      clear hK K hh
      exact key_1_3_5_8 wn A2 m2 c2 A3 m3 c3 A4 m4 c4 gy8 ⟨hS, o1, o3, o5, k8, hg8⟩
    case r_1_3_8_at6 =>
      go_simp
      have hg6 := hS.size
      have n6_8 := (Nat.ne_of_lt k8.lt).symm
      refine hK.out _ _ (hS.alloc hS.size _) (fun hS => ?_)
      clear hK K
      have k6 := Blk.new wz 30 #[.int .i64 0, .int .i64 0, .int .i64 0, .int .i64 0, .int .i64 0, .int .i64 0, .int .i64 0, .int .i64 0, .slice none 0 0]
      replace o1 := o1.alloc (.cells #[.int .i64 0, .int .i64 0, .int .i64 0, .int .i64 0, .int .i64 0, .int .i64 0, .int .i64 0, .int .i64 0, .slice none 0 0] 30)
      replace o3 := o3.alloc (.cells #[.int .i64 0, .int .i64 0, .int .i64 0, .int .i64 0, .int .i64 0, .int .i64 0, .int .i64 0, .int .i64 0, .slice none 0 0] 30)
      replace k8 := k8.alloc (.cells #[.int .i64 0, .int .i64 0, .int .i64 0, .int .i64 0, .int .i64 0, .int .i64 0, .int .i64 0, .int .i64 0, .slice none 0 0] 30)
      generalize wz.alloc (.cells #[.int .i64 0, .int .i64 0, .int .i64 0, .int .i64 0, .int .i64 0, .int .i64 0, .int .i64 0, .int .i64 0, .slice none 0 0] 30) = wn at *
      generalize wz.heap.size = gy6 at *
      exact key_1_3_6_8 wn A2 m2 c2 A3 m3 c3 gy6 gy8 ⟨hS, o1, o3, k6, hg6, k8, hg8, n6_8⟩
    case r_1_3_8_at7 =>
      go_simp
      have hg7 := hS.size
      have n7_8 := (Nat.ne_of_lt k8.lt).symm
      refine hK.out _ _ (hS.alloc hS.size _) (fun hS => ?_)
      clear hK K
      have k7 := Blk.new wz 30 #[.int .i64 0, .int .i64 0, .int .i64 0, .int .i64 0, .int .i64 0, .int .i64 0, .int .i64 0, .int .i64 0, .slice none 0 0]
      replace o1 := o1.alloc (.cells #[.int .i64 0, .int .i64 0, .int .i64 0, .int .i64 0, .int .i64 0, .int .i64 0, .int .i64 0, .int .i64 0, .slice none 0 0] 30)
      replace o3 := o3.alloc (.cells #[.int .i64 0, .int .i64 0, .int .i64 0, .int .i64 0, .int .i64 0, .int .i64 0, .int .i64 0, .int .i64 0, .slice none 0 0] 30)
      replace k8 := k8.alloc (.cells #[.int .i64 0, .int .i64 0, .int .i64 0, .int .i64 0, .int .i64 0, .int .i64 0, .int .i64 0, .int .i64 0, .slice none 0 0] 30)
      generalize wz.alloc (.cells #[.int .i64 0, .int .i64 0, .int .i64 0, .int .i64 0, .int .i64 0, .int .i64 0, .int .i64 0, .int .i64 0, .slice none 0 0] 30) = wn at *
      generalize wz.heap.size = gy7 at *
      exact key_1_3_7_8 wn A2 m2 c2 A3 m3 c3 gy7 gy8 ⟨hS, o1, o3, k7, hg7, k8, hg8, n7_8⟩
  · rintro wz A2 m2 c2 gy6 gy7 ⟨hS, o1, k6, hg6, k7, hg7, n6_7⟩
    refine wpAnyH_ready (rs := [3, 8]) (by kernel_rfl) (by simp) ?_
    refine AllReadyH.cons rfl (fun K hK => ?r_1_6_7_at3) (AllReadyH.cons rfl (fun K hK => ?r_1_6_7_at8) .nil)
    case r_1_6_7_at3 =>
      go_simp
      refine (HTOB.out wz hS).mono ?_
      rintro e wn ⟨A3, m3, c3, rfl, o3, hh⟩
      replace o3 := o3.mono hS.size
      replace o1 := o1.below hh (Nat.le_refl _)
      replace k6 := k6.below hh k6.lt
      replace k7 := k7.below hh k7.lt
      refine hK.out _ _ (hS.trans (hh.mono hS.size)) (fun hS => ?_)
      clear hK K hh
      exact key_1_3_6_7 wn A2 m2 c2 A3 m3 c3 gy6 gy7 ⟨hS, o1, o3, k6, hg6, k7, hg7, n6_7⟩
    case r_1_6_7_at8 =>
      go_simp
      have hg8 := hS.size
      have n6_8 := Nat.ne_of_lt k6.lt
      have n7_8 := Nat.ne_of_lt k7.lt
      refine hK.out _ _ (hS.alloc hS.size _) (fun hS => ?_)
      clear hK K
      have k8 := Blk.new wz 30 #[.int .i64 0, .int .i64 0, .int .i64 0, .int .i64 0, .int .i64 0, .int .i64 0, .int .i64 0, .int .i64 0, .slice none 0 0]
      replace o1 := o1.alloc (.cells #[.int .i64 0, .int .i64 0, .int .i64 0, .int .i64 0, .int .i64 0, .int .i64 0, .int .i64 0, .int .i64 0, .slice none 0 0] 30)
      replace k6 := k6.alloc (.cells #[.int .i64 0, .int .i64 0, .int .i64 0, .int .i64 0, .int .i64 0, .int .i64 0, .int .i64 0, .int .i64 0, .slice none 0 0] 30)
      replace k7 := k7.alloc (.cells #[.int .i64 0, .int .i64 0, .int .i64 0, .int .i64 0, .int .i64 0, .int .i64 0, .int .i64 0, .int .i64 0, .slice none 0 0] 30)
      generalize wz.alloc (.cells #[.int .i64 0, .int .i64 0, .int .i64 0, .int .i64 0, .int .i64 0, .int .i64 0, .int .i64 0, .int .i64 0, .slice none 0 0] 30) = wn at *
      generalize wz.heap.size = gy8 at *
      exact key_1_6_7_8 wn A2 m2 c2 gy6 gy7 gy8 ⟨hS, o1, k6, hg6, k7, hg7, k8, hg8, n6_7, n6_8, n7_8⟩
  · rintro wz A2 m2 c2 gy6 gy8 ⟨hS, o1, k6, hg6, k8, hg8, n6_8⟩
    refine wpAnyH_ready (rs := [3, 7]) (by kernel_rfl) (by simp) ?_
    refine AllReadyH.cons rfl (fun K hK => ?r_1_6_8_at3) (AllReadyH.cons rfl (fun K hK => ?r_1_6_8_at7) .nil)
    case r_1_6_8_at3 =>
      go_simp
      refine (HTOB.out wz hS).mono ?_
      rintro e wn ⟨A3, m3, c3, rfl, o3, hh⟩
      replace o3 := o3.mono hS.size
      replace o1 := o1.below hh (Nat.le_refl _)
      replace k6 := k6.below hh k6.lt
      replace k8 := k8.below hh k8.lt
      refine hK.out _ _ (hS.trans (hh.mono hS.size)) (fun hS => ?_)
      clear hK K hh
      exact key_1_3_6_8 wn A2 m2 c2 A3 m3 c3 gy6 gy8 ⟨hS, o1, o3, k6, hg6, k8, hg8, n6_8⟩
    case r_1_6_8_at7 =>
      go_simp
      have hg7 := hS.size
      have n6_7 := Nat.ne_of_lt k6.lt
      have n7_8 := (Nat.ne_of_lt k8.lt).symm
      refine hK.out _ _ (hS.alloc hS.size _) (fun hS => ?_)
      clear hK K
      have k7 := Blk.new wz 30 #[.int .i64 0, .int .i64 0, .int .i64 0, .int .i64 0, .int .i64 0, .int .i64 0, .int .i64 0, .int .i64 0, .slice none 0 0]
      replace o1 := o1.alloc (.cells #[.int .i64 0, .int .i64 0, .int .i64 0, .int .i64 0, .int .i64 0, .int .i64 0, .int .i64 0, .int .i64 0, .slice none 0 0] 30)
      replace k6 := k6.alloc (.cells #[.int .i64 0, .int .i64 0, .int .i64 0, .int .i64 0, .int .i64 0, .int .i64 0, .int .i64 0, .int .i64 0, .slice none 0 0] 30)
      replace k8 := k8.alloc (.cells #[.int .i64 0, .int .i64 0, .int .i64 0, .int .i64 0, .int .i64 0, .int .i64 0, .int .i64 0, .int .i64 0, .slice none 0 0] 30)
      generalize wz.alloc (.cells #[.int .i64 0, .int .i64 0, .int .i64 0, .int .i64 0, .int .i64 0, .int .i64 0, .int .i64 0, .int .i64 0, .slice none 0 0] 30) = wn at *
      generalize wz.heap.size = gy7 at *
      exact key_1_6_7_8 wn A2 m2 c2 gy6 gy7 gy8 ⟨hS, o1, k6, hg6, k7, hg7, k8, hg8, n6_7, n6_8, n7_8⟩
  · rintro wz A2 m2 c2 gy7 gy8 ⟨hS, o1, k7, hg7, k8, hg8, n7_8⟩
    refine wpAnyH_ready (rs := [3, 6]) (by kernel_rfl) (by simp) ?_
    refine AllReadyH.cons rfl (fun K hK => ?r_1_7_8_at3) (AllReadyH.cons rfl (fun K hK => ?r_1_7_8_at6) .nil)
    case r_1_7_8_at3 =>
      go_simp
      refine (HTOB.out wz hS).mono ?_
      rintro e wn ⟨A3, m3, c3, rfl, o3, hh⟩
      replace o3 := o3.mono hS.size
      replace o1 := o1.below hh (Nat.le_refl _)
      replace k7 := k7.below hh k7.lt
      replace k8 := k8.below hh k8.lt
      refine hK.out _ _ (hS.trans (hh.mono hS.size)) (fun hS => ?_)
      clear hK K hh
      exact key_1_3_7_8 wn A2 m2 c2 A3 m3 c3 gy7 gy8 ⟨hS, o1, o3, k7, hg7, k8, hg8, n7_8⟩
    case r_1_7_8_at6 =>
      go_simp
      have hg6 := hS.size
      have n6_7 := (Nat.ne_of_lt k7.lt).symm
      have n6_8 := (Nat.ne_of_lt k8.lt).symm
      refine hK.out _ _ (hS.alloc hS.size _) (fun hS => ?_)
      clear hK K
      have k6 := Blk.new wz 30 #[.int .i64 0, .int .i64 0, .int .i64 0, .int .i64 0, .int .i64 0, .int .i64 0, .int .i64 0, .int .i64 0, .slice none 0 0]
      replace o1 := o1.alloc (.cells #[.int .i64 0, .int .i64 0, .int .i64 0, .int .i64 0, .int .i64 0, .int .i64 0, .int .i64 0, .int .i64 0, .slice none 0 0] 30)
      replace k7 := k7.alloc (.cells #[.int .i64 0, .int .i64 0, .int .i64 0, .int .i64 0, .int .i64 0, .int .i64 0, .int .i64 0, .int .i64 0, .slice none 0 0] 30)
      replace k8 := k8.alloc (.cells #[.int .i64 0, .int .i64 0, .int .i64 0, .int .i64 0, .int .i64 0, .int .i64 0, .int .i64 0, .int .i64 0, .slice none 0 0] 30)
      generalize wz.alloc (.cells #[.int .i64 0, .int .i64 0, .int .i64 0, .int .i64 0, .int .i64 0, .int .i64 0, .int .i64 0, .int .i64 0, .slice none 0 0] 30) = wn at *
      generalize wz.heap.size = gy6 at *
      exact key_1_6_7_8 wn A2 m2 c2 gy6 gy7 gy8 ⟨hS, o1, k6, hg6, k7, hg7, k8, hg8, n6_7, n6_8, n7_8⟩
  · rintro wz gy6 gy7 gy8 ⟨hS, k6, hg6, k7, hg7, k8, hg8, n6_7, n6_8, n7_8⟩
    refine wpAnyH_ready (rs := [1]) (by kernel_rfl) (by simp) ?_
    refine AllReadyH.cons rfl (fun K hK => ?_) .nil
    go_simp
    refine (HTOA.out wz hS).mono ?_
    rintro e wn ⟨A2, m2, c2, rfl, o1, hh⟩
    replace o1 := o1.mono hS.size
    replace k6 := k6.below hh k6.lt
    replace k7 := k7.below hh k7.lt
    replace k8 := k8.below hh k8.lt
    refine hK.out _ _ (hS.trans (hh.mono hS.size)) (fun hS => ?_)
    clear hK K hh
    exact key_1_6_7_8 wn A2 m2 c2 gy6 gy7 gy8 ⟨hS, o1, k6, hg6, k7, hg7, k8, hg8, n6_7, n6_8, n7_8⟩
  · rintro wz A2 m2 c2 A3 m3 c3 A4 m4 c4 gy6 ⟨hS, o1, o3, o5, k6, hg6⟩
    refine wpAnyH_ready (rs := [7, 8]) (by kernel_rfl) (by simp) ?_
    refine AllReadyH.cons rfl (fun K hK => ?r_1_3_5_6_at7) (AllReadyH.cons rfl (fun K hK => ?r_1_3_5_6_at8) .nil)
    case r_1_3_5_6_at7 =>
      go_simp
      have hg7 := hS.size
      have n6_7 := Nat.ne_of_lt k6.lt
      refine hK.out _ _ (hS.alloc hS.size _) (fun hS => ?_)
      clear hK K
      have k7 := Blk.new wz 30 #[.int .i64 0, .int .i64 0, .int .i64 0, .int .i64 0, .int .i64 0, .int .i64 0, .int .i64 0, .int .i64 0, .slice none 0 0]
      replace o1 := o1.alloc (.cells #[.int .i64 0, .int .i64 0, .int .i64 0, .int .i64 0, .int .i64 0, .int .i64 0, .int .i64 0, .int .i64 0, .slice none 0 0] 30)
      replace o3 := o3.alloc (.cells #[.int .i64 0, .int .i64 0, .int .i64 0, .int .i64 0, .int .i64 0, .int .i64 0, .int .i64 0, .int .i64 0, .slice none 0 0] 30)
      replace o5 := o5.alloc (.cells #[.int .i64 0, .int .i64 0, .int .i64 0, .int .i64 0, .int .i64 0, .int .i64 0, .int .i64 0, .int .i64 0, .slice none 0 0] 30)
      replace k6 := k6.alloc (.cells #[.int .i64 0, .int .i64 0, .int .i64 0, .int .i64 0, .int .i64 0, .int .i64 0, .int .i64 0, .int .i64 0, .slice none 0 0] 30)
      generalize wz.alloc (.cells #[.int .i64 0, .int .i64 0, .int .i64 0, .int .i64 0, .int .i64 0, .int .i64 0, .int .i64 0, .int .i64 0, .slice none 0 0] 30) = wn at *
      generalize wz.heap.size = gy7 at *
      exact key_1_3_5_6_7 wn A2 m2 c2 A3 m3 c3 A4 m4 c4 gy6 gy7 ⟨hS, o1, o3, o5, k6, hg6, k7, hg7, n6_7⟩
    case r_1_3_5_6_at8 =>
      go_simp
      have hg8 := hS.size
      have n6_8 := Nat.ne_of_lt k6.lt
      refine hK.out _ _ (hS.alloc hS.size _) (fun hS => ?_)
      clear hK K
      have k8 := Blk.new wz 30 #[.int .i64 0, .int .i64 0, .int .i64 0, .int .i64 0, .int .i64 0, .int .i64 0, .int .i64 0, .int .i64 0, .slice none 0 0]
      replace o1 := o1.alloc (.cells #[.int .i64 0, .int .i64 0, .int .i64 0, .int .i64 0, .int .i64 0, .int .i64 0, .int .i64 0, .int .i64 0, .slice none 0 0] 30)
      replace o3 := o3.alloc (.cells #[.int .i64 0, .int .i64 0, .int .i64 0, .int .i64 0, .int .i64 0, .int .i64 0, .int .i64 0, .int .i64 0, .slice none 0 0] 30)
      replace o5 := o5.alloc (.cells #[.int .i64 0, .int .i64 0, .int .i64 0, .int .i64 0, .int .i64 0, .int .i64 0, .int .i64 0, .int .i64 0, .slice none 0 0] 30)
      replace k6 := k6.alloc (.cells #[.int .i64 0, .int .i64 0, .int .i64 0, .int .i64 0, .int .i64 0, .int .i64 0, .int .i64 0, .int .i64 0, .slice none 0 0] 30)
      generalize wz.alloc (.cells #[.int .i64 0, .int .i64 0, .int .i64 0, .int .i64 0, .int .i64 0, .int .i64 0, .int .i64 0, .int .i64 0, .slice none 0 0] 30) = wn at *
      generalize wz.heap.size = gy8 at *
      exact key_1_3_5_6_8 wn A2 m2 c2 A3 m3 c3 A4 m4 c4 gy6 gy8 ⟨hS, o1, o3, o5, k6, hg6, k8, hg8, n6_8⟩
  · rintro wz A2 m2 c2 A3 m3 c3 A4 m4 c4 gy7 ⟨hS, o1, o3, o5, k7, hg7⟩
    refine wpAnyH_ready (rs := [6, 8]) (by kernel_rfl) (by simp) ?_
    refine AllReadyH.cons rfl (fun K hK => ?r_1_3_5_7_at6) (AllReadyH.cons rfl (fun K hK => ?r_1_3_5_7_at8) .nil)
    case r_1_3_5_7_at6 =>
      go_simp
      have hg6 := hS.size
      have n6_7 := (Nat.ne_of_lt k7.lt).symm
      refine hK.out _ _ (hS.alloc hS.size _) (fun hS => ?_)
      clear hK K
      have k6 := Blk.new wz 30 #[.int .i64 0, .int .i64 0, .int .i64 0, .int .i64 0, .int .i64 0, .int .i64 0, .int .i64 0, .int .i64 0, .slice none 0 0]
      replace o1 := o1.alloc (.cells #[.int .i64 0, .int .i64 0, .int .i64 0, .int .i64 0, .int .i64 0, .int .i64 0, .int .i64 0, .int .i64 0, .slice none 0 0] 30)
      replace o3 := o3.alloc (.cells #[.int .i64 0, .int .i64 0, .int .i64 0, .int .i64 0, .int .i64 0, .int .i64 0, .int .i64 0, .int .i64 0, .slice none 0 0] 30)
      replace o5 := o5.alloc (.cells #[.int .i64 0, .int .i64 0, .int .i64 0, .int .i64 0, .int .i64 0, .int .i64 0, .int .i64 0, .int .i64 0, .slice none 0 0] 30)
      replace k7 := k7.alloc (.cells #[.int .i64 0, .int .i64 0, .int .i64 0, .int .i64 0, .int .i64 0, .int .i64 0, .int .i64 0, .int .i64 0, .slice none 0 0] 30)
      generalize wz.alloc (.cells #[.int .i64 0, .int .i64 0, .int .i64 0, .int .i64 0, .int .i64 0, .int .i64 0, .int .i64 0, .int .i64 0, .slice none 0 0] 30) = wn at *
      generalize wz.heap.size = gy6 at *
      exact key_1_3_5_6_7 wn A2 m2 c2 A3 m3 c3 A4 m4 c4 gy6 gy7 ⟨hS, o1, o3, o5, k6, hg6, k7, hg7, n6_7⟩
    case r_1_3_5_7_at8 =>
      go_simp
      have hg8 := hS.size
      have n7_8 := Nat.ne_of_lt k7.lt
      refine hK.out _ _ (hS.alloc hS.size _) (fun hS => ?_)
      clear hK K
      have k8 := Blk.new wz 30 #[.int .i64 0, .int .i64 0, .int .i64 0, .int .i64 0, .int .i64 0, .int .i64 0, .int .i64 0, .int .i64 0, .slice none 0 0]
      replace o1 := o1.alloc (.cells #[.int .i64 0, .int .i64 0, .int .i64 0, .int .i64 0, .int .i64 0, .int .i64 0, .int .i64 0, .int .i64 0, .slice none 0 0] 30)
      replace o3 := o3.alloc (.cells #[.int .i64 0, .int .i64 0, .int .i64 0, .int .i64 0, .int .i64 0, .int .i64 0, .int .i64 0, .int .i64 0, .slice none 0 0] 30)
      replace o5 := o5.alloc (.cells #[.int .i64 0, .int .i64 0, .int .i64 0, .int .i64 0, .int .i64 0, .int .i64 0, .int .i64 0, .int .i64 0, .slice none 0 0] 30)
      replace k7 := k7.alloc (.cells #[.int .i64 0, .int .i64 0, .int .i64 0, .int .i64 0, .int .i64 0, .int .i64 0, .int .i64 0, .int .i64 0, .slice none 0 0] 30)
      generalize wz.alloc (.cells #[.int .i64 0, .int .i64 0, .int .i64 0, .int .i64 0, .int .i64 0, .int .i64 0, .int .i64 0, .int .i64 0, .slice none 0 0] 30) = wn at *
      generalize wz.heap.size = gy8 at *
      exact key_1_3_5_7_8 wn A2 m2 c2 A3 m3 c3 A4 m4 c4 gy7 gy8 ⟨hS, o1, o3, o5, k7, hg7, k8, hg8, n7_8⟩
  · rintro wz A2 m2 c2 A3 m3 c3 A4 m4 c4 gy8 ⟨hS, o1, o3, o5, k8, hg8⟩
    refine wpAnyH_ready (rs := [6, 7]) (by kernel_rfl) (by simp) ?_
    refine AllReadyH.cons rfl (fun K hK => ?r_1_3_5_8_at6) (AllReadyH.cons rfl (fun K hK => ?r_1_3_5_8_at7) .nil)
    case r_1_3_5_8_at6 =>
      go_simp
      have hg6 := hS.size
      have n6_8 := (Nat.ne_of_lt k8.lt).symm
      refine hK.out _ _ (hS.alloc hS.size _) (fun hS => ?_)
      clear hK K
      have k6 := Blk.new wz 30 #[.int .i64 0, .int .i64 0, .int .i64 0, .int .i64 0, .int .i64 0, .int .i64 0, .int .i64 0, .int .i64 0, .slice none 0 0]
      replace o1 := o1.alloc (.cells #[.int .i64 0, .int .i64 0, .int .i64 0, .int .i64 0, .int .i64 0, .int .i64 0, .int .i64 0, .int .i64 0, .slice none 0 0] 30)
      replace o3 := o3.alloc (.cells #[.int .i64 0, .int .i64 0, .int .i64 0, .int .i64 0, .int .i64 0, .int .i64 0, .int .i64 0, .int .i64 0, .slice none 0 0] 30)
      replace o5 := o5.alloc (.cells #[.int .i64 0, .int .i64 0, .int .i64 0, .int .i64 0, .int .i64 0, .int .i64 0, .int .i64 0, .int .i64 0, .slice none 0 0] 30)
      replace k8 := k8.alloc (.cells #[.int .i64 0, .int .i64 0, .int .i64 0, .int .i64 0, .int .i64 0, .int .i64 0, .int .i64 0, .int .i64 0, .slice none 0 0] 30)
      generalize wz.alloc (.cells #[.int .i64 0, .int .i64 0, .int .i64 0, .int .i64 0, .int .i64 0, .int .i64 0, .int .i64 0, .int .i64 0, .slice none 0 0] 30) = wn at *
      generalize wz.heap.size = gy6 at *
      exact key_1_3_5_6_8 wn A2 m2 c2 A3 m3 c3 A4 m4 c4 gy6 gy8 ⟨hS, o1, o3, o5, k6, hg6, k8, hg8, n6_8⟩
    case r_1_3_5_8_at7 =>
      go_simp
      have hg7 := hS.size
      have n7_8 := (Nat.ne_of_lt k8.lt).symm
      refine hK.out _ _ (hS.alloc hS.size _) (fun hS => ?_)
      clear hK K
      have k7 := Blk.new wz 30 #[.int .i64 0, .int .i64 0, .int .i64 0, .int .i64 0, .int .i64 0, .int .i64 0, .int .i64 0, .int .i64 0, .slice none 0 0]
      replace o1 := o1.alloc (.cells #[.int .i64 0, .int .i64 0, .int .i64 0, .int .i64 0, .int .i64 0, .int .i64 0, .int .i64 0, .int .i64 0, .slice none 0 0] 30)
      replace o3 := o3.alloc (.cells #[.int .i64 0, .int .i64 0, .int .i64 0, .int .i64 0, .int .i64 0, .int .i64 0, .int .i64 0, .int .i64 0, .slice none 0 0] 30)
      replace o5 := o5.alloc (.cells #[.int .i64 0, .int .i64 0, .int .i64 0, .int .i64 0, .int .i64 0, .int .i64 0, .int .i64 0, .int .i64 0, .slice none 0 0] 30)
      replace k8 := k8.alloc (.cells #[.int .i64 0, .int .i64 0, .int .i64 0, .int .i64 0, .int .i64 0, .int .i64 0, .int .i64 0, .int .i64 0, .slice none 0 0] 30)
      generalize wz.alloc (.cells #[.int .i64 0, .int .i64 0, .int .i64 0, .int .i64 0, .int .i64 0, .int .i64 0, .int .i64 0, .int .i64 0, .slice none 0 0] 30) = wn at *
      generalize wz.heap.size = gy7 at *
      exact key_1_3_5_7_8 wn A2 m2 c2 A3 m3 c3 A4 m4 c4 gy7 gy8 ⟨hS, o1, o3, o5, k7, hg7, k8, hg8, n7_8⟩
  · rintro wz A2 m2 c2 A3 m3 c3 gy6 gy7 ⟨hS, o1, o3, k6, hg6, k7, hg7, n6_7⟩
    refine wpAnyH_ready (rs := [5, 8]) (by kernel_rfl) (by simp) ?_
    refine AllReadyH.cons rfl (fun K hK => ?r_1_3_6_7_at5) (AllReadyH.cons rfl (fun K hK => ?r_1_3_6_7_at8) .nil)
    case r_1_3_6_7_at5 =>
      go_simp
      refine (HTOC.out wz hS).mono ?_
      rintro e wn ⟨A4, m4, c4, rfl, o5, hh⟩
      replace o5 := o5.mono hS.size
      replace o1 := o1.below hh (Nat.le_refl _)
      replace o3 := o3.below hh (Nat.le_refl _)
      replace k6 := k6.below hh k6.lt
      replace k7 := k7.below hh k7.lt
      refine hK.out _ _ (hS.trans (hh.mono hS.size)) (fun hS => ?_)
      clear hK K hh
      exact key_1_3_5_6_7 wn A2 m2 c2 A3 m3 c3 A4 m4 c4 gy6 gy7 ⟨hS, o1, o3, o5, k6, hg6, k7, hg7, n6_7⟩
    case r_1_3_6_7_at8 =>
      go_simp
      have hg8 := hS.size
      have n6_8 := Nat.ne_of_lt k6.lt
      have n7_8 := Nat.ne_of_lt k7.lt
      refine hK.out _ _ (hS.alloc hS.size _) (fun hS => ?_)
      clear hK K
      have k8 := Blk.new wz 30 #[.int .i64 0, .int .i64 0, .int .i64 0, .int .i64 0, .int .i64 0, .int .i64 0, .int .i64 0, .int .i64 0, .slice none 0 0]
      replace o1 := o1.alloc (.cells #[.int .i64 0, .int .i64 0, .int .i64 0, .int .i64 0, .int .i64 0, .int .i64 0, .int .i64 0, .int .i64 0, .slice none 0 0] 30)
      replace o3 := o3.alloc (.cells #[.int .i64 0, .int .i64 0, .int .i64 0, .int .i64 0, .int .i64 0, .int .i64 0, .int .i64 0, .int .i64 0, .slice none 0 0] 30)
      replace k6 := k6.alloc (.cells #[.int .i64 0, .int .i64 0, .int .i64 0, .int .i64 0, .int .i64 0, .int .i64 0, .int .i64 0, .int .i64 0, .slice none 0 0] 30)
      replace k7 := k7.alloc (.cells #[.int .i64 0, .int .i64 0, .int .i64 0, .int .i64 0, .int .i64 0, .int .i64 0, .int .i64 0, .int .i64 0, .slice none 0 0] 30)
      generalize wz.alloc (.cells #[.int .i64 0, .int .i64 0, .int .i64 0, .int .i64 0, .int .i64 0, .int .i64 0, .int .i64 0, .int .i64 0, .slice none 0 0] 30) = wn at *
      generalize wz.heap.size = gy8 at *
      exact key_1_3_6_7_8 wn A2 m2 c2 A3 m3 c3 gy6 gy7 gy8 ⟨hS, o1, o3, k6, hg6, k7, hg7, k8, hg8, n6_7, n6_8, n7_8⟩
  · rintro wz A2 m2 c2 A3 m3 c3 gy6 gy8 ⟨hS, o1, o3, k6, hg6, k8, hg8, n6_8⟩
    refine wpAnyH_ready (rs := [5, 7]) (by kernel_rfl) (by simp) ?_
    refine AllReadyH.cons rfl (fun K hK => ?r_1_3_6_8_at5) (AllReadyH.cons rfl (fun K hK => ?r_1_3_6_8_at7) .nil)
    case r_1_3_6_8_at5 =>
      go_simp
      refine (HTOC.out wz hS).mono ?_
      rintro e wn ⟨A4, m4, c4, rfl, o5, hh⟩
      replace o5 := o5.mono hS.size
      replace o1 := o1.below hh (Nat.le_refl _)
      replace o3 := o3.below hh (Nat.le_refl _)
      replace k6 := k6.below hh k6.lt
      replace k8 := k8.below hh k8.lt
      refine hK.out _ _ (hS.trans (hh.mono hS.size)) (fun hS => ?_)
      clear hK K hh
      exact key_1_3_5_6_8 wn A2 m2 c2 A3 m3 c3 A4 m4 c4 gy6 gy8 ⟨hS, o1, o3, o5, k6, hg6, k8, hg8, n6_8⟩
    case r_1_3_6_8_at7 =>
      go_simp
      have hg7 := hS.size
      have n6_7 := Nat.ne_of_lt k6.lt
      have n7_8 := (Nat.ne_of_lt k8.lt).symm
      refine hK.out _ _ (hS.alloc hS.size _) (fun hS => ?_)
      clear hK K
      have k7 := Blk.new wz 30 #[.int .i64 0, .int .i64 0, .int .i64 0, .int .i64 0, .int .i64 0, .int .i64 0, .int .i64 0, .int .i64 0, .slice none 0 0]
      replace o1 := o1.alloc (.cells #[.int .i64 0, .int .i64 0, .int .i64 0, .int .i64 0, .int .i64 0, .int .i64 0, .int .i64 0, .int .i64 0, .slice none 0 0] 30)
      replace o3 := o3.alloc (.cells #[.int .i64 0, .int .i64 0, .int .i64 0, .int .i64 0, .int .i64 0, .int .i64 0, .int .i64 0, .int .i64 0, .slice none 0 0] 30)
      replace k6 := k6.alloc (.cells #[.int .i64 0, .int .i64 0, .int .i64 0, .int .i64 0, .int .i64 0, .int .i64 0, .int .i64 0, .int .i64 0, .slice none 0 0] 30)
      replace k8 := k8.alloc (.cells #[.int .i64 0, .int .i64 0, .int .i64 0, .int .i64 0, .int .i64 0, .int .i64 0, .int .i64 0, .int .i64 0, .slice none 0 0] 30)
      generalize wz.alloc (.cells #[.int .i64 0, .int .i64 0, .int .i64 0, .int .i64 0, .int .i64 0, .int .i64 0, .int .i64 0, .int .i64 0, .slice none 0 0] 30) = wn at *
      generalize wz.heap.size = gy7 at *
      exact key_1_3_6_7_8 wn A2 m2 c2 A3 m3 c3 gy6 gy7 gy8 ⟨hS, o1, o3, k6, hg6, k7, hg7, k8, hg8, n6_7, n6_8, n7_8⟩
  · rintro wz A2 m2 c2 A3 m3 c3 gy7 gy8 ⟨hS, o1, o3, k7, hg7, k8, hg8, n7_8⟩
    refine wpAnyH_ready (rs := [5, 6]) (by kernel_rfl) (by simp) ?_
    refine AllReadyH.cons rfl (fun K hK => ?r_1_3_7_8_at5) (AllReadyH.cons rfl (fun K hK => ?r_1_3_7_8_at6) .nil)
    case r_1_3_7_8_at5 =>
      go_simp
      refine (HTOC.out wz hS).mono ?_
      rintro e wn ⟨A4, m4, c4, rfl, o5, hh⟩
      replace o5 := o5.mono hS.size
      replace o1 := o1.below hh (Nat.le_refl _)
      replace o3 := o3.below hh (Nat.le_refl _)
      replace k7 := k7.below hh k7.lt
      replace k8 := k8.below hh k8.lt
      refine hK.out _ _ (hS.trans (hh.mono hS.size)) (fun hS => ?_)
      clear hK K hh
      exact key_1_3_5_7_8 wn A2 m2 c2 A3 m3 c3 A4 m4 c4 gy7 gy8 ⟨hS, o1, o3, o5, k7, hg7, k8, hg8, n7_8⟩
    case r_1_3_7_8_at6 =>
      go_simp
      have hg6 := hS.size
      have n6_7 := (Nat.ne_of_lt k7.lt).symm
      have n6_8 := (Nat.ne_of_lt k8.lt).symm
      refine hK.out _ _ (hS.alloc hS.size _) (fun hS => ?_)
      clear hK K
      have k6 := Blk.new wz 30 #[.int .i64 0, .int .i64 0, .int .i64 0, .int .i64 0, .int .i64 0, .int .i64 0, .int .i64 0, .int .i64 0, .slice none 0 0]
      replace o1 := o1.alloc (.cells #[.int .i64 0, .int .i64 0, .int .i64 0, .int .i64 0, .int .i64 0, .int .i64 0, .int .i64 0, .int .i64 0, .slice none 0 0] 30)
      replace o3 := o3.alloc (.cells #[.int .i64 0, .int .i64 0, .int .i64 0, .int .i64 0, .int .i64 0, .int .i64 0, .int .i64 0, .int .i64 0, .slice none 0 0] 30)
      replace k7 := k7.alloc (.cells #[.int .i64 0, .int .i64 0, .int .i64 0, .int .i64 0, .int .i64 0, .int .i64 0, .int .i64 0, .int .i64 0, .slice none 0 0] 30)
      replace k8 := k8.alloc (.cells #[.int .i64 0, .int .i64 0, .int .i64 0, .int .i64 0, .int .i64 0, .int .i64 0, .int .i64 0, .int .i64 0, .slice none 0 0] 30)
      generalize wz.alloc (.cells #[.int .i64 0, .int .i64 0, .int .i64 0, .int .i64 0, .int .i64 0, .int .i64 0, .int .i64 0, .int .i64 0, .slice none 0 0] 30) = wn at *
      generalize wz.heap.size = gy6 at *
      exact key_1_3_6_7_8 wn A2 m2 c2 A3 m3 c3 gy6 gy7 gy8 ⟨hS, o1, o3, k6, hg6, k7, hg7, k8, hg8, n6_7, n6_8, n7_8⟩
  · rintro wz A2 m2 c2 gy6 gy7 gy8 ⟨hS, o1, k6, hg6, k7, hg7, k8, hg8, n6_7, n6_8, n7_8⟩
    refine wpAnyH_ready (rs := [3]) (by kernel_rfl) (by simp) ?_
    refine AllReadyH.cons rfl (fun K hK => ?_) .nil
    go_simp
    refine (HTOB.out wz hS).mono ?_
    rintro e wn ⟨A3, m3, c3, rfl, o3, hh⟩
    replace o3 := o3.mono hS.size
    replace o1 := o1.below hh (Nat.le_refl _)
    replace k6 := k6.below hh k6.lt
    replace k7 := k7.below hh k7.lt
    replace k8 := k8.below hh k8.lt
    refine hK.out _ _ (hS.trans (hh.mono hS.size)) (fun hS => ?_)
    clear hK K hh
    exact key_1_3_6_7_8 wn A2 m2 c2 A3 m3 c3 gy6 gy7 gy8 ⟨hS, o1, o3, k6, hg6, k7, hg7, k8, hg8, n6_7, n6_8, n7_8⟩
  · rintro wz A2 m2 c2 A3 m3 c3 A4 m4 c4 gy6 gy7 ⟨hS, o1, o3, o5, k6, hg6, k7, hg7, n6_7⟩
    refine wpAnyH_ready (rs := [8]) (by kernel_rfl) (by simp) ?_
    refine AllReadyH.cons rfl (fun K hK => ?_) .nil
    go_simp
    have hg8 := hS.size
    have n6_8 := Nat.ne_of_lt k6.lt
    have n7_8 := Nat.ne_of_lt k7.lt
    refine hK.out _ _ (hS.alloc hS.size _) (fun hS => ?_)
    clear hK K
    have k8 := Blk.new wz 30 #[.int .i64 0, .int .i64 0, .int .i64 0, .int .i64 0, .int .i64 0, .int .i64 0, .int .i64 0, .int .i64 0, .slice none 0 0]
    replace o1 := o1.alloc (.cells #[.int .i64 0, .int .i64 0, .int .i64 0, .int .i64 0, .int .i64 0, .int .i64 0, .int .i64 0, .int .i64 0, .slice none 0 0] 30)
    replace o3 := o3.alloc (.cells #[.int .i64 0, .int .i64 0, .int .i64 0, .int .i64 0, .int .i64 0, .int .i64 0, .int .i64 0, .int .i64 0, .slice none 0 0] 30)
    replace o5 := o5.alloc (.cells #[.int .i64 0, .int .i64 0, .int .i64 0, .int .i64 0, .int .i64 0, .int .i64 0, .int .i64 0, .int .i64 0, .slice none 0 0] 30)
    replace k6 := k6.alloc (.cells #[.int .i64 0, .int .i64 0, .int .i64 0, .int .i64 0, .int .i64 0, .int .i64 0, .int .i64 0, .int .i64 0, .slice none 0 0] 30)
    replace k7 := k7.alloc (.cells #[.int .i64 0, .int .i64 0, .int .i64 0, .int .i64 0, .int .i64 0, .int .i64 0, .int .i64 0, .int .i64 0, .slice none 0 0] 30)
    generalize wz.alloc (.cells #[.int .i64 0, .int .i64 0, .int .i64 0, .int .i64 0, .int .i64 0, .int .i64 0, .int .i64 0, .int .i64 0, .slice none 0 0] 30) = wn at *
    generalize wz.heap.size = gy8 at *
    exact key_1_3_5_6_7_8 wn A2 m2 c2 A3 m3 c3 A4 m4 c4 gy6 gy7 gy8 ⟨hS, o1, o3, o5, k6, hg6, k7, hg7, k8, hg8, n6_7, n6_8, n7_8⟩
  · rintro wz A2 m2 c2 A3 m3 c3 A4 m4 c4 gy6 gy8 ⟨hS, o1, o3, o5, k6, hg6, k8, hg8, n6_8⟩
    refine wpAnyH_ready (rs := [7]) (by kernel_rfl) (by simp) ?_
    refine AllReadyH.cons rfl (fun K hK => ?_) .nil
    go_simp
    have hg7 := hS.size
    have n6_7 := Nat.ne_of_lt k6.lt
    have n7_8 := (Nat.ne_of_lt k8.lt).symm
    refine hK.out _ _ (hS.alloc hS.size _) (fun hS => ?_)
    clear hK K
    have k7 := Blk.new wz 30 #[.int .i64 0, .int .i64 0, .int .i64 0, .int .i64 0, .int .i64 0, .int .i64 0, .int .i64 0, .int .i64 0, .slice none 0 0]
    replace o1 := o1.alloc (.cells #[.int .i64 0, .int .i64 0, .int .i64 0, .int .i64 0, .int .i64 0, .int .i64 0, .int .i64 0, .int .i64 0, .slice none 0 0] 30)
    replace o3 := o3.alloc (.cells #[.int .i64 0, .int .i64 0, .int .i64 0, .int .i64 0, .int .i64 0, .int .i64 0, .int .i64 0, .int .i64 0, .slice none 0 0] 30)
    replace o5 := o5.alloc (.cells #[.int .i64 0, .int .i64 0, .int .i64 0, .int .i64 0, .int .i64 0, .int .i64 0, .int .i64 0, .int .i64 0, .slice none 0 0] 30)
    replace k6 := k6.alloc (.cells #[.int .i64 0, .int .i64 0, .int .i64 0, .int .i64 0, .int .i64 0, .int .i64 0, .int .i64 0, .int .i64 0, .slice none 0 0] 30)
    replace k8 := k8.alloc (.cells #[.int .i64 0, .int .i64 0, .int .i64 0, .int .i64 0, .int .i64 0, .int .i64 0, .int .i64 0, .int .i64 0, .slice none 0 0] 30)
    generalize wz.alloc (.cells #[.int .i64 0, .int .i64 0, .int .i64 0, .int .i64 0, .int .i64 0, .int .i64 0, .int .i64 0, .int .i64 0, .slice none 0 0] 30) = wn at *
    generalize wz.heap.size = gy7 at *
    exact key_1_3_5_6_7_8 wn A2 m2 c2 A3 m3 c3 A4 m4 c4 gy6 gy7 gy8 ⟨hS, o1, o3, o5, k6, hg6, k7, hg7, k8, hg8, n6_7, n6_8, n7_8⟩
  · rintro wz A2 m2 c2 A3 m3 c3 A4 m4 c4 gy7 gy8 ⟨hS, o1, o3, o5, k7, hg7, k8, hg8, n7_8⟩
    refine wpAnyH_ready (rs := [6]) (by kernel_rfl) (by simp) ?_
    refine AllReadyH.cons rfl (fun K hK => ?_) .nil
    go_simp
    have hg6 := hS.size
    have n6_7 := (Nat.ne_of_lt k7.lt).symm
    have n6_8 := (Nat.ne_of_lt k8.lt).symm
    refine hK.out _ _ (hS.alloc hS.size _) (fun hS => ?_)
    clear hK K
    have k6 := Blk.new wz 30 #[.int .i64 0, .int .i64 0, .int .i64 0, .int .i64 0, .int .i64 0, .int .i64 0, .int .i64 0, .int .i64 0, .slice none 0 0]
    replace o1 := o1.alloc (.cells #[.int .i64 0, .int .i64 0, .int .i64 0, .int .i64 0, .int .i64 0, .int .i64 0, .int .i64 0, .int .i64 0, .slice none 0 0] 30)
    replace o3 := o3.alloc (.cells #[.int .i64 0, .int .i64 0, .int .i64 0, .int .i64 0, .int .i64 0, .int .i64 0, .int .i64 0, .int .i64 0, .slice none 0 0] 30)
    replace o5 := o5.alloc (.cells #[.int .i64 0, .int .i64 0, .int .i64 0, .int .i64 0, .int .i64 0, .int .i64 0, .int .i64 0, .int .i64 0, .slice none 0 0] 30)
    replace k7 := k7.alloc (.cells #[.int .i64 0, .int .i64 0, .int .i64 0, .int .i64 0, .int .i64 0, .int .i64 0, .int .i64 0, .int .i64 0, .slice none 0 0] 30)
    replace k8 := k8.alloc (.cells #[.int .i64 0, .int .i64 0, .int .i64 0, .int .i64 0, .int .i64 0, .int .i64 0, .int .i64 0, .int .i64 0, .slice none 0 0] 30)
    generalize wz.alloc (.cells #[.int .i64 0, .int .i64 0, .int .i64 0, .int .i64 0, .int .i64 0, .int .i64 0, .int .i64 0, .int .i64 0, .slice none 0 0] 30) = wn at *
    generalize wz.heap.size = gy6 at *
    exact key_1_3_5_6_7_8 wn A2 m2 c2 A3 m3 c3 A4 m4 c4 gy6 gy7 gy8 ⟨hS, o1, o3, o5, k6, hg6, k7, hg7, k8, hg8, n6_7, n6_8, n7_8⟩
  · rintro wz A2 m2 c2 A3 m3 c3 gy6 gy7 gy8 ⟨hS, o1, o3, k6, hg6, k7, hg7, k8, hg8, n6_7, n6_8, n7_8⟩
    refine wpAnyH_ready (rs := [5]) (by kernel_rfl) (by simp) ?_
    refine AllReadyH.cons rfl (fun K hK => ?_) .nil
    go_simp
    refine (HTOC.out wz hS).mono ?_
    rintro e wn ⟨A4, m4, c4, rfl, o5, hh⟩
    replace o5 := o5.mono hS.size
    replace o1 := o1.below hh (Nat.le_refl _)
    replace o3 := o3.below hh (Nat.le_refl _)
    replace k6 := k6.below hh k6.lt
    replace k7 := k7.below hh k7.lt
    replace k8 := k8.below hh k8.lt
    refine hK.out _ _ (hS.trans (hh.mono hS.size)) (fun hS => ?_)
    clear hK K hh
    exact key_1_3_5_6_7_8 wn A2 m2 c2 A3 m3 c3 A4 m4 c4 gy6 gy7 gy8 ⟨hS, o1, o3, o5, k6, hg6, k7, hg7, k8, hg8, n6_7, n6_8, n7_8⟩
  rintro wz A2 m2 c2 A3 m3 c3 A4 m4 c4 gy6 gy7 gy8 ⟨hS, o1, o3, o5, k6, hg6, k7, hg7, k8, hg8, n6_7, n6_8, n7_8⟩
  rename Below w6.heap.size w6 wd => hSd
  clear hSd
  have HS2 := Lib.hid (uc_size HUa.out (.slice A2 m2 c2))
  have H21 := Lib.hid (uc_one (U := Ua) (s := .slice A2 m2 c2) rfl)
  have HS3 := Lib.hid (uc_size HUb.out (.slice A3 m3 c3))
  have H31 := Lib.hid (uc_one (U := Ub) (s := .slice A3 m3 c3) rfl)
  have HS4 := Lib.hid (uc_size HUc.out (.slice A4 m4 c4))
  have H41 := Lib.hid (uc_one (U := Uc) (s := .slice A4 m4 c4) rfl)
  -- what the calls hand back
  have iX := hasG_in Ua la
  have iY := hasG_in Ub lb
  have iZ := hasG_in Uc lc
  have iP := orG_in iX iY
  have iQ := orG_in iY iZ
  have iR := orG_in iP iZ
  have jxy := fun (w' : World) (h : RdD w' w'.heap.size A2 m2 la) (h' : RdD w' w'.heap.size A3 m3 lb) => join_any ⟨Ua, A2, m2, c2, la⟩ ⟨Ub, A3, m3, c3, lb⟩ w' HUa.out HUb.out h h'
  have jyx := fun (w' : World) (h : RdD w' w'.heap.size A3 m3 lb) (h' : RdD w' w'.heap.size A2 m2 la) => join_any ⟨Ub, A3, m3, c3, lb⟩ ⟨Ua, A2, m2, c2, la⟩ w' HUb.out HUa.out h h'
  have jyz := fun (w' : World) (h : RdD w' w'.heap.size A3 m3 lb) (h' : RdD w' w'.heap.size A4 m4 lc) => join_any ⟨Ub, A3, m3, c3, lb⟩ ⟨Uc, A4, m4, c4, lc⟩ w' HUb.out HUc.out h h'
  have jpz := fun (A5 : Option Addr) (m5 c5 : Nat) (w' : World) (h : RdD w' w'.heap.size A5 m5 (moreS (orG (hasG Ua la) (hasG Ub lb)))) (h' : RdD w' w'.heap.size A4 m4 lc) => join_any ⟨uptoS (orG (hasG Ua la) (hasG Ub lb)), A5, m5, c5, moreS (orG (hasG Ua la) (hasG Ub lb))⟩ ⟨Uc, A4, m4, c4, lc⟩ w' (upto_len _) HUc.out h h'
  have jpx := fun (A5 : Option Addr) (m5 c5 : Nat) (w' : World) (h : RdD w' w'.heap.size A5 m5 (moreS (orG (hasG Ua la) (hasG Ub lb)))) (h' : RdD w' w'.heap.size A2 m2 la) => join_any ⟨uptoS (orG (hasG Ua la) (hasG Ub lb)), A5, m5, c5, moreS (orG (hasG Ua la) (hasG Ub lb))⟩ ⟨Ua, A2, m2, c2, la⟩ w' (upto_len _) HUa.out h h'
  have jpp := fun (A5 : Option Addr) (m5 c5 : Nat) (w' : World) (h : RdD w' w'.heap.size A5 m5 (moreS (orG (hasG Ua la) (hasG Ub lb)))) => join_any ⟨uptoS (orG (hasG Ua la) (hasG Ub lb)), A5, m5, c5, moreS (orG (hasG Ua la) (hasG Ub lb))⟩ ⟨uptoS (orG (hasG Ua la) (hasG Ub lb)), A5, m5, c5, moreS (orG (hasG Ua la) (hasG Ub lb))⟩ w' (upto_len _) (upto_len _) h h
  have jxq := fun (A5 : Option Addr) (m5 c5 : Nat) (w' : World) (h : RdD w' w'.heap.size A2 m2 la) (h' : RdD w' w'.heap.size A5 m5 (moreS (orG (hasG Ub lb) (hasG Uc lc)))) => join_any ⟨Ua, A2, m2, c2, la⟩ ⟨uptoS (orG (hasG Ub lb) (hasG Uc lc)), A5, m5, c5, moreS (orG (hasG Ub lb) (hasG Uc lc))⟩ w' HUa.out (upto_len _) h h'
  have rp := fun (A5 : Option Addr) (m5 c5 : Nat) (w' : World) (h : RdD w' w'.heap.size A5 m5 (moreS (orG (hasG Ua la) (hasG Ub lb)))) => right_any (uptoS (orG (hasG Ua la) (hasG Ub lb))) (upto_len _) A5 m5 c5 (moreS (orG (hasG Ua la) (hasG Ub lb))) w' h
  have hp := fun (A5 : Option Addr) (m5 c5 : Nat) (w' : World) (h : RdD w' w'.heap.size A5 m5 (moreS (orG (hasG Ua la) (hasG Ub lb)))) => has_any ⟨uptoS (orG (hasG Ua la) (hasG Ub lb)), A5, m5, c5, moreS (orG (hasG Ua la) (hasG Ub lb))⟩ x q w' (upto_len _) h
  have hx := fun (w' : World) (h : RdD w' w'.heap.size A2 m2 la) => has_any ⟨Ua, A2, m2, c2, la⟩ x q w' HUa.out h
  have hy := fun (w' : World) (h : RdD w' w'.heap.size A3 m3 lb) => has_any ⟨Ub, A3, m3, c3, lb⟩ x q w' HUb.out h
  have cp := fun (A5 : Option Addr) (m5 c5 : Nat) (w' : World) (h : RdD w' w'.heap.size A5 m5 (moreS (orG (hasG Ua la) (hasG Ub lb)))) => count_any ⟨uptoS (orG (hasG Ua la) (hasG Ub lb)), A5, m5, c5, moreS (orG (hasG Ua la) (hasG Ub lb))⟩ w' (upto_len _) h
  have cx := fun (w' : World) (h : RdD w' w'.heap.size A2 m2 la) => count_any ⟨Ua, A2, m2, c2, la⟩ w' HUa.out h
  have lyx := fun (w' : World) (h : RdD w' w'.heap.size A3 m3 lb) (h' : RdD w' w'.heap.size A2 m2 la) => less_any ⟨Ub, A3, m3, c3, lb⟩ ⟨Ua, A2, m2, c2, la⟩ w' HUb.out HUa.out h h'
  simp only [has_closed iP, has_closed iQ, right_closed iP] at jxy jyx jyz jpz jpx jpp jxq rp hx hy cp cx lyx
  simp only [has_or _ _ iX iY] at hp
  rw [orG_comm (hasG Ub lb) (hasG Ua la)] at jyx
  rw [orG_left] at jpx
  rw [orG_self] at jpp
  rw [← orG_assoc] at jxq
  have hor : (mayB (x, q) && (hasG Ua la x.toNat q.toNat || hasG Ub lb x.toNat q.toNat)) = (hasB Ua la (x, q) || hasB Ub lb (x, q)) := by unfold hasB; rw [Bool.and_or_distrib_left]
  rw [hor] at hp
  have hcn : (dotsS (orG (hasG Ua la) (hasG Ub lb))).length = (dotsS (hasG Ua la)).length + (lessD Ua la (dotsS (hasG Ub lb))).length := by
    rw [lessD_flt iY]
    exact dots_or (hasG Ua la) (hasG Ub lb) 8
  rw [hcn] at cp
  have hnx := dots_len (hasG Ua la)
  have hny := Nat.le_trans (lessD_len Ua la (dotsS (hasG Ub lb))) (dots_len (hasG Ub lb))
  have lg := more_len (orG (hasG Ua la) (hasG Ub lb))
  have lq := more_len (orG (hasG Ub lb) (hasG Uc lc))
  have lr := more_len (orG (orG (hasG Ua la) (hasG Ub lb)) (hasG Uc lc))
  have sg := fun (A5 : Option Addr) (m5 c5 : Nat) (A6 : Option Addr) (m6 c6 : Nat) (w' : World) (h : RdD w' w'.heap.size A5 m5 (moreS (orG (hasG Ua la) (hasG Ub lb)))) (h' : RdD w' w'.heap.size A6 m6 (moreS (orG (hasG Ua la) (hasG Ub lb)))) => same1_any (uptoS (orG (hasG Ua la) (hasG Ub lb))) (uptoS (orG (hasG Ua la) (hasG Ub lb))) (upto_len (orG (hasG Ua la) (hasG Ub lb))) (upto_len (orG (hasG Ua la) (hasG Ub lb))) (upto_wf _) (upto_wf _) A5 m5 c5 (moreS (orG (hasG Ua la) (hasG Ub lb))) A6 m6 c6 (moreS (orG (hasG Ua la) (hasG Ub lb))) w' h h' (by rw [h.1]; omega) (by rw [h'.1]; omega)
  have sr := fun (A5 : Option Addr) (m5 c5 : Nat) (A6 : Option Addr) (m6 c6 : Nat) (w' : World) (h : RdD w' w'.heap.size A5 m5 (moreS (orG (orG (hasG Ua la) (hasG Ub lb)) (hasG Uc lc)))) (h' : RdD w' w'.heap.size A6 m6 (moreS (orG (orG (hasG Ua la) (hasG Ub lb)) (hasG Uc lc)))) => same1_any (uptoS (orG (orG (hasG Ua la) (hasG Ub lb)) (hasG Uc lc))) (uptoS (orG (orG (hasG Ua la) (hasG Ub lb)) (hasG Uc lc))) (upto_len (orG (orG (hasG Ua la) (hasG Ub lb)) (hasG Uc lc))) (upto_len (orG (orG (hasG Ua la) (hasG Ub lb)) (hasG Uc lc))) (upto_wf _) (upto_wf _) A5 m5 c5 (moreS (orG (orG (hasG Ua la) (hasG Ub lb)) (hasG Uc lc))) A6 m6 c6 (moreS (orG (orG (hasG Ua la) (hasG Ub lb)) (hasG Uc lc))) w' h h' (by rw [h.1]; omega) (by rw [h'.1]; omega)
  simp only [decide_true, Bool.and_true] at sg sr
  have hGU := upto_len (orG (hasG Ua la) (hasG Ub lb))
  unfold CopyEnd at jxy jyx jyz jpz jpx jpp jxq
  unfold ListEnd at lyx
  generalize uptoS (orG (orG (hasG Ua la) (hasG Ub lb)) (hasG Uc lc)) = RU at *
  generalize moreS (orG (orG (hasG Ua la) (hasG Ub lb)) (hasG Uc lc)) = RM at *
  generalize uptoS (orG (hasG Ua la) (hasG Ub lb)) = GU at *
  generalize moreS (orG (hasG Ua la) (hasG Ub lb)) = GM at *
  generalize uptoS (orG (hasG Ub lb) (hasG Uc lc)) = QU at *
  generalize moreS (orG (hasG Ub lb) (hasG Uc lc)) = QM at *
  generalize hasB Ua la (x, q) = hX at *
  generalize hasB Ub lb (x, q) = hY at *
  generalize lessD Ua la (dotsS (hasG Ub lb)) = LD at *
  generalize (dotsS (hasG Ua la)).length = NX at *
  obtain ⟨s2, hs2⟩ : ∃ s, s = uc Ua (.slice A2 m2 c2) := ⟨_, rfl⟩
  obtain ⟨s4, hs4⟩ : ∃ s, s = uc Ub (.slice A3 m3 c3) := ⟨_, rfl⟩
  obtain ⟨s5, hs5⟩ : ∃ s, s = uc Uc (.slice A4 m4 c4) := ⟨_, rfl⟩
  rw [← hs2] at HS2 H21
  rw [← hs4] at HS3 H31
  rw [← hs5] at HS4 H41
  rw [← hs2, ← hs4] at jxy jyx lyx
  rw [← hs4, ← hs5] at jyz
  rw [← hs5] at jpz
  rw [← hs2] at jpx jxq hx cx
  rw [← hs4] at hy
  rw [← hs2, ← hs4, ← hs5]
  have JXY := Lib.hid jxy
  have JYX := Lib.hid jyx
  have JYZ := Lib.hid jyz
  have JXQ := Lib.hid jxq
  have JPZ := Lib.hid jpz
  have JPX := Lib.hid jpx
  have JPP := Lib.hid jpp
  have RP := Lib.hid rp
  have HP := Lib.hid hp
  have HX := Lib.hid hx
  have HY := Lib.hid hy
  have CP := Lib.hid cp
  have CX := Lib.hid cx
  have LYX := Lib.hid lyx
  have SG := Lib.hid sg
  have SR := Lib.hid sr
  have HGU := Lib.hid hGU
  clear jxy jyx jyz jxq jpz jpx jpp rp hp hx hy cp cx lyx sg sr hGU hs2 hs4 hs5 hor hcn iX iY iZ iP iQ iR lg lq lr
  refine wpAnyH_ready (rs := [9]) (by kernel_rfl) (by simp) ?_
  refine AllReadyH.cons rfl (fun K hK => ?_) .nil
  refine step_st rfl rowS (.tmp 7) (.tmp 28) rfl (by rfl) (by rfl) k6 HS2.out (by rfl) H21.out ?_
  intro v2 i6 y2 z2
  replace k7 := k7.grown y2 (fun h => n6_7 (by injection h))
  replace k8 := k8.grown y2 (fun h => n6_8 (by injection h))
  replace o1 := o1.grown y2 (.inr (own_ne o1.2 k6 (by decide)))
  replace o3 := o3.grown y2 (.inr (own_ne o3.2 k6 (by decide)))
  replace o5 := o5.grown y2 (.inr (own_ne o5.2 k6 (by decide)))
  have hS2 := hS.grown y2 hS.size (fun q hq => by injection hq; omega)
  refine hK.out _ _ hS2 (fun hS => ?_)
  clear hK K k6 y2 z2 hS2
  refine wpAnyH_ready (rs := [10]) (by kernel_rfl) (by simp) ?_
  refine AllReadyH.cons rfl (fun K hK => ?_) .nil
  refine step_st rfl rowS (.tmp 8) (.tmp 30) rfl (by rfl) (by rfl) k7 HS3.out (by rfl) H31.out ?_
  intro v3 i7 y2 z2
  replace i6 := i6.grown y2 (fun h => n6_7 (by injection h with h; exact h.symm))
  replace k8 := k8.grown y2 (fun h => n7_8 (by injection h))
  replace o1 := o1.grown y2 (.inr (own_ne o1.2 k7 (by decide)))
  replace o3 := o3.grown y2 (.inr (own_ne o3.2 k7 (by decide)))
  replace o5 := o5.grown y2 (.inr (own_ne o5.2 k7 (by decide)))
  have hS2 := hS.grown y2 hS.size (fun q hq => by injection hq; omega)
  refine hK.out _ _ hS2 (fun hS => ?_)
  clear hK K k7 y2 z2 hS2
  refine wpAnyH_ready (rs := [11]) (by kernel_rfl) (by simp) ?_
  refine AllReadyH.cons rfl (fun K hK => ?_) .nil
  refine step_st rfl rowS (.tmp 9) (.tmp 32) rfl (by rfl) (by rfl) k8 HS4.out (by rfl) H41.out ?_
  intro v4 i8 y2 z2
  replace i6 := i6.grown y2 (fun h => n6_8 (by injection h with h; exact h.symm))
  replace i7 := i7.grown y2 (fun h => n7_8 (by injection h with h; exact h.symm))
  replace o1 := o1.grown y2 (.inr (own_ne o1.2 k8 (by decide)))
  replace o3 := o3.grown y2 (.inr (own_ne o3.2 k8 (by decide)))
  replace o5 := o5.grown y2 (.inr (own_ne o5.2 k8 (by decide)))
  have hS2 := hS.grown y2 hS.size (fun q hq => by injection hq; omega)
  refine hK.out _ _ hS2 (fun hS => ?_)
  clear hK K k8 y2 z2 hS2
  refine wpAnyH_done (by kernel_rfl) ?_ _
  have b4 := bx.trans (hS.mono bx.size)
  replace j11 := j11.below hS j11.lt
  clear hS j8 j9 j10
  go_wp2_with first
    | ((with_reducible refine wpList_ld rowS i6 HS2.out ?_ ?_); rotate_left; (rfl))
    | ((with_reducible refine wpList_ld rowS i7 HS3.out ?_ ?_); rotate_left; (rfl))
  refine (JXY.out v4 o1.rd o3.rd).mono ?_
  rintro e v5 ⟨A7, m7, c7, rfl, o7, h5⟩
  replace i6 := i6.below h5 i6.lt
  replace i7 := i7.below h5 i7.lt
  replace i8 := i8.below h5 i8.lt
  replace j11 := j11.below h5 j11.lt
  have b5 := b4.trans (h5.mono b4.size)
  replace o1 := o1.below h5 (Nat.le_refl _)
  replace o3 := o3.below h5 (Nat.le_refl _)
  replace o5 := o5.below h5 (Nat.le_refl _)
  have HS7 := Lib.hid (uc_size HGU.out (.slice A7 m7 c7))
  have H71 := Lib.hid (uc_one (U := GU) (s := .slice A7 m7 c7) rfl)
  have lpz := JPZ.out A7 m7 c7
  have lpx := JPX.out A7 m7 c7
  have lpp := JPP.out A7 m7 c7
  have lrp := RP.out A7 m7 c7
  have lhp := HP.out A7 m7 c7
  have lcp := CP.out A7 m7 c7
  have lsa := SG.out A7 m7 c7
  have lsb := fun (A5 : Option Addr) (m5 c5 : Nat) => SG.out A5 m5 c5 A7 m7 c7
  obtain ⟨s7, hs7⟩ : ∃ s, s = uc GU (.slice A7 m7 c7) := ⟨_, rfl⟩
  rw [← hs7] at HS7 H71 lpz lpx lpp lrp lhp lcp lsa lsb ⊢
  have LPZ := Lib.hid lpz
  have LPX := Lib.hid lpx
  have LPP := Lib.hid lpp
  have LRP := Lib.hid lrp
  have LHP := Lib.hid lhp
  have LCP := Lib.hid lcp
  have LSA := Lib.hid lsa
  have LSB := Lib.hid lsb
  clear lpz lpx lpp lrp lhp lcp lsa lsb hs7 JPZ JPX JPP RP HP CP SG b4 h5
  go_upto_region 8 with ((with_reducible refine wpList_st rowS (Blk.new _ _ _) HS7.out ?_ H71.out ?_ ?_ ?_); (rfl); rotate_left; (rfl); (rfl); intro v6 i10 y6 z6)
  have p6 : Below v5.heap.size v5 v6 := ((Below.refl _ _).alloc (Nat.le_refl _) _).grown y6 (by simp) (fun q hq => by injection hq with hq; omega)
  replace i6 := i6.below p6 i6.lt
  replace i7 := i7.below p6 i7.lt
  replace i8 := i8.below p6 i8.lt
  replace j11 := j11.below p6 j11.lt
  have bC := b5.trans (p6.mono b5.size)
  replace o1 := o1.below p6 (Nat.le_refl _)
  replace o3 := o3.below p6 (Nat.le_refl _)
  replace o5 := o5.below p6 (Nat.le_refl _)
  replace o7 := o7.below p6 (Nat.le_refl _)
  obtain ⟨g10, hg⟩ : ∃ g, g = v5.heap.size := ⟨_, rfl⟩
  rw [← hg] at i10 ⊢
  clear hg y6 z6 p6 b5
  have rdx : ∀ w', Below v6.heap.size v6 w' → RdD w' w'.heap.size A2 m2 la := fun w' h => (o1.rd.below h).more h.size
  have rdy : ∀ w', Below v6.heap.size v6 w' → RdD w' w'.heap.size A3 m3 lb := fun w' h => (o3.rd.below h).more h.size
  have rdz : ∀ w', Below v6.heap.size v6 w' → RdD w' w'.heap.size A4 m4 lc := fun w' h => (o5.rd.below h).more h.size
  have rdp : ∀ w', Below v6.heap.size v6 w' → RdD w' w'.heap.size A7 m7 GM := fun w' h => (o7.rd.below h).more h.size
  have RDX := Lib.hid rdx
  have RDY := Lib.hid rdy
  have RDZ := Lib.hid rdz
  have RDP := Lib.hid rdp
  clear rdx rdy rdz rdp o1 o3 o5 o7
  go_upto_region 9 with fail
  refine wp_region_held_drew (S := fun w' => Below v6.heap.size v6 w') (by kernel_rfl) (Below.refl _ _).drew (fun hS => ?_)
  generalize v6.drew = wd at *
  refine wpAnyH_take (i := 0) (v := ?rv1974) rfl (by kernel_rfl) (by kernel_rfl) (by kernel_rfl) (fun _ _ _ h => h) (Or.inl ⟨by rfl, ?ry1974⟩) hS ?_
  case ry1974 => (intro wS hSw; clear hSw; go_simp; (try with_reducible rfl))
  simp only [Act.put, List.getElem_toArray, List.getElem_cons_zero, List.getElem_cons_succ, List.setIfInBounds_toArray, List.set_cons_succ, List.set_cons_zero]
  refine wpAnyH_take (i := 1) rfl (by kernel_rfl) (by kernel_rfl) (by kernel_rfl) (fun _ _ _ h => h) (yieldsIf_ld (by rfl) rowS (.tmp 10) rfl rfl (fun w hw => i10.below hw i10.lt) HS7.out) hS ?_
  simp only [Act.put, List.getElem_toArray, List.getElem_cons_zero, List.getElem_cons_succ, List.setIfInBounds_toArray, List.set_cons_succ, List.set_cons_zero]
  refine wpAnyH_take (i := 2) rfl (by kernel_rfl) (by kernel_rfl) (by kernel_rfl) (fun _ _ _ h => h) (yieldsIf_ld (by rfl) rowS (.tmp 8) rfl rfl (fun w hw => i7.below hw i7.lt) HS3.out) hS ?_
  simp only [Act.put, List.getElem_toArray, List.getElem_cons_zero, List.getElem_cons_succ, List.setIfInBounds_toArray, List.set_cons_succ, List.set_cons_zero]
  refine wpAnyH_take (i := 3) rfl (by kernel_rfl) (by kernel_rfl) (by kernel_rfl) (fun _ _ _ h => h) (yieldsIf_ld (by rfl) rowS (.tmp 7) rfl rfl (fun w hw => i6.below hw i6.lt) HS2.out) hS ?_
  simp only [Act.put, List.getElem_toArray, List.getElem_cons_zero, List.getElem_cons_succ, List.setIfInBounds_toArray, List.set_cons_succ, List.set_cons_zero]
  refine wpAnyH_ready (rs := [4]) (by kernel_rfl) (by simp) ?_
  refine AllReadyH.cons rfl (fun K hK => ?_) .nil
  go_simp
  refine (JYX.out _ (RDY.out _ hS) (RDX.out _ hS)).mono ?_
  rintro e u1 ⟨B1, n1, d1, rfl, p1, hh⟩
  replace p1 := p1.rd
  refine hK.out _ _ (hS.trans (hh.mono hS.size)) (fun hS => ?_)
  clear hK K hh
  refine wpAnyH_ready (rs := [5]) (by kernel_rfl) (by simp) ?_
  refine AllReadyH.cons rfl (fun K hK => ?_) .nil
  go_simp
  refine (LSA.out B1 n1 d1 _ (RDP.out _ hS) p1).mono ?_
  rintro e u2 ⟨rfl, hh⟩
  refine hK.out _ _ (hS.trans (hh.mono hS.size)) (fun hS => ?_)
  clear hK K hh p1
  refine wpAnyH_take (i := 6) (v := ?rv1998) rfl (by kernel_rfl) (by kernel_rfl) (by kernel_rfl) (fun _ _ _ h => h) (Or.inl ⟨by rfl, ?ry1998⟩) hS ?_
  case ry1998 => (intro wS hSw; clear hSw; go_simp; (try with_reducible rfl))
  simp only [Act.put, List.getElem_toArray, List.getElem_cons_zero, List.getElem_cons_succ, List.setIfInBounds_toArray, List.set_cons_succ, List.set_cons_zero]
  refine wpAnyH_take (i := 7) (v := ?rv2001) rfl (by kernel_rfl) (by kernel_rfl) (by kernel_rfl) (fun _ _ _ h => h) (Or.inl ⟨by rfl, ?ry2001⟩) hS ?_
  case ry2001 => (intro wS hSw; clear hSw; go_simp; (try with_reducible rfl))
  simp only [Act.put, List.getElem_toArray, List.getElem_cons_zero, List.getElem_cons_succ, List.setIfInBounds_toArray, List.set_cons_succ, List.set_cons_zero]
  refine wpAnyH_take (i := 8) (v := ?rv2004) rfl (by kernel_rfl) (by kernel_rfl) (by kernel_rfl) (fun _ _ _ h => h) (Or.inl ⟨by rfl, ?ry2004⟩) hS ?_
  case ry2004 => (intro wS hSw; clear hSw; go_simp; (try with_reducible rfl))
  simp only [Act.put, List.getElem_toArray, List.getElem_cons_zero, List.getElem_cons_succ, List.setIfInBounds_toArray, List.set_cons_succ, List.set_cons_zero]
  refine wpAnyH_take (i := 9) rfl (by kernel_rfl) (by kernel_rfl) (by kernel_rfl) (fun _ _ _ h => h) (yieldsIf_ld (by rfl) rowS (.tmp 10) rfl rfl (fun w hw => i10.below hw i10.lt) HS7.out) hS ?_
  simp only [Act.put, List.getElem_toArray, List.getElem_cons_zero, List.getElem_cons_succ, List.setIfInBounds_toArray, List.set_cons_succ, List.set_cons_zero]
  refine wpAnyH_take (i := 10) rfl (by kernel_rfl) (by kernel_rfl) (by kernel_rfl) (fun _ _ _ h => h) (yieldsIf_ld (by rfl) rowS (.tmp 9) rfl rfl (fun w hw => i8.below hw i8.lt) HS4.out) hS ?_
  simp only [Act.put, List.getElem_toArray, List.getElem_cons_zero, List.getElem_cons_succ, List.setIfInBounds_toArray, List.set_cons_succ, List.set_cons_zero]
  refine wpAnyH_take (i := 12) rfl (by kernel_rfl) (by kernel_rfl) (by kernel_rfl) (fun _ _ _ h => h) (yieldsIf_ld (by rfl) rowS (.tmp 7) rfl rfl (fun w hw => i6.below hw i6.lt) HS2.out) hS ?_
  simp only [Act.put, List.getElem_toArray, List.getElem_cons_zero, List.getElem_cons_succ, List.setIfInBounds_toArray, List.set_cons_succ, List.set_cons_zero]
  refine wpAnyH_take (i := 13) rfl (by kernel_rfl) (by kernel_rfl) (by kernel_rfl) (fun _ _ _ h => h) (yieldsIf_ld (by rfl) rowS (.tmp 8) rfl rfl (fun w hw => i7.below hw i7.lt) HS3.out) hS ?_
  simp only [Act.put, List.getElem_toArray, List.getElem_cons_zero, List.getElem_cons_succ, List.setIfInBounds_toArray, List.set_cons_succ, List.set_cons_zero]
  refine wpAnyH_take (i := 14) rfl (by kernel_rfl) (by kernel_rfl) (by kernel_rfl) (fun _ _ _ h => h) (yieldsIf_ld (by rfl) rowS (.tmp 9) rfl rfl (fun w hw => i8.below hw i8.lt) HS4.out) hS ?_
  simp only [Act.put, List.getElem_toArray, List.getElem_cons_zero, List.getElem_cons_succ, List.setIfInBounds_toArray, List.set_cons_succ, List.set_cons_zero]
  refine wpAnyH_ready (rs := [11]) (by kernel_rfl) (by simp) ?_
  refine AllReadyH.cons rfl (fun K hK => ?_) .nil
  rw [if_pos (by rfl)]
  go_simp
  refine (LPZ.out _ (RDP.out _ hS) (RDZ.out _ hS)).mono ?_
  rintro e u3 ⟨B1, n1, d1, rfl, p1, hh⟩
  replace p1 := p1.rd
  refine hK.out _ _ (hS.trans (hh.mono hS.size)) (fun hS => ?_)
  clear hK K hh
  refine wpAnyH_ready (rs := [15]) (by kernel_rfl) (by simp) ?_
  refine AllReadyH.cons rfl (fun K hK => ?_) .nil
  rw [if_pos (by rfl)]
  go_simp
  refine (JYZ.out _ (RDY.out _ hS) (RDZ.out _ hS)).mono ?_
  rintro e u4 ⟨B2, n2, d2, rfl, p2, hh⟩
  replace p1 := (p1.below hh).size
  replace p2 := p2.rd
  refine hK.out _ _ (hS.trans (hh.mono hS.size)) (fun hS => ?_)
  clear hK K hh
  refine wpAnyH_ready (rs := [16]) (by kernel_rfl) (by simp) ?_
  refine AllReadyH.cons rfl (fun K hK => ?_) .nil
  rw [if_pos (by rfl)]
  go_simp
  refine (JXQ.out B2 n2 d2 _ (RDX.out _ hS) p2).mono ?_
  rintro e u5 ⟨B3, n3, d3, rfl, p3, hh⟩
  replace p1 := (p1.below hh).size
  replace p3 := p3.rd
  refine hK.out _ _ (hS.trans (hh.mono hS.size)) (fun hS => ?_)
  clear hK K hh p2
  refine wpAnyH_ready (rs := [17]) (by kernel_rfl) (by simp) ?_
  refine AllReadyH.cons rfl (fun K hK => ?_) .nil
  rw [if_pos (by rfl)]
  go_simp
  refine (SR.out B1 n1 d1 B3 n3 d3 _ p1 p3).mono ?_
  rintro e u6 ⟨rfl, hh⟩
  refine hK.out _ _ (hS.trans (hh.mono hS.size)) (fun hS => ?_)
  clear hK K hh p1 p3
  refine wpAnyH_take (i := 18) (v := ?rv2054) rfl (by kernel_rfl) (by kernel_rfl) (by kernel_rfl) (fun _ _ _ h => h) (Or.inl ⟨by rfl, ?ry2054⟩) hS ?_
  case ry2054 => (intro wS hSw; clear hSw; go_simp; (try with_reducible rfl))
  simp only [Act.put, List.getElem_toArray, List.getElem_cons_zero, List.getElem_cons_succ, List.setIfInBounds_toArray, List.set_cons_succ, List.set_cons_zero]
  refine wpAnyH_take (i := 19) (v := ?rv2057) rfl (by kernel_rfl) (by kernel_rfl) (by kernel_rfl) (fun _ _ _ h => h) (Or.inl ⟨by rfl, ?ry2057⟩) hS ?_
  case ry2057 => (intro wS hSw; clear hSw; go_simp; (try with_reducible rfl))
  simp only [Act.put, List.getElem_toArray, List.getElem_cons_zero, List.getElem_cons_succ, List.setIfInBounds_toArray, List.set_cons_succ, List.set_cons_zero]
  refine wpAnyH_take (i := 20) (v := ?rv2060) rfl (by kernel_rfl) (by kernel_rfl) (by kernel_rfl) (fun _ _ _ h => h) (Or.inl ⟨by rfl, ?ry2060⟩) hS ?_
  case ry2060 => (intro wS hSw; clear hSw; go_simp; (try with_reducible rfl))
  simp only [Act.put, List.getElem_toArray, List.getElem_cons_zero, List.getElem_cons_succ, List.setIfInBounds_toArray, List.set_cons_succ, List.set_cons_zero]
  refine wpAnyH_take (i := 21) (v := ?rv2063) rfl (by kernel_rfl) (by kernel_rfl) (by kernel_rfl) (fun _ _ _ h => h) (Or.inl ⟨by rfl, ?ry2063⟩) hS ?_
  case ry2063 => (intro wS hSw; clear hSw; go_simp; (try with_reducible rfl))
  simp only [Act.put, List.getElem_toArray, List.getElem_cons_zero, List.getElem_cons_succ, List.setIfInBounds_toArray, List.set_cons_succ, List.set_cons_zero]
  refine wpAnyH_take (i := 22) rfl (by kernel_rfl) (by kernel_rfl) (by kernel_rfl) (fun _ _ _ h => h) (yieldsIf_ld (by rfl) rowS (.tmp 10) rfl rfl (fun w hw => i10.below hw i10.lt) HS7.out) hS ?_
  simp only [Act.put, List.getElem_toArray, List.getElem_cons_zero, List.getElem_cons_succ, List.setIfInBounds_toArray, List.set_cons_succ, List.set_cons_zero]
  refine wpAnyH_take (i := 23) rfl (by kernel_rfl) (by kernel_rfl) (by kernel_rfl) (fun _ _ _ h => h) (yieldsIf_ld (by rfl) rowS (.tmp 7) rfl rfl (fun w hw => i6.below hw i6.lt) HS2.out) hS ?_
  simp only [Act.put, List.getElem_toArray, List.getElem_cons_zero, List.getElem_cons_succ, List.setIfInBounds_toArray, List.set_cons_succ, List.set_cons_zero]
  refine wpAnyH_take (i := 25) rfl (by kernel_rfl) (by kernel_rfl) (by kernel_rfl) (fun _ _ _ h => h) (yieldsIf_ld (by rfl) rowS (.tmp 10) rfl rfl (fun w hw => i10.below hw i10.lt) HS7.out) hS ?_
  simp only [Act.put, List.getElem_toArray, List.getElem_cons_zero, List.getElem_cons_succ, List.setIfInBounds_toArray, List.set_cons_succ, List.set_cons_zero]
  refine wpAnyH_ready (rs := [24]) (by kernel_rfl) (by simp) ?_
  refine AllReadyH.cons rfl (fun K hK => ?_) .nil
  rw [if_pos (by rfl)]
  go_simp
  refine (LPX.out _ (RDP.out _ hS) (RDX.out _ hS)).mono ?_
  rintro e u7 ⟨B1, n1, d1, rfl, p1, hh⟩
  replace p1 := p1.rd
  refine hK.out _ _ (hS.trans (hh.mono hS.size)) (fun hS => ?_)
  clear hK K hh
  refine wpAnyH_ready (rs := [26]) (by kernel_rfl) (by simp) ?_
  refine AllReadyH.cons rfl (fun K hK => ?_) .nil
  rw [if_pos (by rfl)]
  go_simp
  refine (LSB.out B1 n1 d1 _ p1 (RDP.out _ hS)).mono ?_
  rintro e u8 ⟨rfl, hh⟩
  refine hK.out _ _ (hS.trans (hh.mono hS.size)) (fun hS => ?_)
  clear hK K hh p1
  refine wpAnyH_take (i := 27) (v := ?rv2089) rfl (by kernel_rfl) (by kernel_rfl) (by kernel_rfl) (fun _ _ _ h => h) (Or.inl ⟨by rfl, ?ry2089⟩) hS ?_
  case ry2089 => (intro wS hSw; clear hSw; go_simp; (try with_reducible rfl))
  simp only [Act.put, List.getElem_toArray, List.getElem_cons_zero, List.getElem_cons_succ, List.setIfInBounds_toArray, List.set_cons_succ, List.set_cons_zero]
  refine wpAnyH_take (i := 28) (v := ?rv2092) rfl (by kernel_rfl) (by kernel_rfl) (by kernel_rfl) (fun _ _ _ h => h) (Or.inl ⟨by rfl, ?ry2092⟩) hS ?_
  case ry2092 => (intro wS hSw; clear hSw; go_simp; (try with_reducible rfl))
  simp only [Act.put, List.getElem_toArray, List.getElem_cons_zero, List.getElem_cons_succ, List.setIfInBounds_toArray, List.set_cons_succ, List.set_cons_zero]
  refine wpAnyH_take (i := 29) (v := ?rv2095) rfl (by kernel_rfl) (by kernel_rfl) (by kernel_rfl) (fun _ _ _ h => h) (Or.inl ⟨by rfl, ?ry2095⟩) hS ?_
  case ry2095 => (intro wS hSw; clear hSw; go_simp; (try with_reducible rfl))
  simp only [Act.put, List.getElem_toArray, List.getElem_cons_zero, List.getElem_cons_succ, List.setIfInBounds_toArray, List.set_cons_succ, List.set_cons_zero]
  refine wpAnyH_take (i := 30) (v := ?rv2098) rfl (by kernel_rfl) (by kernel_rfl) (by kernel_rfl) (fun _ _ _ h => h) (Or.inl ⟨by rfl, ?ry2098⟩) hS ?_
  case ry2098 => (intro wS hSw; clear hSw; go_simp; (try with_reducible rfl))
  simp only [Act.put, List.getElem_toArray, List.getElem_cons_zero, List.getElem_cons_succ, List.setIfInBounds_toArray, List.set_cons_succ, List.set_cons_zero]
  refine wpAnyH_take (i := 31) rfl (by kernel_rfl) (by kernel_rfl) (by kernel_rfl) (fun _ _ _ h => h) (yieldsIf_ld (by rfl) rowS (.tmp 10) rfl rfl (fun w hw => i10.below hw i10.lt) HS7.out) hS ?_
  simp only [Act.put, List.getElem_toArray, List.getElem_cons_zero, List.getElem_cons_succ, List.setIfInBounds_toArray, List.set_cons_succ, List.set_cons_zero]
  refine wpAnyH_take (i := 32) rfl (by kernel_rfl) (by kernel_rfl) (by kernel_rfl) (fun _ _ _ h => h) (yieldsIf_ld (by rfl) rowS (.tmp 10) rfl rfl (fun w hw => i10.below hw i10.lt) HS7.out) hS ?_
  simp only [Act.put, List.getElem_toArray, List.getElem_cons_zero, List.getElem_cons_succ, List.setIfInBounds_toArray, List.set_cons_succ, List.set_cons_zero]
  refine wpAnyH_take (i := 34) rfl (by kernel_rfl) (by kernel_rfl) (by kernel_rfl) (fun _ _ _ h => h) (yieldsIf_ld (by rfl) rowS (.tmp 10) rfl rfl (fun w hw => i10.below hw i10.lt) HS7.out) hS ?_
  simp only [Act.put, List.getElem_toArray, List.getElem_cons_zero, List.getElem_cons_succ, List.setIfInBounds_toArray, List.set_cons_succ, List.set_cons_zero]
  refine wpAnyH_ready (rs := [33]) (by kernel_rfl) (by simp) ?_
  refine AllReadyH.cons rfl (fun K hK => ?_) .nil
  rw [if_pos (by rfl)]
  go_simp
  refine (LPP.out _ (RDP.out _ hS)).mono ?_
  rintro e u9 ⟨B1, n1, d1, rfl, p1, hh⟩
  replace p1 := p1.rd
  refine hK.out _ _ (hS.trans (hh.mono hS.size)) (fun hS => ?_)
  clear hK K hh
  refine wpAnyH_ready (rs := [35]) (by kernel_rfl) (by simp) ?_
  refine AllReadyH.cons rfl (fun K hK => ?_) .nil
  rw [if_pos (by rfl)]
  go_simp
  refine (LSB.out B1 n1 d1 _ p1 (RDP.out _ hS)).mono ?_
  rintro e u10 ⟨rfl, hh⟩
  refine hK.out _ _ (hS.trans (hh.mono hS.size)) (fun hS => ?_)
  clear hK K hh p1
  refine wpAnyH_take (i := 36) (v := ?rv2124) rfl (by kernel_rfl) (by kernel_rfl) (by kernel_rfl) (fun _ _ _ h => h) (Or.inl ⟨by rfl, ?ry2124⟩) hS ?_
  case ry2124 => (intro wS hSw; clear hSw; go_simp; (try with_reducible rfl))
  simp only [Act.put, List.getElem_toArray, List.getElem_cons_zero, List.getElem_cons_succ, List.setIfInBounds_toArray, List.set_cons_succ, List.set_cons_zero]
  refine wpAnyH_take (i := 37) (v := ?rv2127) rfl (by kernel_rfl) (by kernel_rfl) (by kernel_rfl) (fun _ _ _ h => h) (Or.inl ⟨by rfl, ?ry2127⟩) hS ?_
  case ry2127 => (intro wS hSw; clear hSw; go_simp; (try with_reducible rfl))
  simp only [Act.put, List.getElem_toArray, List.getElem_cons_zero, List.getElem_cons_succ, List.setIfInBounds_toArray, List.set_cons_succ, List.set_cons_zero]
  refine wpAnyH_take (i := 38) (v := ?rv2130) rfl (by kernel_rfl) (by kernel_rfl) (by kernel_rfl) (fun _ _ _ h => h) (Or.inl ⟨by rfl, ?ry2130⟩) hS ?_
  case ry2130 => (intro wS hSw; clear hSw; go_simp; (try with_reducible rfl))
  simp only [Act.put, List.getElem_toArray, List.getElem_cons_zero, List.getElem_cons_succ, List.setIfInBounds_toArray, List.set_cons_succ, List.set_cons_zero]
  refine wpAnyH_take (i := 39) rfl (by kernel_rfl) (by kernel_rfl) (by kernel_rfl) (fun _ _ _ h => h) (yieldsIf_ld (by rfl) rowS (.tmp 10) rfl rfl (fun w hw => i10.below hw i10.lt) HS7.out) hS ?_
  simp only [Act.put, List.getElem_toArray, List.getElem_cons_zero, List.getElem_cons_succ, List.setIfInBounds_toArray, List.set_cons_succ, List.set_cons_zero]
  refine wpAnyH_ready (rs := [40]) (by kernel_rfl) (by simp) ?_
  refine AllReadyH.cons rfl (fun K hK => ?_) .nil
  rw [if_pos (by rfl)]
  go_simp
  refine (LRP.out _ (RDP.out _ hS)).mono ?_
  rintro e u11 ⟨rfl, hh⟩
  refine hK.out _ _ (hS.trans (hh.mono hS.size)) (fun hS => ?_)
  clear hK K hh
  refine wpAnyH_take (i := 41) (v := ?rv2143) rfl (by kernel_rfl) (by kernel_rfl) (by kernel_rfl) (fun _ _ _ h => h) (Or.inl ⟨by rfl, ?ry2143⟩) hS ?_
  case ry2143 => (intro wS hSw; clear hSw; go_simp; (try with_reducible rfl))
  simp only [Act.put, List.getElem_toArray, List.getElem_cons_zero, List.getElem_cons_succ, List.setIfInBounds_toArray, List.set_cons_succ, List.set_cons_zero]
  refine wpAnyH_take (i := 42) (v := ?rv2146) rfl (by kernel_rfl) (by kernel_rfl) (by kernel_rfl) (fun _ _ _ h => h) (Or.inl ⟨by rfl, ?ry2146⟩) hS ?_
  case ry2146 => (intro wS hSw; clear hSw; go_simp; (try with_reducible rfl))
  simp only [Act.put, List.getElem_toArray, List.getElem_cons_zero, List.getElem_cons_succ, List.setIfInBounds_toArray, List.set_cons_succ, List.set_cons_zero]
  refine wpAnyH_done (by kernel_rfl) ?_ _
  have hE1 : (hX == hX) = true := by simp
  have hE2 : ((hX || hY) == (hX || hY)) = true := by simp
  have hE3 : ((((NX + LD.length : Nat) : Int)) == ((NX : Nat) : Int) + ((LD.length : Nat) : Int)) = true := by rw [beq_iff_eq]; omega
  have hE4 : IntKind.i64.wrap (((NX : Nat) : Int) + ((LD.length : Nat) : Int)) = ((NX : Nat) : Int) + ((LD.length : Nat) : Int) := IntWalk.i64_in _ (by omega)
  have hE5 : ((NX + LD.length : Nat) : Int) = ((NX : Nat) : Int) + ((LD.length : Nat) : Int) := by omega
  have bE := bC.trans (hS.mono bC.size)
  replace i6 := i6.below hS i6.lt
  replace i7 := i7.below hS i7.lt
  replace i10 := i10.below hS i10.lt
  replace j11 := j11.below hS j11.lt
  have LB := Lib.hid hS
  clear hS bC
  go_upto_region 11 with fail
  refine wp_region_held_drew (S := fun w' => Below u11.heap.size u11 w') (by kernel_rfl) (Below.refl _ _).drew (fun hS => ?_)
  generalize u11.drew = wd2 at *
  have RX : ∀ w', Below u11.heap.size u11 w' → RdD w' w'.heap.size A2 m2 la := fun w' h => RDX.out w' (LB.out.trans (h.mono LB.out.size))
  have RY : ∀ w', Below u11.heap.size u11 w' → RdD w' w'.heap.size A3 m3 lb := fun w' h => RDY.out w' (LB.out.trans (h.mono LB.out.size))
  have RPp : ∀ w', Below u11.heap.size u11 w' → RdD w' w'.heap.size A7 m7 GM := fun w' h => RDP.out w' (LB.out.trans (h.mono LB.out.size))
  refine wpAnyH_take (i := 0) rfl (by kernel_rfl) (by kernel_rfl) (by kernel_rfl) (fun _ _ _ h => h) (yieldsIf_ld (by rfl) rowS (.tmp 10) rfl rfl (fun w hw => i10.below hw i10.lt) HS7.out) hS ?_
  simp only [Act.put, List.getElem_toArray, List.getElem_cons_zero, List.getElem_cons_succ, List.setIfInBounds_toArray, List.set_cons_succ, List.set_cons_zero]
  refine wpAnyH_take (i := 1) rfl (by kernel_rfl) (by kernel_rfl) (by kernel_rfl) (fun _ _ _ h => h) (yieldsIf_ld (by rfl) rowDt (.tmp 6) rfl rfl (fun w hw => j11.below hw j11.lt) (by rfl)) hS ?_
  simp only [Act.put, List.getElem_toArray, List.getElem_cons_zero, List.getElem_cons_succ, List.setIfInBounds_toArray, List.set_cons_succ, List.set_cons_zero]
  refine wpAnyH_take (i := 3) rfl (by kernel_rfl) (by kernel_rfl) (by kernel_rfl) (fun _ _ _ h => h) (yieldsIf_ld (by rfl) rowS (.tmp 7) rfl rfl (fun w hw => i6.below hw i6.lt) HS2.out) hS ?_
  simp only [Act.put, List.getElem_toArray, List.getElem_cons_zero, List.getElem_cons_succ, List.setIfInBounds_toArray, List.set_cons_succ, List.set_cons_zero]
  refine wpAnyH_take (i := 4) rfl (by kernel_rfl) (by kernel_rfl) (by kernel_rfl) (fun _ _ _ h => h) (yieldsIf_ld (by rfl) rowDt (.tmp 6) rfl rfl (fun w hw => j11.below hw j11.lt) (by rfl)) hS ?_
  simp only [Act.put, List.getElem_toArray, List.getElem_cons_zero, List.getElem_cons_succ, List.setIfInBounds_toArray, List.set_cons_succ, List.set_cons_zero]
  refine wpAnyH_ready (rs := [2]) (by kernel_rfl) (by simp) ?_
  refine AllReadyH.cons rfl (fun K hK => ?_) .nil
  go_simp
  refine (LHP.out _ (RPp _ hS)).mono ?_
  rintro e t1 ⟨rfl, hh⟩
  refine hK.out _ _ (hS.trans (hh.mono hS.size)) (fun hS => ?_)
  clear hK K hh
  refine wpAnyH_ready (rs := [5]) (by kernel_rfl) (by simp) ?_
  refine AllReadyH.cons rfl (fun K hK => ?_) .nil
  go_simp
  refine (HX.out _ (RX _ hS)).mono ?_
  rintro e t2 ⟨rfl, hh⟩
  refine hK.out _ _ (hS.trans (hh.mono hS.size)) (fun hS => ?_)
  clear hK K hh
  refine wpAnyH_take (i := 6) (v := ?rv2190) rfl (by kernel_rfl) (by kernel_rfl) (by kernel_rfl) (fun _ _ _ h => h) (Or.inl ⟨by rfl, ?ry2190⟩) hS ?_
  case ry2190 => (intro wS hSw; clear hSw; go_simp; (try with_reducible rfl))
  simp only [Act.put, List.getElem_toArray, List.getElem_cons_zero, List.getElem_cons_succ, List.setIfInBounds_toArray, List.set_cons_succ, List.set_cons_zero]
  cases hX
  case' true =>
    refine wpAnyH_take (i := 7) (v := undef) rfl (by kernel_rfl) (by kernel_rfl) (by kernel_rfl) (fun _ _ _ h => h) (Or.inr ⟨by rfl, rfl⟩) hS ?_
    simp only [Act.put, List.getElem_toArray, List.getElem_cons_zero, List.getElem_cons_succ, List.setIfInBounds_toArray, List.set_cons_succ, List.set_cons_zero]
    refine wpAnyH_take (i := 8) (v := undef) rfl (by kernel_rfl) (by kernel_rfl) (by kernel_rfl) (fun _ _ _ h => h) (Or.inr ⟨by rfl, rfl⟩) hS ?_
    simp only [Act.put, List.getElem_toArray, List.getElem_cons_zero, List.getElem_cons_succ, List.setIfInBounds_toArray, List.set_cons_succ, List.set_cons_zero]
    refine wpAnyH_take (i := 9) (v := undef) rfl (by kernel_rfl) (by kernel_rfl) (by kernel_rfl) (fun _ _ _ h => h) (Or.inr ⟨by rfl, rfl⟩) hS ?_
    simp only [Act.put, List.getElem_toArray, List.getElem_cons_zero, List.getElem_cons_succ, List.setIfInBounds_toArray, List.set_cons_succ, List.set_cons_zero]
    refine wpAnyH_take (i := 10) (v := ?rv2201) rfl (by kernel_rfl) (by kernel_rfl) (by kernel_rfl) (fun _ _ _ h => h) (Or.inl ⟨by rfl, ?ry2201⟩) hS ?_
    case ry2201 => (intro wS hSw; clear hSw; go_simp; (try with_reducible rfl))
    simp only [Act.put, List.getElem_toArray, List.getElem_cons_zero, List.getElem_cons_succ, List.setIfInBounds_toArray, List.set_cons_succ, List.set_cons_zero]
    refine wpAnyH_take (i := 11) (v := ?rv2204) rfl (by kernel_rfl) (by kernel_rfl) (by kernel_rfl) (fun _ _ _ h => h) (Or.inl ⟨by rfl, ?ry2204⟩) hS ?_
    case ry2204 => (intro wS hSw; clear hSw; go_simp; (try with_reducible rfl))
    simp only [Act.put, List.getElem_toArray, List.getElem_cons_zero, List.getElem_cons_succ, List.setIfInBounds_toArray, List.set_cons_succ, List.set_cons_zero]
    refine wpAnyH_take (i := 12) (v := ?rv2207) rfl (by kernel_rfl) (by kernel_rfl) (by kernel_rfl) (fun _ _ _ h => h) (Or.inl ⟨by rfl, ?ry2207⟩) hS ?_
    case ry2207 => (intro wS hSw; clear hSw; go_simp; (try with_reducible rfl))
    simp only [Act.put, List.getElem_toArray, List.getElem_cons_zero, List.getElem_cons_succ, List.setIfInBounds_toArray, List.set_cons_succ, List.set_cons_zero]
  case' false =>
    refine wpAnyH_take (i := 7) rfl (by kernel_rfl) (by kernel_rfl) (by kernel_rfl) (fun _ _ _ h => h) (yieldsIf_ld (by rfl) rowS (.tmp 8) rfl rfl (fun w hw => i7.below hw i7.lt) HS3.out) hS ?_
    simp only [Act.put, List.getElem_toArray, List.getElem_cons_zero, List.getElem_cons_succ, List.setIfInBounds_toArray, List.set_cons_succ, List.set_cons_zero]
    refine wpAnyH_take (i := 8) rfl (by kernel_rfl) (by kernel_rfl) (by kernel_rfl) (fun _ _ _ h => h) (yieldsIf_ld (by rfl) rowDt (.tmp 6) rfl rfl (fun w hw => j11.below hw j11.lt) (by rfl)) hS ?_
    simp only [Act.put, List.getElem_toArray, List.getElem_cons_zero, List.getElem_cons_succ, List.setIfInBounds_toArray, List.set_cons_succ, List.set_cons_zero]
    refine wpAnyH_ready (rs := [9]) (by kernel_rfl) (by simp) ?_
    refine AllReadyH.cons rfl (fun K hK => ?_) .nil
    rw [if_pos (by rfl)]
    go_simp
    refine (HY.out _ (RY _ hS)).mono ?_
    rintro e t3 ⟨rfl, hh⟩
    refine hK.out _ _ (hS.trans (hh.mono hS.size)) (fun hS => ?_)
    clear hK K hh
    refine wpAnyH_take (i := 10) (v := ?rv2223) rfl (by kernel_rfl) (by kernel_rfl) (by kernel_rfl) (fun _ _ _ h => h) (Or.inl ⟨by rfl, ?ry2223⟩) hS ?_
    case ry2223 => (intro wS hSw; clear hSw; go_simp; (try with_reducible rfl))
    simp only [Act.put, List.getElem_toArray, List.getElem_cons_zero, List.getElem_cons_succ, List.setIfInBounds_toArray, List.set_cons_succ, List.set_cons_zero]
    refine wpAnyH_take (i := 11) (v := ?rv2226) rfl (by kernel_rfl) (by kernel_rfl) (by kernel_rfl) (fun _ _ _ h => h) (Or.inl ⟨by rfl, ?ry2226⟩) hS ?_
    case ry2226 => (intro wS hSw; clear hSw; go_simp; (try with_reducible rfl))
    simp only [Act.put, List.getElem_toArray, List.getElem_cons_zero, List.getElem_cons_succ, List.setIfInBounds_toArray, List.set_cons_succ, List.set_cons_zero]
    refine wpAnyH_take (i := 12) (v := ?rv2229) rfl (by kernel_rfl) (by kernel_rfl) (by kernel_rfl) (fun _ _ _ h => h) (Or.inl ⟨by rfl, ?ry2229⟩) hS ?_
    case ry2229 => (intro wS hSw; clear hSw; go_simp; (try with_reducible rfl))
    simp only [Act.put, List.getElem_toArray, List.getElem_cons_zero, List.getElem_cons_succ, List.setIfInBounds_toArray, List.set_cons_succ, List.set_cons_zero]
  all_goals
    refine wpAnyH_take (i := 13) rfl (by kernel_rfl) (by kernel_rfl) (by kernel_rfl) (fun _ _ _ h => h) (yieldsIf_ld (by rfl) rowS (.tmp 10) rfl rfl (fun w hw => i10.below hw i10.lt) HS7.out) hS ?_
    simp only [Act.put, List.getElem_toArray, List.getElem_cons_zero, List.getElem_cons_succ, List.setIfInBounds_toArray, List.set_cons_succ, List.set_cons_zero]
    refine wpAnyH_take (i := 15) rfl (by kernel_rfl) (by kernel_rfl) (by kernel_rfl) (fun _ _ _ h => h) (yieldsIf_ld (by rfl) rowS (.tmp 7) rfl rfl (fun w hw => i6.below hw i6.lt) HS2.out) hS ?_
    simp only [Act.put, List.getElem_toArray, List.getElem_cons_zero, List.getElem_cons_succ, List.setIfInBounds_toArray, List.set_cons_succ, List.set_cons_zero]
    refine wpAnyH_take (i := 17) rfl (by kernel_rfl) (by kernel_rfl) (by kernel_rfl) (fun _ _ _ h => h) (yieldsIf_ld (by rfl) rowS (.tmp 8) rfl rfl (fun w hw => i7.below hw i7.lt) HS3.out) hS ?_
    simp only [Act.put, List.getElem_toArray, List.getElem_cons_zero, List.getElem_cons_succ, List.setIfInBounds_toArray, List.set_cons_succ, List.set_cons_zero]
    refine wpAnyH_take (i := 18) rfl (by kernel_rfl) (by kernel_rfl) (by kernel_rfl) (fun _ _ _ h => h) (yieldsIf_ld (by rfl) rowS (.tmp 7) rfl rfl (fun w hw => i6.below hw i6.lt) HS2.out) hS ?_
    simp only [Act.put, List.getElem_toArray, List.getElem_cons_zero, List.getElem_cons_succ, List.setIfInBounds_toArray, List.set_cons_succ, List.set_cons_zero]
    refine wpAnyH_ready (rs := [14]) (by kernel_rfl) (by simp) ?_
    refine AllReadyH.cons rfl (fun K hK => ?_) .nil
    rw [if_pos (by rfl)]
    go_simp
    refine (LCP.out _ (RPp _ hS)).mono ?_
    rintro e t4 ⟨rfl, hh⟩
    rw [hE5]
    refine hK.out _ _ (hS.trans (hh.mono hS.size)) (fun hS => ?_)
    clear hK K hh
    refine wpAnyH_ready (rs := [16]) (by kernel_rfl) (by simp) ?_
    refine AllReadyH.cons rfl (fun K hK => ?_) .nil
    rw [if_pos (by rfl)]
    go_simp
    refine (CX.out _ (RX _ hS)).mono ?_
    rintro e t5 ⟨rfl, hh⟩
    refine hK.out _ _ (hS.trans (hh.mono hS.size)) (fun hS => ?_)
    clear hK K hh
    refine wpAnyH_ready (rs := [19]) (by kernel_rfl) (by simp) ?_
    refine AllReadyH.cons rfl (fun K hK => ?_) .nil
    rw [if_pos (by rfl)]
    go_simp
    refine (LYX.out _ (RY _ hS) (RX _ hS)).mono ?_
    rintro e t6 ⟨B1, n1, d1, rfl, p1, hh⟩
    obtain rfl : n1 = LD.length := p1.1
    refine hK.out _ _ (hS.trans (hh.mono hS.size)) (fun hS => ?_)
    clear hK K hh p1
    refine wpAnyH_take (i := 20) (v := ?rv2267) rfl (by kernel_rfl) (by kernel_rfl) (by kernel_rfl) (fun _ _ _ h => h) (Or.inl ⟨by rfl, ?ry2267⟩) hS ?_
    case ry2267 => (intro wS hSw; clear hSw; go_simp; (try with_reducible rfl))
    simp only [Act.put, List.getElem_toArray, List.getElem_cons_zero, List.getElem_cons_succ, List.setIfInBounds_toArray, List.set_cons_succ, List.set_cons_zero]
    refine wpAnyH_take (i := 21) (v := ?rv2270) rfl (by kernel_rfl) (by kernel_rfl) (by kernel_rfl) (fun _ _ _ h => h) (Or.inl ⟨by rfl, ?ry2270⟩) hS ?_
    case ry2270 => (intro wS hSw; clear hSw; go_simp; (try with_reducible rfl))
    simp only [Act.put, List.getElem_toArray, List.getElem_cons_zero, List.getElem_cons_succ, List.setIfInBounds_toArray, List.set_cons_succ, List.set_cons_zero]
    refine wpAnyH_take (i := 22) (v := ?rv2273) rfl (by kernel_rfl) (by kernel_rfl) (by kernel_rfl) (fun _ _ _ h => h) (Or.inl ⟨by rfl, ?ry2273⟩) hS ?_
    case ry2273 => (intro wS hSw; clear hSw; go_simp; (try with_reducible rfl))
    simp only [Act.put, List.getElem_toArray, List.getElem_cons_zero, List.getElem_cons_succ, List.setIfInBounds_toArray, List.set_cons_succ, List.set_cons_zero]
    refine wpAnyH_take (i := 23) (v := ?rv2276) rfl (by kernel_rfl) (by kernel_rfl) (by kernel_rfl) (fun _ _ _ h => h) (Or.inl ⟨by rfl, ?ry2276⟩) hS ?_
    case ry2276 => (intro wS hSw; clear hSw; go_simp; (try with_reducible rfl))
    simp only [Act.put, List.getElem_toArray, List.getElem_cons_zero, List.getElem_cons_succ, List.setIfInBounds_toArray, List.set_cons_succ, List.set_cons_zero]
    refine wpAnyH_take (i := 24) (v := ?rv2279) rfl (by kernel_rfl) (by kernel_rfl) (by kernel_rfl) (fun _ _ _ h => h) (Or.inl ⟨by rfl, ?ry2279⟩) hS ?_
    case ry2279 => (intro wS hSw; clear hSw; go_simp; (try with_reducible rfl))
    simp only [Act.put, List.getElem_toArray, List.getElem_cons_zero, List.getElem_cons_succ, List.setIfInBounds_toArray, List.set_cons_succ, List.set_cons_zero]
    refine wpAnyH_done (by kernel_rfl) ?_ _
    go_wp2_with fail
    go_ret
    exact ⟨rfl, bE.trans (hS.mono bE.size)⟩
set_option maxRecDepth 100000 in
theorem lifted (os : Os) (started : os.Started) (H : Type) (enc : TypeId × Value → H) :
    ReturnsInHanded {} Try.checked os 5 .any (Rows.dotsetJoinsSpec.pre6 enc Try.prog Try.f5 Rows.dotsetJoinsRow.domain false) (Rows.dotsetJoinsSpec.post enc Try.prog Try.f5 false true false false) := by
  refine returnsInHanded_of_change (C := Try.checked) own started (by kernel_rfl) Try.func5
    (ChangeSpec.witness6 (enc := enc) (C := Try.checked) false ⟨#[], #[.agg #[.int .i64 0, .int .i64 0, .int .i64 0, .int .i64 0, .int .i64 0, .int .i64 0, .int .i64 0, .int .i64 0, .slice none 0 0, .int .i64 0, .int .i64 0, .int .i64 0, .int .i64 0, .int .i64 0, .int .i64 0, .int .i64 0, .int .i64 0, .slice none 0 0, .int .i64 0, .int .i64 0, .int .i64 0, .int .i64 0, .int .i64 0, .int .i64 0, .int .i64 0, .int .i64 0, .slice none 0 0, .int .i64 0, .int .i64 0]], []⟩ 8 (by kernel_rfl) (by kernel_rfl) (by kernel_rfl) (by kernel_rfl)) ?_
  intro W base args ds gs before hval0 hW hcnd _
  have hval : ∀ (j : Nat) t v, Try.f5.params[j]? = some t → args[j]? = some v → Value.okWide Try.prog W .any base t v := hval0
  have hW' := hW
  obtain ⟨p, q, hA0, hV, rfl, hfz, hnd⟩ := hW
  have hA : DataW.TrodAll enc Try.prog W 0 (fun _ => true) true Try.f5.params.toList args.toList ds p := hA0
  rw [Try.params5] at hA hval
  obtain ⟨v0, vs0, d0, ds0, p0, q0, hargs, rfl, rfl, h0, r0⟩ := trodAll_cons hA
  obtain ⟨rfl, rfl, rfl⟩ := trodAll_nil r0
  obtain rfl : args = #[v0] := by cases args; simp_all
  obtain ⟨rfl, rfl⟩ := trodVars_none hV
  have lt0 : ∀ x ∈ p0, x.block < W.heap.size := by obtain ⟨m, hm⟩ := h0; exact DataW.trod_lt m _ _ _ hm
  have k0 := h0
  obtain ⟨Ua, Aa, na, ca, la, Ub, Ab, nb, cb, lb, Uc, Ac, nc, cc, lc, x, y, rfl, ha, hb, hc⟩ := open_three (hval 0 56 v0 rfl rfl) h0
  clear hA0 hval0
  refine (walk Ua Aa na ca la Ub Ab nb cb lb Uc Ac nc cc lc x y W ha hb hc).mono fun e W' ⟨he, bel⟩ => ?_
  subst he
  exact ⟨_, rfl, _, _, _, [], _, [], hW', trodAll_mk1 (shut_bool Try.underlying4 _), (trodAll_cons_mk (Below.trod laidOut (by kernel_rfl) (of_decide_eq_true (by kernel_rfl)) k0 bel lt0) trodAll_mk0), rfl, bel.frame _, fun h => by cases h⟩

theorem proved : Rows.DotsetJoinsSaid :=
  OpenClaim.holds_of_wide 5 Try.f5 rfl rfl rfl rfl rfl rfl rfl ⟨rfl, rfl, rfl, rfl, rfl⟩ rfl rfl rfl rfl rfl (by kernel_rfl) Try.func5 (by kernel_rfl)
    (of_decide_eq_true (by kernel_rfl)) (by unfold Func.isWrapper; first | (rw [if_pos (by decide +kernel)]; kernel_rfl) | (rw [if_neg (by decide +kernel)]; exact ⟨rfl, rfl⟩))
    (fun os started H enc _ => lifted os started H enc)
#print axioms proved
end Go.Proofs.Ytacmdkjodnaohaa.DotsetJoins

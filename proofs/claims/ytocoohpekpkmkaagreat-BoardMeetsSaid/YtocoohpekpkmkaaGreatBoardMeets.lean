/- BoardMeets: of boards that came of writes, notes and joins alone each is right, joins go both ways, in any order, and once more change nothing; all joined know each node's writes; for every input, with no panic (printed by gen/boardmeets.py). -/
import Derived.Test.YtocoohpekpkmkaaGreatRegOpen
import Derived.Test.YtocoohpekpkmkaaGreatRegLaw
import Derived.Test.YtocoohpekpkmkaaGreatOpen
/- The law's own closure: are two registers the same (printed by gen/regsame1.py). -/
namespace Go.Proofs.YtocoohpekpkmkaaGreat
set_option linter.unusedVariables false
set_option linter.unusedSimpArgs false
open Go.RowKit
open Reg
end Go.Proofs.YtocoohpekpkmkaaGreat

/- How registers read when they come in. -/
namespace Go.Proofs.YtocoohpekpkmkaaGreat
set_option linter.unusedVariables false
set_option linter.unusedSimpArgs false
open Go.ChangeShapes Go.WideShapes Go.ChangeAt Go.RowKit Go.Deep
open Reg
set_option maxRecDepth 100000
theorem cellsRV : (Tryz.prog).cellsOf 121 = 3 := by kernel_rfl
theorem cellsRVs : (Tryz.prog).cellsOf 28 = 1 := by kernel_rfl
theorem cellsRM : (Tryz.prog).cellsOf 30 = 9 := by kernel_rfl
section
variable {H : Type} {enc : TypeId × Value → H} {W : World} {base : Nat} {sp : Nat → Bool} {held : Bool} {fuel : Nat} {cs : List Value} {x : DataW H × List MemPlace}
theorem rd_arr8 (hf : DataW.trod enc Tryz.prog W base sp held fuel 22 cs = some x) : ∃ l : List Int, cs = l.map (Value.int .i64) ∧ l.length = 8 ∧ Wf l := by
  obtain ⟨xs, m, _, _, hl, hxl, hg⟩ := DataW.trod_array Tryz.underlying22 hf
  rw [cellsA] at hl
  rw [cellsI] at hg
  have key : ∀ i, i < 8 → ∃ z : Int, cs[i]? = some (.int .i64 z) ∧ (Lit.int .i64 z).wf = true := fun i hi => by
    have h := hg i hi
    rw [List.getElem?_eq_getElem (by omega)] at h
    obtain ⟨z, h1, h2⟩ := rd_int h
    rw [Nat.mul_one] at h1
    refine ⟨z, ?_, wf_of h2.1 h2.2⟩
    have : ((cs.drop i).take 1)[0]? = some (.int .i64 z) := by rw [h1]; rfl
    rw [List.getElem?_take, if_pos (by omega), List.getElem?_drop] at this
    exact this
  have hex : ∀ i, ∃ z : Int, i < 8 → cs[i]? = some (.int .i64 z) ∧ (Lit.int .i64 z).wf = true := fun i => by
    by_cases hi : i < 8
    · obtain ⟨z, h⟩ := key i hi
      exact ⟨z, fun _ => h⟩
    · exact ⟨0, fun h => absurd h hi⟩
  refine ⟨(List.range 8).map fun i => (hex i).choose, ?_, by simp, fun z hz => ?_⟩
  · apply List.ext_getElem?
    intro i
    by_cases hi : i < 8
    · rw [((hex i).choose_spec hi).1, List.getElem?_map, List.getElem?_map, List.getElem?_range hi]
      rfl
    · rw [List.getElem?_eq_none (by omega), List.getElem?_eq_none (by simp; omega)]
  · obtain ⟨i, hi, rfl⟩ := List.mem_map.1 hz
    exact ((hex i).choose_spec (by simpa using hi)).2
theorem rd_val (hf : DataW.trod enc Tryz.prog W base sp held fuel 121 cs = some x) : ∃ d : Vl, cs = [.int .i64 d.1, .int .i64 d.2.1, .int .i64 d.2.2] := by
  have hl := rd_len Tryz.underlying121 cellsRV hf
  obtain ⟨_, _, g0⟩ := rd_field Tryz.underlying121 hf 0 3 0 1 rfl cellsI
  obtain ⟨_, _, g1⟩ := rd_field Tryz.underlying121 hf 1 3 1 1 rfl cellsI
  obtain ⟨_, _, g2⟩ := rd_field Tryz.underlying121 hf 2 3 2 1 rfl cellsI
  obtain ⟨x0, e0, _⟩ := rd_int g0
  obtain ⟨x1, e1, _⟩ := rd_int g1
  obtain ⟨x2, e2, _⟩ := rd_int g2
  match cs, hl with
  | [a, b, c], _ =>
    simp at e0 e1 e2
    exact ⟨(x0, x1, x2), by rw [e0, e1, e2]⟩
theorem rd_vals (hf : DataW.trod enc Tryz.prog W base sp held fuel 28 cs = some x) : ∃ (A : Option Addr) (n c : Nat) (l : List Vl), cs = [.slice A n c] ∧ RdV W W.heap.size A n l ∧ n ≤ maxLen := by
  obtain ⟨a, n, c, hcs, hnc, hcm, hg⟩ := rd_slice Tryz.underlying28 cellsRV hf
  have key : ∀ i, i < n → ∃ (ad : Addr) (d : Vl), a = some ad ∧ VAt W W.heap.size (ad.add (i * 3)) d := fun i hi => by
    obtain ⟨ad, cs', f', x', e, hl, hc, ht⟩ := hg i hi
    obtain ⟨d, rfl⟩ := rd_val ht
    have h0 := hc 0 (by omega)
    have h1 := hc 1 (by omega)
    have h2 := hc 2 (by omega)
    rw [add_add] at h0 h1 h2
    rw [Nat.add_zero] at h0
    rw [add_nextV _ _ _ (by decide)] at h1 h2
    exact ⟨ad, d, e, World.block_lt_of_cell? W _ h0, h0, h1, h2⟩
  have hex : ∀ i, ∃ d : Vl, i < n → ∃ ad, a = some ad ∧ VAt W W.heap.size (ad.add (i * 3)) d := fun i => by
    by_cases hi : i < n
    · obtain ⟨ad, d, h⟩ := key i hi
      exact ⟨d, fun _ => ⟨ad, h⟩⟩
    · exact ⟨(0, 0, 0), fun h => absurd h hi⟩
  refine ⟨a, n, c, (List.range n).map fun i => (hex i).choose, hcs, ⟨by simp, fun i d hi => ?_⟩, Nat.le_trans hnc hcm⟩
  have hi' : i < n := by
    have := (List.getElem?_eq_some_iff.1 hi).1
    simpa using this
  rw [List.getElem?_map, List.getElem?_range hi'] at hi
  injection hi with hi
  rw [← hi]
  exact (hex i).choose_spec hi'
theorem rd_many (hf : DataW.trod enc Tryz.prog W base sp held fuel 30 cs = some x) : ∃ (U : List Int) (A : Option Addr) (n c : Nat) (l : List Vl), cs = (uc U (.slice A n c)).toList ∧ U.length = 8 ∧ Wf U ∧ RdV W W.heap.size A n l ∧ n ≤ maxLen := by
  have hl := rd_len Tryz.underlying30 cellsRM hf
  obtain ⟨_, _, g0⟩ := rd_field Tryz.underlying30 hf 0 22 0 8 rfl cellsA
  obtain ⟨_, _, g1⟩ := rd_field Tryz.underlying30 hf 1 28 8 1 rfl cellsRVs
  obtain ⟨U, e0, hU, wU⟩ := rd_arr8 g0
  obtain ⟨A, n, c, l, e1, hr, hn⟩ := rd_vals g1
  refine ⟨U, A, n, c, l, ?_, hU, wU, hr, hn⟩
  unfold uc
  rw [← e0, ← e1, List.drop_zero, List.take_of_length_le (l := cs.drop 8) (by simp; omega), List.take_append_drop]
end
theorem cut_row {α : Type} (l : List α) (o m : Nat) : (l.drop o).take m ++ l.drop (o + m) = l.drop o := by
  have := List.take_append_drop m (l.drop o)
  rwa [List.drop_drop] at this
/-- a question's cells: two registers, a node, a value -/
def askC (C1 C2 : Array Value) (nd v : Int) : Array Value := (C1.toList ++ C2.toList ++ [Value.int .i64 nd, Value.int .i64 v]).toArray
section
variable {H : Type} {enc : TypeId × Value → H} {W : World} {base : Nat} {sp : Nat → Bool} {held : Bool} {r : Reach} {b0 : Nat} {v : Value} {d : DataW H} {p : List MemPlace}
end
end Go.Proofs.YtocoohpekpkmkaaGreat

/- Registers joined one behind the other, and turns that come in. -/
namespace Go.Proofs.YtocoohpekpkmkaaGreat
set_option linter.unusedVariables false
set_option linter.unusedSimpArgs false
namespace Reg
abbrev Nf := Nat → Nd
def mt (f g : Nf) : Nf := fun n => meetN (f n) (g n)
def foldF (F : Nat → Nf) : Nat → Nf
  | 0 => f0
  | k + 1 => mt (foldF F k) (F k)
def SameN (f g : Nf) : Prop := ∀ n, n < 8 → f n = g n
section
variable {f g h : Nf} {F : Nat → Nf}
theorem SameN.refl (f : Nf) : SameN f f := fun _ _ => rfl
theorem SameN.symm (a : SameN f g) : SameN g f := fun n hn => (a n hn).symm
theorem SameN.trans (a : SameN f g) (b : SameN g h) : SameN f h := fun n hn => (a n hn).trans (b n hn)
theorem SameN.mt {f' g' : Nf} (a : SameN f f') (b : SameN g g') : SameN (mt f g) (mt f' g') := fun n hn => by unfold Reg.mt; rw [a n hn, b n hn]
theorem mt_good (hf : GoodF f) (hg : GoodF g) : GoodF (mt f g) := meetN_goodF hf hg
theorem mt_comm (hf : GoodF f) (hg : GoodF g) : SameN (mt f g) (mt g f) := fun n hn => meetN_comm (hf n hn) (hg n hn)
theorem mt_self (f : Nf) : SameN (mt f f) f := fun n _ => meetN_self (f n)
theorem mt_assoc (hf : GoodF f) (hg : GoodF g) (hh : GoodF h) : SameN (mt (mt f g) h) (mt f (mt g h)) := fun n hn => meetN_assoc (hf n hn) (hg n hn) (hh n hn)
theorem foldF_good (hF : ∀ i, i < 8 → GoodF (F i)) : ∀ k, k ≤ 8 → GoodF (foldF F k) := by
  intro k
  induction k with
  | zero => intro _; exact f0_good
  | succ k ih => intro hk; exact mt_good (ih (by omega)) (hF k (by omega))
theorem foldF_has (hF : ∀ i, i < 8 → GoodF (F i)) {k : Nat} : ∀ j, j ≤ 8 → k < j → SameN (mt (foldF F j) (F k)) (foldF F j) := by
  intro j
  induction j with
  | zero => intro _ h; omega
  | succ j ih =>
    intro hj hk
    have gH := foldF_good hF j (by omega)
    have gj := hF j (by omega)
    have gk := hF k (by omega)
    have h1 : SameN (mt (mt (foldF F j) (F j)) (F k)) (mt (foldF F j) (mt (F j) (F k))) := mt_assoc gH gj gk
    by_cases e : k = j
    · subst e
      exact h1.trans ((SameN.refl _).mt (mt_self _))
    · have h2 : SameN (mt (foldF F j) (mt (F j) (F k))) (mt (foldF F j) (mt (F k) (F j))) := (SameN.refl _).mt (mt_comm gj gk)
      have h3 : SameN (mt (foldF F j) (mt (F k) (F j))) (mt (mt (foldF F j) (F k)) (F j)) := (mt_assoc gH gk gj).symm
      exact (h1.trans h2).trans (h3.trans ((ih (by omega) (by omega)).mt (SameN.refl _)))
theorem SameN.rep (a : SameN f g) : repU f = repU g ∧ repL f = repL g := rep_congr a
/-- no count passes k -/
def Few (F : Nat → Nf) (k : Int) : Prop := ∀ i, i < 8 → ∀ n, n < 8 → (F i n).1 ≤ k
theorem Few.meet {k : Int} (h : Few F k) {a b : Nat} (ha : a < 8) (hb : b < 8) : Few (upF F a (mt (F a) (F b))) k := fun i hi n hn => by
  unfold upF
  split
  · have h1 := h a ha n hn
    have h2 := h b hb n hn
    show max (F a n).1 (F b n).1 ≤ k
    omega
  · exact h i hi n hn
theorem Few.put {k : Int} (h : Few F k) {a : Nat} (ha : a < 8) (v : Int) : Few (upF F a (putNd (F a) a v)) (k + 1) := fun i hi n hn => by
  unfold upF
  split
  · have h1 := h a ha n hn
    unfold putNd
    split
    · simp only; omega
    · simp only; omega
  · have := h i hi n hn; omega
theorem repL_put {f : Nf} {k : Nat} (hk : k < 8) (v : Int) : repL (putNd f k v) = [((k : Int), (f k).1 + 1, v)] := by
  have key : ∀ m s : Nat, (List.range' s m).flatMap (fun n => oneV n (putNd f k v n).2) = if s ≤ k ∧ k < s + m then [((k : Int), (f k).1 + 1, v)] else [] := by
    intro m
    induction m with
    | zero => intro s; rw [if_neg (by omega)]; rfl
    | succ m ih =>
      intro s
      rw [List.range'_succ, List.flatMap_cons, ih]
      by_cases e : s = k
      · subst e
        rw [if_neg (by omega), if_pos (by omega)]
        simp [putNd, oneV]
      · rw [show oneV s (putNd f k v s).2 = [] by unfold putNd; rw [if_neg e]; rfl, List.nil_append]
        by_cases c : s + 1 ≤ k ∧ k < s + 1 + m
        · rw [if_pos c, if_pos (by omega)]
        · rw [if_neg c, if_neg (by omega)]
  unfold repL
  rw [List.range_eq_range', key 8 0, if_pos (by omega)]
end
end Reg
open Go.ChangeShapes Go.WideShapes Go.ChangeAt Go.RowKit Go.Deep
open Reg
/-- A turn: a node that puts a value, or meets another one. -/
structure Trn where
  node : Int
  wi : Int
  val : Int
  meet : Bool
def Trn.cs (t : Trn) : Array Value := #[.int .i64 t.node, .int .i64 t.wi, .int .i64 t.val, .bool t.meet]
def TrnAt (w : World) (B : Nat) (ad : Addr) (o : Trn) : Prop := ad.block < B ∧ w.cell? ad = some (.int .i64 o.node) ∧ w.cell? ⟨ad.block, ad.off + 1, none⟩ = some (.int .i64 o.wi) ∧ w.cell? ⟨ad.block, ad.off + 2, none⟩ = some (.int .i64 o.val) ∧ w.cell? ⟨ad.block, ad.off + 3, none⟩ = some (.bool o.meet) ∧
  (-9223372036854775808 ≤ o.node ∧ o.node ≤ 9223372036854775807) ∧ (-9223372036854775808 ≤ o.wi ∧ o.wi ≤ 9223372036854775807) ∧ -9223372036854775808 ≤ o.val ∧ o.val ≤ 9223372036854775807
def TrnsAt (w : World) (B : Nat) (a : Option Addr) (n : Nat) (l : List Trn) : Prop := n = l.length ∧ ∀ i o, l[i]? = some o → ∃ ad, a = some ad ∧ TrnAt w B (ad.add (i * 4)) o
theorem TrnsAt.below {w w' : World} {B n : Nat} {a : Option Addr} {l : List Trn} (h : TrnsAt w B a n l) (hb : Below B w w') : TrnsAt w' B a n l := ⟨h.1, fun i o ho => by
  obtain ⟨ad, e, h0, h1, h2, h3, h4, h5⟩ := h.2 i o ho
  exact ⟨ad, e, h0, (hb.cell h0).trans h1, (hb.cell (p := ⟨(ad.add (i * 4)).block, (ad.add (i * 4)).off + 1, none⟩) h0).trans h2, (hb.cell (p := ⟨(ad.add (i * 4)).block, (ad.add (i * 4)).off + 2, none⟩) h0).trans h3, (hb.cell (p := ⟨(ad.add (i * 4)).block, (ad.add (i * 4)).off + 3, none⟩) h0).trans h4, h5⟩⟩
theorem list_of {α : Type} {P : Nat → α → Prop} (n : Nat) (h : ∀ i, i < n → ∃ x, P i x) : ∃ l : List α, l.length = n ∧ ∀ j x, l[j]? = some x → P j x := by
  induction n with
  | zero => exact ⟨[], rfl, fun j x h => by simp at h⟩
  | succ n ih =>
    obtain ⟨l, h1, h2⟩ := ih (fun i hi => h i (by omega))
    obtain ⟨x, hx⟩ := h n (by omega)
    refine ⟨l ++ [x], by simp [h1], fun j y hy => ?_⟩
    by_cases hj : j < n
    · rw [List.getElem?_append_left (by omega)] at hy
      exact h2 j y hy
    · rw [List.getElem?_append_right (by omega)] at hy
      have h0 : j - l.length = 0 := by
        rcases Nat.eq_zero_or_pos (j - l.length) with h | h
        · exact h
        · rw [List.getElem?_eq_none (by simp; omega)] at hy
          cases hy
      rw [h0] at hy
      simp at hy
      subst hy
      have hjn : j < n + 1 := by
        rcases Nat.lt_or_ge j (n + 1) with h | h
        · exact h
        · omega
      obtain rfl : j = n := by omega
      exact hx
theorem cellsB : (Tryz.prog).cellsOf 4 = 1 := by kernel_rfl
theorem buildM0 (w : World) : (Instr.build 39 #[]).run Tryz.prog w = .ok (.agg (uc z8 (.slice none 0 0))) w := by kernel_rfl
theorem tmod_bd (v : Int) : -1099511627776 ≤ v.tmod 1000 ∧ v.tmod 1000 ≤ 1099511627776 := by
  have h1 := Int.lt_tmod_of_pos v (show (0 : Int) < 1000 by decide)
  have h2 := Int.tmod_lt_of_pos v (show (0 : Int) < 1000 by decide)
  omega
/-- a register and an error's number, as one value -/
def TupM (T : TypeId) (U : List Int) (l : List Vl) (k : Int) (q : Value) (w : World) : Prop := ∃ c, q = .tuple #[.agg c, .int .i64 k] ∧ FreshO T U l (.agg c) w
section
variable {T : TypeId} {U : List Int} {l : List Vl} {k : Int} {q : Value} {w w' : World}
theorem TupM.mk (h : FreshO T U l q w) : TupM T U l k (.tuple #[q, .int .i64 k]) w := by
  obtain ⟨c, e⟩ := h.fresh.agg
  subst e
  exact ⟨c, rfl, h⟩
theorem TupM.below (h : TupM T U l k q w) (hb : Below w.heap.size w w') : TupM T U l k q w' := by
  obtain ⟨c, e, h⟩ := h
  exact ⟨c, e, h.below hb⟩
theorem TupM.grown {t : TypeId} {g : Nat} {cs : Array Value} (h : TupM T U l k q w) (hg : w.grownBy w' (some g)) (kk : Blk w g t cs) (hne : t ≠ T) : TupM T U l k q w' := by
  obtain ⟨c, e, h⟩ := h
  exact ⟨c, e, h.grown hg kk hne⟩
end
theorem node_of (z : Int) : ∃ a : Nat, a < 8 ∧ (IntKind.u64.wrap z).tmod 8 = (a : Int) := by
  have h0 : 0 ≤ IntKind.u64.wrap z := by rw [IntKind.wrap_u64]; exact Int.emod_nonneg _ (by decide)
  have h := Int.emod_nonneg (IntKind.u64.wrap z) (show (8 : Int) ≠ 0 by decide)
  have h' := Int.emod_lt_of_pos (IntKind.u64.wrap z) (show (0 : Int) < 8 by decide)
  exact ⟨(IntKind.u64.wrap z % 8).toNat, by omega, by rw [Int.tmod_eq_emod_of_nonneg h0]; omega⟩
end Go.Proofs.YtocoohpekpkmkaaGreat

/- Eight boards that came of writes, notes and joins alone, in plain words. -/
namespace Go.Proofs.YtocoohpekpkmkaaGreat
set_option linter.unusedVariables false
set_option linter.unusedSimpArgs false
open Reg (La Vl)
namespace Bo
def upB (F : Nat → Bd) (a : Nat) (x : Bd) : Nat → Bd := fun i => if i = a then x else F i
def talls (F : Nat → Bd) : List (List Int) := (List.range 8).map fun i => (F i).t
theorem talls_at (F : Nat → Bd) {j : Nat} (hj : j < 8) : (talls F).getD j [] = (F j).t := by
  unfold talls
  rw [List.getD_eq_getElem?_getD, List.getElem?_map, List.getElem?_range hj]
  rfl
theorem talls_up (F : Nat → Bd) {a : Nat} (ha : a < 8) (x : Bd) : talls (upB F a x) = (talls F).set a x.t := by
  apply List.ext_getElem?
  intro i
  by_cases hi : i < 8
  · unfold talls
    rw [List.getElem?_map, List.getElem?_range hi, List.getElem?_set]
    unfold upB
    by_cases e : i = a
    · subst e
      rw [if_pos rfl, if_pos (by simpa using hi)]
      simp
    · rw [if_neg (fun h => e h.symm), List.getElem?_map, List.getElem?_range hi]
      simp [e]
  · unfold talls
    rw [List.getElem?_eq_none (by simp; omega), List.getElem?_eq_none (by simp; omega)]
/-- eight boards; T is what was written, k the rounds so far, wr the writes -/
structure Brd (F : Nat → Bd) (T : List Int) (k wr : Int) : Prop where
  s : ∀ i, i < 8 → Shaped (F i)
  r : ∀ i, i < 8 → rightB (F i) = true
  u : ∀ i, i < 8 → ∀ j, j < 8 → (F i).u.getD j 0 ≤ k
  p : ∀ i, i < 8 → ∀ j, j < 8 → ((F i).p.getD j (0, 0, 0)).1 ≤ k
  t : Cop (talls F) T
  up : Upto T k
  sum : Tally.sumTo T 8 = wr
theorem brd_zero : Brd (fun _ => zero) Tally.zero 0 0 := by
  have ht : talls (fun _ => zero) = List.replicate 8 Tally.zero := rfl
  refine ⟨fun _ _ => zero_shaped, fun _ _ => zero_right, fun i _ j hj => ?_, fun i _ j hj => ?_, ?_, fun i hi => ?_, by decide⟩
  · have : ∀ j, j < 8 → zero.u.getD j 0 ≤ 0 := by decide
    exact this j hj
  · have : ∀ j, j < 8 → (zero.p.getD j (0, 0, 0)).1 ≤ 0 := by decide
    exact this j hj
  · rw [ht]; exact Cop.start
  · rw [zero_at i hi]; exact Int.le_refl _
section
variable {F : Nat → Bd} {T : List Int} {k wr : Int} {a b : Nat}
theorem join_p_at {x y : Bd} (hx : Shaped x) (hy : Shaped y) {j : Nat} (hj : j < 8) : (List.zipWith Reg.joinL x.p y.p).getD j (0, 0, 0) = Reg.joinL (x.p.getD j (0, 0, 0)) (y.p.getD j (0, 0, 0)) := by
  rw [List.getD_eq_getElem?_getD, List.getD_eq_getElem?_getD, List.getD_eq_getElem?_getD, List.getElem?_zipWith, List.getElem?_eq_getElem (by rw [hx.p]; exact hj), List.getElem?_eq_getElem (by rw [hy.p]; exact hj)]
  rfl
theorem maxU_at (U V : List Int) {j : Nat} (hj : j < 8) : (Reg.maxU U V).getD j 0 = max (U.getD j 0) (V.getD j 0) := by
  unfold Reg.maxU
  rw [List.getD_eq_getElem?_getD, List.getElem?_map, List.getElem?_range hj]
  rfl
theorem Brd.up_of {x : Bd} {T' : List Int} {k' wr' : Int} (h : Brd F T k wr) (ha : a < 8) (hk : k ≤ k') (hs : Shaped x) (hr : rightB x = true) (hu : ∀ j, j < 8 → x.u.getD j 0 ≤ k') (hp : ∀ j, j < 8 → (x.p.getD j (0, 0, 0)).1 ≤ k')
    (ht : Cop ((talls F).set a x.t) T') (hup : Upto T' k') (hsum : Tally.sumTo T' 8 = wr') : Brd (upB F a x) T' k' wr' := by
  refine ⟨fun i hi => ?_, fun i hi => ?_, fun i hi j hj => ?_, fun i hi j hj => ?_, by rw [talls_up F ha]; exact ht, hup, hsum⟩
  all_goals unfold upB
  all_goals split
  · exact hs
  · exact h.s i hi
  · exact hr
  · exact h.r i hi
  · exact hu j hj
  · have := h.u i hi j hj; omega
  · exact hp j hj
  · have := h.p i hi j hj; omega
theorem Brd.join (h : Brd F T k wr) (ha : a < 8) (hb : b < 8) : Brd (upB F a (join (F a) (F b))) T (k + 1) wr := by
  have e := join_eq (h.r a ha) (h.r b hb)
  refine h.up_of ha (by omega) (join_shaped (h.s a ha) (h.s b hb)) (join_right (h.s a ha) (h.s b hb)) (fun j hj => ?_) (fun j hj => ?_) ?_ (fun i hi => by have := h.up i hi; omega) h.sum
  · rw [e]
    show (Reg.maxU (F a).u (F b).u).getD j 0 ≤ _
    rw [maxU_at _ _ hj]
    have h1 := h.u a ha j hj
    have h2 := h.u b hb j hj
    omega
  · rw [e]
    show ((List.zipWith Reg.joinL (F a).p (F b).p).getD j (0, 0, 0)).1 ≤ _
    rw [join_p_at (h.s a ha) (h.s b hb) hj]
    have h1 := h.p a ha j hj
    have h2 := h.p b hb j hj
    unfold Reg.joinL
    split <;> omega
  · rw [e]
    have := h.t.join ha hb
    rw [talls_at F ha, talls_at F hb] at this
    exact this
theorem Brd.note (h : Brd F T k wr) (hk : k ≤ 1000) (ha : a < 8) {v : Int} (hv : 0 ≤ v ∧ v ≤ 999) : ∃ x, note (F a) a v = (x, 0) ∧ Brd (upB F a x) T (k + 1) wr := by
  have hs := h.s a ha
  obtain ⟨p1, v1, t1, m1⟩ := (right_iff (F a)).1 (h.r a ha)
  have hn : Reg.mayN (a : Int) v = true := (Reg.mayN_iff _ _).2 (by omega)
  have hua := h.u a ha a ha
  obtain ⟨f, hf, eu, el⟩ := Reg.right_of_nodes hs.u m1
  have hfa : (f a).1 = (F a).u.getD a 0 := by rw [eu, Reg.repU_get f ha]
  have hput := Reg.put_rep hf ha (show -1099511627776 ≤ v ∧ v ≤ 1099511627776 by omega) (by rw [hfa]; omega)
  rw [← eu, ← el] at hput
  have hg := Reg.putNd_good hf (k := a) (v := v) (by omega) (by rw [hfa]; omega)
  have hnote : Bo.note (F a) a v = (⟨(F a).t, (F a).p, Reg.repU (Reg.putNd f a v), Reg.repL (Reg.putNd f a v)⟩, 0) := by
    unfold Bo.note
    rw [if_neg (by rw [h.r a ha]; simp; omega), hput, if_neg (by simp)]
  refine ⟨_, hnote, ?_⟩
  refine h.up_of ha (by omega) ⟨hs.t, hs.p, Reg.repU_len _⟩ ((right_iff _).2 ⟨p1, fun w hw => ?_, t1, Reg.right_rep hg⟩) (fun j hj => ?_) (fun j hj => ?_) ?_ (fun i hi => by have := h.up i hi; omega) h.sum
  · have hw : w ∈ Reg.repL (Reg.putNd f a v) := hw
    rw [Reg.repL_put ha] at hw
    obtain rfl := List.mem_singleton.1 hw
    exact hv.1
  · show (Reg.repU (Reg.putNd f a v)).getD j 0 ≤ _
    rw [Reg.repU_get _ hj]
    have h1 := h.u a ha j hj
    rw [eu, Reg.repU_get _ hj] at h1
    unfold Reg.putNd
    split <;> simp only <;> omega
  · have := h.p a ha j hj; exact Int.le_trans this (by omega)
  · show Cop ((talls F).set a (F a).t) T
    have : (talls F).set a (F a).t = talls F := by
      rw [← talls_up F ha (F a)]
      unfold talls upB
      refine List.map_congr_left fun i _ => ?_
      split
      · rename_i e; rw [e]
      · rfl
    rw [this]
    exact h.t
theorem Brd.wrote (h : Brd F T k wr) (hk : k ≤ 1000) (ha : a < 8) {m : Nat} (hm : m < 8) {v : Int} (hv : 0 ≤ v ∧ v ≤ 999) : ∃ x T', wrote (F a) a m v = (x, 0) ∧ Brd (upB F a x) T' (k + 1) (wr + 1) := by
  have hs := h.s a ha
  obtain ⟨p1, v1, t1, m1⟩ := (right_iff (F a)).1 (h.r a ha)
  have htk := h.t.le a ha (Tally.slot a 1) (slot_lt ha).1
  rw [talls_at F ha] at htk
  have hsl := (slot_lt (n := 1) ha).1
  have hup := h.up (Tally.slot a 1) hsl
  have ht : Tally.addL (F a).t a 1 = ((F a).t.set (Tally.slot a 1) ((F a).t.getD (Tally.slot a 1) 0 + Tally.amt 1), 0) :=
    Tally.add_ok t1 ((Tally.inB_iff _ _ _).2 (by omega)) ((Tally.inB_iff _ _ _).2 (by decide)) (by
      have : Tally.amt 1 = 1 := rfl
      have e : Tally.top = 1099511627776 := rfl
      omega)
  have hpm := h.p a ha m hm
  have hmm : (F a).p.getD m (0, 0, 0) ∈ (F a).p := by rw [List.getD_eq_getElem?_getD, List.getElem?_eq_getElem (by rw [hs.p]; exact hm)]; exact List.getElem_mem _
  obtain ⟨q, hq⟩ : ∃ q, q = (F a).p.getD m (0, 0, 0) := ⟨_, rfl⟩
  rw [← hq] at hpm hmm
  have hwq : Reg.writeL q a v = ((max q.1 0 + 1, (a : Int), v), 0) := by
    unfold Reg.writeL
    rw [if_neg (by rw [(Reg.mayN_iff (a : Int) v).2 (by omega)]; simp), if_neg (by omega)]
  have hw : Bo.wrote (F a) a m v = (⟨(F a).t.set (Tally.slot a 1) ((F a).t.getD (Tally.slot a 1) 0 + Tally.amt 1), (F a).p.set m (max q.1 0 + 1, (a : Int), v), (F a).u, (F a).l⟩, 0) := by
    unfold Bo.wrote
    rw [if_neg, ht, if_neg (by simp), Int.toNat_natCast, ← hq, hwq, if_neg (by simp)]
    have e : ∀ x lo hi : Int, lo ≤ x → x ≤ hi → Reg.inB x lo hi ≠ false := fun x lo hi h1 h2 h => by
      rw [(Reg.inB_iff x lo hi).2 ⟨h1, h2⟩] at h; cases h
    rintro (h1 | h1 | h1 | h1)
    · rw [h.r a ha] at h1; cases h1
    · exact e _ _ _ (by omega) (by omega) h1
    · exact e _ _ _ (by omega) (by omega) h1
    · exact e _ _ _ (by omega) (by omega) h1
  refine ⟨_, T.set (Tally.slot a 1) (T.getD (Tally.slot a 1) 0 + Tally.amt 1), hw, ?_⟩
  have hrt : Tally.rightB ((F a).t.set (Tally.slot a 1) ((F a).t.getD (Tally.slot a 1) 0 + Tally.amt 1)) = true := by
    have := (Tally.add_len hs.t a 1).2
    rwa [ht] at this
  refine h.up_of ha (by omega) ?_ (wrote_right hw hs) (fun j hj => ?_) (fun j hj => ?_) ?_ (fun i hi => ?_) ?_
  · have := wrote_shaped hs a m v
    rwa [hw] at this
  · exact Int.le_trans (h.u a ha j hj) (by omega)
  · show (((F a).p.set m (max q.1 0 + 1, (a : Int), v)).getD j (0, 0, 0)).1 ≤ _
    have hq0 : 0 ≤ k := by
      have h0 := h.u a ha a ha
      have := Reg.all_numV ((Reg.rightM_iff _ _).1 m1).1 a
      omega
    by_cases e : m = j
    · subst e
      rw [List.getD_eq_getElem?_getD, List.getElem?_set_self (by rw [hs.p]; exact hm), Option.getD_some]
      simp only
      omega
    · rw [List.getD_eq_getElem?_getD, List.getElem?_set_ne e, ← List.getD_eq_getElem?_getD]
      have := h.p a ha j hj
      omega
  · have hr2 := hrt
    have := Cop.add h.t ha (n := 1) (by rw [talls_at F ha]; exact hr2)
    rw [talls_at F ha] at this
    exact this
  · rw [gd_set (by rw [h.t.t]; exact hsl)]
    have h1 := h.up i hi
    have h3 : Tally.amt 1 = 1 := rfl
    split <;> omega
  · rw [add_sum h.t.t ha 1, h.sum]
/-- the first k, joined -/
def foldB (F : Nat → Bd) : Nat → Bd
  | 0 => zero
  | k + 1 => Bo.join (foldB F k) (F k)
theorem fold_ok (hs : ∀ i, i < 8 → Shaped (F i)) (hr : ∀ i, i < 8 → rightB (F i) = true) : ∀ k, k ≤ 8 → Shaped (foldB F k) ∧ rightB (foldB F k) = true ∧ (foldB F k).t = joinTo (talls F) k := by
  intro k
  induction k with
  | zero => intro _; exact ⟨zero_shaped, zero_right, rfl⟩
  | succ k ih =>
    intro hk
    obtain ⟨h1, h2, h3⟩ := ih (by omega)
    refine ⟨join_shaped h1 (hs k (by omega)), join_right h1 (hs k (by omega)), ?_⟩
    show (Bo.join (foldB F k) (F k)).t = _
    rw [join_eq h2 (hr k (by omega))]
    show Tally.joinL (foldB F k).t (F k).t = Tally.joinL (joinTo (talls F) k) ((talls F).getD k [])
    rw [h3, talls_at F (by omega)]
theorem Brd.value (h : Brd F T k wr) : Tally.valueL (foldB F 8).t = wr := by
  rw [(fold_ok h.s h.r 8 (Nat.le_refl _)).2.2, joinTo_value h.t, h.sum]
end
end Bo
end Go.Proofs.YtocoohpekpkmkaaGreat

/- How boards read when they come in. -/
namespace Go.Proofs.YtocoohpekpkmkaaGreat
set_option linter.unusedVariables false
set_option linter.unusedSimpArgs false
open Go.ChangeShapes Go.WideShapes Go.ChangeAt Go.RowKit Go.Deep
open Reg (La Vl)
set_option maxRecDepth 100000
theorem cellsRPl : (Tryz.prog).cellsOf 27 = 24 := by kernel_rfl
theorem cellsRT : (Tryz.prog).cellsOf 24 = 16 := by kernel_rfl
theorem cellsRBo : (Tryz.prog).cellsOf 32 = 49 := by kernel_rfl
theorem cellsStp : (Tryz.prog).cellsOf 49 = 3 := by kernel_rfl
section
variable {H : Type} {enc : TypeId × Value → H} {W : World} {base : Nat} {sp : Nat → Bool} {held : Bool} {fuel : Nat} {cs : List Value} {x : DataW H × List MemPlace}
theorem rd_lac (hf : DataW.trod enc Tryz.prog W base sp held fuel 26 cs = some x) : ∃ d : La, cs = pc d ∧ (Lit.int .i64 d.1).wf = true ∧ (Lit.int .i64 d.2.1).wf = true ∧ (Lit.int .i64 d.2.2).wf = true := by
  have hl := rd_len Tryz.underlying26 cellsLa hf
  obtain ⟨_, _, g0⟩ := rd_field Tryz.underlying26 hf 0 3 0 1 rfl cellsI
  obtain ⟨_, _, g1⟩ := rd_field Tryz.underlying26 hf 1 3 1 1 rfl cellsI
  obtain ⟨_, _, g2⟩ := rd_field Tryz.underlying26 hf 2 3 2 1 rfl cellsI
  obtain ⟨x0, e0, h0⟩ := rd_int g0
  obtain ⟨x1, e1, h1⟩ := rd_int g1
  obtain ⟨x2, e2, h2⟩ := rd_int g2
  match cs, hl with
  | [a, b, c], _ =>
    simp at e0 e1 e2
    exact ⟨(x0, x1, x2), by rw [e0, e1, e2]; rfl, wf_of h0.1 h0.2, wf_of h1.1 h1.2, wf_of h2.1 h2.2⟩
theorem rd_arrP (hf : DataW.trod enc Tryz.prog W base sp held fuel 27 cs = some x) : ∃ p : List La, cs = plansC p ∧ p.length = 8 ∧ WfP p := by
  obtain ⟨xs, m, _, _, hl, hxl, hg⟩ := DataW.trod_array Tryz.underlying27 hf
  rw [cellsRPl] at hl
  rw [cellsLa] at hg
  have key : ∀ i, i < 8 → ∃ d : La, (cs.drop (i * 3)).take 3 = pc d ∧ (Lit.int .i64 d.1).wf = true ∧ (Lit.int .i64 d.2.1).wf = true ∧ (Lit.int .i64 d.2.2).wf = true := fun i hi => by
    have h := hg i hi
    rw [List.getElem?_eq_getElem (by omega)] at h
    exact rd_lac h
  have hex : ∀ i, ∃ d : La, i < 8 → (cs.drop (i * 3)).take 3 = pc d ∧ (Lit.int .i64 d.1).wf = true ∧ (Lit.int .i64 d.2.1).wf = true ∧ (Lit.int .i64 d.2.2).wf = true := fun i => by
    by_cases hi : i < 8
    · obtain ⟨d, h⟩ := key i hi
      exact ⟨d, fun _ => h⟩
    · exact ⟨(0, 0, 0), fun h => absurd h hi⟩
  refine ⟨(List.range 8).map fun i => (hex i).choose, ?_, by simp, fun z hz => ?_⟩
  · apply List.ext_getElem?
    intro j
    by_cases hj : j < 24
    · obtain ⟨i, r, hr, rfl⟩ : ∃ i r, r < 3 ∧ j = i * 3 + r := ⟨j / 3, j % 3, Nat.mod_lt _ (by omega), by omega⟩
      have hi : i < 8 := by omega
      rw [plansC_at _ i r (by simpa using hi) hr, List.getD_eq_getElem?_getD, List.getElem?_map, List.getElem?_range hi]
      show _ = (pc (hex i).choose)[r]?
      rw [← ((hex i).choose_spec hi).1, List.getElem?_take, if_pos hr, List.getElem?_drop]
    · rw [List.getElem?_eq_none (by omega), List.getElem?_eq_none (by rw [plansC_len]; simp; omega)]
  · obtain ⟨i, hi, rfl⟩ := List.mem_map.1 hz
    exact ((hex i).choose_spec (by simpa using hi)).2
theorem rd_talR (hf : DataW.trod enc Tryz.prog W base sp held fuel 24 cs = some x) : ∃ l : List Int, cs = l.map (Value.int .i64) ∧ l.length = 16 ∧ Wf l := by
  obtain ⟨⟨f0, f1, hu, t0, o0, t1, o1, _, _⟩, hc, _, _⟩ := twoR
  have hl := rd_len hu hc hf
  obtain ⟨_, _, g0⟩ := rd_field hu hf 0 22 0 8 (by simp [t0, o0]) cellsA
  obtain ⟨_, _, g1⟩ := rd_field hu hf 1 22 8 8 (by simp [t1, o1]) cellsA
  obtain ⟨l0, e0, n0, w0⟩ := rd_arr8 g0
  obtain ⟨l1, e1, n1, w1⟩ := rd_arr8 g1
  refine ⟨l0 ++ l1, ?_, by simp [n0, n1], fun z hz => ?_⟩
  · rw [List.map_append, ← e0, ← e1, List.drop_zero, List.take_of_length_le (l := cs.drop 8) (by simp; omega), List.take_append_drop]
  · rcases List.mem_append.1 hz with h | h
    · exact w0 z h
    · exact w1 z h
theorem rd_board (hf : DataW.trod enc Tryz.prog W base sp held fuel 32 cs = some x) : ∃ (b : Bd) (A : Option Addr) (n c : Nat), cs = (bc b (.slice A n c)).toList ∧ Bo.Shaped b ∧ WfB b ∧ RdV W W.heap.size A n b.l ∧ n ≤ maxLen := by
  have hl := rd_len Tryz.underlying32 cellsRBo hf
  obtain ⟨_, _, g0⟩ := rd_field Tryz.underlying32 hf 0 24 0 16 rfl cellsRT
  obtain ⟨_, _, g1⟩ := rd_field Tryz.underlying32 hf 1 27 16 24 rfl cellsRPl
  obtain ⟨_, _, g2⟩ := rd_field Tryz.underlying32 hf 2 30 40 9 rfl cellsRM
  obtain ⟨t, e0, h0, w0⟩ := rd_talR g0
  obtain ⟨p, e1, h1, w1⟩ := rd_arrP g1
  obtain ⟨U, A, n, c, l, e2, hU, wU, hr, hn⟩ := rd_many g2
  refine ⟨⟨t, p, U, l⟩, A, n, c, ?_, ⟨h0, h1, hU⟩, ⟨w0, w1, wU⟩, hr, hn⟩
  have hall : cs = (cs.drop 0).take 16 ++ ((cs.drop 16).take 24 ++ ((cs.drop 40).take 9 ++ [])) := by
    rw [← List.drop_eq_nil_of_le (i := 49) (Nat.le_of_eq hl), cut_row _ 40 9, cut_row _ 16 24, cut_row _ 0 16, List.drop_zero]
  rw [e0, e1, e2] at hall
  rw [hall]
  simp [bc, uc]
end
section
variable {H : Type} {enc : TypeId × Value → H} {W : World} {base : Nat} {sp : Nat → Bool} {held : Bool} {r : Reach} {b0 : Nat} {v : Value} {d : DataW H} {p : List MemPlace}
theorem open_board (hv : Value.okWide Tryz.prog W r b0 32 v) (h : DataW.Trod enc Tryz.prog W base sp held 32 v d p) :
    ∃ (b : Bd) (A : Option Addr) (n c : Nat), v = .agg (bc b (.slice A n c)) ∧ Bo.Shaped b ∧ WfB b ∧ RdV W W.heap.size A n b.l ∧ n ≤ maxLen := by
  obtain ⟨cs, rfl, hsz⟩ := okWide_struct Tryz.underlying32 hv
  obtain ⟨fuel, hf0⟩ := h
  have hf : DataW.trod enc Tryz.prog W base sp held fuel 32 cs.toList = some (d, p) := hf0
  obtain ⟨b, A, n, c, h1, h2⟩ := rd_board hf
  exact ⟨b, A, n, c, by rw [← Array.toArray_toList (xs := cs), h1], h2⟩
theorem open_stp (hv : Value.okWide Tryz.prog W r b0 49 v) (h : DataW.Trod enc Tryz.prog W base sp held 49 v d p) :
    ∃ x y z : Int, v = .agg #[.int .i64 x, .int .i64 y, .int .i64 z] ∧ (Lit.int .i64 x).wf = true ∧ (Lit.int .i64 y).wf = true ∧ (Lit.int .i64 z).wf = true := by
  obtain ⟨cs, rfl, hsz⟩ := okWide_struct Tryz.underlying49 hv
  obtain ⟨fuel, hf0⟩ := h
  have hf : DataW.trod enc Tryz.prog W base sp held fuel 49 cs.toList = some (d, p) := hf0
  have hl := rd_len Tryz.underlying49 cellsStp hf
  obtain ⟨_, _, g0⟩ := rd_field Tryz.underlying49 hf 0 3 0 1 rfl cellsI
  obtain ⟨_, _, g1⟩ := rd_field Tryz.underlying49 hf 1 3 1 1 rfl cellsI
  obtain ⟨_, _, g2⟩ := rd_field Tryz.underlying49 hf 2 3 2 1 rfl cellsI
  obtain ⟨x0, e0, h0⟩ := rd_int g0
  obtain ⟨x1, e1, h1⟩ := rd_int g1
  obtain ⟨x2, e2, h2⟩ := rd_int g2
  refine ⟨x0, x1, x2, ?_, wf_of h0.1 h0.2, wf_of h1.1 h1.2, wf_of h2.1 h2.2⟩
  congr 1
  apply Array.ext'
  generalize cs.toList = ls at *
  match ls, hl with
  | [a, b, c], _ =>
    simp at e0 e1 e2
    rw [e0, e1, e2]
end
end Go.Proofs.YtocoohpekpkmkaaGreat

/- The walks of board.Join and of its parts. -/
namespace Go.Proofs.YtocoohpekpkmkaaGreat
set_option linter.unusedVariables false
set_option linter.unusedSimpArgs false
set_option maxRecDepth 100000
open Go.RowKit
open Reg (La Vl)
/-- the end of a call that turns the board of a block -/
def TurnB (T : TypeId) (g : Nat) (w : World) (b : Bd) (s : Value) (e : Ending) (w' : World) : Prop := e = .returned (.tuple #[]) ∧ Blk w' g T (bc b s) ∧ w.grownBy w' (some g)
def TurnN (T T2 : TypeId) (g : Nat) (w : World) (b : Bd) (e : Ending) (w' : World) : Prop := ∃ A m c, TurnB T g w b (.slice A m c) e w' ∧ OwnV T2 w' 0 A m c b.l ∧ m ≤ 100000
theorem grows_trans {a w w' : World} {row : Option Nat} (h : a.grownBy w row) (k : w.grownBy w' row) : a.grownBy w' row :=
  ⟨k.os.trans h.os, k.tape.trans h.tape, k.output.trans h.output, Nat.le_trans h.size k.size, fun i hi hr => (k.block i (Nat.lt_of_lt_of_le hi h.size) hr).trans (h.block i hi hr)⟩
theorem grows_below {a w w' : World} {row : Option Nat} (h : a.grownBy w row) (hb : Below w.heap.size w w') : a.grownBy w' row :=
  grows_trans h ⟨hb.os, hb.tape, hb.output, hb.size, fun i hi _ => hb.block i hi⟩
theorem new_grows (w : World) (o : Obj) (row : Option Nat) : w.grownBy (w.alloc o) row := World.grownBy_alloc w o row
set_option maxHeartbeats 1600000 in
theorem joinWrites_any (b o : Bd) (hs : Bo.Shaped b) (ho : Bo.Shaped o) (s so : Value) (g : Nat) (w0 : World) (kg : Blk w0 g 41 (bc b s)) :
    Calls Tryz.prog 20 #[.pointer (some ⟨g, 0, none⟩), .agg (bc o so)] w0 (TurnB 41 g w0 { b with t := Tally.joinL b.t o.t } s) := by
  have HS := Lib.hid hs
  have HO := Lib.hid ho
  have S16 := Lib.hid (show (tc b.t).size = 16 by rw [tc_size, hs.t])
  have O16 := Lib.hid (show (tc o.t).size = 16 by rw [tc_size, ho.t])
  have HC := Lib.hid fun w => join_any b.t o.t w hs.t ho.t
  obtain ⟨t', ht⟩ : ∃ t', t' = Tally.joinL b.t o.t := ⟨_, rfl⟩
  have T16 := Lib.hid (show t'.length = 16 by rw [ht]; exact join_len hs.t ho.t)
  have N16 := Lib.hid (show (tc t').size = 16 by rw [tc_size, T16.out])
  have N1 := Lib.hid (tc_one t')
  rw [← ht] at HC ⊢
  have b49 := Lib.hid (bc_size (s := s) hs)
  clear hs ho ht
  go_enter Tryz.func20, Tryz.ntmps20
  go_upto_region 1 with fail
  refine nameW ?_
  intro wv hwv
  obtain ⟨g2, hg2⟩ : ∃ g2, g2 = w0.heap.size := ⟨_, rfl⟩
  rw [← hg2]
  have k0 : Blk wv g 41 (bc b s) := by rw [hwv]; exact kg.alloc _
  have k1 : Blk wv g2 41 (bc o so) := by rw [hwv, hg2]; exact Blk.new w0 _ _
  have gg : w0.grownBy wv (some g) := by rw [hwv]; exact new_grows _ _ _
  clear hwv hg2 kg
  refine wp_region_tail 8 (fun L v w => v 0 = .pointer (some ⟨g, 0, none⟩) ∧ v 3 = .pointer (some ⟨g2, 0, none⟩) ∧ Below wv.heap.size wv w ∧ (L 0 = true → v 4 = .pointer (some ⟨g, 0, none⟩)) ∧ (L 1 = true → v 5 = .pointer (some ⟨g, 0, none⟩)) ∧ (L 2 = true → v 6 = .pointer (some ⟨g, 0, none⟩)) ∧ (L 3 = true → v 7 = .pointer (some ⟨g, 0, none⟩)) ∧ (L 4 = true → v 8 = .agg (tc b.t)) ∧ (L 5 = true → v 9 = .pointer (some ⟨g2, 0, none⟩)) ∧ (L 6 = true → v 10 = .agg (tc o.t)) ∧ (L 7 = true → v 11 = .agg (tc t'))) [4, 5, 6, 7, 8, 9, 10, 11] (by kernel_rfl) (by kernel_rfl) (by kernel_rfl) (by kernel_rfl) (by kernel_rfl) (by kernel_rfl) ?h0 ?hst ?hend
  case h0 =>
    intro L h0
    have h0 : ∀ i, i < 8 → L i = false := h0
    exact ⟨rfl, rfl, (Below.refl _ _).drew, offF h0 (i := 0) (by decide), offF h0 (i := 1) (by decide), offF h0 (i := 2) (by decide), offF h0 (i := 3) (by decide), offF h0 (i := 4) (by decide), offF h0 (i := 5) (by decide), offF h0 (i := 6) (by decide), offF h0 (i := 7) (by decide)⟩
  case hst =>
    show FactSteps _ _ _ _ [0, 1, 2, 3, 4, 5, 6, 7]
    refine @FactSteps.cons _ _ _ _ 0 _ [] _ rfl (by kernel_rfl) ?s0 ?_
    rotate_left
    refine @FactSteps.cons _ _ _ _ 1 _ [] _ rfl (by kernel_rfl) ?s1 ?_
    rotate_left
    refine @FactSteps.cons _ _ _ _ 2 _ [1] _ rfl (by kernel_rfl) ?s2 ?_
    rotate_left
    refine @FactSteps.cons _ _ _ _ 3 _ [2] _ rfl (by kernel_rfl) ?s3 ?_
    rotate_left
    refine @FactSteps.cons _ _ _ _ 4 _ [3] _ rfl (by kernel_rfl) ?s4 ?_
    rotate_left
    refine @FactSteps.cons _ _ _ _ 5 _ [] _ rfl (by kernel_rfl) ?s5 ?_
    rotate_left
    refine @FactSteps.cons _ _ _ _ 6 _ [5] _ rfl (by kernel_rfl) ?s6 ?_
    rotate_left
    refine @FactSteps.cons _ _ _ _ 7 _ [4, 6] _ rfl (by kernel_rfl) ?s7 ?_
    rotate_left
    exact FactSteps.nil
    case s0 =>
      rintro L a v w hv hg hL hd hcl ⟨e0, e3, hb, f0, f1, f2, f3, f4, f5, f6, f7⟩ K hK
      refine step_do rfl ?_
      clear hv
      go_simp
      exact hK.out _ _ ⟨e0, e3, hb, fun _ => rfl, f1, f2, f3, f4, f5, f6, f7⟩
    case s1 =>
      rintro L a v w hv hg hL hd hcl ⟨e0, e3, hb, f0, f1, f2, f3, f4, f5, f6, f7⟩ K hK
      refine step_do rfl ?_
      clear hv
      go_simp
      exact hK.out _ _ ⟨e0, e3, hb, f0, fun _ => rfl, f2, f3, f4, f5, f6, f7⟩
    case s2 =>
      rintro L a v w hv hg hL hd hcl ⟨e0, e3, hb, f0, f1, f2, f3, f4, f5, f6, f7⟩ K hK
      have g1 := f1 (hd 1 (by decide))
      refine step_do rfl ?_
      clear hv
      go_simp
      exact hK.out _ _ ⟨e0, e3, hb, f0, f1, fun _ => rfl, f3, f4, f5, f6, f7⟩
    case s3 =>
      rintro L a v w hv hg hL hd hcl ⟨e0, e3, hb, f0, f1, f2, f3, f4, f5, f6, f7⟩ K hK
      have g2 := f2 (hd 2 (by decide))
      refine step_do rfl ?_
      clear hv
      go_simp
      exact hK.out _ _ ⟨e0, e3, hb, f0, f1, f2, fun _ => rfl, f4, f5, f6, f7⟩
    case s4 =>
      rintro L a v w hv hg hL hd hcl ⟨e0, e3, hb, f0, f1, f2, f3, f4, f5, f6, f7⟩ K hK
      have g3 := f3 (hd 3 (by decide))
      refine step_do rfl ?_
      refine wp_ldr rowT (.tmp 7) rfl ((hv 7).trans g3) ((k0.below hb k0.lt).tal HS.out) S16.out ?_
      exact hK.out _ _ ⟨e0, e3, hb, f0, f1, f2, f3, fun _ => rfl, f5, f6, f7⟩
    case s5 =>
      rintro L a v w hv hg hL hd hcl ⟨e0, e3, hb, f0, f1, f2, f3, f4, f5, f6, f7⟩ K hK
      refine step_do rfl ?_
      clear hv
      go_simp
      exact hK.out _ _ ⟨e0, e3, hb, f0, f1, f2, f3, f4, fun _ => rfl, f6, f7⟩
    case s6 =>
      rintro L a v w hv hg hL hd hcl ⟨e0, e3, hb, f0, f1, f2, f3, f4, f5, f6, f7⟩ K hK
      have g5 := f5 (hd 5 (by decide))
      refine step_do rfl ?_
      refine wp_ldr rowT (.tmp 9) rfl ((hv 9).trans g5) ((k1.below hb k1.lt).tal HO.out) O16.out ?_
      exact hK.out _ _ ⟨e0, e3, hb, f0, f1, f2, f3, f4, f5, fun _ => rfl, f7⟩
    case s7 =>
      rintro L a v w hv hg hL hd hcl ⟨e0, e3, hb, f0, f1, f2, f3, f4, f5, f6, f7⟩ K hK
      have h4 := f4 (hd 4 (by decide))
      have h6 := f6 (hd 6 (by decide))
      refine step_do rfl ?_
      clear hv
      go_simp
      refine (HC.out _).mono ?_
      rintro e wy ⟨rfl, bb⟩
      exact hK.out _ _ ⟨e0, e3, (hb.trans (bb.mono hb.size)), f0, f1, f2, f3, f4, f5, f6, fun _ => rfl⟩
  case hend =>
  rintro L v w3 hall ⟨e0, e3, hb, f0, f1, f2, f3, f4, f5, f6, f7⟩
  have hL : ∀ i, i < 8 → L i = true := hall
  have f0 := f0 (hL 0 (by decide))
  have f1 := f1 (hL 1 (by decide))
  have f2 := f2 (hL 2 (by decide))
  have f3 := f3 (hL 3 (by decide))
  have f4 := f4 (hL 4 (by decide))
  have f5 := f5 (hL 5 (by decide))
  have f6 := f6 (hL 6 (by decide))
  have f7 := f7 (hL 7 (by decide))
  simp only [finA, List.foldl_cons, List.foldl_nil, Act.put, List.setIfInBounds_toArray, List.set_cons_succ, List.set_cons_zero, f0, f1, f2, f3, f4, f5, f6, f7]
  have k0 := k0.below hb k0.lt
  have gg := grows_below gg hb
  have hth := k0.there_ (o := 0) (n := 16) (by rw [b49.out]; omega)
  clear e0 e3 f0 f1 f2 f3 f4 f5 f6 f7 hL hall hb k1 HC
  show wpList _ _ _ [_, _, _] _ _
  go_wp2_with ((with_reducible refine wpList_str rowT hth N16.out N1.out ?_ ?_ ?_); rotate_left; (rfl); (rfl); intro w4 hw4)
  go_end0
  have gx := cells_grown w3 g 0 (tc t').toList
  have kx := k0.setT HS.out T16.out
  rw [← hw4] at gx kx
  exact ⟨rfl, kx, grows_trans gg gx⟩
set_option maxHeartbeats 1600000 in
theorem joinNotes_any (b o : Bd) (hs : Bo.Shaped b) (ho : Bo.Shaped o) (hr : Reg.rightM b.u b.l = true) (hor : Reg.rightM o.u o.l = true) (A A2 : Option Addr) (m c m2 c2 : Nat) (g : Nat) (w0 : World) (kg : Blk w0 g 41 (bc b (.slice A m c)))
    (hb1 : RdV w0 w0.heap.size A m b.l) (hb2 : RdV w0 w0.heap.size A2 m2 o.l) (hm : m ≤ 100000) (hm2 : m2 ≤ 100000) :
    Calls Tryz.prog 22 #[.pointer (some ⟨g, 0, none⟩), .agg (bc o (.slice A2 m2 c2))] w0 (TurnN 41 84 g w0 { b with u := Reg.maxU b.u o.u, l := Reg.meetL b.u o.u b.l o.l }) := by
  have HS := Lib.hid hs
  have HO := Lib.hid ho
  have S9 := Lib.hid (uc_size hs.u (.slice A m c))
  have O9 := Lib.hid (uc_size ho.u (.slice A2 m2 c2))
  obtain ⟨u', hu'⟩ : ∃ u', u' = Reg.maxU b.u o.u := ⟨_, rfl⟩
  obtain ⟨l', hl'⟩ : ∃ l', l' = Reg.meetL b.u o.u b.l o.l := ⟨_, rfl⟩
  have U8 := Lib.hid (show u'.length = 8 by rw [hu']; exact Reg.maxU_len _ _)
  have L8 := Lib.hid (show l'.length ≤ 8 by rw [hl']; exact Reg.meetL_len _ _ _ _)
  have hc := fun (w' : World) (hbb : Below w0.heap.size w0 w') => meet29_any b.u o.u hs.u ho.u A A2 m c m2 c2 b.l o.l w' (hb1.below hbb).size (hb2.below hbb).size hm hm2
  have e1 : Reg.ownM b.u b.l = (b.u, b.l) := by unfold Reg.ownM; rw [if_pos hr]
  have e2 : Reg.ownM o.u o.l = (o.u, o.l) := by unfold Reg.ownM; rw [if_pos hor]
  rw [e1, e2] at hc
  have hc' : ∀ w', Below w0.heap.size w0 w' → Calls Tryz.prog 61 #[.agg (uc b.u (.slice A m c)), .agg (uc o.u (.slice A2 m2 c2))] w' (CopyV 84 w' u' l') := by
    rw [hu', hl']
    exact hc
  have HC := Lib.hid hc'
  rw [← hu', ← hl']
  have b49 := Lib.hid (bc_size (s := .slice A m c) hs)
  clear hs ho hc hc' e1 e2 hu' hl' hb1 hb2 hr hor
  go_enter Tryz.func22, Tryz.ntmps22
  go_upto_region 1 with fail
  refine nameW ?_
  intro wv hwv
  obtain ⟨g2, hg2⟩ : ∃ g2, g2 = w0.heap.size := ⟨_, rfl⟩
  rw [← hg2]
  have k0 : Blk wv g 41 (bc b (.slice A m c)) := by rw [hwv]; exact kg.alloc _
  have k1 : Blk wv g2 41 (bc o (.slice A2 m2 c2)) := by rw [hwv, hg2]; exact Blk.new w0 _ _
  have gg : w0.grownBy wv (some g) := by rw [hwv]; exact new_grows _ _ _
  have hB : Below w0.heap.size w0 wv := by rw [hwv]; exact (Below.refl _ _).alloc (Nat.le_refl _) _
  clear hwv hg2 kg
  refine wp_region_tail 8 (fun L v w => v 0 = .pointer (some ⟨g, 0, none⟩) ∧ v 3 = .pointer (some ⟨g2, 0, none⟩) ∧ Below wv.heap.size wv w ∧ (L 0 = true → v 4 = .pointer (some ⟨g, 0, none⟩)) ∧ (L 1 = true → v 5 = .pointer (some ⟨g, 0, none⟩)) ∧ (L 2 = true → v 6 = .pointer (some ⟨g, 0, none⟩)) ∧ (L 3 = true → v 7 = .pointer (some ⟨g, 40, none⟩)) ∧ (L 4 = true → v 8 = .agg (uc b.u (.slice A m c))) ∧ (L 5 = true → v 9 = .pointer (some ⟨g2, 40, none⟩)) ∧ (L 6 = true → v 10 = .agg (uc o.u (.slice A2 m2 c2))) ∧ (L 7 = true → ∃ A3 m3 c3, v 11 = .agg (uc u' (.slice A3 m3 c3)) ∧ OwnV 84 w 0 A3 m3 c3 l')) [4, 5, 6, 7, 8, 9, 10, 11] (by kernel_rfl) (by kernel_rfl) (by kernel_rfl) (by kernel_rfl) (by kernel_rfl) (by kernel_rfl) ?h0 ?hst ?hend
  case h0 =>
    intro L h0
    have h0 : ∀ i, i < 8 → L i = false := h0
    exact ⟨rfl, rfl, (Below.refl _ _).drew, offF h0 (i := 0) (by decide), offF h0 (i := 1) (by decide), offF h0 (i := 2) (by decide), offF h0 (i := 3) (by decide), offF h0 (i := 4) (by decide), offF h0 (i := 5) (by decide), offF h0 (i := 6) (by decide), offF h0 (i := 7) (by decide)⟩
  case hst =>
    show FactSteps _ _ _ _ [0, 1, 2, 3, 4, 5, 6, 7]
    refine @FactSteps.cons _ _ _ _ 0 _ [] _ rfl (by kernel_rfl) ?s0 ?_
    rotate_left
    refine @FactSteps.cons _ _ _ _ 1 _ [] _ rfl (by kernel_rfl) ?s1 ?_
    rotate_left
    refine @FactSteps.cons _ _ _ _ 2 _ [1] _ rfl (by kernel_rfl) ?s2 ?_
    rotate_left
    refine @FactSteps.cons _ _ _ _ 3 _ [2] _ rfl (by kernel_rfl) ?s3 ?_
    rotate_left
    refine @FactSteps.cons _ _ _ _ 4 _ [3] _ rfl (by kernel_rfl) ?s4 ?_
    rotate_left
    refine @FactSteps.cons _ _ _ _ 5 _ [] _ rfl (by kernel_rfl) ?s5 ?_
    rotate_left
    refine @FactSteps.cons _ _ _ _ 6 _ [5] _ rfl (by kernel_rfl) ?s6 ?_
    rotate_left
    refine @FactSteps.cons _ _ _ _ 7 _ [4, 6] _ rfl (by kernel_rfl) ?s7 ?_
    rotate_left
    exact FactSteps.nil
    case s0 =>
      rintro L a v w hv hg hL hd hcl ⟨e0, e3, hb, f0, f1, f2, f3, f4, f5, f6, f7⟩ K hK
      refine step_do rfl ?_
      clear hv
      go_simp
      exact hK.out _ _ ⟨e0, e3, hb, fun _ => rfl, f1, f2, f3, f4, f5, f6, f7⟩
    case s1 =>
      rintro L a v w hv hg hL hd hcl ⟨e0, e3, hb, f0, f1, f2, f3, f4, f5, f6, f7⟩ K hK
      refine step_do rfl ?_
      clear hv
      go_simp
      exact hK.out _ _ ⟨e0, e3, hb, f0, fun _ => rfl, f2, f3, f4, f5, f6, f7⟩
    case s2 =>
      rintro L a v w hv hg hL hd hcl ⟨e0, e3, hb, f0, f1, f2, f3, f4, f5, f6, f7⟩ K hK
      have g1 := f1 (hd 1 (by decide))
      refine step_do rfl ?_
      clear hv
      go_simp
      exact hK.out _ _ ⟨e0, e3, hb, f0, f1, fun _ => rfl, f3, f4, f5, f6, f7⟩
    case s3 =>
      rintro L a v w hv hg hL hd hcl ⟨e0, e3, hb, f0, f1, f2, f3, f4, f5, f6, f7⟩ K hK
      have g2 := f2 (hd 2 (by decide))
      refine step_do rfl ?_
      clear hv
      go_simp
      exact hK.out _ _ ⟨e0, e3, hb, f0, f1, f2, fun _ => rfl, f4, f5, f6, f7⟩
    case s4 =>
      rintro L a v w hv hg hL hd hcl ⟨e0, e3, hb, f0, f1, f2, f3, f4, f5, f6, f7⟩ K hK
      have g3 := f3 (hd 3 (by decide))
      refine step_do rfl ?_
      refine wp_ldr rowM (.tmp 7) rfl ((hv 7).trans g3) ((k0.below hb k0.lt).notes HS.out) S9.out ?_
      exact hK.out _ _ ⟨e0, e3, hb, f0, f1, f2, f3, fun _ => rfl, f5, f6, f7⟩
    case s5 =>
      rintro L a v w hv hg hL hd hcl ⟨e0, e3, hb, f0, f1, f2, f3, f4, f5, f6, f7⟩ K hK
      refine step_do rfl ?_
      clear hv
      go_simp
      exact hK.out _ _ ⟨e0, e3, hb, f0, f1, f2, f3, f4, fun _ => rfl, f6, f7⟩
    case s6 =>
      rintro L a v w hv hg hL hd hcl ⟨e0, e3, hb, f0, f1, f2, f3, f4, f5, f6, f7⟩ K hK
      have g5 := f5 (hd 5 (by decide))
      refine step_do rfl ?_
      refine wp_ldr rowM (.tmp 9) rfl ((hv 9).trans g5) ((k1.below hb k1.lt).notes HO.out) O9.out ?_
      exact hK.out _ _ ⟨e0, e3, hb, f0, f1, f2, f3, f4, f5, fun _ => rfl, f7⟩
    case s7 =>
      rintro L a v w hv hg hL hd hcl ⟨e0, e3, hb, f0, f1, f2, f3, f4, f5, f6, f7⟩ K hK
      have h4 := f4 (hd 4 (by decide))
      have h6 := f6 (hd 6 (by decide))
      refine step_do rfl ?_
      clear hv
      go_simp
      refine (HC.out _ (hB.trans (hb.mono hB.size))).mono ?_
      rintro e wy ⟨A3, m3, c3, rfl, o3, bb⟩
      exact hK.out _ _ ⟨e0, e3, (hb.trans (bb.mono hb.size)), f0, f1, f2, f3, f4, f5, f6, fun _ => ⟨A3, m3, c3, rfl, o3.mono (Nat.zero_le _)⟩⟩
  case hend =>
  rintro L v w3 hall ⟨e0, e3, hb, f0, f1, f2, f3, f4, f5, f6, f7⟩
  have hL : ∀ i, i < 8 → L i = true := hall
  have f0 := f0 (hL 0 (by decide))
  have f1 := f1 (hL 1 (by decide))
  have f2 := f2 (hL 2 (by decide))
  have f3 := f3 (hL 3 (by decide))
  have f4 := f4 (hL 4 (by decide))
  have f5 := f5 (hL 5 (by decide))
  have f6 := f6 (hL 6 (by decide))
  have f7 := f7 (hL 7 (by decide))
  obtain ⟨A3, m3, c3, e7, o3⟩ := f7
  simp only [finA, List.foldl_cons, List.foldl_nil, Act.put, List.setIfInBounds_toArray, List.set_cons_succ, List.set_cons_zero, f0, f1, f2, f3, f4, f5, f6, e7]
  have k0 := k0.below hb k0.lt
  have gg := grows_below gg hb
  have hth := k0.there_ (o := 40) (n := 9) (by rw [b49.out]; omega)
  have N9 := Lib.hid (uc_size U8.out (.slice A3 m3 c3))
  have N1 := Lib.hid (uc_one (U := u') (s := .slice A3 m3 c3) rfl)
  clear e0 e3 f0 f1 f2 f3 f4 f5 f6 hL hall e7 hb k1 HC
  show wpList _ _ _ [_, _, _] _ _
  go_wp2_with ((with_reducible refine wpList_str rowM hth N9.out N1.out ?_ ?_ ?_); rotate_left; (rfl); (rfl); intro w4 hw4)
  go_end0
  have gx := cells_grown w3 g 40 (uc u' (.slice A3 m3 c3)).toList
  have kx := k0.setN HS.out (l := l') (s' := .slice A3 m3 c3) U8.out
  rw [← hw4] at gx kx
  have o4 := o3.grown gx (.inr (own_ne o3.2 k0 (by decide)))
  exact ⟨A3, m3, c3, ⟨rfl, kx, grows_trans gg gx⟩, o4, by have := o4.1; have := L8.out; omega⟩
theorem mixP_len {p q : List La} (hp : p.length = 8) (hq : q.length = 8) (k : Nat) (hk : k ≤ 8) : ((List.zipWith Reg.joinL p q).take k ++ p.drop k).length = 8 := by
  rw [List.length_append, List.length_take, List.length_drop, List.length_zipWith, hp, hq]
  omega
theorem mixP_at {p q : List La} (hp : p.length = 8) (hq : q.length = 8) {k : Nat} (hk : k < 8) : ((List.zipWith Reg.joinL p q).take k ++ p.drop k).getD k (0, 0, 0) = p.getD k (0, 0, 0) := by
  rw [List.getD_eq_getElem?_getD, List.getElem?_append_right (by rw [List.length_take, List.length_zipWith, hp, hq]; omega), List.length_take, List.length_zipWith, hp, hq, List.getElem?_drop, List.getD_eq_getElem?_getD]
  congr 2
  omega
theorem mixP_set {p q : List La} (hp : p.length = 8) (hq : q.length = 8) {k : Nat} (hk : k < 8) : ((List.zipWith Reg.joinL p q).take k ++ p.drop k).set k (Reg.joinL (p.getD k (0, 0, 0)) (q.getD k (0, 0, 0))) = (List.zipWith Reg.joinL p q).take (k + 1) ++ p.drop (k + 1) := by
  have hz : (List.zipWith Reg.joinL p q).length = 8 := by rw [List.length_zipWith, hp, hq]; rfl
  have h1 : ((List.zipWith Reg.joinL p q).take k).length = k := by rw [List.length_take, hz]; omega
  have h2 : p.drop k = p.getD k (0, 0, 0) :: p.drop (k + 1) := by
    rw [List.drop_eq_getElem_cons (by omega), List.getD_eq_getElem?_getD, List.getElem?_eq_getElem (by omega)]
    rfl
  have h3 : (List.zipWith Reg.joinL p q).take (k + 1) = (List.zipWith Reg.joinL p q).take k ++ [Reg.joinL (p.getD k (0, 0, 0)) (q.getD k (0, 0, 0))] := by
    rw [take_snoc _ (by omega), List.getElem_zipWith, List.getD_eq_getElem?_getD, List.getD_eq_getElem?_getD, List.getElem?_eq_getElem (by omega), List.getElem?_eq_getElem (by omega)]
    rfl
  rw [List.set_append_right _ _ (by omega), h1, Nat.sub_self, h2, List.set_cons_zero, h3, List.append_assoc]
  rfl
theorem v3_pc (p : La) : v3 p = .agg (pc p).toArray := rfl
set_option maxHeartbeats 1600000 in
theorem joinPlans_any (b o : Bd) (hs : Bo.Shaped b) (ho : Bo.Shaped o) (s so : Value) (g : Nat) (w0 : World) (kg : Blk w0 g 41 (bc b s)) :
    Calls Tryz.prog 21 #[.pointer (some ⟨g, 0, none⟩), .agg (bc o so)] w0 (TurnB 41 g w0 { b with p := List.zipWith Reg.joinL b.p o.p } s) := by
  have HS := Lib.hid hs
  have HO := Lib.hid ho
  have O24 := Lib.hid (plA_size ho.p)
  clear hs ho
  go_enter Tryz.func21, Tryz.ntmps21
  go_upto_region 1 with fail
  refine nameW ?_
  intro wv hwv
  obtain ⟨g2, hg2⟩ : ∃ g2, g2 = w0.heap.size := ⟨_, rfl⟩
  rw [← hg2]
  have k0 : Blk wv g 41 (bc b s) := by rw [hwv]; exact kg.alloc _
  have k1 : Blk wv g2 41 (bc o so) := by rw [hwv, hg2]; exact Blk.new w0 _ _
  have gg : w0.grownBy wv (some g) := by rw [hwv]; exact new_grows _ _ _
  have hgl : g < w0.heap.size := kg.lt
  have HGL := Lib.hid hgl
  clear hwv hg2 kg hgl
  have hpl : wv.rangeAt g2 16 (plA o.p).toList := k1.plans HO.out
  go_wp2_with first
    | ((with_reducible refine wpList_ldr rowPl hpl O24.out ?_ ?_); rotate_left; (rfl))
  go_loopw [8] (fun i wr => ∃ k : Nat, k ≤ 8 ∧ i = .int .i64 (k : Nat) ∧ Blk wr g 41 (bc { b with p := (List.zipWith Reg.joinL b.p o.p).take k ++ b.p.drop k } s) ∧ w0.grownBy wr (some g)) (fun i _ => 8 - (intOf i).toNat)
  case atStart => exact ⟨0, by omega, rfl, by rw [List.take_zero, List.drop_zero, List.nil_append]; exact k0, gg⟩
  case round =>
    clear k0 k1 gg hpl
    obtain ⟨k, hk, rfl, k0, gg⟩ := hrel
    by_cases hlt : k < 8
    · have hk0 : (0 : Int) ≤ (k : Int) := by omega
      have hk1 : (k : Int) < 8 := by omega
      have hix := fun w' => run_indexP w' o.p HO.out.p k hlt
      have hat := mixP_at HS.out.p HO.out.p hlt
      have hst := mixP_set HS.out.p HO.out.p hlt
      obtain ⟨q, hq⟩ : ∃ q, q = o.p.getD k (0, 0, 0) := ⟨_, rfl⟩
      obtain ⟨p, hp⟩ : ∃ p, p = b.p.getD k (0, 0, 0) := ⟨_, rfl⟩
      rw [← hq] at hix hst
      rw [← hp] at hat hst
      obtain ⟨z, hz⟩ : ∃ z, z = Reg.joinL p q := ⟨_, rfl⟩
      have hc := fun w => join29_any p q w
      rw [← hz] at hst hc
      obtain ⟨x, y, u⟩ := q
      unfold v3 at hix
      simp only at hix
      have HIX := Lib.hid hix
      have HST := Lib.hid hst
      have HC := Lib.hid (show ∀ w, Calls Tryz.prog 60 #[.agg (pc p).toArray, .agg #[.int .i64 x, .int .i64 y, .int .i64 u]] w fun e w' => e = .returned (.agg (pc z).toArray) ∧ Below w.heap.size w w' from hc)
      have hss : Bo.Shaped { b with p := (List.zipWith Reg.joinL b.p o.p).take k ++ b.p.drop k } := ⟨HS.out.t, mixP_len HS.out.p HO.out.p k hk, HS.out.u⟩
      obtain ⟨b0, hb0⟩ : ∃ b0 : Bd, b0 = { b with p := (List.zipWith Reg.joinL b.p o.p).take k ++ b.p.drop k } := ⟨_, rfl⟩
      rw [← hb0] at k0 hss
      have HAT := Lib.hid (show b0.p.getD k (0, 0, 0) = p by rw [hb0]; exact hat)
      have HSB := Lib.hid (show ({ b0 with p := b0.p.set k z } : Bd) = { b with p := (List.zipWith Reg.joinL b.p o.p).take (k + 1) ++ b.p.drop (k + 1) } by rw [hb0]; simp only; rw [hst])
      have HSS := Lib.hid hss
      have SZ := Lib.hid (show (pc z).toArray.size = 3 from rfl)
      have OZ := Lib.hid (show (pc z).toArray.all (·.oneCell') = true from th_one _ _ _)
      have B49 := Lib.hid (bc_size (s := s) hss)
      clear hix hst hq hp hat hc hz hss hb0 HST
      go_upto_region 4 with first
        | ((with_reducible refine wpList_ix (HIX.out _) ?_ ?_ ?_); rotate_left; (rfl); (rfl))
        | ((with_reducible refine wpList_st (cs := #[.int .i64 x, .int .i64 y, .int .i64 u]) rowLa (Blk.new _ _ _) (th_size _ _ _) ?_ (th_one _ _ _) ?_ ?_ ?_); (rfl); rotate_left; (rfl); (rfl); intro w3 kq g3 z3)
      have bq : Below wr.heap.size wr w3 := new_below g3
      have k0 := k0.below bq k0.lt
      have gg := grows_below gg bq
      generalize hX : wr.heap.size = X at kq
      clear g3 z3 bq hX
      refine wp_region_tail 12 (fun L v w => v 5 = .pointer (some ⟨X, 0, none⟩) ∧ v 0 = .pointer (some ⟨g, 0, none⟩) ∧ v 4 = .int .i64 (k : Nat) ∧ Below w3.heap.size w3 w ∧ (L 0 = true → v 12 = .pointer (some ⟨g, 0, none⟩)) ∧ (L 1 = true → v 13 = .int .i64 (k : Nat)) ∧ (L 2 = true → v 14 = .pointer (some ⟨g, 0, none⟩)) ∧ (L 3 = true → v 15 = .int .i64 (k : Nat)) ∧ (L 4 = true → v 16 = .pointer (some ⟨g, 0, none⟩)) ∧ (L 5 = true → v 17 = .pointer (some ⟨g, 16, none⟩)) ∧ (L 6 = true → v 18 = .pointer (some ⟨g, 16 + k * 3, none⟩)) ∧ (L 7 = true → v 19 = .agg (pc p).toArray) ∧ (L 8 = true → v 20 = .agg #[.int .i64 x, .int .i64 y, .int .i64 u]) ∧ (L 9 = true → v 21 = .agg (pc z).toArray) ∧ (L 10 = true → v 22 = .pointer (some ⟨g, 0, none⟩)) ∧ (L 11 = true → v 23 = .pointer (some ⟨g, 16, none⟩))) [12, 13, 14, 15, 16, 17, 18, 19, 20, 21, 22, 23] (by kernel_rfl) (by kernel_rfl) (by kernel_rfl) (by kernel_rfl) (by kernel_rfl) (by kernel_rfl) ?h0 ?hst ?hend
      case h0 =>
        intro L h0
        have h0 : ∀ i, i < 12 → L i = false := h0
        exact ⟨rfl, rfl, rfl, (Below.refl _ _).drew, offF h0 (i := 0) (by decide), offF h0 (i := 1) (by decide), offF h0 (i := 2) (by decide), offF h0 (i := 3) (by decide), offF h0 (i := 4) (by decide), offF h0 (i := 5) (by decide), offF h0 (i := 6) (by decide), offF h0 (i := 7) (by decide), offF h0 (i := 8) (by decide), offF h0 (i := 9) (by decide), offF h0 (i := 10) (by decide), offF h0 (i := 11) (by decide)⟩
      case hst =>
        show FactSteps _ _ _ _ [0, 1, 2, 3, 4, 5, 6, 7, 8, 9, 10, 11]
        refine @FactSteps.cons _ _ _ _ 0 _ [] _ rfl (by kernel_rfl) ?s0 ?_
        rotate_left
        refine @FactSteps.cons _ _ _ _ 1 _ [] _ rfl (by kernel_rfl) ?s1 ?_
        rotate_left
        refine @FactSteps.cons _ _ _ _ 2 _ [] _ rfl (by kernel_rfl) ?s2 ?_
        rotate_left
        refine @FactSteps.cons _ _ _ _ 3 _ [] _ rfl (by kernel_rfl) ?s3 ?_
        rotate_left
        refine @FactSteps.cons _ _ _ _ 4 _ [2] _ rfl (by kernel_rfl) ?s4 ?_
        rotate_left
        refine @FactSteps.cons _ _ _ _ 5 _ [4] _ rfl (by kernel_rfl) ?s5 ?_
        rotate_left
        refine @FactSteps.cons _ _ _ _ 6 _ [5, 3] _ rfl (by kernel_rfl) ?s6 ?_
        rotate_left
        refine @FactSteps.cons _ _ _ _ 7 _ [6] _ rfl (by kernel_rfl) ?s7 ?_
        rotate_left
        refine @FactSteps.cons _ _ _ _ 8 _ [] _ rfl (by kernel_rfl) ?s8 ?_
        rotate_left
        refine @FactSteps.cons _ _ _ _ 9 _ [7, 8] _ rfl (by kernel_rfl) ?s9 ?_
        rotate_left
        refine @FactSteps.cons _ _ _ _ 10 _ [0] _ rfl (by kernel_rfl) ?s10 ?_
        rotate_left
        refine @FactSteps.cons _ _ _ _ 11 _ [10] _ rfl (by kernel_rfl) ?s11 ?_
        rotate_left
        exact FactSteps.nil
        case s0 =>
          rintro L a v w hv hg hL hd hcl ⟨e5, e0, e4, hb, f0, f1, f2, f3, f4, f5, f6, f7, f8, f9, f10, f11⟩ K hK
          refine step_do rfl ?_
          clear hv
          go_simp
          exact hK.out _ _ ⟨e5, e0, e4, hb, fun _ => rfl, f1, f2, f3, f4, f5, f6, f7, f8, f9, f10, f11⟩
        case s1 =>
          rintro L a v w hv hg hL hd hcl ⟨e5, e0, e4, hb, f0, f1, f2, f3, f4, f5, f6, f7, f8, f9, f10, f11⟩ K hK
          refine step_do rfl ?_
          clear hv
          go_simp
          exact hK.out _ _ ⟨e5, e0, e4, hb, f0, fun _ => rfl, f2, f3, f4, f5, f6, f7, f8, f9, f10, f11⟩
        case s2 =>
          rintro L a v w hv hg hL hd hcl ⟨e5, e0, e4, hb, f0, f1, f2, f3, f4, f5, f6, f7, f8, f9, f10, f11⟩ K hK
          refine step_do rfl ?_
          clear hv
          go_simp
          exact hK.out _ _ ⟨e5, e0, e4, hb, f0, f1, fun _ => rfl, f3, f4, f5, f6, f7, f8, f9, f10, f11⟩
        case s3 =>
          rintro L a v w hv hg hL hd hcl ⟨e5, e0, e4, hb, f0, f1, f2, f3, f4, f5, f6, f7, f8, f9, f10, f11⟩ K hK
          refine step_do rfl ?_
          clear hv
          go_simp
          exact hK.out _ _ ⟨e5, e0, e4, hb, f0, f1, f2, fun _ => rfl, f4, f5, f6, f7, f8, f9, f10, f11⟩
        case s4 =>
          rintro L a v w hv hg hL hd hcl ⟨e5, e0, e4, hb, f0, f1, f2, f3, f4, f5, f6, f7, f8, f9, f10, f11⟩ K hK
          have g2 := f2 (hd 2 (by decide))
          refine step_do rfl ?_
          clear hv
          go_simp
          exact hK.out _ _ ⟨e5, e0, e4, hb, f0, f1, f2, f3, fun _ => rfl, f5, f6, f7, f8, f9, f10, f11⟩
        case s5 =>
          rintro L a v w hv hg hL hd hcl ⟨e5, e0, e4, hb, f0, f1, f2, f3, f4, f5, f6, f7, f8, f9, f10, f11⟩ K hK
          have g4 := f4 (hd 4 (by decide))
          refine step_do rfl ?_
          clear hv
          go_simp
          exact hK.out _ _ ⟨e5, e0, e4, hb, f0, f1, f2, f3, f4, fun _ => rfl, f6, f7, f8, f9, f10, f11⟩
        case s6 =>
          rintro L a v w hv hg hL hd hcl ⟨e5, e0, e4, hb, f0, f1, f2, f3, f4, f5, f6, f7, f8, f9, f10, f11⟩ K hK
          have g3 := f3 (hd 3 (by decide))
          have g5 := f5 (hd 5 (by decide))
          refine step_do rfl ?_
          clear hv
          go_simp
          exact hK.out _ _ ⟨e5, e0, e4, hb, f0, f1, f2, f3, f4, f5, fun _ => rfl, f7, f8, f9, f10, f11⟩
        case s7 =>
          rintro L a v w hv hg hL hd hcl ⟨e5, e0, e4, hb, f0, f1, f2, f3, f4, f5, f6, f7, f8, f9, f10, f11⟩ K hK
          have g6 := f6 (hd 6 (by decide))
          refine step_do rfl ?_
          have hpl : w.rangeAt g (16 + k * 3) (pc p).toArray.toList := by have := (k0.below hb k0.lt).plan HSS.out hlt; rw [HAT.out] at this; exact this
          refine wp_ldr rowLa (.tmp 18) rfl ((hv 18).trans g6) hpl rfl ?_
          exact hK.out _ _ ⟨e5, e0, e4, hb, f0, f1, f2, f3, f4, f5, f6, fun _ => rfl, f8, f9, f10, f11⟩
        case s8 =>
          rintro L a v w hv hg hL hd hcl ⟨e5, e0, e4, hb, f0, f1, f2, f3, f4, f5, f6, f7, f8, f9, f10, f11⟩ K hK
          refine step_do rfl ?_
          refine wp_ld rowLa (.tmp 5) rfl ((hv 5).trans e5) (kq.below hb kq.lt) (th_size _ _ _) ?_
          exact hK.out _ _ ⟨e5, e0, e4, hb, f0, f1, f2, f3, f4, f5, f6, f7, fun _ => rfl, f9, f10, f11⟩
        case s9 =>
          rintro L a v w hv hg hL hd hcl ⟨e5, e0, e4, hb, f0, f1, f2, f3, f4, f5, f6, f7, f8, f9, f10, f11⟩ K hK
          have h7 := f7 (hd 7 (by decide))
          have h8 := f8 (hd 8 (by decide))
          refine step_do rfl ?_
          clear hv
          go_simp
          refine (HC.out _).mono ?_
          rintro e wy ⟨rfl, bb⟩
          exact hK.out _ _ ⟨e5, e0, e4, (hb.trans (bb.mono hb.size)), f0, f1, f2, f3, f4, f5, f6, f7, f8, fun _ => rfl, f10, f11⟩
        case s10 =>
          rintro L a v w hv hg hL hd hcl ⟨e5, e0, e4, hb, f0, f1, f2, f3, f4, f5, f6, f7, f8, f9, f10, f11⟩ K hK
          have g0 := f0 (hd 0 (by decide))
          refine step_do rfl ?_
          clear hv
          go_simp
          exact hK.out _ _ ⟨e5, e0, e4, hb, f0, f1, f2, f3, f4, f5, f6, f7, f8, f9, fun _ => rfl, f11⟩
        case s11 =>
          rintro L a v w hv hg hL hd hcl ⟨e5, e0, e4, hb, f0, f1, f2, f3, f4, f5, f6, f7, f8, f9, f10, f11⟩ K hK
          have g10 := f10 (hd 10 (by decide))
          refine step_do rfl ?_
          clear hv
          go_simp
          exact hK.out _ _ ⟨e5, e0, e4, hb, f0, f1, f2, f3, f4, f5, f6, f7, f8, f9, f10, fun _ => rfl⟩
      case hend =>
      rintro L v w4 hall ⟨e5, e0, e4, hb, f0, f1, f2, f3, f4, f5, f6, f7, f8, f9, f10, f11⟩
      have hL : ∀ i, i < 12 → L i = true := hall
      have f0 := f0 (hL 0 (by decide))
      have f1 := f1 (hL 1 (by decide))
      have f2 := f2 (hL 2 (by decide))
      have f3 := f3 (hL 3 (by decide))
      have f4 := f4 (hL 4 (by decide))
      have f5 := f5 (hL 5 (by decide))
      have f6 := f6 (hL 6 (by decide))
      have f7 := f7 (hL 7 (by decide))
      have f8 := f8 (hL 8 (by decide))
      have f9 := f9 (hL 9 (by decide))
      have f10 := f10 (hL 10 (by decide))
      have f11 := f11 (hL 11 (by decide))
      simp only [finA, List.foldl_cons, List.foldl_nil, Act.put, List.setIfInBounds_toArray, List.set_cons_succ, List.set_cons_zero, f0, f1, f2, f3, f4, f5, f6, f7, f8, f10, f11, f9]
      have k0 := k0.below hb k0.lt
      have gg := grows_below gg hb
      have hth := k0.there_ (o := 16 + k * 3) (n := 3) (by rw [B49.out]; omega)
      clear e5 e0 e4 f0 f1 f2 f3 f4 f5 f6 f7 f8 f9 f10 f11 hL hall hb kq HC HIX
      show wpList _ _ _ [_, _] _ _
      go_wp2_with ((with_reducible refine wpList_str rowLa hth SZ.out OZ.out ?_ ?_ ?_); rotate_left; (rfl); (rfl); intro w5 hw5)
      go_roundw
      case rel =>
        have gx := cells_grown w4 g (16 + k * 3) (pc z).toArray.toList
        have kx := k0.setP HSS.out hlt z
        rw [HSB.out] at kx
        exact ⟨k + 1, by omega, by go_num, by first | exact kx | (rw [hw5]; exact kx), by first | exact grows_trans gg gx | (rw [hw5]; exact grows_trans gg gx)⟩
      case measure => simp [intOf]; omega
    · obtain rfl : k = 8 := by omega
      go_wp2_with fail
      go_end0
      refine ⟨rfl, ?_, gg⟩
      have hl : (List.zipWith Reg.joinL b.p o.p).length = 8 := by rw [List.length_zipWith, HS.out.p, HO.out.p]; rfl
      rw [List.take_of_length_le (by omega), List.drop_eq_nil_of_le (by rw [HS.out.p]; exact Nat.le_refl _), List.append_nil] at k0
      exact k0
/-- what each of the three parts makes of it -/
def Bo.stage (x y : Bd) : Nat → Bd
  | 0 => x
  | 1 => { x with t := Tally.joinL x.t y.t }
  | 2 => { x with t := Tally.joinL x.t y.t, p := List.zipWith Reg.joinL x.p y.p }
  | _ => ⟨Tally.joinL x.t y.t, List.zipWith Reg.joinL x.p y.p, Reg.maxU x.u y.u, Reg.meetL x.u y.u x.l y.l⟩
theorem stage_shaped {x y : Bd} (hx : Bo.Shaped x) (hy : Bo.Shaped y) (k : Nat) (hk : k ≤ 2) : Bo.Shaped (Bo.stage x y k) := by
  have h1 := join_len hx.t hy.t
  have h2 : (List.zipWith Reg.joinL x.p y.p).length = 8 := by rw [List.length_zipWith, hx.p, hy.p]; rfl
  obtain rfl | rfl | rfl : k = 0 ∨ k = 1 ∨ k = 2 := by omega
  · exact hx
  · exact ⟨h1, hx.p, hx.u⟩
  · exact ⟨h1, h2, hx.u⟩
theorem run_fn0 (w : World) : (Instr.index 71 (.agg #[.func (.func 20) #[] #[], .func (.func 21) #[] #[], .func (.func 22) #[] #[]]) (.int .i64 0)).run Tryz.prog w = .ok (.func (.func 20) #[] #[]) w := by kernel_rfl
theorem run_fn1 (w : World) : (Instr.index 71 (.agg #[.func (.func 20) #[] #[], .func (.func 21) #[] #[], .func (.func 22) #[] #[]]) (.int .i64 1)).run Tryz.prog w = .ok (.func (.func 21) #[] #[]) w := by kernel_rfl
theorem run_fn2 (w : World) : (Instr.index 71 (.agg #[.func (.func 20) #[] #[], .func (.func 21) #[] #[], .func (.func 22) #[] #[]]) (.int .i64 2)).run Tryz.prog w = .ok (.func (.func 22) #[] #[]) w := by kernel_rfl
theorem boJoin_any (a b : Bd) (ha : Bo.Shaped a) (hb' : Bo.Shaped b) (q q2 : Value) (w0 : World) (hq : FrBo a q w0) (hq2 : FrBo b q2 w0) : Calls Tryz.prog 7 #[q, q2] w0 (GiveBd 84 w0 (Bo.join a b)) := by
  obtain ⟨A, m, c, rfl, hr, hm⟩ := hq
  obtain ⟨A2, m2, c2, rfl, hr2, hm2⟩ := hq2
  obtain ⟨CA, hCA⟩ : ∃ CA, CA = bc a (.slice A m c) := ⟨_, rfl⟩
  obtain ⟨CB, hCB⟩ : ∃ CB, CB = bc b (.slice A2 m2 c2) := ⟨_, rfl⟩
  have hoa := fun (w' : World) (h : Below w0.heap.size w0 w') => boOwn_any a ha (.agg (bc a (.slice A m c))) w' ⟨A, m, c, rfl, (hr.below h).size, hm⟩
  have hob := fun (w' : World) (h : Below w0.heap.size w0 w') => boOwn_any b hb' (.agg (bc b (.slice A2 m2 c2))) w' ⟨A2, m2, c2, rfl, (hr2.below h).size, hm2⟩
  rw [← hCA] at hoa ⊢
  rw [← hCB] at hob ⊢
  have SA := Lib.hid (show CA.size = 49 by rw [hCA]; exact bc_size ha)
  have SB := Lib.hid (show CB.size = 49 by rw [hCB]; exact bc_size hb')
  obtain ⟨x, hx⟩ : ∃ x, x = Bo.own a := ⟨_, rfl⟩
  obtain ⟨y, hy⟩ : ∃ y, y = Bo.own b := ⟨_, rfl⟩
  have HX := Lib.hid (show Bo.Shaped x by rw [hx]; exact Bo.own_shaped ha)
  have HY := Lib.hid (show Bo.Shaped y by rw [hy]; exact Bo.own_shaped hb')
  have RX := Lib.hid (show Bo.rightB x = true by rw [hx]; exact Bo.own_right a)
  have RY := Lib.hid (show Bo.rightB y = true by rw [hy]; exact Bo.own_right b)
  have HJ := Lib.hid (show Bo.join a b = Bo.stage x y 3 by rw [Bo.join_own, ← hx, ← hy, Bo.join_eq RX.out RY.out]; rfl)
  rw [HJ.out]
  rw [← hx] at hoa
  rw [← hy] at hob
  have HOA := Lib.hid hoa
  have HOB := Lib.hid hob
  have z49 := Lib.hid (bc_size (s := .slice none 0 0) Bo.zero_shaped)
  clear hoa hob hCA hCB hx hy hr hr2 hm hm2 ha hb'
  go_enter Tryz.func7, Tryz.ntmps7
  go_upto_region 1 with fail
  refine nameW ?_
  intro wv hwv
  obtain ⟨g, hg⟩ : ∃ g, g = w0.heap.size := ⟨_, rfl⟩
  obtain ⟨g1, hg1⟩ : ∃ g1, g1 = g + 1 := ⟨_, rfl⟩
  obtain ⟨g2, hg2⟩ : ∃ g2, g2 = g1 + 1 := ⟨_, rfl⟩
  have k0 : Blk wv g 41 CA := by rw [hwv, hg]; exact ((Blk.new w0 _ _).alloc _).alloc _
  have k1 : Blk wv g1 41 CB := by
    have h := Blk.new (w0.alloc (.cells CA 41)) 41 CB
    rw [hwv, hg1, hg]
    exact (by simpa using h : Blk _ (w0.heap.size + 1) _ _).alloc _
  have kz : Blk wv g2 41 (bc Bo.zero (.slice none 0 0)) := by
    have h := Blk.new ((w0.alloc (.cells CA 41)).alloc (.cells CB 41)) 41 (bc Bo.zero (.slice none 0 0))
    rw [zbo] at h ⊢
    rw [hwv, hg2, hg1, hg]
    simpa using h
  have gb : Below w0.heap.size w0 wv := by rw [hwv]; exact (((Below.refl _ _).alloc (Nat.le_refl _) _).alloc (by simp) _).alloc (by simp; omega) _
  rw [← hg, ← hg1, ← hg2]
  have HG := Lib.hid hg
  have HN := Lib.hid (show g ≠ g1 ∧ g ≠ g2 ∧ g1 ≠ g2 ∧ w0.heap.size ≤ g ∧ w0.heap.size ≤ g1 ∧ w0.heap.size ≤ g2 by omega)
  clear hwv hg hg1 hg2
  refine wp_region_tail 4 (fun L v w => v 2 = .pointer (some ⟨g, 0, none⟩) ∧ v 3 = .pointer (some ⟨g1, 0, none⟩) ∧ Below wv.heap.size wv w ∧ (L 0 = true → v 7 = .agg CA) ∧ (L 1 = true → FoBo 84 x (v 8) w) ∧ (L 2 = true → v 9 = .agg CB) ∧ (L 3 = true → FoBo 84 y (v 10) w)) [7, 8, 9, 10] (by kernel_rfl) (by kernel_rfl) (by kernel_rfl) (by kernel_rfl) (by kernel_rfl) (by kernel_rfl) ?h0 ?hst ?hend
  case h0 =>
    intro L h0
    have h0 : ∀ i, i < 4 → L i = false := h0
    exact ⟨rfl, rfl, (Below.refl _ _).drew, offF h0 (i := 0) (by decide), offF h0 (i := 1) (by decide), offF h0 (i := 2) (by decide), offF h0 (i := 3) (by decide)⟩
  case hst =>
    show FactSteps _ _ _ _ [0, 1, 2, 3]
    refine @FactSteps.cons _ _ _ _ 0 _ [] _ rfl (by kernel_rfl) ?s0 ?_
    rotate_left
    refine @FactSteps.cons _ _ _ _ 1 _ [0] _ rfl (by kernel_rfl) ?s1 ?_
    rotate_left
    refine @FactSteps.cons _ _ _ _ 2 _ [] _ rfl (by kernel_rfl) ?s2 ?_
    rotate_left
    refine @FactSteps.cons _ _ _ _ 3 _ [2, 1] _ rfl (by kernel_rfl) ?s3 ?_
    rotate_left
    exact FactSteps.nil
    case s0 =>
      rintro L a v w hv hg hL hd hcl ⟨e2, e3, hb, f0, f1, f2, f3⟩ K hK
      refine step_do rfl ?_
      refine wp_ld rowBo (.tmp 2) rfl ((hv 2).trans e2) (k0.below hb k0.lt) SA.out ?_
      exact hK.out _ _ ⟨e2, e3, hb, fun _ => rfl, f1, f2, f3⟩
    case s1 =>
      rintro L a v w hv hg hL hd hcl ⟨e2, e3, hb, f0, f1, f2, f3⟩ K hK
      have h0 := f0 (hd 0 (by decide))
      refine step_do rfl ?_
      clear hv
      go_simp
      refine (HOA.out w (gb.trans (hb.mono gb.size))).mono ?_
      rintro e wy ⟨q, rfl, hq, bb⟩
      exact hK.out _ _ ⟨e2, e3, (hb.trans (bb.mono hb.size)), f0, fun _ => hq, f2, (fun h => (f3 h).below bb)⟩
    case s2 =>
      rintro L a v w hv hg hL hd hcl ⟨e2, e3, hb, f0, f1, f2, f3⟩ K hK
      refine step_do rfl ?_
      refine wp_ld rowBo (.tmp 3) rfl ((hv 3).trans e3) (k1.below hb k1.lt) SB.out ?_
      exact hK.out _ _ ⟨e2, e3, hb, f0, f1, fun _ => rfl, f3⟩
    case s3 =>
      rintro L a v w hv hg hL hd hcl ⟨e2, e3, hb, f0, f1, f2, f3⟩ K hK
      have h2 := f2 (hd 2 (by decide))
      refine step_do rfl ?_
      clear hv
      go_simp
      refine (HOB.out w (gb.trans (hb.mono gb.size))).mono ?_
      rintro e wy ⟨q, rfl, hq, bb⟩
      exact hK.out _ _ ⟨e2, e3, (hb.trans (bb.mono hb.size)), f0, (fun h => (f1 h).below bb), f2, fun _ => hq⟩
  case hend =>
  rintro L v w1 hall ⟨e2, e3, hb, f0, f1, f2, f3⟩
  have hL : ∀ i, i < 4 → L i = true := hall
  have f0 := f0 (hL 0 (by decide))
  have f1 := f1 (hL 1 (by decide))
  have f2 := f2 (hL 2 (by decide))
  have f3 := f3 (hL 3 (by decide))
  obtain ⟨A, m, c, e8, o8, m8⟩ := f1
  obtain ⟨A2, m2, c2, e10, o10, m10⟩ := f3
  simp only [finA, List.foldl_cons, List.foldl_nil, Act.put, List.setIfInBounds_toArray, List.set_cons_succ, List.set_cons_zero, f0, f2, e8, e10]
  have k0 := k0.below hb k0.lt
  have k1 := k1.below hb k1.lt
  have kz := kz.below hb kz.lt
  have gb := gb.trans (hb.mono gb.size)
  have X49 := Lib.hid (bc_size (s := .slice A m c) HX.out)
  have X1 := Lib.hid (bc_one (b := x) (s := .slice A m c) rfl)
  have Y49 := Lib.hid (bc_size (s := .slice A2 m2 c2) HY.out)
  have Y1 := Lib.hid (bc_one (b := y) (s := .slice A2 m2 c2) rfl)
  have M8 := Lib.hid m8
  have M10 := Lib.hid m10
  clear e2 e3 f0 f2 hL hall e8 e10 hb m8 m10
  have ⟨n1, n2, n3, l0, l1, l2⟩ := HN.out
  have e8g := own_ne o8.2 k0 (by decide)
  have e8h := own_ne o8.2 k1 (by decide)
  have e10g := own_ne o10.2 k0 (by decide)
  have e10h := own_ne o10.2 k1 (by decide)
  show wpList _ _ _ [_, _] _ _
  go_upto_region 2 with first
    | ((with_reducible refine wpList_st rowBo k0 X49.out SA.out X1.out ?_ ?_ ?_); rotate_left; (rfl); (rfl); intro w2 k0 ga gaz; have k1 := k1.grown ga (fun h => by injection h; omega))
    | ((with_reducible refine wpList_st rowBo k1 Y49.out SB.out Y1.out ?_ ?_ ?_); rotate_left; (rfl); (rfl); intro w3 k1 gc gcz)
  have k0 := k0.grown gc (fun h => by injection h; omega)
  have kz := (kz.grown ga (fun h => by injection h; omega)).grown gc (fun h => by injection h; omega)
  have o8 := (o8.grown ga (.inr e8g)).grown gc (.inr e8h)
  have o10 := (o10.grown ga (.inr e10g)).grown gc (.inr e10h)
  have gb := (gb.grown ga gb.size (fun q hq => by injection hq; omega)).grown gc (by have := gb.size; have := ga.size; omega) (fun q hq => by injection hq; omega)
  clear e8g e8h e10g e10h ga gc gaz gcz
  go_wp2_with fail
  go_loopw [12] (fun i wr => ∃ (k : Nat) (A m c : _), k ≤ 3 ∧ i = .int .i64 (k : Nat) ∧ Blk wr g 41 (bc (Bo.stage x y k) (.slice A m c)) ∧ OwnV 84 wr 0 A m c (Bo.stage x y k).l ∧ m ≤ 100000 ∧ Blk wr g1 41 (bc y (.slice A2 m2 c2)) ∧ OwnV 84 wr 0 A2 m2 c2 y.l ∧ Blk wr g2 41 (bc Bo.zero (.slice none 0 0)) ∧ Below w0.heap.size w0 wr) (fun i _ => 3 - (intOf i).toNat)
  case atStart => exact ⟨0, A, m, c, by omega, rfl, k0, o8, M8.out, k1, o10, kz, gb⟩
  case round =>
    clear k0 o8 k1 o10 kz gb
    obtain ⟨k, A, m, c, hk, rfl, k0, o8, hm, k1, o10, kz, gb⟩ := hrel
    have HM := Lib.hid hm
    clear hm
    by_cases hlt : k < 3
    · obtain rfl | rfl | rfl : k = 0 ∨ k = 1 ∨ k = 2 := by omega
      · have HC := Lib.hid fun (w : World) (h : Blk w g 41 (bc x (.slice A m c))) => joinWrites_any x y HX.out HY.out (.slice A m c) (.slice A2 m2 c2) g w h
        go_wp2_with first
          | ((with_reducible refine wpList_ix (run_fn0 _) ?_ ?_ ?_); rotate_left; (rfl); (rfl))
          | ((with_reducible refine wpList_ld rowBo k1 Y49.out ?_ ?_); rotate_left; (rfl))
        refine (HC.out _ k0).mono ?_
        rintro e w4 ⟨rfl, kx, gx⟩
        have ⟨n1, n2, n3, l0, l1, l2⟩ := HN.out
        have k1x := k1.grown gx (fun h => by injection h; omega)
        have kzx := kz.grown gx (fun h => by injection h; omega)
        have o10x := o10.grown gx (.inr (own_ne o10.2 k0 (by decide)))
        have gbx := gb.grown gx gb.size (fun q hq => by injection hq; omega)
        have o8x := o8.grown gx (.inr (own_ne o8.2 k0 (by decide)))
        have HH := Lib.hid (And.intro kx (And.intro o8x (And.intro k1x (And.intro o10x (And.intro kzx gbx)))))
        clear kx gx k1x kzx o10x gbx o8x k0 o8 k1 o10 kz gb HC
        go_wp2_with fail
        go_roundw
        case rel => exact ⟨1, A, m, c, by omega, by go_num, HH.out.1, HH.out.2.1, HM.out, HH.out.2.2.1, HH.out.2.2.2.1, HH.out.2.2.2.2.1, HH.out.2.2.2.2.2⟩
        case measure => simp [intOf]
      · have HC := Lib.hid fun (w : World) (h : Blk w g 41 (bc (Bo.stage x y 1) (.slice A m c))) => joinPlans_any (Bo.stage x y 1) y (stage_shaped HX.out HY.out 1 (by omega)) HY.out (.slice A m c) (.slice A2 m2 c2) g w h
        go_wp2_with first
          | ((with_reducible refine wpList_ix (run_fn1 _) ?_ ?_ ?_); rotate_left; (rfl); (rfl))
          | ((with_reducible refine wpList_ld rowBo k1 Y49.out ?_ ?_); rotate_left; (rfl))
        refine (HC.out _ k0).mono ?_
        rintro e w4 ⟨rfl, kx, gx⟩
        have ⟨n1, n2, n3, l0, l1, l2⟩ := HN.out
        have k1x := k1.grown gx (fun h => by injection h; omega)
        have kzx := kz.grown gx (fun h => by injection h; omega)
        have o10x := o10.grown gx (.inr (own_ne o10.2 k0 (by decide)))
        have gbx := gb.grown gx gb.size (fun q hq => by injection hq; omega)
        have o8x := o8.grown gx (.inr (own_ne o8.2 k0 (by decide)))
        have HH := Lib.hid (And.intro kx (And.intro o8x (And.intro k1x (And.intro o10x (And.intro kzx gbx)))))
        clear kx gx k1x kzx o10x gbx o8x k0 o8 k1 o10 kz gb HC
        go_wp2_with fail
        go_roundw
        case rel => exact ⟨2, A, m, c, by omega, by go_num, HH.out.1, HH.out.2.1, HM.out, HH.out.2.2.1, HH.out.2.2.2.1, HH.out.2.2.2.2.1, HH.out.2.2.2.2.2⟩
        case measure => simp [intOf]
      · have RN := Lib.hid (show Reg.rightM (Bo.stage x y 2).u (Bo.stage x y 2).l = true from ((Bo.right_iff x).1 RX.out).2.2.2)
        have RN2 := Lib.hid (show Reg.rightM y.u y.l = true from ((Bo.right_iff y).1 RY.out).2.2.2)
        have HC := Lib.hid fun (w : World) (h : Blk w g 41 (bc (Bo.stage x y 2) (.slice A m c))) (h1 : RdV w w.heap.size A m (Bo.stage x y 2).l) (h2 : RdV w w.heap.size A2 m2 y.l) => joinNotes_any (Bo.stage x y 2) y (stage_shaped HX.out HY.out 2 (by omega)) HY.out RN.out RN2.out A A2 m c m2 c2 g w h h1 h2 HM.out M10.out
        go_wp2_with first
          | ((with_reducible refine wpList_ix (run_fn2 _) ?_ ?_ ?_); rotate_left; (rfl); (rfl))
          | ((with_reducible refine wpList_ld rowBo k1 Y49.out ?_ ?_); rotate_left; (rfl))
        refine (HC.out _ k0 o8.rd o10.rd).mono ?_
        rintro e w4 ⟨A3, m3, c3, ⟨rfl, kx, gx⟩, o3, hm3⟩
        have ⟨n1, n2, n3, l0, l1, l2⟩ := HN.out
        have k1x := k1.grown gx (fun h => by injection h; omega)
        have kzx := kz.grown gx (fun h => by injection h; omega)
        have o10x := o10.grown gx (.inr (own_ne o10.2 k0 (by decide)))
        have gbx := gb.grown gx gb.size (fun q hq => by injection hq; omega)
        have o8x := o3
        have HH := Lib.hid (And.intro kx (And.intro o8x (And.intro k1x (And.intro o10x (And.intro kzx gbx)))))
        clear kx gx k1x kzx o10x gbx o8x k0 o8 k1 o10 kz gb HC
        go_wp2_with fail
        go_roundw
        case rel => exact ⟨3, A3, m3, c3, by omega, by go_num, HH.out.1, HH.out.2.1, hm3, HH.out.2.2.1, HH.out.2.2.2.1, HH.out.2.2.2.2.1, HH.out.2.2.2.2.2⟩
        case measure => simp [intOf]
    · obtain rfl : k = 3 := by omega
      have hs3 : Bo.Shaped (Bo.stage x y 3) := by
        have h1 := join_len HX.out.t HY.out.t
        have h2 : (List.zipWith Reg.joinL x.p y.p).length = 8 := by rw [List.length_zipWith, HX.out.p, HY.out.p]; rfl
        exact ⟨h1, h2, Reg.maxU_len _ _⟩
      obtain ⟨b3, hb3⟩ : ∃ b3, b3 = Bo.stage x y 3 := ⟨_, rfl⟩
      rw [← hb3] at k0 o8 hs3 ⊢
      have B49 := Lib.hid (bc_size (s := .slice A m c) hs3)
      have B1 := Lib.hid (bc_one (b := b3) (s := .slice A m c) rfl)
      have HB3 := Lib.hid hb3
      clear hs3 hb3
      have ⟨n1, n2, n3, l0, l1, l2⟩ := HN.out
      go_wp2_with first
        | ((with_reducible refine wpList_ld rowBo k0 B49.out ?_ ?_); rotate_left; (rfl))
        | ((with_reducible refine wpList_st rowBo kz B49.out z49.out B1.out ?_ ?_ ?_); rotate_left; (rfl); (rfl); intro w5 k5 g5 z5)
      exact bodyPost_ret (v := .agg (bc b3 (.slice A m c))) (results_blk rfl rowBo k5 B49.out rfl) rfl ⟨_, rfl, (by rw [← HB3.out]; exact ⟨A, m, c, rfl, o8.grown g5 (.inr (own_ne o8.2 kz (by decide))), HM.out⟩), gb.grown g5 gb.size (fun q hq => by injection hq; omega)⟩
end Go.Proofs.YtocoohpekpkmkaaGreat

/- Eight boards in one block; turns that come in. -/
namespace Go.Proofs.YtocoohpekpkmkaaGreat
set_option linter.unusedVariables false
set_option linter.unusedSimpArgs false
open Go.RowKit
open Reg (La Vl)
/-- the cells of rows of forty-nine, one behind the other -/
def fl49 (Q : Nat → Array Value) : List Value := (List.range 8).flatMap fun i => (Q i).toList
def cat49 (Q : Nat → Array Value) : Array Value := (fl49 Q).toArray
def Row49 (Q : Nat → Array Value) : Prop := ∀ i, i < 8 → (Q i).size = 49
section
variable {Q : Nat → Array Value}
theorem fl49_len (h : Row49 Q) : (fl49 Q).length = 392 := by
  unfold fl49
  rw [List.range_eq_range', flat_len (m := 49) 8 0 fun i _ hi => by rw [Array.length_toList, h i (by omega)]]
theorem fl49_at (h : Row49 Q) {a b : Nat} (ha : a < 8) (hb : b < 49) : (fl49 Q)[a * 49 + b]? = (Q a)[b]? := by
  unfold fl49
  rw [List.range_eq_range', flat_at (m := 49) 8 0 (fun i _ hi => by rw [Array.length_toList, h i (by omega)]) a b ha hb, Nat.zero_add, Array.getElem?_toList]
theorem cat49_size (h : Row49 Q) : (cat49 Q).size = 392 := by unfold cat49; rw [List.size_toArray, fl49_len h]
theorem cat49_at (h : Row49 Q) {a b : Nat} (ha : a < 8) (hb : b < 49) : (cat49 Q)[a * 49 + b]? = (Q a)[b]? := by
  unfold cat49
  rw [List.getElem?_toArray, fl49_at h ha hb]
theorem upQ_49 (h : Row49 Q) {a : Nat} {c : Array Value} (hc : c.size = 49) : Row49 (upQ Q a c) := fun i hi => by
  unfold upQ
  split
  · exact hc
  · exact h i hi
variable {w w' : World} {g a : Nat}
theorem rng49 {t : TypeId} (hB : Blk w g t (cat49 Q)) (h : Row49 Q) (ha : a < 8) : w.rangeAt g (a * 49) (Q a).toList := fun j v hv => by
  have hj : j < 49 := by
    have := (List.getElem?_eq_some_iff.1 hv).1
    rwa [Array.length_toList, h a ha] at this
  rw [hB.cell, cat49_at h ha hj, ← hv, Array.getElem?_toList]
theorem there49 {t : TypeId} (hB : Blk w g t (cat49 Q)) (h : Row49 Q) (ha : a < 8) : w.there g (a * 49) 49 := fun i hi => by
  rw [hB.cell, hB.free, cat49_at h ha hi]
  have := h a ha
  simp
  omega
theorem set49 {t : TypeId} (hB : Blk w g t (cat49 Q)) (h : Row49 Q) (ha : a < 8) {c : Array Value} (hc : c.size = 49) : Blk (w.setCells g (a * 49) c.toList) g t (cat49 (upQ Q a c)) := by
  obtain ⟨cs', k1, k2, k3, k4⟩ := setCells_heap w g c.toList (a * 49) (cat49 Q) hB
  have hs := cat49_size h
  have h2 := upQ_49 h (a := a) hc
  have hcl : c.toList.length = 49 := hc
  have : cs' = cat49 (upQ Q a c) := by
    apply Array.ext_getElem?
    intro q
    by_cases hq : q < 392
    · obtain ⟨j, i, hi, rfl⟩ : ∃ j i, i < 49 ∧ q = j * 49 + i := ⟨q / 49, q % 49, Nat.mod_lt _ (by omega), by omega⟩
      have hj : j < 8 := by omega
      rw [cat49_at h2 hj hi]
      unfold upQ
      by_cases e : j = a
      · subst e
        rw [if_pos rfl, k4 i (by omega) (by omega), Array.getElem?_toList]
      · rw [if_neg e, k3 _ (by omega), cat49_at h hj hi]
    · rw [Array.getElem?_eq_none (by omega), Array.getElem?_eq_none (by rw [cat49_size h2]; omega)]
  rw [← this]
  exact k1
end
/-- eight boards, in a value -/
def EightB (F : Nat → Bd) (Q : Nat → Array Value) (w : World) : Prop := ∀ i, i < 8 → Bo.Shaped (F i) ∧ FoBo 84 (F i) (.agg (Q i)) w
section
variable {F : Nat → Bd} {Q : Nat → Array Value} {w w' : World} {g a : Nat}
theorem EightB.row (h : EightB F Q w) : Row49 Q := fun i hi => (h i hi).2.fresh.size (h i hi).1
theorem EightB.below (h : EightB F Q w) (hb : Below w.heap.size w w') : EightB F Q w' := fun i hi => ⟨(h i hi).1, (h i hi).2.below hb⟩
theorem EightB.grown {t : TypeId} {cs : Array Value} (h : EightB F Q w) (hg : w.grownBy w' (some g)) (k : Blk w g t cs) (hne : t ≠ 84) : EightB F Q w' := fun i hi => ⟨(h i hi).1, (h i hi).2.grown hg k hne⟩
theorem EightB.up (h : EightB F Q w) {f : Bd} {c : Array Value} (hf : Bo.Shaped f) (hc : FoBo 84 f (.agg c) w) : EightB (Bo.upB F a f) (upQ Q a c) w := fun i hi => by
  unfold Bo.upB upQ
  by_cases e : i = a
  · rw [if_pos e, if_pos e]; exact ⟨hf, hc⟩
  · rw [if_neg e, if_neg e]; exact h i hi
end
theorem rowOwnB : RowT Tryz.prog 56 392 := ⟨_, Tryz.underlying56, rfl, by kernel_rfl⟩
def zQB : Nat → Array Value := fun _ => bc Bo.zero (.slice none 0 0)
/-- the cells of eight empty boards -/
def z392 : Array Value := cat49 zQB
theorem eightB0 (w : World) : EightB (fun _ => Bo.zero) zQB w := fun i hi => ⟨Bo.zero_shaped, none, 0, 0, rfl, OwnV.nil _ _ _, by omega⟩
set_option maxRecDepth 100000 in
theorem zval392 (w : World) : (zeroValue 56).run Tryz.prog w = .ok (.agg z392) w := by kernel_rfl
/-- one of the eight, out of the value -/
theorem run_index49 (w : World) (Q : Nat → Array Value) (h : Row49 Q) (k : Nat) (hk : k < 8) : (Instr.index 56 (.agg (cat49 Q)) (.int .i64 (k : Nat))).run Tryz.prog w = .ok (.agg (Q k)) w := by
  have hsz : (sizeOf 41).run Tryz.prog w = .ok 49 w := by kernel_rfl
  have hx : (cat49 Q).extract (k * 49) (k * 49 + 49) = Q k := by
    have hs := cat49_size h
    have h9 := h k hk
    apply Array.ext_getElem?
    intro i
    by_cases hi : i < 49
    · rw [Array.getElem?_extract, if_pos (by omega), cat49_at h hk hi]
    · rw [Array.getElem?_eq_none (by rw [Array.size_extract]; omega), Array.getElem?_eq_none (by omega)]
  have hag : (isAgg 41).run Tryz.prog w = .ok true w := by kernel_rfl
  simp only [Instr.index, asIntOf, Sem.run_bind, Sem.run_pure, Result.andThen_ok, run_underlying Tryz.underlying56, hsz]
  rw [if_pos (by omega)]
  simp [part, hag, hsz, hx]
/-- A turn: a node that writes or notes, or joins another one's. -/
structure Trb where
  node : Int
  work : Int
  val : Int
  wi : Int
  meet : Bool
def Trb.cs (t : Trb) : Array Value := #[.int .i64 t.node, .int .i64 t.work, .int .i64 t.val, .int .i64 t.wi, .bool t.meet]
def TrbAt (w : World) (B : Nat) (ad : Addr) (o : Trb) : Prop := ad.block < B ∧ w.cell? ad = some (.int .i64 o.node) ∧ w.cell? ⟨ad.block, ad.off + 1, none⟩ = some (.int .i64 o.work) ∧ w.cell? ⟨ad.block, ad.off + 2, none⟩ = some (.int .i64 o.val) ∧ w.cell? ⟨ad.block, ad.off + 3, none⟩ = some (.int .i64 o.wi) ∧ w.cell? ⟨ad.block, ad.off + 4, none⟩ = some (.bool o.meet)
def TrbsAt (w : World) (B : Nat) (a : Option Addr) (n : Nat) (l : List Trb) : Prop := n = l.length ∧ ∀ i o, l[i]? = some o → ∃ ad, a = some ad ∧ TrbAt w B (ad.add (i * 5)) o
theorem TrbsAt.below {w w' : World} {B n : Nat} {a : Option Addr} {l : List Trb} (h : TrbsAt w B a n l) (hb : Below B w w') : TrbsAt w' B a n l := ⟨h.1, fun i o ho => by
  obtain ⟨ad, e, h0, h1, h2, h3, h4, h5⟩ := h.2 i o ho
  exact ⟨ad, e, h0, (hb.cell h0).trans h1, (hb.cell (p := ⟨(ad.add (i * 5)).block, (ad.add (i * 5)).off + 1, none⟩) h0).trans h2, (hb.cell (p := ⟨(ad.add (i * 5)).block, (ad.add (i * 5)).off + 2, none⟩) h0).trans h3, (hb.cell (p := ⟨(ad.add (i * 5)).block, (ad.add (i * 5)).off + 3, none⟩) h0).trans h4, (hb.cell (p := ⟨(ad.add (i * 5)).block, (ad.add (i * 5)).off + 4, none⟩) h0).trans h5⟩⟩
theorem cellsTrb : (Tryz.prog).cellsOf 58 = 5 := by kernel_rfl
open Go.ChangeShapes Go.WideShapes Go.ChangeAt Go.Deep
set_option maxRecDepth 100000 in
theorem open_trbs {H : Type} {enc : TypeId × Value → H} {W : World} {base : Nat} {sp : Nat → Bool} {held : Bool} {r : Reach} {b0 : Nat} {v : Value} {d : DataW H} {p : List MemPlace}
    (hv : Value.okWide Tryz.prog W r b0 55 v) (h : DataW.Trod enc Tryz.prog W base sp held 55 v d p) :
    ∃ (a : Option Addr) (n c : Nat) (l : List Trb), v = .slice a n c ∧ TrbsAt W W.heap.size a n l ∧ n ≤ c ∧ c ≤ maxLen := by
  obtain ⟨a0, len0, cap0, rfl⟩ := okWide_slice Tryz.underlying55 hv
  obtain ⟨fuel, hf⟩ := h
  obtain ⟨a, n, c, h1, h2, h3, h4⟩ := rd_slice Tryz.underlying55 cellsTrb hf
  simp [Value.cells] at h1
  obtain ⟨rfl, rfl, rfl⟩ := h1
  obtain ⟨l, q1, q2⟩ := list_of (α := Trb) (P := fun i o => ∃ ad, a0 = some ad ∧ TrbAt W W.heap.size (ad.add (i * 5)) o) len0 (fun i hi => by
    obtain ⟨ad, cs, fu, x', ha, hl, hc, ht⟩ := h4 i hi
    obtain ⟨_, _, gs⟩ := rd_field Tryz.underlying58 ht 0 49 0 3 rfl cellsStp
    obtain ⟨_, _, g3⟩ := rd_field Tryz.underlying58 ht 1 3 3 1 rfl cellsI
    obtain ⟨_, _, g4⟩ := rd_field Tryz.underlying58 ht 2 4 4 1 rfl cellsB
    obtain ⟨_, _, g0⟩ := rd_field Tryz.underlying49 gs 0 3 0 1 rfl cellsI
    obtain ⟨_, _, g1⟩ := rd_field Tryz.underlying49 gs 1 3 1 1 rfl cellsI
    obtain ⟨_, _, g2⟩ := rd_field Tryz.underlying49 gs 2 3 2 1 rfl cellsI
    match cs, hl with
    | [v0, v1, v2, v3, v4], _ =>
      obtain ⟨k, hk, _⟩ := rd_int g0
      obtain ⟨m, hm, _⟩ := rd_int g1
      obtain ⟨x, hx, _⟩ := rd_int g2
      obtain ⟨y, hy, _⟩ := rd_int g3
      obtain ⟨b, hb, _⟩ := DataW.trod_bool Tryz.underlying4 g4
      injection hk with hk _
      injection hm with hm _
      injection hx with hx _
      injection hy with hy _
      injection hb with hb _
      subst hk hm hx hy hb
      have e0 := hc 0 (by omega)
      have e1 := hc 1 (by omega)
      have e2 := hc 2 (by omega)
      have e3 := hc 3 (by omega)
      have e4 := hc 4 (by omega)
      have ad1 : ∀ (q : Addr) (n : Nat), n ≠ 0 → q.add n = ⟨q.block, q.off + n, none⟩ := fun q n hn => by unfold Addr.add; rw [if_neg hn]
      rw [ad1 _ 1 (by omega)] at e1
      rw [ad1 _ 2 (by omega)] at e2
      rw [ad1 _ 3 (by omega)] at e3
      rw [ad1 _ 4 (by omega)] at e4
      have e0' : W.cell? (ad.add (i * 5)) = some (.int .i64 k) := e0
      exact ⟨⟨k, m, x, y, b⟩, ad, ha, World.block_lt_of_cell? W _ e0', e0', e1, e2, e3, e4⟩)
  exact ⟨_, _, _, l, rfl, ⟨q1.symm, q2⟩, h2, h3⟩
theorem buildB0 (w : World) : (Instr.build 41 #[]).run Tryz.prog w = .ok (.agg (bc Bo.zero (.slice none 0 0))) w := by kernel_rfl
theorem val_of (z : Int) : ∃ v : Nat, v ≤ 999 ∧ (IntKind.u64.wrap z).tmod 1000 = (v : Int) := by
  have h0 : 0 ≤ IntKind.u64.wrap z := by rw [IntKind.wrap_u64]; exact Int.emod_nonneg _ (by decide)
  have h := Int.emod_nonneg (IntKind.u64.wrap z) (show (1000 : Int) ≠ 0 by decide)
  have h' := Int.emod_lt_of_pos (IntKind.u64.wrap z) (show (0 : Int) < 1000 by decide)
  exact ⟨(IntKind.u64.wrap z % 1000).toNat, by omega, by rw [Int.tmod_eq_emod_of_nonneg h0]; omega⟩
theorem work_of {z : Int} (h0 : 0 ≤ z) : ∃ m : Nat, m < 8 ∧ z.tmod 8 = (m : Int) := by
  have h := Int.emod_nonneg z (show (8 : Int) ≠ 0 by decide)
  have h' := Int.emod_lt_of_pos z (show (0 : Int) < 8 by decide)
  exact ⟨(z % 8).toNat, by omega, by rw [Int.tmod_eq_emod_of_nonneg h0]; omega⟩
/-- a board and an error's number, as one value -/
def TupB (T : TypeId) (b : Bd) (k : Int) (q : Value) (w : World) : Prop := ∃ c, q = .tuple #[.agg c, .int .i64 k] ∧ FoBo T b (.agg c) w
section
variable {T : TypeId} {b : Bd} {k : Int} {q : Value} {w w' : World}
theorem TupB.mk (h : FoBo T b q w) : TupB T b k (.tuple #[q, .int .i64 k]) w := by
  obtain ⟨c, e⟩ := h.fresh.agg
  subst e
  exact ⟨c, rfl, h⟩
theorem TupB.below (h : TupB T b k q w) (hb : Below w.heap.size w w') : TupB T b k q w' := by
  obtain ⟨c, e, h⟩ := h
  exact ⟨c, e, h.below hb⟩
theorem TupB.grown {t : TypeId} {g : Nat} {cs : Array Value} (h : TupB T b k q w) (hg : w.grownBy w' (some g)) (kk : Blk w g t cs) (hne : t ≠ T) : TupB T b k q w' := by
  obtain ⟨c, e, h⟩ := h
  exact ⟨c, e, h.grown hg kk hne⟩
theorem joinS {f g h : Bd} {q2 : Value} (hf : Bo.Shaped f) (hg : Bo.Shaped g) (hs : Bo.join f g = h) (x : FrBo f q w) (y : FrBo g q2 w) :
    Calls Tryz.prog 7 #[q, q2] w (GiveBd 84 w h) := by
  have := boJoin_any f g hf hg q q2 w x y
  rwa [hs] at this
theorem rightT {f : Bd} (hf : Bo.Shaped f) (hr : Bo.rightB f = true) (x : FrBo f q w) : Calls Tryz.prog 12 #[q] w (GiveBo w true) := by
  have := boRight_any f hf q w x
  rwa [hr] at this
theorem noteS {f x : Bd} {n v : Int} (hf : Bo.Shaped f) (he : Bo.note f n v = (x, 0)) (h : FrBo f q w) : Calls Tryz.prog 15 #[q, .int .i64 n, .int .i64 v] w (GiveBdE 84 w x 0) := by
  have := bnote_any f hf n v q w h
  rwa [he] at this
theorem wroteS {f x : Bd} {n m v : Int} (hf : Bo.Shaped f) (he : Bo.wrote f n m v = (x, 0)) (h : FrBo f q w) : Calls Tryz.prog 13 #[q, .int .i64 n, .int .i64 m, .int .i64 v] w (GiveBdE 84 w x 0) := by
  have := bwrote_any f hf n m v q w h
  rwa [he] at this
end
theorem sameTB' {b : Bd} (hs : Bo.Shaped b) (hw : WfB b) {q q2 : Value} {w : World} (h : FrBo b q w) (h2 : FrBo b q2 w) : Calls Tryz.prog 9 #[q, q2] w (GiveBo w true) := by
  have := bsame_any b b hs hs hw hw q q2 w h h2
  rwa [(sameB_iff b b).2 rfl] at this
set_option maxRecDepth 100000 in
set_option maxHeartbeats 1600000 in
theorem same1B {b : Bd} (hs : Bo.Shaped b) (hr : Bo.rightB b = true) {q q2 : Value} {w0 : World} (h : FrBo b q w0) (h2 : FrBo b q2 w0) : Calls Tryz.prog 16 #[q, q2] w0 (GiveBo w0 true) := by
  obtain ⟨C1, rfl⟩ := h.agg
  obtain ⟨C2, rfl⟩ := h2.agg
  have Z1 := Lib.hid (h.size hs)
  have Z2 := Lib.hid (h2.size hs)
  have HS := Lib.hid hs
  have HW := Lib.hid (right_wfB hr)
  clear hs hr
  go_enter Tryz.func16, Tryz.ntmps16
  go_upto_region 1 with fail
  refine nameW ?_
  intro wv hwv
  obtain ⟨B, hB⟩ : ∃ B, B = w0.heap.size := ⟨_, rfl⟩
  rw [← hB]
  obtain ⟨S, hS⟩ : ∃ S, S = B + 1 := ⟨_, rfl⟩
  have k1 : Blk wv B 41 C1 := by rw [hwv, hB]; exact (Blk.new w0 _ _).alloc _
  have k2 : Blk wv S 41 C2 := by
    have h := Blk.new (w0.alloc (.cells C1 41)) 41 C2
    rw [hS, hwv, hB]
    simpa using h
  have gb : Below w0.heap.size w0 wv := by rw [hwv]; exact ((Below.refl _ _).alloc (Nat.le_refl _) _).alloc (by simp) _
  rw [← hS]
  have hv1 := h.below gb
  have hv2 := h2.below gb
  clear hwv hB hS h h2
  refine wp_region_facts (fun L v w => v 2 = .pointer (some ⟨B, 0, none⟩) ∧ v 3 = .pointer (some ⟨S, 0, none⟩) ∧ Below wv.heap.size wv w ∧ (L 0 = true → v 5 = .agg C1) ∧ (L 1 = true → FoBo 121 b (v 6) w) ∧ (L 2 = true → v 7 = .agg C2) ∧ (L 3 = true → FoBo 121 b (v 8) w) ∧ (L 4 = true → v 9 = .bool true) ∧ (L 5 = true → v 4 = .bool true)) [5, 6, 7, 8, 9, 4] (by kernel_rfl) (by kernel_rfl) (by kernel_rfl) (by kernel_rfl) ?h0 ?hst ?hend
  case h0 =>
    intro L h0
    have h0 : ∀ i, i < 6 → L i = false := h0
    exact ⟨rfl, rfl, (Below.refl _ _).drew, offF h0 (i := 0) (by decide), offF h0 (i := 1) (by decide), offF h0 (i := 2) (by decide), offF h0 (i := 3) (by decide), offF h0 (i := 4) (by decide), offF h0 (i := 5) (by decide)⟩
  case hst =>
    show FactSteps _ _ _ _ [0, 1, 2, 3, 4, 5]
    refine @FactSteps.cons _ _ _ _ 0 _ [] _ rfl (by kernel_rfl) ?s0 ?_
    rotate_left
    refine @FactSteps.cons _ _ _ _ 1 _ [0] _ rfl (by kernel_rfl) ?s1 ?_
    rotate_left
    refine @FactSteps.cons _ _ _ _ 2 _ [] _ rfl (by kernel_rfl) ?s2 ?_
    rotate_left
    refine @FactSteps.cons _ _ _ _ 3 _ [2, 1] _ rfl (by kernel_rfl) ?s3 ?_
    rotate_left
    refine @FactSteps.cons _ _ _ _ 4 _ [1, 3, 3] _ rfl (by kernel_rfl) ?s4 ?_
    rotate_left
    refine @FactSteps.cons _ _ _ _ 5 _ [4, 4, 0, 1, 2, 3, 4] _ rfl (by kernel_rfl) ?s5 ?_
    rotate_left
    exact FactSteps.nil
    case s0 =>
      rintro L a v w hv hg hL hd hcl ⟨e2, e3, hb, f0, f1, f2, f3, f4, f5⟩ K hK
      refine step_do rfl ?_
      refine wp_ld rowBo (.tmp 2) rfl ((hv 2).trans e2) (k1.below hb k1.lt) Z1.out ?_
      exact hK.out _ _ ⟨e2, e3, hb, fun _ => rfl, f1, f2, f3, f4, f5⟩
    case s1 =>
      rintro L a v w hv hg hL hd hcl ⟨e2, e3, hb, f0, f1, f2, f3, f4, f5⟩ K hK
      have h0 := f0 (hd 0 (by decide))
      refine step_do rfl ?_
      clear hv
      go_simp
      refine (boFrom_any b HS.out _ _ (hv1.below hb)).mono ?_
      rintro e wy ⟨q, rfl, hq, bb⟩
      exact hK.out _ _ ⟨e2, e3, (hb.trans (bb.mono hb.size)), f0, fun _ => hq, f2, (fun h => (f3 h).below bb), f4, f5⟩
    case s2 =>
      rintro L a v w hv hg hL hd hcl ⟨e2, e3, hb, f0, f1, f2, f3, f4, f5⟩ K hK
      refine step_do rfl ?_
      refine wp_ld rowBo (.tmp 3) rfl ((hv 3).trans e3) (k2.below hb k2.lt) Z2.out ?_
      exact hK.out _ _ ⟨e2, e3, hb, f0, f1, fun _ => rfl, f3, f4, f5⟩
    case s3 =>
      rintro L a v w hv hg hL hd hcl ⟨e2, e3, hb, f0, f1, f2, f3, f4, f5⟩ K hK
      have h2 := f2 (hd 2 (by decide))
      refine step_do rfl ?_
      clear hv
      go_simp
      refine (boFrom_any b HS.out _ _ (hv2.below hb)).mono ?_
      rintro e wy ⟨q, rfl, hq, bb⟩
      exact hK.out _ _ ⟨e2, e3, (hb.trans (bb.mono hb.size)), f0, (fun h => (f1 h).below bb), f2, fun _ => hq, f4, f5⟩
    case s4 =>
      rintro L a v w hv hg hL hd hcl ⟨e2, e3, hb, f0, f1, f2, f3, f4, f5⟩ K hK
      have h1 := f1 (hd 1 (by decide))
      have h3 := f3 (hd 3 (by decide))
      refine step_do rfl ?_
      clear hv
      go_simp
      refine (sameTB' HS.out HW.out h1.fresh h3.fresh).mono ?_
      rintro e wy ⟨rfl, bb⟩
      exact hK.out _ _ ⟨e2, e3, (hb.trans (bb.mono hb.size)), f0, (fun h => (f1 h).below bb), f2, (fun h => (f3 h).below bb), fun _ => rfl, f5⟩
    case s5 =>
      rintro L a v w hv hg hL hd hcl ⟨e2, e3, hb, f0, f1, f2, f3, f4, f5⟩ K hK
      have g0 := f0 (hd 0 (by decide))
      have g2 := f2 (hd 2 (by decide))
      refine step_do rfl ?_
      clear hv
      go_simp
      exact hK.out _ _ ⟨e2, e3, hb, f0, f1, f2, f3, f4, fun _ => rfl⟩
  case hend =>
  rintro L v wz hall ⟨e2, e3, hb, f0, f1, f2, f3, f4, f5⟩
  have hL : ∀ i, i < 6 → L i = true := hall
  have f0 := f0 (hL 0 (by decide))
  have f1 := f1 (hL 1 (by decide))
  have f2 := f2 (hL 2 (by decide))
  have f3 := f3 (hL 3 (by decide))
  have f4 := f4 (hL 4 (by decide))
  have f5 := f5 (hL 5 (by decide))
  simp only [finA, List.foldl_cons, List.foldl_nil, Act.put, List.setIfInBounds_toArray, List.set_cons_succ, List.set_cons_zero, f0, f2, f5, f4]
  have gb := gb.trans (hb.mono gb.size)
  clear e2 e3 f0 f1 f2 f3 f4 f5 hL hall
  go_wp2_with fail
  go_ret
  exact ⟨rfl, gb⟩
end Go.Proofs.YtocoohpekpkmkaaGreat

/- The document's example of boards: numbers. -/
namespace Go.Proofs.YtocoohpekpkmkaaGreat
set_option linter.unusedVariables false
set_option linter.unusedSimpArgs false
set_option maxRecDepth 100000
open Go.RowKit
open Reg (La Vl)
def exBA : Bd := ⟨[0, 1, 0, 0, 0, 0, 0, 0, 0, 0, 0, 0, 0, 0, 0, 0], [(0, 0, 0), (0, 0, 0), (1, 1, 5), (0, 0, 0), (0, 0, 0), (0, 0, 0), (0, 0, 0), (0, 0, 0)], [0, 0, 0, 0, 0, 0, 0, 0], []⟩
def exBB : Bd := ⟨[0, 1, 0, 1, 0, 0, 0, 0, 0, 0, 0, 0, 0, 0, 0, 0], [(0, 0, 0), (0, 0, 0), (2, 3, 6), (0, 0, 0), (0, 0, 0), (0, 0, 0), (0, 0, 0), (0, 0, 0)], [0, 0, 0, 0, 0, 0, 0, 0], []⟩
theorem exA_wrote : Bo.wrote Bo.zero 1 2 5 = (exBA, 0) := Prod.ext ((sameB_iff _ _).1 (by decide +kernel)) (by decide +kernel)
theorem exB_wrote : Bo.wrote exBA 3 2 6 = (exBB, 0) := Prod.ext ((sameB_iff _ _).1 (by decide +kernel)) (by decide +kernel)
theorem exB_right : Bo.rightB exBB = true := by decide +kernel
theorem exB_put : putBo exBB = (Frame.frm (bodyL exBB), 0) := by unfold putBo; rw [if_pos exB_right]
def okIs (r : Except Nat Bd) (b : Bd) : Bool := match r with
  | .ok x => sameB x b
  | .error _ => false
theorem okIs_eq {r : Except Nat Bd} {b : Bd} (h : okIs r b = true) : r = .ok b := by
  cases r with
  | error y => cases h
  | ok x => rw [(sameB_iff x b).1 h]
theorem exB_getX : Bo.getX (bodyL exBB) = .ok exBB := okIs_eq (by decide +kernel)
theorem exB_len : (bodyL exBB).length ≤ 4096 := by decide +kernel
theorem exB_get : getBo (Frame.frm (bodyL exBB)) = (exBB, 0) := by
  have hd := Frame.dec_frm exB_len []
  rw [List.append_nil] at hd
  exact getBo_ok (by rw [getE_x hd, exB_getX])
end Go.Proofs.YtocoohpekpkmkaaGreat

/- The walk of the law's alive. -/
namespace Go.Proofs.YtocoohpekpkmkaaGreat
set_option linter.unusedVariables false
set_option linter.unusedSimpArgs false
set_option maxRecDepth 100000
open Go.RowKit
open Reg (La Vl)
theorem exBs : Bo.Shaped exBB := ⟨rfl, rfl, rfl⟩
theorem exAs : Bo.Shaped exBA := ⟨rfl, rfl, rfl⟩
theorem exB_val : Tally.valueL exBB.t = 2 := by decide +kernel
theorem exB_same : sameB exBB exBB = true := (sameB_iff _ _).2 rfl
theorem exBw : WfB exBB := ⟨by unfold Wf; decide +kernel, by unfold WfP; decide +kernel, by unfold Wf; decide +kernel⟩
set_option maxHeartbeats 4000000 in
theorem balive_any (w : World) : Calls Tryz.prog 6 #[] w (GiveBo w true) := by
  have HBD := Lib.hid fun (w : World) => (show (Instr.build 41 #[]).run Tryz.prog w = .ok (.agg (bc Bo.zero (.slice none 0 0))) w by kernel_rfl)
  obtain ⟨zz, hzz⟩ : ∃ zz, zz = Bo.zero := ⟨_, rfl⟩
  have hw1 := fun w => bwrote_any Bo.zero Bo.zero_shaped 1 2 5 (.agg (bc Bo.zero (.slice none 0 0))) w ⟨none, 0, 0, rfl, RdV.nil _ _ _, by omega⟩
  rw [exA_wrote] at hw1
  have HW1 := Lib.hid hw1
  clear hw1 hzz
  go_enter Tryz.func6, Tryz.ntmps6
  go_wp2_with ((refine wpList_bdV (v := .agg (bc Bo.zero (.slice none 0 0))) (w' := _) rfl 41 #[] rfl ?_ ?_); (simp only [List.map_toArray, List.map_nil]; exact HBD.out _))
  refine (HW1.out w).mono ?_
  rintro e w1 ⟨_, rfl, hA, gb⟩
  obtain ⟨A1, m1, c1, rfl, oA, hmA⟩ := hA
  have FA : FoBo 84 exBA (.agg (bc exBA (.slice A1 m1 c1))) w1 := ⟨A1, m1, c1, rfl, oA, hmA⟩
  have NA := Lib.hid (bc_size (s := .slice A1 m1 c1) exAs)
  have OA := Lib.hid (bc_one (b := exBA) (s := .slice A1 m1 c1) rfl)
  generalize hcA : bc exBA (.slice A1 m1 c1) = cA at *
  go_upto_region 2 with ((with_reducible refine wpList_st rowBo (Blk.new _ _ _) NA.out ?_ OA.out ?_ ?_ ?_); (rfl); rotate_left; (rfl); (rfl); intro w2 kA g2 z2)
  have bq : Below w1.heap.size w1 w2 := new_below g2
  have FA := FA.below bq
  have gb := gb.trans (bq.mono gb.size)
  clear g2 z2 bq oA
  have hw2 := bwrote_any exBA exAs 3 2 6 (.agg cA) w2 FA.fresh
  rw [exB_wrote] at hw2
  have HW2 := Lib.hid hw2
  clear hw2
  go_wp2_with ((with_reducible refine wpList_ld rowBo kA NA.out ?_ ?_); rotate_left; (rfl))
  refine HW2.out.mono ?_
  rintro e w3 ⟨_, rfl, hB, b3⟩
  have gb := gb.trans (b3.mono gb.size)
  obtain ⟨B1, n1, d1, rfl, oB, hmB⟩ := hB
  have FB : FoBo 84 exBB (.agg (bc exBB (.slice B1 n1 d1))) w3 := ⟨B1, n1, d1, rfl, oB, hmB⟩
  have N49 := Lib.hid (bc_size (s := .slice B1 n1 d1) exBs)
  have OB := Lib.hid (bc_one (b := exBB) (s := .slice B1 n1 d1) rfl)
  obtain ⟨cB, hcB⟩ : ∃ cB, cB = bc exBB (.slice B1 n1 d1) := ⟨_, rfl⟩
  rw [← hcB] at FB N49 OB ⊢
  have HCB := Lib.hid hcB
  clear kA b3 HW2 HW1 oB hcB FA
  go_upto_region 3 with ((with_reducible refine wpList_st rowBo (Blk.new _ _ _) N49.out ?_ OB.out ?_ ?_ ?_); (rfl); rotate_left; (rfl); (rfl); intro w4 kB g4 z4)
  obtain ⟨gB, hgB⟩ : ∃ gB, gB = w3.heap.size := ⟨_, rfl⟩
  rw [← hgB] at kB ⊢
  have bq : Below w3.heap.size w3 w4 := new_below g4
  have FB := FB.below bq
  have gb := gb.trans (bq.mono gb.size)
  clear g4 z4 bq hgB
  have hp := bput_any exBB exBs (.agg cB) w4 FB.fresh
  rw [exB_put] at hp
  have HP := Lib.hid hp
  clear hp
  go_wp2_with ((with_reducible refine wpList_ld rowBo kB N49.out ?_ ?_); rotate_left; (rfl))
  refine HP.out.mono ?_
  rintro e w5 ⟨AX, nX, cX, rfl, oX, b5⟩
  have kB := kB.below b5 kB.lt
  have FB := FB.below b5
  have gb := gb.trans (b5.mono gb.size)
  have hnx : nX ≤ 1000000 := by
    rw [oX.1]
    show (Frame.frm (bodyL exBB)).length ≤ 1000000
    rw [Frame.frm_length]
    have h1 := exB_len
    have h2 := Vint.enc_length (bodyL exBB).length
    omega
  have hcap := ownsRow_le oX.2
  clear b5 HP
  have hg := bget_any AX nX cX (Frame.frm (bodyL exBB)) w5 oX.rd hnx hcap.1 hcap.2
  rw [exB_get] at hg
  have HGT := Lib.hid hg
  clear hg hnx hcap oX
  generalize (Frame.frm (bodyL exBB)) = xsx at *
  go_wp2_with fail
  refine HGT.out.mono ?_
  rintro e w6 ⟨_, rfl, hC, b6⟩
  have kB := kB.below b6 kB.lt
  have FB := FB.below b6
  have gb := gb.trans (b6.mono gb.size)
  obtain ⟨C1, n2, d2, rfl, oC, hmC⟩ := hC
  have FC : FoBo 84 exBB (.agg (bc exBB (.slice C1 n2 d2))) w6 := ⟨C1, n2, d2, rfl, oC, hmC⟩
  have C49 := Lib.hid (bc_size (s := .slice C1 n2 d2) exBs)
  have OC := Lib.hid (bc_one (b := exBB) (s := .slice C1 n2 d2) rfl)
  obtain ⟨cC, hcC⟩ : ∃ cC, cC = bc exBB (.slice C1 n2 d2) := ⟨_, rfl⟩
  rw [← hcC] at FC C49 OC ⊢
  clear b6 HGT oC hcC
  go_upto_region 5 with ((with_reducible refine wpList_st rowBo (Blk.new _ _ _) C49.out ?_ OC.out ?_ ?_ ?_); (rfl); rotate_left; (rfl); (rfl); intro w9 kC g9 z9)
  obtain ⟨gC, hgC⟩ : ∃ gC, gC = w6.heap.size := ⟨_, rfl⟩
  rw [← hgC] at kC ⊢
  have bq : Below w6.heap.size w6 w9 := new_below g9
  have kB := kB.below bq kB.lt
  have FB := FB.below bq
  have FC := FC.below bq
  have gb := gb.trans (bq.mono gb.size)
  clear g9 z9 bq hgC
  have kB2 : Blk w9 gB 41 (bc exBB (.slice B1 n1 d1)) := by rw [← HCB.out]; exact kB
  have hQ := FB.fresh
  have hQC := FC.fresh
  refine wp_region_tail 34 (fun L v w => v 3 = .pointer (some ⟨gB, 0, none⟩) ∧ v 7 = .pointer (some ⟨gC, 0, none⟩) ∧ v 2 = .int .i64 0 ∧ v 4 = .int .i64 0 ∧ v 6 = .int .i64 0 ∧ v 8 = .int .i64 0 ∧ Below w9.heap.size w9 w ∧ (L 0 = true → v 29 = .int .i64 0) ∧ (L 1 = true → v 30 = .bool true) ∧ (L 2 = true → v 31 = .bool true) ∧ (L 3 = true → v 32 = .int .i64 0) ∧ (L 4 = true → v 33 = .bool true) ∧ (L 5 = true → v 34 = .bool true) ∧ (L 6 = true → v 35 = .bool true) ∧ (L 7 = true → v 36 = .pointer (some ⟨gB, 0, none⟩)) ∧ (L 8 = true → v 37 = .agg (tc exBB.t)) ∧ (L 9 = true → v 38 = .int .i64 2) ∧ (L 10 = true → v 39 = .bool true) ∧ (L 11 = true → v 40 = .bool true) ∧ (L 12 = true → v 41 = .bool true) ∧ (L 13 = true → v 42 = .pointer (some ⟨gB, 16, none⟩)) ∧ (L 14 = true → v 43 = .pointer (some ⟨gB, 22, none⟩)) ∧ (L 15 = true → v 44 = .agg #[.int .i64 2, .int .i64 3, .int .i64 6]) ∧ (L 16 = true → v 45 = .agg #[.int .i64 2, .int .i64 3, .int .i64 6]) ∧ (L 17 = true → v 46 = .bool true) ∧ (L 18 = true → v 47 = .bool true) ∧ (L 19 = true → v 48 = .bool true) ∧ (L 20 = true → v 49 = .int .i64 0) ∧ (L 21 = true → v 50 = .bool true) ∧ (L 22 = true → v 51 = .bool true) ∧ (L 23 = true → v 52 = .bool true) ∧ (L 24 = true → v 53 = .int .i64 0) ∧ (L 25 = true → v 54 = .bool true) ∧ (L 26 = true → v 55 = .bool true) ∧ (L 27 = true → v 56 = .bool true) ∧ (L 28 = true → v 57 = .agg cB) ∧ (L 29 = true → FoBo 121 exBB (v 58) w) ∧ (L 30 = true → v 59 = .agg cC) ∧ (L 31 = true → FoBo 121 exBB (v 60) w) ∧ (L 32 = true → v 61 = .bool true) ∧ (L 33 = true → v 62 = .bool true)) [29, 30, 31, 32, 33, 34, 35, 36, 37, 38, 39, 40, 41, 42, 43, 44, 45, 46, 47, 48, 49, 50, 51, 52, 53, 54, 55, 56, 57, 58, 59, 60, 61, 62] (by kernel_rfl) (by kernel_rfl) (by kernel_rfl) (by kernel_rfl) (by kernel_rfl) (by kernel_rfl) ?h0 ?hst ?hend
  case h0 =>
    intro L h0
    have h0 : ∀ i, i < 34 → L i = false := h0
    exact ⟨rfl, rfl, rfl, rfl, rfl, rfl, (Below.refl _ _).drew, offF h0 (i := 0) (by decide), offF h0 (i := 1) (by decide), offF h0 (i := 2) (by decide), offF h0 (i := 3) (by decide), offF h0 (i := 4) (by decide), offF h0 (i := 5) (by decide), offF h0 (i := 6) (by decide), offF h0 (i := 7) (by decide), offF h0 (i := 8) (by decide), offF h0 (i := 9) (by decide), offF h0 (i := 10) (by decide), offF h0 (i := 11) (by decide), offF h0 (i := 12) (by decide), offF h0 (i := 13) (by decide), offF h0 (i := 14) (by decide), offF h0 (i := 15) (by decide), offF h0 (i := 16) (by decide), offF h0 (i := 17) (by decide), offF h0 (i := 18) (by decide), offF h0 (i := 19) (by decide), offF h0 (i := 20) (by decide), offF h0 (i := 21) (by decide), offF h0 (i := 22) (by decide), offF h0 (i := 23) (by decide), offF h0 (i := 24) (by decide), offF h0 (i := 25) (by decide), offF h0 (i := 26) (by decide), offF h0 (i := 27) (by decide), offF h0 (i := 28) (by decide), offF h0 (i := 29) (by decide), offF h0 (i := 30) (by decide), offF h0 (i := 31) (by decide), offF h0 (i := 32) (by decide), offF h0 (i := 33) (by decide)⟩
  case hst =>
    show FactSteps _ _ _ _ [0, 1, 2, 3, 4, 5, 6, 7, 8, 9, 10, 11, 12, 13, 14, 15, 16, 17, 18, 19, 20, 21, 22, 23, 24, 25, 26, 27, 28, 29, 30, 31, 32, 33]
    refine @FactSteps.cons _ _ _ _ 0 _ [] _ rfl (by kernel_rfl) ?s0 ?_
    rotate_left
    refine @FactSteps.cons _ _ _ _ 1 _ [0] _ rfl (by kernel_rfl) ?s1 ?_
    rotate_left
    refine @FactSteps.cons _ _ _ _ 2 _ [1] _ rfl (by kernel_rfl) ?s2 ?_
    rotate_left
    refine @FactSteps.cons _ _ _ _ 3 _ [2] _ rfl (by kernel_rfl) ?s3 ?_
    rotate_left
    refine @FactSteps.cons _ _ _ _ 4 _ [3, 2] _ rfl (by kernel_rfl) ?s4 ?_
    rotate_left
    refine @FactSteps.cons _ _ _ _ 5 _ [2, 4] _ rfl (by kernel_rfl) ?s5 ?_
    rotate_left
    refine @FactSteps.cons _ _ _ _ 6 _ [5, 2] _ rfl (by kernel_rfl) ?s6 ?_
    rotate_left
    refine @FactSteps.cons _ _ _ _ 7 _ [6] _ rfl (by kernel_rfl) ?s7 ?_
    rotate_left
    refine @FactSteps.cons _ _ _ _ 8 _ [7, 6] _ rfl (by kernel_rfl) ?s8 ?_
    rotate_left
    refine @FactSteps.cons _ _ _ _ 9 _ [8, 6, 6] _ rfl (by kernel_rfl) ?s9 ?_
    rotate_left
    refine @FactSteps.cons _ _ _ _ 10 _ [9, 6] _ rfl (by kernel_rfl) ?s10 ?_
    rotate_left
    refine @FactSteps.cons _ _ _ _ 11 _ [6, 10] _ rfl (by kernel_rfl) ?s11 ?_
    rotate_left
    refine @FactSteps.cons _ _ _ _ 12 _ [11, 9] _ rfl (by kernel_rfl) ?s12 ?_
    rotate_left
    refine @FactSteps.cons _ _ _ _ 13 _ [12] _ rfl (by kernel_rfl) ?s13 ?_
    rotate_left
    refine @FactSteps.cons _ _ _ _ 14 _ [13, 12] _ rfl (by kernel_rfl) ?s14 ?_
    rotate_left
    refine @FactSteps.cons _ _ _ _ 15 _ [14, 12] _ rfl (by kernel_rfl) ?s15 ?_
    rotate_left
    refine @FactSteps.cons _ _ _ _ 16 _ [12] _ rfl (by kernel_rfl) ?s16 ?_
    rotate_left
    refine @FactSteps.cons _ _ _ _ 17 _ [15, 16, 12] _ rfl (by kernel_rfl) ?s17 ?_
    rotate_left
    refine @FactSteps.cons _ _ _ _ 18 _ [12, 17] _ rfl (by kernel_rfl) ?s18 ?_
    rotate_left
    refine @FactSteps.cons _ _ _ _ 19 _ [18, 12] _ rfl (by kernel_rfl) ?s19 ?_
    rotate_left
    refine @FactSteps.cons _ _ _ _ 20 _ [19] _ rfl (by kernel_rfl) ?s20 ?_
    rotate_left
    refine @FactSteps.cons _ _ _ _ 21 _ [20, 19] _ rfl (by kernel_rfl) ?s21 ?_
    rotate_left
    refine @FactSteps.cons _ _ _ _ 22 _ [19, 21] _ rfl (by kernel_rfl) ?s22 ?_
    rotate_left
    refine @FactSteps.cons _ _ _ _ 23 _ [22, 19] _ rfl (by kernel_rfl) ?s23 ?_
    rotate_left
    refine @FactSteps.cons _ _ _ _ 24 _ [23] _ rfl (by kernel_rfl) ?s24 ?_
    rotate_left
    refine @FactSteps.cons _ _ _ _ 25 _ [24, 23] _ rfl (by kernel_rfl) ?s25 ?_
    rotate_left
    refine @FactSteps.cons _ _ _ _ 26 _ [23, 25] _ rfl (by kernel_rfl) ?s26 ?_
    rotate_left
    refine @FactSteps.cons _ _ _ _ 27 _ [26, 23] _ rfl (by kernel_rfl) ?s27 ?_
    rotate_left
    refine @FactSteps.cons _ _ _ _ 28 _ [27] _ rfl (by kernel_rfl) ?s28 ?_
    rotate_left
    refine @FactSteps.cons _ _ _ _ 29 _ [28, 27, 27] _ rfl (by kernel_rfl) ?s29 ?_
    rotate_left
    refine @FactSteps.cons _ _ _ _ 30 _ [27] _ rfl (by kernel_rfl) ?s30 ?_
    rotate_left
    refine @FactSteps.cons _ _ _ _ 31 _ [30, 29, 27] _ rfl (by kernel_rfl) ?s31 ?_
    rotate_left
    refine @FactSteps.cons _ _ _ _ 32 _ [29, 31, 31, 27] _ rfl (by kernel_rfl) ?s32 ?_
    rotate_left
    refine @FactSteps.cons _ _ _ _ 33 _ [27, 32] _ rfl (by kernel_rfl) ?s33 ?_
    rotate_left
    exact FactSteps.nil
    case s0 =>
      rintro L a v w hv hg hL hd hcl ⟨e3, e7, e2, e4, e6, e8, hb, f0, f1, f2, f3, f4, f5, f6, f7, f8, f9, f10, f11, f12, f13, f14, f15, f16, f17, f18, f19, f20, f21, f22, f23, f24, f25, f26, f27, f28, f29, f30, f31, f32, f33⟩ K hK
      refine step_do rfl ?_
      clear hv
      go_simp
      exact hK.out _ _ ⟨e3, e7, e2, e4, e6, e8, hb, fun _ => rfl, f1, f2, f3, f4, f5, f6, f7, f8, f9, f10, f11, f12, f13, f14, f15, f16, f17, f18, f19, f20, f21, f22, f23, f24, f25, f26, f27, f28, f29, f30, f31, f32, f33⟩
    case s1 =>
      rintro L a v w hv hg hL hd hcl ⟨e3, e7, e2, e4, e6, e8, hb, f0, f1, f2, f3, f4, f5, f6, f7, f8, f9, f10, f11, f12, f13, f14, f15, f16, f17, f18, f19, f20, f21, f22, f23, f24, f25, f26, f27, f28, f29, f30, f31, f32, f33⟩ K hK
      have g0 := f0 (hd 0 (by decide))
      refine step_do rfl ?_
      clear hv
      go_simp
      exact hK.out _ _ ⟨e3, e7, e2, e4, e6, e8, hb, f0, fun _ => rfl, f2, f3, f4, f5, f6, f7, f8, f9, f10, f11, f12, f13, f14, f15, f16, f17, f18, f19, f20, f21, f22, f23, f24, f25, f26, f27, f28, f29, f30, f31, f32, f33⟩
    case s2 =>
      rintro L a v w hv hg hL hd hcl ⟨e3, e7, e2, e4, e6, e8, hb, f0, f1, f2, f3, f4, f5, f6, f7, f8, f9, f10, f11, f12, f13, f14, f15, f16, f17, f18, f19, f20, f21, f22, f23, f24, f25, f26, f27, f28, f29, f30, f31, f32, f33⟩ K hK
      have g1 := f1 (hd 1 (by decide))
      refine step_do rfl ?_
      clear hv
      go_simp
      exact hK.out _ _ ⟨e3, e7, e2, e4, e6, e8, hb, f0, f1, fun _ => rfl, f3, f4, f5, f6, f7, f8, f9, f10, f11, f12, f13, f14, f15, f16, f17, f18, f19, f20, f21, f22, f23, f24, f25, f26, f27, f28, f29, f30, f31, f32, f33⟩
    case s3 =>
      rintro L a v w hv hg hL hd hcl ⟨e3, e7, e2, e4, e6, e8, hb, f0, f1, f2, f3, f4, f5, f6, f7, f8, f9, f10, f11, f12, f13, f14, f15, f16, f17, f18, f19, f20, f21, f22, f23, f24, f25, f26, f27, f28, f29, f30, f31, f32, f33⟩ K hK
      have g2 := f2 (hd 2 (by decide))
      refine step_want (j := 2) (s := 31) (b := true) rfl rfl ((hv 31).trans (f2 (hd 2 (by decide)))) ?_
      clear hv
      go_simp
      exact hK.out _ _ ⟨e3, e7, e2, e4, e6, e8, hb, f0, f1, f2, fun _ => rfl, f4, f5, f6, f7, f8, f9, f10, f11, f12, f13, f14, f15, f16, f17, f18, f19, f20, f21, f22, f23, f24, f25, f26, f27, f28, f29, f30, f31, f32, f33⟩
    case s4 =>
      rintro L a v w hv hg hL hd hcl ⟨e3, e7, e2, e4, e6, e8, hb, f0, f1, f2, f3, f4, f5, f6, f7, f8, f9, f10, f11, f12, f13, f14, f15, f16, f17, f18, f19, f20, f21, f22, f23, f24, f25, f26, f27, f28, f29, f30, f31, f32, f33⟩ K hK
      have g2 := f2 (hd 2 (by decide))
      have g3 := f3 (hd 3 (by decide))
      refine step_want (j := 2) (s := 31) (b := true) rfl rfl ((hv 31).trans (f2 (hd 2 (by decide)))) ?_
      clear hv
      go_simp
      exact hK.out _ _ ⟨e3, e7, e2, e4, e6, e8, hb, f0, f1, f2, f3, fun _ => rfl, f5, f6, f7, f8, f9, f10, f11, f12, f13, f14, f15, f16, f17, f18, f19, f20, f21, f22, f23, f24, f25, f26, f27, f28, f29, f30, f31, f32, f33⟩
    case s5 =>
      rintro L a v w hv hg hL hd hcl ⟨e3, e7, e2, e4, e6, e8, hb, f0, f1, f2, f3, f4, f5, f6, f7, f8, f9, f10, f11, f12, f13, f14, f15, f16, f17, f18, f19, f20, f21, f22, f23, f24, f25, f26, f27, f28, f29, f30, f31, f32, f33⟩ K hK
      have g2 := f2 (hd 2 (by decide))
      have g4 := f4 (hd 4 (by decide))
      refine step_do rfl ?_
      clear hv
      go_simp
      exact hK.out _ _ ⟨e3, e7, e2, e4, e6, e8, hb, f0, f1, f2, f3, f4, fun _ => rfl, f6, f7, f8, f9, f10, f11, f12, f13, f14, f15, f16, f17, f18, f19, f20, f21, f22, f23, f24, f25, f26, f27, f28, f29, f30, f31, f32, f33⟩
    case s6 =>
      rintro L a v w hv hg hL hd hcl ⟨e3, e7, e2, e4, e6, e8, hb, f0, f1, f2, f3, f4, f5, f6, f7, f8, f9, f10, f11, f12, f13, f14, f15, f16, f17, f18, f19, f20, f21, f22, f23, f24, f25, f26, f27, f28, f29, f30, f31, f32, f33⟩ K hK
      have g2 := f2 (hd 2 (by decide))
      have g5 := f5 (hd 5 (by decide))
      refine step_do rfl ?_
      clear hv
      go_simp
      exact hK.out _ _ ⟨e3, e7, e2, e4, e6, e8, hb, f0, f1, f2, f3, f4, f5, fun _ => rfl, f7, f8, f9, f10, f11, f12, f13, f14, f15, f16, f17, f18, f19, f20, f21, f22, f23, f24, f25, f26, f27, f28, f29, f30, f31, f32, f33⟩
    case s7 =>
      rintro L a v w hv hg hL hd hcl ⟨e3, e7, e2, e4, e6, e8, hb, f0, f1, f2, f3, f4, f5, f6, f7, f8, f9, f10, f11, f12, f13, f14, f15, f16, f17, f18, f19, f20, f21, f22, f23, f24, f25, f26, f27, f28, f29, f30, f31, f32, f33⟩ K hK
      have g6 := f6 (hd 6 (by decide))
      refine step_want (j := 6) (s := 35) (b := true) rfl rfl ((hv 35).trans (f6 (hd 6 (by decide)))) ?_
      clear hv
      go_simp
      exact hK.out _ _ ⟨e3, e7, e2, e4, e6, e8, hb, f0, f1, f2, f3, f4, f5, f6, fun _ => rfl, f8, f9, f10, f11, f12, f13, f14, f15, f16, f17, f18, f19, f20, f21, f22, f23, f24, f25, f26, f27, f28, f29, f30, f31, f32, f33⟩
    case s8 =>
      rintro L a v w hv hg hL hd hcl ⟨e3, e7, e2, e4, e6, e8, hb, f0, f1, f2, f3, f4, f5, f6, f7, f8, f9, f10, f11, f12, f13, f14, f15, f16, f17, f18, f19, f20, f21, f22, f23, f24, f25, f26, f27, f28, f29, f30, f31, f32, f33⟩ K hK
      have g6 := f6 (hd 6 (by decide))
      have g7 := f7 (hd 7 (by decide))
      refine step_want (j := 6) (s := 35) (b := true) rfl rfl ((hv 35).trans (f6 (hd 6 (by decide)))) ?_
      refine wp_ldr rowT (.tmp 36) rfl ((hv 36).trans g7) ((kB2.below hb kB2.lt).tal exBs) rfl ?_
      exact hK.out _ _ ⟨e3, e7, e2, e4, e6, e8, hb, f0, f1, f2, f3, f4, f5, f6, f7, fun _ => rfl, f9, f10, f11, f12, f13, f14, f15, f16, f17, f18, f19, f20, f21, f22, f23, f24, f25, f26, f27, f28, f29, f30, f31, f32, f33⟩
    case s9 =>
      rintro L a v w hv hg hL hd hcl ⟨e3, e7, e2, e4, e6, e8, hb, f0, f1, f2, f3, f4, f5, f6, f7, f8, f9, f10, f11, f12, f13, f14, f15, f16, f17, f18, f19, f20, f21, f22, f23, f24, f25, f26, f27, f28, f29, f30, f31, f32, f33⟩ K hK
      have h8 := f8 (hd 8 (by decide))
      refine step_want (j := 6) (s := 35) (b := true) rfl rfl ((hv 35).trans (f6 (hd 6 (by decide)))) ?_
      clear hv
      go_simp
      refine (value_any exBB.t w rfl).mono ?_
      rintro e wy ⟨rfl, bb⟩
      rw [exB_val]
      exact hK.out _ _ ⟨e3, e7, e2, e4, e6, e8, (hb.trans (bb.mono hb.size)), f0, f1, f2, f3, f4, f5, f6, f7, f8, fun _ => rfl, f10, f11, f12, f13, f14, f15, f16, f17, f18, f19, f20, f21, f22, f23, f24, f25, f26, f27, f28, (fun h => (f29 h).below bb), f30, (fun h => (f31 h).below bb), f32, f33⟩
    case s10 =>
      rintro L a v w hv hg hL hd hcl ⟨e3, e7, e2, e4, e6, e8, hb, f0, f1, f2, f3, f4, f5, f6, f7, f8, f9, f10, f11, f12, f13, f14, f15, f16, f17, f18, f19, f20, f21, f22, f23, f24, f25, f26, f27, f28, f29, f30, f31, f32, f33⟩ K hK
      have g6 := f6 (hd 6 (by decide))
      refine step_want (j := 6) (s := 35) (b := true) rfl rfl ((hv 35).trans (f6 (hd 6 (by decide)))) ?_
      clear hv
      go_simp
      exact hK.out _ _ ⟨e3, e7, e2, e4, e6, e8, hb, f0, f1, f2, f3, f4, f5, f6, f7, f8, f9, fun _ => rfl, f11, f12, f13, f14, f15, f16, f17, f18, f19, f20, f21, f22, f23, f24, f25, f26, f27, f28, f29, f30, f31, f32, f33⟩
    case s11 =>
      rintro L a v w hv hg hL hd hcl ⟨e3, e7, e2, e4, e6, e8, hb, f0, f1, f2, f3, f4, f5, f6, f7, f8, f9, f10, f11, f12, f13, f14, f15, f16, f17, f18, f19, f20, f21, f22, f23, f24, f25, f26, f27, f28, f29, f30, f31, f32, f33⟩ K hK
      have g6 := f6 (hd 6 (by decide))
      have g10 := f10 (hd 10 (by decide))
      refine step_do rfl ?_
      clear hv
      go_simp
      exact hK.out _ _ ⟨e3, e7, e2, e4, e6, e8, hb, f0, f1, f2, f3, f4, f5, f6, f7, f8, f9, f10, fun _ => rfl, f12, f13, f14, f15, f16, f17, f18, f19, f20, f21, f22, f23, f24, f25, f26, f27, f28, f29, f30, f31, f32, f33⟩
    case s12 =>
      rintro L a v w hv hg hL hd hcl ⟨e3, e7, e2, e4, e6, e8, hb, f0, f1, f2, f3, f4, f5, f6, f7, f8, f9, f10, f11, f12, f13, f14, f15, f16, f17, f18, f19, f20, f21, f22, f23, f24, f25, f26, f27, f28, f29, f30, f31, f32, f33⟩ K hK
      have g11 := f11 (hd 11 (by decide))
      refine step_do rfl ?_
      clear hv
      go_simp
      exact hK.out _ _ ⟨e3, e7, e2, e4, e6, e8, hb, f0, f1, f2, f3, f4, f5, f6, f7, f8, f9, f10, f11, fun _ => rfl, f13, f14, f15, f16, f17, f18, f19, f20, f21, f22, f23, f24, f25, f26, f27, f28, f29, f30, f31, f32, f33⟩
    case s13 =>
      rintro L a v w hv hg hL hd hcl ⟨e3, e7, e2, e4, e6, e8, hb, f0, f1, f2, f3, f4, f5, f6, f7, f8, f9, f10, f11, f12, f13, f14, f15, f16, f17, f18, f19, f20, f21, f22, f23, f24, f25, f26, f27, f28, f29, f30, f31, f32, f33⟩ K hK
      have g12 := f12 (hd 12 (by decide))
      refine step_want (j := 12) (s := 41) (b := true) rfl rfl ((hv 41).trans (f12 (hd 12 (by decide)))) ?_
      clear hv
      go_simp
      exact hK.out _ _ ⟨e3, e7, e2, e4, e6, e8, hb, f0, f1, f2, f3, f4, f5, f6, f7, f8, f9, f10, f11, f12, fun _ => rfl, f14, f15, f16, f17, f18, f19, f20, f21, f22, f23, f24, f25, f26, f27, f28, f29, f30, f31, f32, f33⟩
    case s14 =>
      rintro L a v w hv hg hL hd hcl ⟨e3, e7, e2, e4, e6, e8, hb, f0, f1, f2, f3, f4, f5, f6, f7, f8, f9, f10, f11, f12, f13, f14, f15, f16, f17, f18, f19, f20, f21, f22, f23, f24, f25, f26, f27, f28, f29, f30, f31, f32, f33⟩ K hK
      have g12 := f12 (hd 12 (by decide))
      have g13 := f13 (hd 13 (by decide))
      refine step_want (j := 12) (s := 41) (b := true) rfl rfl ((hv 41).trans (f12 (hd 12 (by decide)))) ?_
      clear hv
      go_simp
      exact hK.out _ _ ⟨e3, e7, e2, e4, e6, e8, hb, f0, f1, f2, f3, f4, f5, f6, f7, f8, f9, f10, f11, f12, f13, fun _ => rfl, f15, f16, f17, f18, f19, f20, f21, f22, f23, f24, f25, f26, f27, f28, f29, f30, f31, f32, f33⟩
    case s15 =>
      rintro L a v w hv hg hL hd hcl ⟨e3, e7, e2, e4, e6, e8, hb, f0, f1, f2, f3, f4, f5, f6, f7, f8, f9, f10, f11, f12, f13, f14, f15, f16, f17, f18, f19, f20, f21, f22, f23, f24, f25, f26, f27, f28, f29, f30, f31, f32, f33⟩ K hK
      have g12 := f12 (hd 12 (by decide))
      have g14 := f14 (hd 14 (by decide))
      refine step_want (j := 12) (s := 41) (b := true) rfl rfl ((hv 41).trans (f12 (hd 12 (by decide)))) ?_
      refine wp_ldr rowLa (.tmp 43) rfl ((hv 43).trans g14) ((kB2.below hb kB2.lt).plan exBs (i := 2) (by decide) : w.rangeAt gB 22 (#[.int .i64 2, .int .i64 3, .int .i64 6] : Array Value).toList) rfl ?_
      exact hK.out _ _ ⟨e3, e7, e2, e4, e6, e8, hb, f0, f1, f2, f3, f4, f5, f6, f7, f8, f9, f10, f11, f12, f13, f14, fun _ => rfl, f16, f17, f18, f19, f20, f21, f22, f23, f24, f25, f26, f27, f28, f29, f30, f31, f32, f33⟩
    case s16 =>
      rintro L a v w hv hg hL hd hcl ⟨e3, e7, e2, e4, e6, e8, hb, f0, f1, f2, f3, f4, f5, f6, f7, f8, f9, f10, f11, f12, f13, f14, f15, f16, f17, f18, f19, f20, f21, f22, f23, f24, f25, f26, f27, f28, f29, f30, f31, f32, f33⟩ K hK
      have g12 := f12 (hd 12 (by decide))
      refine step_want (j := 12) (s := 41) (b := true) rfl rfl ((hv 41).trans (f12 (hd 12 (by decide)))) ?_
      clear hv
      go_simp
      exact hK.out _ _ ⟨e3, e7, e2, e4, e6, e8, hb, f0, f1, f2, f3, f4, f5, f6, f7, f8, f9, f10, f11, f12, f13, f14, f15, fun _ => rfl, f17, f18, f19, f20, f21, f22, f23, f24, f25, f26, f27, f28, f29, f30, f31, f32, f33⟩
    case s17 =>
      rintro L a v w hv hg hL hd hcl ⟨e3, e7, e2, e4, e6, e8, hb, f0, f1, f2, f3, f4, f5, f6, f7, f8, f9, f10, f11, f12, f13, f14, f15, f16, f17, f18, f19, f20, f21, f22, f23, f24, f25, f26, f27, f28, f29, f30, f31, f32, f33⟩ K hK
      have g12 := f12 (hd 12 (by decide))
      have g15 := f15 (hd 15 (by decide))
      have g16 := f16 (hd 16 (by decide))
      refine step_want (j := 12) (s := 41) (b := true) rfl rfl ((hv 41).trans (f12 (hd 12 (by decide)))) ?_
      clear hv
      go_simp
      exact hK.out _ _ ⟨e3, e7, e2, e4, e6, e8, hb, f0, f1, f2, f3, f4, f5, f6, f7, f8, f9, f10, f11, f12, f13, f14, f15, f16, fun _ => rfl, f18, f19, f20, f21, f22, f23, f24, f25, f26, f27, f28, f29, f30, f31, f32, f33⟩
    case s18 =>
      rintro L a v w hv hg hL hd hcl ⟨e3, e7, e2, e4, e6, e8, hb, f0, f1, f2, f3, f4, f5, f6, f7, f8, f9, f10, f11, f12, f13, f14, f15, f16, f17, f18, f19, f20, f21, f22, f23, f24, f25, f26, f27, f28, f29, f30, f31, f32, f33⟩ K hK
      have g12 := f12 (hd 12 (by decide))
      have g17 := f17 (hd 17 (by decide))
      refine step_do rfl ?_
      clear hv
      go_simp
      exact hK.out _ _ ⟨e3, e7, e2, e4, e6, e8, hb, f0, f1, f2, f3, f4, f5, f6, f7, f8, f9, f10, f11, f12, f13, f14, f15, f16, f17, fun _ => rfl, f19, f20, f21, f22, f23, f24, f25, f26, f27, f28, f29, f30, f31, f32, f33⟩
    case s19 =>
      rintro L a v w hv hg hL hd hcl ⟨e3, e7, e2, e4, e6, e8, hb, f0, f1, f2, f3, f4, f5, f6, f7, f8, f9, f10, f11, f12, f13, f14, f15, f16, f17, f18, f19, f20, f21, f22, f23, f24, f25, f26, f27, f28, f29, f30, f31, f32, f33⟩ K hK
      have g12 := f12 (hd 12 (by decide))
      have g18 := f18 (hd 18 (by decide))
      refine step_do rfl ?_
      clear hv
      go_simp
      exact hK.out _ _ ⟨e3, e7, e2, e4, e6, e8, hb, f0, f1, f2, f3, f4, f5, f6, f7, f8, f9, f10, f11, f12, f13, f14, f15, f16, f17, f18, fun _ => rfl, f20, f21, f22, f23, f24, f25, f26, f27, f28, f29, f30, f31, f32, f33⟩
    case s20 =>
      rintro L a v w hv hg hL hd hcl ⟨e3, e7, e2, e4, e6, e8, hb, f0, f1, f2, f3, f4, f5, f6, f7, f8, f9, f10, f11, f12, f13, f14, f15, f16, f17, f18, f19, f20, f21, f22, f23, f24, f25, f26, f27, f28, f29, f30, f31, f32, f33⟩ K hK
      have g19 := f19 (hd 19 (by decide))
      refine step_want (j := 19) (s := 48) (b := true) rfl rfl ((hv 48).trans (f19 (hd 19 (by decide)))) ?_
      clear hv
      go_simp
      exact hK.out _ _ ⟨e3, e7, e2, e4, e6, e8, hb, f0, f1, f2, f3, f4, f5, f6, f7, f8, f9, f10, f11, f12, f13, f14, f15, f16, f17, f18, f19, fun _ => rfl, f21, f22, f23, f24, f25, f26, f27, f28, f29, f30, f31, f32, f33⟩
    case s21 =>
      rintro L a v w hv hg hL hd hcl ⟨e3, e7, e2, e4, e6, e8, hb, f0, f1, f2, f3, f4, f5, f6, f7, f8, f9, f10, f11, f12, f13, f14, f15, f16, f17, f18, f19, f20, f21, f22, f23, f24, f25, f26, f27, f28, f29, f30, f31, f32, f33⟩ K hK
      have g19 := f19 (hd 19 (by decide))
      have g20 := f20 (hd 20 (by decide))
      refine step_want (j := 19) (s := 48) (b := true) rfl rfl ((hv 48).trans (f19 (hd 19 (by decide)))) ?_
      clear hv
      go_simp
      exact hK.out _ _ ⟨e3, e7, e2, e4, e6, e8, hb, f0, f1, f2, f3, f4, f5, f6, f7, f8, f9, f10, f11, f12, f13, f14, f15, f16, f17, f18, f19, f20, fun _ => rfl, f22, f23, f24, f25, f26, f27, f28, f29, f30, f31, f32, f33⟩
    case s22 =>
      rintro L a v w hv hg hL hd hcl ⟨e3, e7, e2, e4, e6, e8, hb, f0, f1, f2, f3, f4, f5, f6, f7, f8, f9, f10, f11, f12, f13, f14, f15, f16, f17, f18, f19, f20, f21, f22, f23, f24, f25, f26, f27, f28, f29, f30, f31, f32, f33⟩ K hK
      have g19 := f19 (hd 19 (by decide))
      have g21 := f21 (hd 21 (by decide))
      refine step_do rfl ?_
      clear hv
      go_simp
      exact hK.out _ _ ⟨e3, e7, e2, e4, e6, e8, hb, f0, f1, f2, f3, f4, f5, f6, f7, f8, f9, f10, f11, f12, f13, f14, f15, f16, f17, f18, f19, f20, f21, fun _ => rfl, f23, f24, f25, f26, f27, f28, f29, f30, f31, f32, f33⟩
    case s23 =>
      rintro L a v w hv hg hL hd hcl ⟨e3, e7, e2, e4, e6, e8, hb, f0, f1, f2, f3, f4, f5, f6, f7, f8, f9, f10, f11, f12, f13, f14, f15, f16, f17, f18, f19, f20, f21, f22, f23, f24, f25, f26, f27, f28, f29, f30, f31, f32, f33⟩ K hK
      have g19 := f19 (hd 19 (by decide))
      have g22 := f22 (hd 22 (by decide))
      refine step_do rfl ?_
      clear hv
      go_simp
      exact hK.out _ _ ⟨e3, e7, e2, e4, e6, e8, hb, f0, f1, f2, f3, f4, f5, f6, f7, f8, f9, f10, f11, f12, f13, f14, f15, f16, f17, f18, f19, f20, f21, f22, fun _ => rfl, f24, f25, f26, f27, f28, f29, f30, f31, f32, f33⟩
    case s24 =>
      rintro L a v w hv hg hL hd hcl ⟨e3, e7, e2, e4, e6, e8, hb, f0, f1, f2, f3, f4, f5, f6, f7, f8, f9, f10, f11, f12, f13, f14, f15, f16, f17, f18, f19, f20, f21, f22, f23, f24, f25, f26, f27, f28, f29, f30, f31, f32, f33⟩ K hK
      have g23 := f23 (hd 23 (by decide))
      refine step_want (j := 23) (s := 52) (b := true) rfl rfl ((hv 52).trans (f23 (hd 23 (by decide)))) ?_
      clear hv
      go_simp
      exact hK.out _ _ ⟨e3, e7, e2, e4, e6, e8, hb, f0, f1, f2, f3, f4, f5, f6, f7, f8, f9, f10, f11, f12, f13, f14, f15, f16, f17, f18, f19, f20, f21, f22, f23, fun _ => rfl, f25, f26, f27, f28, f29, f30, f31, f32, f33⟩
    case s25 =>
      rintro L a v w hv hg hL hd hcl ⟨e3, e7, e2, e4, e6, e8, hb, f0, f1, f2, f3, f4, f5, f6, f7, f8, f9, f10, f11, f12, f13, f14, f15, f16, f17, f18, f19, f20, f21, f22, f23, f24, f25, f26, f27, f28, f29, f30, f31, f32, f33⟩ K hK
      have g23 := f23 (hd 23 (by decide))
      have g24 := f24 (hd 24 (by decide))
      refine step_want (j := 23) (s := 52) (b := true) rfl rfl ((hv 52).trans (f23 (hd 23 (by decide)))) ?_
      clear hv
      go_simp
      exact hK.out _ _ ⟨e3, e7, e2, e4, e6, e8, hb, f0, f1, f2, f3, f4, f5, f6, f7, f8, f9, f10, f11, f12, f13, f14, f15, f16, f17, f18, f19, f20, f21, f22, f23, f24, fun _ => rfl, f26, f27, f28, f29, f30, f31, f32, f33⟩
    case s26 =>
      rintro L a v w hv hg hL hd hcl ⟨e3, e7, e2, e4, e6, e8, hb, f0, f1, f2, f3, f4, f5, f6, f7, f8, f9, f10, f11, f12, f13, f14, f15, f16, f17, f18, f19, f20, f21, f22, f23, f24, f25, f26, f27, f28, f29, f30, f31, f32, f33⟩ K hK
      have g23 := f23 (hd 23 (by decide))
      have g25 := f25 (hd 25 (by decide))
      refine step_do rfl ?_
      clear hv
      go_simp
      exact hK.out _ _ ⟨e3, e7, e2, e4, e6, e8, hb, f0, f1, f2, f3, f4, f5, f6, f7, f8, f9, f10, f11, f12, f13, f14, f15, f16, f17, f18, f19, f20, f21, f22, f23, f24, f25, fun _ => rfl, f27, f28, f29, f30, f31, f32, f33⟩
    case s27 =>
      rintro L a v w hv hg hL hd hcl ⟨e3, e7, e2, e4, e6, e8, hb, f0, f1, f2, f3, f4, f5, f6, f7, f8, f9, f10, f11, f12, f13, f14, f15, f16, f17, f18, f19, f20, f21, f22, f23, f24, f25, f26, f27, f28, f29, f30, f31, f32, f33⟩ K hK
      have g23 := f23 (hd 23 (by decide))
      have g26 := f26 (hd 26 (by decide))
      refine step_do rfl ?_
      clear hv
      go_simp
      exact hK.out _ _ ⟨e3, e7, e2, e4, e6, e8, hb, f0, f1, f2, f3, f4, f5, f6, f7, f8, f9, f10, f11, f12, f13, f14, f15, f16, f17, f18, f19, f20, f21, f22, f23, f24, f25, f26, fun _ => rfl, f28, f29, f30, f31, f32, f33⟩
    case s28 =>
      rintro L a v w hv hg hL hd hcl ⟨e3, e7, e2, e4, e6, e8, hb, f0, f1, f2, f3, f4, f5, f6, f7, f8, f9, f10, f11, f12, f13, f14, f15, f16, f17, f18, f19, f20, f21, f22, f23, f24, f25, f26, f27, f28, f29, f30, f31, f32, f33⟩ K hK
      refine step_want (j := 27) (s := 56) (b := true) rfl rfl ((hv 56).trans (f27 (hd 27 (by decide)))) ?_
      refine wp_ld rowBo (.tmp 3) rfl ((hv 3).trans e3) (kB.below hb kB.lt) N49.out ?_
      exact hK.out _ _ ⟨e3, e7, e2, e4, e6, e8, hb, f0, f1, f2, f3, f4, f5, f6, f7, f8, f9, f10, f11, f12, f13, f14, f15, f16, f17, f18, f19, f20, f21, f22, f23, f24, f25, f26, f27, fun _ => rfl, f29, f30, f31, f32, f33⟩
    case s29 =>
      rintro L a v w hv hg hL hd hcl ⟨e3, e7, e2, e4, e6, e8, hb, f0, f1, f2, f3, f4, f5, f6, f7, f8, f9, f10, f11, f12, f13, f14, f15, f16, f17, f18, f19, f20, f21, f22, f23, f24, f25, f26, f27, f28, f29, f30, f31, f32, f33⟩ K hK
      have h28 := f28 (hd 28 (by decide))
      refine step_want (j := 27) (s := 56) (b := true) rfl rfl ((hv 56).trans (f27 (hd 27 (by decide)))) ?_
      clear hv
      go_simp
      refine (boFrom_any exBB exBs _ w (hQ.below hb)).mono ?_
      rintro e wy ⟨q, rfl, hq, bb⟩
      exact hK.out _ _ ⟨e3, e7, e2, e4, e6, e8, (hb.trans (bb.mono hb.size)), f0, f1, f2, f3, f4, f5, f6, f7, f8, f9, f10, f11, f12, f13, f14, f15, f16, f17, f18, f19, f20, f21, f22, f23, f24, f25, f26, f27, f28, fun _ => hq, f30, (fun h => (f31 h).below bb), f32, f33⟩
    case s30 =>
      rintro L a v w hv hg hL hd hcl ⟨e3, e7, e2, e4, e6, e8, hb, f0, f1, f2, f3, f4, f5, f6, f7, f8, f9, f10, f11, f12, f13, f14, f15, f16, f17, f18, f19, f20, f21, f22, f23, f24, f25, f26, f27, f28, f29, f30, f31, f32, f33⟩ K hK
      refine step_want (j := 27) (s := 56) (b := true) rfl rfl ((hv 56).trans (f27 (hd 27 (by decide)))) ?_
      refine wp_ld rowBo (.tmp 7) rfl ((hv 7).trans e7) (kC.below hb kC.lt) C49.out ?_
      exact hK.out _ _ ⟨e3, e7, e2, e4, e6, e8, hb, f0, f1, f2, f3, f4, f5, f6, f7, f8, f9, f10, f11, f12, f13, f14, f15, f16, f17, f18, f19, f20, f21, f22, f23, f24, f25, f26, f27, f28, f29, fun _ => rfl, f31, f32, f33⟩
    case s31 =>
      rintro L a v w hv hg hL hd hcl ⟨e3, e7, e2, e4, e6, e8, hb, f0, f1, f2, f3, f4, f5, f6, f7, f8, f9, f10, f11, f12, f13, f14, f15, f16, f17, f18, f19, f20, f21, f22, f23, f24, f25, f26, f27, f28, f29, f30, f31, f32, f33⟩ K hK
      have h30 := f30 (hd 30 (by decide))
      refine step_want (j := 27) (s := 56) (b := true) rfl rfl ((hv 56).trans (f27 (hd 27 (by decide)))) ?_
      clear hv
      go_simp
      refine (boFrom_any exBB exBs _ w (hQC.below hb)).mono ?_
      rintro e wy ⟨q, rfl, hq, bb⟩
      exact hK.out _ _ ⟨e3, e7, e2, e4, e6, e8, (hb.trans (bb.mono hb.size)), f0, f1, f2, f3, f4, f5, f6, f7, f8, f9, f10, f11, f12, f13, f14, f15, f16, f17, f18, f19, f20, f21, f22, f23, f24, f25, f26, f27, f28, (fun h => (f29 h).below bb), f30, fun _ => hq, f32, f33⟩
    case s32 =>
      rintro L a v w hv hg hL hd hcl ⟨e3, e7, e2, e4, e6, e8, hb, f0, f1, f2, f3, f4, f5, f6, f7, f8, f9, f10, f11, f12, f13, f14, f15, f16, f17, f18, f19, f20, f21, f22, f23, f24, f25, f26, f27, f28, f29, f30, f31, f32, f33⟩ K hK
      have h29 := f29 (hd 29 (by decide))
      have h31 := f31 (hd 31 (by decide))
      refine step_want (j := 27) (s := 56) (b := true) rfl rfl ((hv 56).trans (f27 (hd 27 (by decide)))) ?_
      clear hv
      go_simp
      refine (bsame_any exBB exBB exBs exBs exBw exBw _ _ w h29.fresh h31.fresh).mono ?_
      rintro e wy ⟨rfl, bb⟩
      rw [exB_same]
      exact hK.out _ _ ⟨e3, e7, e2, e4, e6, e8, (hb.trans (bb.mono hb.size)), f0, f1, f2, f3, f4, f5, f6, f7, f8, f9, f10, f11, f12, f13, f14, f15, f16, f17, f18, f19, f20, f21, f22, f23, f24, f25, f26, f27, f28, (fun h => (f29 h).below bb), f30, (fun h => (f31 h).below bb), fun _ => rfl, f33⟩
    case s33 =>
      rintro L a v w hv hg hL hd hcl ⟨e3, e7, e2, e4, e6, e8, hb, f0, f1, f2, f3, f4, f5, f6, f7, f8, f9, f10, f11, f12, f13, f14, f15, f16, f17, f18, f19, f20, f21, f22, f23, f24, f25, f26, f27, f28, f29, f30, f31, f32, f33⟩ K hK
      have g27 := f27 (hd 27 (by decide))
      refine step_do rfl ?_
      clear hv
      go_simp
      exact hK.out _ _ ⟨e3, e7, e2, e4, e6, e8, hb, f0, f1, f2, f3, f4, f5, f6, f7, f8, f9, f10, f11, f12, f13, f14, f15, f16, f17, f18, f19, f20, f21, f22, f23, f24, f25, f26, f27, f28, f29, f30, f31, f32, fun _ => rfl⟩
  case hend =>
  rintro L v wx hall ⟨e3, e7, e2, e4, e6, e8, hb, f0, f1, f2, f3, f4, f5, f6, f7, f8, f9, f10, f11, f12, f13, f14, f15, f16, f17, f18, f19, f20, f21, f22, f23, f24, f25, f26, f27, f28, f29, f30, f31, f32, f33⟩
  have hL : ∀ i, i < 34 → L i = true := hall
  have f0 := f0 (hL 0 (by decide))
  have f1 := f1 (hL 1 (by decide))
  have f2 := f2 (hL 2 (by decide))
  have f3 := f3 (hL 3 (by decide))
  have f4 := f4 (hL 4 (by decide))
  have f5 := f5 (hL 5 (by decide))
  have f6 := f6 (hL 6 (by decide))
  have f7 := f7 (hL 7 (by decide))
  have f8 := f8 (hL 8 (by decide))
  have f9 := f9 (hL 9 (by decide))
  have f10 := f10 (hL 10 (by decide))
  have f11 := f11 (hL 11 (by decide))
  have f12 := f12 (hL 12 (by decide))
  have f13 := f13 (hL 13 (by decide))
  have f14 := f14 (hL 14 (by decide))
  have f15 := f15 (hL 15 (by decide))
  have f16 := f16 (hL 16 (by decide))
  have f17 := f17 (hL 17 (by decide))
  have f18 := f18 (hL 18 (by decide))
  have f19 := f19 (hL 19 (by decide))
  have f20 := f20 (hL 20 (by decide))
  have f21 := f21 (hL 21 (by decide))
  have f22 := f22 (hL 22 (by decide))
  have f23 := f23 (hL 23 (by decide))
  have f24 := f24 (hL 24 (by decide))
  have f25 := f25 (hL 25 (by decide))
  have f26 := f26 (hL 26 (by decide))
  have f27 := f27 (hL 27 (by decide))
  have f28 := f28 (hL 28 (by decide))
  have f29 := f29 (hL 29 (by decide))
  have f30 := f30 (hL 30 (by decide))
  have f31 := f31 (hL 31 (by decide))
  have f32 := f32 (hL 32 (by decide))
  have f33 := f33 (hL 33 (by decide))
  simp only [finA, List.foldl_cons, List.foldl_nil, Act.put, List.setIfInBounds_toArray, List.set_cons_succ, List.set_cons_zero, f0, f1, f2, f3, f4, f5, f6, f7, f8, f10, f11, f12, f13, f14, f15, f16, f17, f18, f19, f20, f21, f22, f23, f24, f25, f26, f27, f28, f30, f33, f9, f32]
  have bb := hb
  have gb := gb.trans (bb.mono gb.size)
  clear e3 e7 e2 e4 e6 e8 f0 f1 f2 f3 f4 f5 f6 f7 f8 f9 f10 f11 f12 f13 f14 f15 f16 f17 f18 f19 f20 f21 f22 f23 f24 f25 f26 f27 f28 f29 f30 f31 f32 f33 hL hall hb bb
  show wpList _ _ _ [_] _ _
  go_wp2_with fail
  go_ret
  exact ⟨rfl, gb⟩
end Go.Proofs.YtocoohpekpkmkaaGreat

namespace Go.Proofs.YtocoohpekpkmkaaGreat.BoardMeets
set_option linter.unusedVariables false
set_option linter.unusedSimpArgs false
open Go.ChangeShapes Go.WideShapes Go.ChangeAt Go.RowKit Go.Deep
open Reg (La Vl)
set_option maxRecDepth 100000 in
set_option maxHeartbeats 4000000 in
theorem walk (a : Option Addr) (n c : Nat) (l : List Trb) (w : World) (hl : TrbsAt w w.heap.size a n l) (hn : n ≤ c) (hc : c ≤ maxLen) :
    Calls Tryz.prog 5 #[.slice a n c] w fun e w' => e = .returned (.bool true) ∧ Below w.heap.size w w' := by
  unfold maxLen at hc
  have HL := Lib.hid hl.1
  by_cases hbig : 120 < n
  · have hd : decide ((120 : Int) < (n : Int)) = true := decide_eq_true (by omega)
    go_enter Tryz.func5, Tryz.ntmps5
    go_wp2_with fail
    refine (balive_any _).mono ?_
    rintro e w1 ⟨rfl, h1⟩
    go_wp2_with fail
    go_ret
    exact ⟨rfl, h1⟩
  have hd : decide ((120 : Int) < (n : Int)) = false := decide_eq_false (by omega)
  have hz := zval392
  go_enter Tryz.func5, Tryz.ntmps5
  go_wp2_with fail
  refine (balive_any _).mono ?_
  rintro e w1 ⟨rfl, h1⟩
  go_wp2_with fail
  obtain ⟨gB, hgB⟩ : ∃ gB, gB = w1.heap.size := ⟨_, rfl⟩
  have o0 : Blk (w1.alloc (.cells z392 56)) w1.heap.size 56 (cat49 zQB) := Blk.new _ _ _
  have hb0 := h1.alloc h1.size (.cells z392 56)
  have hgw : w.heap.size ≤ gB := by rw [hgB]; exact h1.size
  rw [← hgB] at o0 ⊢
  generalize w1.alloc (.cells z392 56) = w2 at *
  clear hgB hz h1
  go_loopw [4, 24] (fun s i wr => ∃ (k : Nat) (F : Nat → Bd) (Q : Nat → Array Value) (T : List Int) (nw : Int), k ≤ n ∧ i = .int .i64 k ∧ s = .int .i64 nw ∧ EightB F Q wr ∧ Bo.Brd F T k nw ∧ (0 ≤ nw ∧ nw ≤ k) ∧ Blk wr gB 56 (cat49 Q) ∧ Below w.heap.size w wr) (fun _ i _ => n - (intOf i).toNat)
  case atStart => exact ⟨0, _, _, _, 0, by omega, rfl, rfl, eightB0 _, Bo.brd_zero, by omega, o0, hb0⟩
  case round =>
  clear o0 hb0
  obtain ⟨k, F, Q, T, nw, hk, rfl, rfl, hE, hbr, hnw, kB, gb⟩ := hrel
  by_cases hlt : k < n
  · have hkl : k < l.length := by rw [← HL.out]; exact hlt
    obtain ⟨ad, rfl, q5, q0, q1, q2, q3, q4⟩ := (hl.below gb).2 k _ (List.getElem?_eq_getElem hkl)
    generalize l[k] = o at *
    obtain ⟨nd, wk, vl, wi, mm⟩ := o
    simp only at q0 q1 q2 q3 q4
    obtain ⟨x, hx, ex⟩ := node_of nd
    obtain ⟨y, hy, ey⟩ := node_of wi
    obtain ⟨z, hz, ez⟩ := val_of vl
    have hx0 : (0 : Int) ≤ (x : Int) := by omega
    have hx8 : (x : Int) < 8 := by omega
    have hy0 : (0 : Int) ≤ (y : Int) := by omega
    have hy8 : (y : Int) < 8 := by omega
    have hk0 : (0 : Int) ≤ (k : Int) := by omega
    have hkn : (k : Int) < (n : Int) := by omega
    have HF := Lib.hid hbr
    have H8 := Lib.hid hE
    have KB := Lib.hid kB
    have GB := Lib.hid gb
    have EX := Lib.hid ex
    have EY := Lib.hid ey
    have EZ := Lib.hid ez
    clear hbr hE kB gb ex ey ez
    go_upto_region 10 with fail
    refine nameW ?_
    intro wv hwv
    have k5 : Blk wv wr.heap.size 58 (Trb.cs ⟨nd, wk, vl, wi, mm⟩) := by rw [hwv]; exact Blk.new wr _ _
    have bb : Below wr.heap.size wr wv := by rw [hwv]; exact (Below.refl _ _).alloc (Nat.le_refl _) _
    have hE := H8.out.below bb
    have kB := KB.out.below bb KB.out.lt
    have gb := GB.out.trans (bb.mono GB.out.size)
    obtain ⟨gT, hgT⟩ : ∃ gT, gT = wr.heap.size := ⟨_, rfl⟩
    rw [← hgT] at k5 ⊢
    clear hwv bb hgT q0 q1 q2 q3 q4 H8 KB GB
    refine wp_region_facts (fun L v w => v 6 = .pointer (some ⟨gT, 0, none⟩) ∧ Below wv.heap.size wv w ∧ (L 0 = true → v 28 = .pointer (some ⟨gT, 0, none⟩)) ∧ (L 1 = true → v 29 = .pointer (some ⟨gT, 0, none⟩)) ∧ (L 2 = true → v 30 = .int .i64 nd) ∧ (L 3 = true → v 31 = .int .u64 (IntKind.u64.wrap nd)) ∧ (L 4 = true → v 32 = .int .u64 (x : Nat)) ∧ (L 5 = true → v 33 = .int .i64 (x : Nat)) ∧ (L 6 = true → v 34 = .pointer (some ⟨gT, 3, none⟩)) ∧ (L 7 = true → v 35 = .int .i64 wi) ∧ (L 8 = true → v 36 = .int .u64 (IntKind.u64.wrap wi)) ∧ (L 9 = true → v 37 = .int .u64 (y : Nat)) ∧ (L 10 = true → v 38 = .int .i64 (y : Nat)) ∧ (L 11 = true → v 7 = .int .i64 (x : Nat)) ∧ (L 12 = true → v 8 = .int .i64 (y : Nat))) [28, 29, 30, 31, 32, 33, 34, 35, 36, 37, 38, 7, 8] (by kernel_rfl) (by kernel_rfl) (by kernel_rfl) (by kernel_rfl) ?h0 ?hst ?hend
    case h0 =>
      intro L h0
      have h0 : ∀ i, i < 13 → L i = false := h0
      exact ⟨rfl, (Below.refl _ _).drew, offF h0 (i := 0) (by decide), offF h0 (i := 1) (by decide), offF h0 (i := 2) (by decide), offF h0 (i := 3) (by decide), offF h0 (i := 4) (by decide), offF h0 (i := 5) (by decide), offF h0 (i := 6) (by decide), offF h0 (i := 7) (by decide), offF h0 (i := 8) (by decide), offF h0 (i := 9) (by decide), offF h0 (i := 10) (by decide), offF h0 (i := 11) (by decide), offF h0 (i := 12) (by decide)⟩
    case hst =>
      show FactSteps _ _ _ _ [0, 1, 2, 3, 4, 5, 6, 7, 8, 9, 10, 11, 12]
      refine @FactSteps.cons _ _ _ _ 0 _ [] _ rfl (by kernel_rfl) ?s0 ?_
      rotate_left
      refine @FactSteps.cons _ _ _ _ 1 _ [0] _ rfl (by kernel_rfl) ?s1 ?_
      rotate_left
      refine @FactSteps.cons _ _ _ _ 2 _ [1] _ rfl (by kernel_rfl) ?s2 ?_
      rotate_left
      refine @FactSteps.cons _ _ _ _ 3 _ [2] _ rfl (by kernel_rfl) ?s3 ?_
      rotate_left
      refine @FactSteps.cons _ _ _ _ 4 _ [3] _ rfl (by kernel_rfl) ?s4 ?_
      rotate_left
      refine @FactSteps.cons _ _ _ _ 5 _ [4] _ rfl (by kernel_rfl) ?s5 ?_
      rotate_left
      refine @FactSteps.cons _ _ _ _ 6 _ [] _ rfl (by kernel_rfl) ?s6 ?_
      rotate_left
      refine @FactSteps.cons _ _ _ _ 7 _ [6] _ rfl (by kernel_rfl) ?s7 ?_
      rotate_left
      refine @FactSteps.cons _ _ _ _ 8 _ [7] _ rfl (by kernel_rfl) ?s8 ?_
      rotate_left
      refine @FactSteps.cons _ _ _ _ 9 _ [8] _ rfl (by kernel_rfl) ?s9 ?_
      rotate_left
      refine @FactSteps.cons _ _ _ _ 10 _ [9] _ rfl (by kernel_rfl) ?s10 ?_
      rotate_left
      refine @FactSteps.cons _ _ _ _ 11 _ [5, 0, 1, 2, 3, 4, 5] _ rfl (by kernel_rfl) ?s11 ?_
      rotate_left
      refine @FactSteps.cons _ _ _ _ 12 _ [10, 11, 0, 1, 2, 3, 4, 5, 6, 7, 8, 9, 10, 11] _ rfl (by kernel_rfl) ?s12 ?_
      rotate_left
      exact FactSteps.nil
      case s0 =>
        rintro L a v w hv hg hL hd hcl ⟨e6, hb, f0, f1, f2, f3, f4, f5, f6, f7, f8, f9, f10, f11, f12⟩ K hK
        refine step_do rfl ?_
        clear hv
        go_simp
        exact hK.out _ _ ⟨e6, hb, fun _ => rfl, f1, f2, f3, f4, f5, f6, f7, f8, f9, f10, f11, f12⟩
      case s1 =>
        rintro L a v w hv hg hL hd hcl ⟨e6, hb, f0, f1, f2, f3, f4, f5, f6, f7, f8, f9, f10, f11, f12⟩ K hK
        have g0 := f0 (hd 0 (by decide))
        refine step_do rfl ?_
        clear hv
        go_simp
        exact hK.out _ _ ⟨e6, hb, f0, fun _ => rfl, f2, f3, f4, f5, f6, f7, f8, f9, f10, f11, f12⟩
      case s2 =>
        rintro L a v w hv hg hL hd hcl ⟨e6, hb, f0, f1, f2, f3, f4, f5, f6, f7, f8, f9, f10, f11, f12⟩ K hK
        have g1 := f1 (hd 1 (by decide))
        have cx : w.cell? ⟨gT, 0, none⟩ = some (.int .i64 nd) := (k5.below hb k5.lt).cell 0
        refine step_do rfl ?_
        clear hv
        go_simp
        exact hK.out _ _ ⟨e6, hb, f0, f1, fun _ => rfl, f3, f4, f5, f6, f7, f8, f9, f10, f11, f12⟩
      case s3 =>
        rintro L a v w hv hg hL hd hcl ⟨e6, hb, f0, f1, f2, f3, f4, f5, f6, f7, f8, f9, f10, f11, f12⟩ K hK
        have g2 := f2 (hd 2 (by decide))
        refine step_do rfl ?_
        clear hv
        go_simp
        exact hK.out _ _ ⟨e6, hb, f0, f1, f2, fun _ => rfl, f4, f5, f6, f7, f8, f9, f10, f11, f12⟩
      case s4 =>
        rintro L a v w hv hg hL hd hcl ⟨e6, hb, f0, f1, f2, f3, f4, f5, f6, f7, f8, f9, f10, f11, f12⟩ K hK
        have g3 := f3 (hd 3 (by decide))
        have ee := EX.out
        refine step_do rfl ?_
        clear hv
        go_simp
        exact hK.out _ _ ⟨e6, hb, f0, f1, f2, f3, fun _ => rfl, f5, f6, f7, f8, f9, f10, f11, f12⟩
      case s5 =>
        rintro L a v w hv hg hL hd hcl ⟨e6, hb, f0, f1, f2, f3, f4, f5, f6, f7, f8, f9, f10, f11, f12⟩ K hK
        have g4 := f4 (hd 4 (by decide))
        have ew : IntKind.i64.wrap (x : Int) = (x : Int) := IntWalk.i64_in _ (by omega)
        refine step_do rfl ?_
        clear hv
        go_simp
        exact hK.out _ _ ⟨e6, hb, f0, f1, f2, f3, f4, fun _ => rfl, f6, f7, f8, f9, f10, f11, f12⟩
      case s6 =>
        rintro L a v w hv hg hL hd hcl ⟨e6, hb, f0, f1, f2, f3, f4, f5, f6, f7, f8, f9, f10, f11, f12⟩ K hK
        refine step_do rfl ?_
        clear hv
        go_simp
        exact hK.out _ _ ⟨e6, hb, f0, f1, f2, f3, f4, f5, fun _ => rfl, f7, f8, f9, f10, f11, f12⟩
      case s7 =>
        rintro L a v w hv hg hL hd hcl ⟨e6, hb, f0, f1, f2, f3, f4, f5, f6, f7, f8, f9, f10, f11, f12⟩ K hK
        have g6 := f6 (hd 6 (by decide))
        have cx : w.cell? ⟨gT, 3, none⟩ = some (.int .i64 wi) := (k5.below hb k5.lt).cell 3
        refine step_do rfl ?_
        clear hv
        go_simp
        exact hK.out _ _ ⟨e6, hb, f0, f1, f2, f3, f4, f5, f6, fun _ => rfl, f8, f9, f10, f11, f12⟩
      case s8 =>
        rintro L a v w hv hg hL hd hcl ⟨e6, hb, f0, f1, f2, f3, f4, f5, f6, f7, f8, f9, f10, f11, f12⟩ K hK
        have g7 := f7 (hd 7 (by decide))
        refine step_do rfl ?_
        clear hv
        go_simp
        exact hK.out _ _ ⟨e6, hb, f0, f1, f2, f3, f4, f5, f6, f7, fun _ => rfl, f9, f10, f11, f12⟩
      case s9 =>
        rintro L a v w hv hg hL hd hcl ⟨e6, hb, f0, f1, f2, f3, f4, f5, f6, f7, f8, f9, f10, f11, f12⟩ K hK
        have g8 := f8 (hd 8 (by decide))
        have ee := EY.out
        refine step_do rfl ?_
        clear hv
        go_simp
        exact hK.out _ _ ⟨e6, hb, f0, f1, f2, f3, f4, f5, f6, f7, f8, fun _ => rfl, f10, f11, f12⟩
      case s10 =>
        rintro L a v w hv hg hL hd hcl ⟨e6, hb, f0, f1, f2, f3, f4, f5, f6, f7, f8, f9, f10, f11, f12⟩ K hK
        have g9 := f9 (hd 9 (by decide))
        have ew : IntKind.i64.wrap (y : Int) = (y : Int) := IntWalk.i64_in _ (by omega)
        refine step_do rfl ?_
        clear hv
        go_simp
        exact hK.out _ _ ⟨e6, hb, f0, f1, f2, f3, f4, f5, f6, f7, f8, f9, fun _ => rfl, f11, f12⟩
      case s11 =>
        rintro L a v w hv hg hL hd hcl ⟨e6, hb, f0, f1, f2, f3, f4, f5, f6, f7, f8, f9, f10, f11, f12⟩ K hK
        have g0 := f0 (hd 0 (by decide))
        have g1 := f1 (hd 1 (by decide))
        have g2 := f2 (hd 2 (by decide))
        have g3 := f3 (hd 3 (by decide))
        have g4 := f4 (hd 4 (by decide))
        have g5 := f5 (hd 5 (by decide))
        refine step_do rfl ?_
        clear hv
        go_simp
        exact hK.out _ _ ⟨e6, hb, f0, f1, f2, f3, f4, f5, f6, f7, f8, f9, f10, fun _ => rfl, f12⟩
      case s12 =>
        rintro L a v w hv hg hL hd hcl ⟨e6, hb, f0, f1, f2, f3, f4, f5, f6, f7, f8, f9, f10, f11, f12⟩ K hK
        have g0 := f0 (hd 0 (by decide))
        have g1 := f1 (hd 1 (by decide))
        have g2 := f2 (hd 2 (by decide))
        have g3 := f3 (hd 3 (by decide))
        have g4 := f4 (hd 4 (by decide))
        have g5 := f5 (hd 5 (by decide))
        have g6 := f6 (hd 6 (by decide))
        have g7 := f7 (hd 7 (by decide))
        have g8 := f8 (hd 8 (by decide))
        have g9 := f9 (hd 9 (by decide))
        have g10 := f10 (hd 10 (by decide))
        have g11 := f11 (hd 11 (by decide))
        refine step_do rfl ?_
        clear hv
        go_simp
        exact hK.out _ _ ⟨e6, hb, f0, f1, f2, f3, f4, f5, f6, f7, f8, f9, f10, f11, fun _ => rfl⟩
    case hend =>
    rintro L v wa hall ⟨e6, hb, f0, f1, f2, f3, f4, f5, f6, f7, f8, f9, f10, f11, f12⟩
    have hL : ∀ i, i < 13 → L i = true := hall
    have f0 := f0 (hL 0 (by decide))
    have f1 := f1 (hL 1 (by decide))
    have f2 := f2 (hL 2 (by decide))
    have f3 := f3 (hL 3 (by decide))
    have f4 := f4 (hL 4 (by decide))
    have f5 := f5 (hL 5 (by decide))
    have f6 := f6 (hL 6 (by decide))
    have f7 := f7 (hL 7 (by decide))
    have f8 := f8 (hL 8 (by decide))
    have f9 := f9 (hL 9 (by decide))
    have f10 := f10 (hL 10 (by decide))
    have f11 := f11 (hL 11 (by decide))
    have f12 := f12 (hL 12 (by decide))
    simp only [finA, List.foldl_cons, List.foldl_nil, Act.put, List.setIfInBounds_toArray, List.set_cons_succ, List.set_cons_zero, f0, f1, f2, f3, f4, f5, f6, f7, f8, f9, f10, f11, f12]
    have bb := hb
    clear e6 f0 f1 f2 f3 f4 f5 f6 f7 f8 f9 f10 f11 f12 hL hall hb
    have k5 := k5.below bb k5.lt
    have kB := kB.below bb kB.lt
    have hE := hE.below bb
    have gb := gb.trans (bb.mono gb.size)
    clear bb
    have c4 : wa.cell? ⟨gT, 4, none⟩ = some (.bool mm) := k5.cell 4
    cases mm
    case true =>
      go_upto_region 12 with fail
      clear c4
      refine wp_region_tail 9 (fun L v w => v 7 = .int .i64 (x : Nat) ∧ v 8 = .int .i64 (y : Nat) ∧ v 3 = .pointer (some ⟨gB, 0, none⟩) ∧ Below wa.heap.size wa w ∧ (L 0 = true → v 41 = .int .i64 (x : Nat)) ∧ (L 1 = true → v 42 = .int .i64 (x : Nat)) ∧ (L 2 = true → v 43 = .pointer (some ⟨gB, x * 49, none⟩)) ∧ (L 3 = true → v 44 = .agg (Q x)) ∧ (L 4 = true → v 45 = .int .i64 (y : Nat)) ∧ (L 5 = true → v 46 = .pointer (some ⟨gB, y * 49, none⟩)) ∧ (L 6 = true → v 47 = .agg (Q y)) ∧ (L 7 = true → FoBo 84 (Bo.join (F x) (F y)) (v 48) w) ∧ (L 8 = true → v 49 = .pointer (some ⟨gB, x * 49, none⟩))) [41, 42, 43, 44, 45, 46, 47, 48, 49] (by kernel_rfl) (by kernel_rfl) (by kernel_rfl) (by kernel_rfl) (by kernel_rfl) (by kernel_rfl) ?h0 ?hst ?hend
      case h0 =>
        intro L h0
        have h0 : ∀ i, i < 9 → L i = false := h0
        exact ⟨rfl, rfl, rfl, (Below.refl _ _).drew, offF h0 (i := 0) (by decide), offF h0 (i := 1) (by decide), offF h0 (i := 2) (by decide), offF h0 (i := 3) (by decide), offF h0 (i := 4) (by decide), offF h0 (i := 5) (by decide), offF h0 (i := 6) (by decide), offF h0 (i := 7) (by decide), offF h0 (i := 8) (by decide)⟩
      case hst =>
        show FactSteps _ _ _ _ [0, 1, 2, 3, 4, 5, 6, 7, 8]
        refine @FactSteps.cons _ _ _ _ 0 _ [] _ rfl (by kernel_rfl) ?s0 ?_
        rotate_left
        refine @FactSteps.cons _ _ _ _ 1 _ [] _ rfl (by kernel_rfl) ?s1 ?_
        rotate_left
        refine @FactSteps.cons _ _ _ _ 2 _ [1] _ rfl (by kernel_rfl) ?s2 ?_
        rotate_left
        refine @FactSteps.cons _ _ _ _ 3 _ [2] _ rfl (by kernel_rfl) ?s3 ?_
        rotate_left
        refine @FactSteps.cons _ _ _ _ 4 _ [] _ rfl (by kernel_rfl) ?s4 ?_
        rotate_left
        refine @FactSteps.cons _ _ _ _ 5 _ [4] _ rfl (by kernel_rfl) ?s5 ?_
        rotate_left
        refine @FactSteps.cons _ _ _ _ 6 _ [5] _ rfl (by kernel_rfl) ?s6 ?_
        rotate_left
        refine @FactSteps.cons _ _ _ _ 7 _ [3, 6] _ rfl (by kernel_rfl) ?s7 ?_
        rotate_left
        refine @FactSteps.cons _ _ _ _ 8 _ [0, 0, 1, 2, 3, 4, 5, 6, 7] _ rfl (by kernel_rfl) ?s8 ?_
        rotate_left
        exact FactSteps.nil
        case s0 =>
          rintro L a v w hv hg hL hd hcl ⟨e7, e8, e3, hb, f0, f1, f2, f3, f4, f5, f6, f7, f8⟩ K hK
          refine step_do rfl ?_
          clear hv
          go_simp
          exact hK.out _ _ ⟨e7, e8, e3, hb, fun _ => rfl, f1, f2, f3, f4, f5, f6, f7, f8⟩
        case s1 =>
          rintro L a v w hv hg hL hd hcl ⟨e7, e8, e3, hb, f0, f1, f2, f3, f4, f5, f6, f7, f8⟩ K hK
          refine step_do rfl ?_
          clear hv
          go_simp
          exact hK.out _ _ ⟨e7, e8, e3, hb, f0, fun _ => rfl, f2, f3, f4, f5, f6, f7, f8⟩
        case s2 =>
          rintro L a v w hv hg hL hd hcl ⟨e7, e8, e3, hb, f0, f1, f2, f3, f4, f5, f6, f7, f8⟩ K hK
          have g1 := f1 (hd 1 (by decide))
          refine step_do rfl ?_
          clear hv
          go_simp
          exact hK.out _ _ ⟨e7, e8, e3, hb, f0, f1, fun _ => rfl, f3, f4, f5, f6, f7, f8⟩
        case s3 =>
          rintro L a v w hv hg hL hd hcl ⟨e7, e8, e3, hb, f0, f1, f2, f3, f4, f5, f6, f7, f8⟩ K hK
          have g2 := f2 (hd 2 (by decide))
          refine step_do rfl ?_
          refine wp_ldr rowBo (.tmp 43) rfl ((hv 43).trans g2) (rng49 (kB.below hb kB.lt) (hE.below hb).row hx) ((hE.below hb).row x hx) ?_
          exact hK.out _ _ ⟨e7, e8, e3, hb, f0, f1, f2, fun _ => rfl, f4, f5, f6, f7, f8⟩
        case s4 =>
          rintro L a v w hv hg hL hd hcl ⟨e7, e8, e3, hb, f0, f1, f2, f3, f4, f5, f6, f7, f8⟩ K hK
          refine step_do rfl ?_
          clear hv
          go_simp
          exact hK.out _ _ ⟨e7, e8, e3, hb, f0, f1, f2, f3, fun _ => rfl, f5, f6, f7, f8⟩
        case s5 =>
          rintro L a v w hv hg hL hd hcl ⟨e7, e8, e3, hb, f0, f1, f2, f3, f4, f5, f6, f7, f8⟩ K hK
          have g4 := f4 (hd 4 (by decide))
          refine step_do rfl ?_
          clear hv
          go_simp
          exact hK.out _ _ ⟨e7, e8, e3, hb, f0, f1, f2, f3, f4, fun _ => rfl, f6, f7, f8⟩
        case s6 =>
          rintro L a v w hv hg hL hd hcl ⟨e7, e8, e3, hb, f0, f1, f2, f3, f4, f5, f6, f7, f8⟩ K hK
          have g5 := f5 (hd 5 (by decide))
          refine step_do rfl ?_
          refine wp_ldr rowBo (.tmp 46) rfl ((hv 46).trans g5) (rng49 (kB.below hb kB.lt) (hE.below hb).row hy) ((hE.below hb).row y hy) ?_
          exact hK.out _ _ ⟨e7, e8, e3, hb, f0, f1, f2, f3, f4, f5, fun _ => rfl, f7, f8⟩
        case s7 =>
          rintro L a v w hv hg hL hd hcl ⟨e7, e8, e3, hb, f0, f1, f2, f3, f4, f5, f6, f7, f8⟩ K hK
          have h3 := f3 (hd 3 (by decide))
          have h6 := f6 (hd 6 (by decide))
          refine step_do rfl ?_
          clear hv
          go_simp
          refine (joinS (hE x hx).1 (hE y hy).1 rfl ((hE.below hb) x hx).2.fresh ((hE.below hb) y hy).2.fresh).mono ?_
          rintro e wy ⟨q, rfl, hq, bb⟩
          exact hK.out _ _ ⟨e7, e8, e3, (hb.trans (bb.mono hb.size)), f0, f1, f2, f3, f4, f5, f6, fun _ => hq, f8⟩
        case s8 =>
          rintro L a v w hv hg hL hd hcl ⟨e7, e8, e3, hb, f0, f1, f2, f3, f4, f5, f6, f7, f8⟩ K hK
          have g0 := f0 (hd 0 (by decide))
          have g1 := f1 (hd 1 (by decide))
          have g2 := f2 (hd 2 (by decide))
          have g3 := f3 (hd 3 (by decide))
          have g4 := f4 (hd 4 (by decide))
          have g5 := f5 (hd 5 (by decide))
          have g6 := f6 (hd 6 (by decide))
          refine step_do rfl ?_
          clear hv
          go_simp
          exact hK.out _ _ ⟨e7, e8, e3, hb, f0, f1, f2, f3, f4, f5, f6, f7, fun _ => rfl⟩
      case hend =>
      rintro L v wb hall ⟨e7, e8, e3, hb, f0, f1, f2, f3, f4, f5, f6, f7, f8⟩
      have hL : ∀ i, i < 9 → L i = true := hall
      have f0 := f0 (hL 0 (by decide))
      have f1 := f1 (hL 1 (by decide))
      have f2 := f2 (hL 2 (by decide))
      have f3 := f3 (hL 3 (by decide))
      have f4 := f4 (hL 4 (by decide))
      have f5 := f5 (hL 5 (by decide))
      have f6 := f6 (hL 6 (by decide))
      have f7 := f7 (hL 7 (by decide))
      have f8 := f8 (hL 8 (by decide))
      obtain ⟨cJ, ev⟩ := f7.fresh.agg
      rw [ev] at f7
      simp only [finA, List.foldl_cons, List.foldl_nil, Act.put, List.setIfInBounds_toArray, List.set_cons_succ, List.set_cons_zero, f0, f1, f2, f3, f4, f5, f6, f8, ev]
      have bb := hb
      have hJ := f7
      clear e7 e8 e3 f0 f1 f2 f3 f4 f5 f6 f7 f8 hL hall hb ev
      have k5 := k5.below bb k5.lt
      have kB := kB.below bb kB.lt
      have hE := hE.below bb
      have gb := gb.trans (bb.mono gb.size)
      clear bb
      show wpList _ _ _ [_] _ _
      have hJs := Bo.join_shaped (hE x hx).1 (hE y hy).1
      have sJ := hJ.fresh.size hJs
      have oJ := hJ.fresh.one
      refine wpList_str rowBo (there49 kB hE.row hx) sJ oJ (fun wc hwc => ?_) rfl rfl
      have gS : wb.grownBy wc (some gB) := by rw [hwc]; exact setCells_grown _ _ _ _
      have kC : Blk wc gB 56 (cat49 (upQ Q x cJ)) := by rw [hwc]; exact set49 kB hE.row hx sJ
      have e8 := (hE.grown gS kB (by decide)).up (a := x) hJs (hJ.grown gS kB (by decide))
      have gC := gb.grown gS gb.size (fun q hq => by injection hq; omega)
      have HH := Lib.hid (And.intro e8 (And.intro kC (And.intro gC (HF.out.join hx hy))))
      clear hwc gS kC e8 gC kB hE hJ k5 gb sJ oJ hJs
      go_wp2_with fail
      go_roundw
      case rel => exact ⟨k + 1, _, _, T, nw, by omega, by go_num, rfl, HH.out.1, by have := HH.out.2.2.2; push_cast; exact this, by omega, HH.out.2.1, HH.out.2.2.1⟩
      case measure => simp [intOf]; omega
    case false =>
    obtain ⟨xn, hxn, brn⟩ := HF.out.note (by omega) hx (v := (z : Int)) (by omega)
    have HXN := Lib.hid hxn
    have XN := Lib.hid (show Bo.Shaped xn by have := brn.s x hx; unfold Bo.upB at this; rw [if_pos rfl] at this; exact this)
    have BRN := Lib.hid brn
    clear hxn brn
    go_upto_region 13 with fail
    clear c4
    refine wp_region_facts (fun L v w => v 7 = .int .i64 (x : Nat) ∧ v 3 = .pointer (some ⟨gB, 0, none⟩) ∧ v 6 = .pointer (some ⟨gT, 0, none⟩) ∧ Below wa.heap.size wa w ∧ (L 0 = true → v 51 = .int .i64 (x : Nat)) ∧ (L 1 = true → v 52 = .pointer (some ⟨gB, x * 49, none⟩)) ∧ (L 2 = true → v 53 = .agg (Q x)) ∧ (L 3 = true → v 54 = .int .i64 (x : Nat)) ∧ (L 4 = true → v 55 = .pointer (some ⟨gT, 0, none⟩)) ∧ (L 5 = true → v 56 = .pointer (some ⟨gT, 2, none⟩)) ∧ (L 6 = true → v 57 = .int .i64 vl) ∧ (L 7 = true → v 58 = .int .u64 (IntKind.u64.wrap vl)) ∧ (L 8 = true → v 59 = .int .u64 (z : Nat)) ∧ (L 9 = true → v 60 = .int .i64 (z : Nat)) ∧ (L 10 = true → TupB 84 xn 0 (v 61) w) ∧ (L 11 = true → TupB 84 xn 0 (v 50) w) ∧ (L 12 = true → FoBo 84 xn (v 62) w) ∧ (L 13 = true → v 63 = .int .i64 0) ∧ Al 41 49 wa.heap.size (L 14) (L 15) (v 9) (v 62) w ∧ (L 16 = true → v 10 = .int .i64 0)) [51, 52, 53, 54, 55, 56, 57, 58, 59, 60, 61, 50, 62, 63, 9, 10] (by kernel_rfl) (by kernel_rfl) (by kernel_rfl) (by kernel_rfl) ?h0 ?hst ?hend
    case h0 =>
      intro L h0
      have h0 : ∀ i, i < 17 → L i = false := h0
      exact ⟨rfl, rfl, rfl, (Below.refl _ _).drew, offF h0 (i := 0) (by decide), offF h0 (i := 1) (by decide), offF h0 (i := 2) (by decide), offF h0 (i := 3) (by decide), offF h0 (i := 4) (by decide), offF h0 (i := 5) (by decide), offF h0 (i := 6) (by decide), offF h0 (i := 7) (by decide), offF h0 (i := 8) (by decide), offF h0 (i := 9) (by decide), offF h0 (i := 10) (by decide), offF h0 (i := 11) (by decide), offF h0 (i := 12) (by decide), offF h0 (i := 13) (by decide), Al.none_ (h0 14 (by decide)) (h0 15 (by decide)), offF h0 (i := 16) (by decide)⟩
    case hst =>
      show FactSteps _ _ _ _ [0, 1, 2, 3, 4, 5, 6, 7, 8, 9, 10, 11, 12, 13, 14, 15, 16]
      refine @FactSteps.cons _ _ _ _ 0 _ [] _ rfl (by kernel_rfl) ?s0 ?_
      rotate_left
      refine @FactSteps.cons _ _ _ _ 1 _ [0] _ rfl (by kernel_rfl) ?s1 ?_
      rotate_left
      refine @FactSteps.cons _ _ _ _ 2 _ [1] _ rfl (by kernel_rfl) ?s2 ?_
      rotate_left
      refine @FactSteps.cons _ _ _ _ 3 _ [] _ rfl (by kernel_rfl) ?s3 ?_
      rotate_left
      refine @FactSteps.cons _ _ _ _ 4 _ [] _ rfl (by kernel_rfl) ?s4 ?_
      rotate_left
      refine @FactSteps.cons _ _ _ _ 5 _ [4] _ rfl (by kernel_rfl) ?s5 ?_
      rotate_left
      refine @FactSteps.cons _ _ _ _ 6 _ [5] _ rfl (by kernel_rfl) ?s6 ?_
      rotate_left
      refine @FactSteps.cons _ _ _ _ 7 _ [6] _ rfl (by kernel_rfl) ?s7 ?_
      rotate_left
      refine @FactSteps.cons _ _ _ _ 8 _ [7] _ rfl (by kernel_rfl) ?s8 ?_
      rotate_left
      refine @FactSteps.cons _ _ _ _ 9 _ [8] _ rfl (by kernel_rfl) ?s9 ?_
      rotate_left
      refine @FactSteps.cons _ _ _ _ 10 _ [2, 3, 9] _ rfl (by kernel_rfl) ?s10 ?_
      rotate_left
      refine @FactSteps.cons _ _ _ _ 11 _ [10] _ rfl (by kernel_rfl) ?s11 ?_
      rotate_left
      refine @FactSteps.cons _ _ _ _ 12 _ [11] _ rfl (by kernel_rfl) ?s12 ?_
      rotate_left
      refine @FactSteps.cons _ _ _ _ 13 _ [11] _ rfl (by kernel_rfl) ?s13 ?_
      rotate_left
      refine @FactSteps.cons _ _ _ _ 14 _ [] _ rfl (by kernel_rfl) ?s14 ?_
      rotate_left
      refine @FactSteps.cons _ _ _ _ 15 _ [14, 12, 10, 0, 1, 2, 3, 4, 5, 6, 7, 8, 9, 10, 11, 12, 14] _ rfl (by kernel_rfl) ?s15 ?_
      rotate_left
      refine @FactSteps.cons _ _ _ _ 16 _ [13, 15, 0, 1, 2, 3, 4, 5, 6, 7, 8, 9, 10, 11, 12, 13, 14, 15] _ rfl (by kernel_rfl) ?s16 ?_
      rotate_left
      exact FactSteps.nil
      case s0 =>
        rintro L a v w hv hg hL hd hcl ⟨e7, e3, e6, hb, f0, f1, f2, f3, f4, f5, f6, f7, f8, f9, f10, f11, f12, f13, f14, f16⟩ K hK
        refine step_do rfl ?_
        clear hv
        go_simp
        exact hK.out _ _ ⟨e7, e3, e6, hb, fun _ => rfl, f1, f2, f3, f4, f5, f6, f7, f8, f9, f10, f11, f12, f13, f14, f16⟩
      case s1 =>
        rintro L a v w hv hg hL hd hcl ⟨e7, e3, e6, hb, f0, f1, f2, f3, f4, f5, f6, f7, f8, f9, f10, f11, f12, f13, f14, f16⟩ K hK
        have g0 := f0 (hd 0 (by decide))
        refine step_do rfl ?_
        clear hv
        go_simp
        exact hK.out _ _ ⟨e7, e3, e6, hb, f0, fun _ => rfl, f2, f3, f4, f5, f6, f7, f8, f9, f10, f11, f12, f13, f14, f16⟩
      case s2 =>
        rintro L a v w hv hg hL hd hcl ⟨e7, e3, e6, hb, f0, f1, f2, f3, f4, f5, f6, f7, f8, f9, f10, f11, f12, f13, f14, f16⟩ K hK
        have g1 := f1 (hd 1 (by decide))
        refine step_do rfl ?_
        refine wp_ldr rowBo (.tmp 52) rfl ((hv 52).trans g1) (rng49 (kB.below hb kB.lt) (hE.below hb).row hx) ((hE.below hb).row x hx) ?_
        exact hK.out _ _ ⟨e7, e3, e6, hb, f0, f1, fun _ => rfl, f3, f4, f5, f6, f7, f8, f9, f10, f11, f12, f13, f14, f16⟩
      case s3 =>
        rintro L a v w hv hg hL hd hcl ⟨e7, e3, e6, hb, f0, f1, f2, f3, f4, f5, f6, f7, f8, f9, f10, f11, f12, f13, f14, f16⟩ K hK
        refine step_do rfl ?_
        clear hv
        go_simp
        exact hK.out _ _ ⟨e7, e3, e6, hb, f0, f1, f2, fun _ => rfl, f4, f5, f6, f7, f8, f9, f10, f11, f12, f13, f14, f16⟩
      case s4 =>
        rintro L a v w hv hg hL hd hcl ⟨e7, e3, e6, hb, f0, f1, f2, f3, f4, f5, f6, f7, f8, f9, f10, f11, f12, f13, f14, f16⟩ K hK
        refine step_do rfl ?_
        clear hv
        go_simp
        exact hK.out _ _ ⟨e7, e3, e6, hb, f0, f1, f2, f3, fun _ => rfl, f5, f6, f7, f8, f9, f10, f11, f12, f13, f14, f16⟩
      case s5 =>
        rintro L a v w hv hg hL hd hcl ⟨e7, e3, e6, hb, f0, f1, f2, f3, f4, f5, f6, f7, f8, f9, f10, f11, f12, f13, f14, f16⟩ K hK
        have g4 := f4 (hd 4 (by decide))
        refine step_do rfl ?_
        clear hv
        go_simp
        exact hK.out _ _ ⟨e7, e3, e6, hb, f0, f1, f2, f3, f4, fun _ => rfl, f6, f7, f8, f9, f10, f11, f12, f13, f14, f16⟩
      case s6 =>
        rintro L a v w hv hg hL hd hcl ⟨e7, e3, e6, hb, f0, f1, f2, f3, f4, f5, f6, f7, f8, f9, f10, f11, f12, f13, f14, f16⟩ K hK
        have g5 := f5 (hd 5 (by decide))
        have cx : w.cell? ⟨gT, 2, none⟩ = some (.int .i64 vl) := (k5.below hb k5.lt).cell 2
        refine step_do rfl ?_
        clear hv
        go_simp
        exact hK.out _ _ ⟨e7, e3, e6, hb, f0, f1, f2, f3, f4, f5, fun _ => rfl, f7, f8, f9, f10, f11, f12, f13, f14, f16⟩
      case s7 =>
        rintro L a v w hv hg hL hd hcl ⟨e7, e3, e6, hb, f0, f1, f2, f3, f4, f5, f6, f7, f8, f9, f10, f11, f12, f13, f14, f16⟩ K hK
        have g6 := f6 (hd 6 (by decide))
        refine step_do rfl ?_
        clear hv
        go_simp
        exact hK.out _ _ ⟨e7, e3, e6, hb, f0, f1, f2, f3, f4, f5, f6, fun _ => rfl, f8, f9, f10, f11, f12, f13, f14, f16⟩
      case s8 =>
        rintro L a v w hv hg hL hd hcl ⟨e7, e3, e6, hb, f0, f1, f2, f3, f4, f5, f6, f7, f8, f9, f10, f11, f12, f13, f14, f16⟩ K hK
        have g7 := f7 (hd 7 (by decide))
        have ee := EZ.out
        refine step_do rfl ?_
        clear hv
        go_simp
        exact hK.out _ _ ⟨e7, e3, e6, hb, f0, f1, f2, f3, f4, f5, f6, f7, fun _ => rfl, f9, f10, f11, f12, f13, f14, f16⟩
      case s9 =>
        rintro L a v w hv hg hL hd hcl ⟨e7, e3, e6, hb, f0, f1, f2, f3, f4, f5, f6, f7, f8, f9, f10, f11, f12, f13, f14, f16⟩ K hK
        have g8 := f8 (hd 8 (by decide))
        have ew : IntKind.i64.wrap (z : Int) = (z : Int) := IntWalk.i64_in _ (by omega)
        refine step_do rfl ?_
        clear hv
        go_simp
        exact hK.out _ _ ⟨e7, e3, e6, hb, f0, f1, f2, f3, f4, f5, f6, f7, f8, fun _ => rfl, f10, f11, f12, f13, f14, f16⟩
      case s10 =>
        rintro L a v w hv hg hL hd hcl ⟨e7, e3, e6, hb, f0, f1, f2, f3, f4, f5, f6, f7, f8, f9, f10, f11, f12, f13, f14, f16⟩ K hK
        have h2 := f2 (hd 2 (by decide))
        have h3 := f3 (hd 3 (by decide))
        have h9 := f9 (hd 9 (by decide))
        refine step_do rfl ?_
        clear hv
        go_simp
        refine (noteS (hE x hx).1 HXN.out ((hE.below hb) x hx).2.fresh).mono ?_
        rintro e wy ⟨q, rfl, hq, bb⟩
        exact hK.out _ _ ⟨e7, e3, e6, (hb.trans (bb.mono hb.size)), f0, f1, f2, f3, f4, f5, f6, f7, f8, f9, fun _ => TupB.mk hq, (fun h => (f11 h).below bb), (fun h => (f12 h).below bb), f13, f14.below bb, f16⟩
      case s11 =>
        rintro L a v w hv hg hL hd hcl ⟨e7, e3, e6, hb, f0, f1, f2, f3, f4, f5, f6, f7, f8, f9, f10, f11, f12, f13, f14, f16⟩ K hK
        have h10 := f10 (hd 10 (by decide))
        refine step_do rfl ?_
        clear hv
        go_simp
        exact hK.out _ _ ⟨e7, e3, e6, hb, f0, f1, f2, f3, f4, f5, f6, f7, f8, f9, f10, fun _ => h10, f12, f13, f14, f16⟩
      case s12 =>
        rintro L a v w hv hg hL hd hcl ⟨e7, e3, e6, hb, f0, f1, f2, f3, f4, f5, f6, f7, f8, f9, f10, f11, f12, f13, f14, f16⟩ K hK
        have c15 : L 15 = false := off_of hcl (j := 15) (by kernel_rfl : waitsAt _ 15 = [14, 12, 10, 0, 1, 2, 3, 4, 5, 6, 7, 8, 9, 10, 11, 12, 14]) (d := 12) (by decide) hL
        obtain ⟨cc, ec, hcc⟩ := f11 (hd 11 (by decide))
        refine step_do rfl ?_
        clear hv
        go_simp
        exact hK.out _ _ ⟨e7, e3, e6, hb, f0, f1, f2, f3, f4, f5, f6, f7, f8, f9, f10, f11, fun _ => hcc, f13, f14.other c15, f16⟩
      case s13 =>
        rintro L a v w hv hg hL hd hcl ⟨e7, e3, e6, hb, f0, f1, f2, f3, f4, f5, f6, f7, f8, f9, f10, f11, f12, f13, f14, f16⟩ K hK
        obtain ⟨cc, ec, hcc⟩ := f11 (hd 11 (by decide))
        refine step_do rfl ?_
        clear hv
        go_simp
        exact hK.out _ _ ⟨e7, e3, e6, hb, f0, f1, f2, f3, f4, f5, f6, f7, f8, f9, f10, f11, f12, fun _ => rfl, f14, f16⟩
      case s14 =>
        rintro L a v w hv hg hL hd hcl ⟨e7, e3, e6, hb, f0, f1, f2, f3, f4, f5, f6, f7, f8, f9, f10, f11, f12, f13, f14, f16⟩ K hK
        refine step_do rfl ?_
        go_simp
        have bb : Below w.heap.size w (w.alloc (.cells (bc Bo.zero (.slice none 0 0)) 41)) := (Below.refl _ _).alloc (Nat.le_refl _) _
        rw [hL] at f14
        exact hK.out _ _ ⟨e7, e3, e6, (hb.trans (bb.mono hb.size)), f0, f1, f2, f3, f4, f5, f6, f7, f8, f9, (fun h => (f10 h).below bb), (fun h => (f11 h).below bb), (fun h => (f12 h).below bb), f13, f14.alloc_ hb.size rfl, f16⟩
      case s15 =>
        rintro L a v w hv hg hL hd hcl ⟨e7, e3, e6, hb, f0, f1, f2, f3, f4, f5, f6, f7, f8, f9, f10, f11, f12, f13, f14, f16⟩ K hK
        have ha : L 14 = true := hd 14 (by decide)
        obtain ⟨g, ds, ep, hg, kk, hds, _⟩ := f14.2 ha
        have fr := (f12 (hd 12 (by decide))).fresh
        obtain ⟨cs1, ev⟩ := fr.agg
        rw [ev] at fr
        have sz1 := fr.size XN.out
        have on1 := fr.one
        refine step_do rfl ?_
        refine wp_st (cs := cs1) rowBo (.tmp 9) (.tmp 62) rfl ((hv 9).trans ep) ((hv 62).trans ev) kk sz1 hds on1 ?_
        intro wy ky gy zy
        have bY : Below wa.heap.size w wy := only_Below gy hg hb.size
        exact hK.out _ _ ⟨e7, e3, e6, (hb.trans bY), f0, f1, f2, f3, f4, f5, f6, f7, f8, f9, (fun h => (f10 h).grown gy kk (by decide)), (fun h => (f11 h).grown gy kk (by decide)), (fun h => (f12 h).grown gy kk (by decide)), f13, Al.stored ha ep hg ky sz1 ev, f16⟩
      case s16 =>
        rintro L a v w hv hg hL hd hcl ⟨e7, e3, e6, hb, f0, f1, f2, f3, f4, f5, f6, f7, f8, f9, f10, f11, f12, f13, f14, f16⟩ K hK
        have g0 := f0 (hd 0 (by decide))
        have g1 := f1 (hd 1 (by decide))
        have g2 := f2 (hd 2 (by decide))
        have g3 := f3 (hd 3 (by decide))
        have g4 := f4 (hd 4 (by decide))
        have g5 := f5 (hd 5 (by decide))
        have g6 := f6 (hd 6 (by decide))
        have g7 := f7 (hd 7 (by decide))
        have g8 := f8 (hd 8 (by decide))
        have g9 := f9 (hd 9 (by decide))
        have g13 := f13 (hd 13 (by decide))
        refine step_do rfl ?_
        clear hv
        go_simp
        exact hK.out _ _ ⟨e7, e3, e6, hb, f0, f1, f2, f3, f4, f5, f6, f7, f8, f9, f10, f11, f12, f13, f14, fun _ => rfl⟩
    case hend =>
    rintro L v wb hall ⟨e7, e3, e6, hb, f0, f1, f2, f3, f4, f5, f6, f7, f8, f9, f10, f11, f12, f13, f14, f16⟩
    have hL : ∀ i, i < 17 → L i = true := hall
    have f0 := f0 (hL 0 (by decide))
    have f1 := f1 (hL 1 (by decide))
    have f2 := f2 (hL 2 (by decide))
    have f3 := f3 (hL 3 (by decide))
    have f4 := f4 (hL 4 (by decide))
    have f5 := f5 (hL 5 (by decide))
    have f6 := f6 (hL 6 (by decide))
    have f7 := f7 (hL 7 (by decide))
    have f8 := f8 (hL 8 (by decide))
    have f9 := f9 (hL 9 (by decide))
    have f10 := f10 (hL 10 (by decide))
    have f11 := f11 (hL 11 (by decide))
    have f12 := f12 (hL 12 (by decide))
    have f13 := f13 (hL 13 (by decide))
    rw [hL 14 (by decide), hL 15 (by decide)] at f14
    have f16 := f16 (hL 16 (by decide))
    obtain ⟨g9, cP, e9, ev, hg9, k9, s9⟩ := f14.fin
    rw [ev] at f12
    simp only [finA, List.foldl_cons, List.foldl_nil, Act.put, List.setIfInBounds_toArray, List.set_cons_succ, List.set_cons_zero, f0, f1, f2, f3, f4, f5, f6, f7, f8, f9, f13, f16, e9, ev]
    have bb := hb
    have hP := f12
    clear e7 e3 e6 f0 f1 f2 f3 f4 f5 f6 f7 f8 f9 f10 f11 f12 f13 f14 f16 hL hall hb e9 ev
    have c1 : wb.cell? ⟨gT, 1, none⟩ = some (.int .i64 wk) := (k5.below bb k5.lt).cell 1
    by_cases hwk : 0 ≤ wk
    case neg =>
      have k5 := k5.below bb k5.lt
      have kB := kB.below bb kB.lt
      have hE := hE.below bb
      have gb := gb.trans (bb.mono gb.size)
      clear bb
      have oP := hP.fresh.one
      go_upto_region 19 with fail
      clear c1
      go_wp2_with first
        | ((with_reducible refine wpList_ld rowBo k9 s9 ?_ ?_); rotate_left; (rfl))
        | ((with_reducible refine wpList_str rowBo (there49 kB hE.row hx) s9 oP ?_ ?_ ?_); rotate_left; (rfl); (rfl); intro wd hwd)
      have gS : wb.grownBy wd (some gB) := by rw [hwd]; exact setCells_grown _ _ _ _
      have kC : Blk wd gB 56 (cat49 (upQ Q x cP)) := by rw [hwd]; exact set49 kB hE.row hx s9
      have e8 := (hE.grown gS kB (by decide)).up (a := x) XN.out (hP.grown gS kB (by decide))
      have gC := gb.grown gS gb.size (fun q hq => by injection hq; omega)
      have HH := Lib.hid (And.intro e8 (And.intro kC (And.intro gC BRN.out)))
      clear gS kC e8 gC kB hE hP k5 gb s9 oP k9
      subst hwd
      go_wp2_with fail
      go_roundw
      case rel => exact ⟨k + 1, _, _, _, nw, by omega, by go_num, by first | rfl | go_num, HH.out.1, by have := HH.out.2.2.2; push_cast; exact this, by omega, HH.out.2.1, HH.out.2.2.1⟩
      case measure => simp [intOf]; omega
    case pos =>
    obtain ⟨m, hm, em⟩ := work_of hwk
    have EM := Lib.hid em
    obtain ⟨xw, T', hxw, brw⟩ := HF.out.wrote (by omega) hx hm (v := (z : Int)) (by omega)
    have HXW := Lib.hid hxw
    have XW := Lib.hid (show Bo.Shaped xw by have := brw.s x hx; unfold Bo.upB at this; rw [if_pos rfl] at this; exact this)
    have BRW := Lib.hid brw
    have hb13 := bb
    clear hxw brw em bb hP
    go_upto_region 15 with fail
    clear c1
    refine wp_region_facts (fun L v w => v 7 = .int .i64 (x : Nat) ∧ v 3 = .pointer (some ⟨gB, 0, none⟩) ∧ v 6 = .pointer (some ⟨gT, 0, none⟩) ∧ v 9 = .pointer (some ⟨g9, 0, none⟩) ∧ Below wa.heap.size wa w ∧ ((L 18 = false → Blk w g9 41 cP) ∧ (L 18 = true → ∃ cs, v 84 = .agg cs ∧ Blk w g9 41 cs)) ∧ (L 0 = true → v 69 = .int .i64 (x : Nat)) ∧ (L 1 = true → v 70 = .pointer (some ⟨gB, x * 49, none⟩)) ∧ (L 2 = true → v 71 = .agg (Q x)) ∧ (L 3 = true → v 72 = .int .i64 (x : Nat)) ∧ (L 4 = true → v 73 = .pointer (some ⟨gT, 0, none⟩)) ∧ (L 5 = true → v 74 = .pointer (some ⟨gT, 1, none⟩)) ∧ (L 6 = true → v 75 = .int .i64 wk) ∧ (L 7 = true → v 76 = .int .i64 (m : Nat)) ∧ (L 8 = true → v 77 = .pointer (some ⟨gT, 0, none⟩)) ∧ (L 9 = true → v 78 = .pointer (some ⟨gT, 2, none⟩)) ∧ (L 10 = true → v 79 = .int .i64 vl) ∧ (L 11 = true → v 80 = .int .u64 (IntKind.u64.wrap vl)) ∧ (L 12 = true → v 81 = .int .u64 (z : Nat)) ∧ (L 13 = true → v 82 = .int .i64 (z : Nat)) ∧ (L 14 = true → TupB 84 xw 0 (v 83) w) ∧ (L 15 = true → TupB 84 xw 0 (v 68) w) ∧ (L 16 = true → FoBo 84 xw (v 84) w) ∧ (L 17 = true → v 85 = .int .i64 0) ∧ (L 19 = true → v 10 = .int .i64 0)) [69, 70, 71, 72, 73, 74, 75, 76, 77, 78, 79, 80, 81, 82, 83, 68, 84, 85, 10] (by kernel_rfl) (by kernel_rfl) (by kernel_rfl) (by kernel_rfl) ?h0 ?hst ?hend
    case h0 =>
      intro L h0
      have h0 : ∀ i, i < 20 → L i = false := h0
      exact ⟨rfl, rfl, rfl, rfl, hb13.drew, ⟨fun _ => k9.drew, offF h0 (i := 18) (by decide)⟩, offF h0 (i := 0) (by decide), offF h0 (i := 1) (by decide), offF h0 (i := 2) (by decide), offF h0 (i := 3) (by decide), offF h0 (i := 4) (by decide), offF h0 (i := 5) (by decide), offF h0 (i := 6) (by decide), offF h0 (i := 7) (by decide), offF h0 (i := 8) (by decide), offF h0 (i := 9) (by decide), offF h0 (i := 10) (by decide), offF h0 (i := 11) (by decide), offF h0 (i := 12) (by decide), offF h0 (i := 13) (by decide), offF h0 (i := 14) (by decide), offF h0 (i := 15) (by decide), offF h0 (i := 16) (by decide), offF h0 (i := 17) (by decide), offF h0 (i := 19) (by decide)⟩
    case hst =>
      show FactSteps _ _ _ _ [0, 1, 2, 3, 4, 5, 6, 7, 8, 9, 10, 11, 12, 13, 14, 15, 16, 17, 18, 19]
      refine @FactSteps.cons _ _ _ _ 0 _ [] _ rfl (by kernel_rfl) ?s0 ?_
      rotate_left
      refine @FactSteps.cons _ _ _ _ 1 _ [0] _ rfl (by kernel_rfl) ?s1 ?_
      rotate_left
      refine @FactSteps.cons _ _ _ _ 2 _ [1] _ rfl (by kernel_rfl) ?s2 ?_
      rotate_left
      refine @FactSteps.cons _ _ _ _ 3 _ [] _ rfl (by kernel_rfl) ?s3 ?_
      rotate_left
      refine @FactSteps.cons _ _ _ _ 4 _ [] _ rfl (by kernel_rfl) ?s4 ?_
      rotate_left
      refine @FactSteps.cons _ _ _ _ 5 _ [4] _ rfl (by kernel_rfl) ?s5 ?_
      rotate_left
      refine @FactSteps.cons _ _ _ _ 6 _ [5] _ rfl (by kernel_rfl) ?s6 ?_
      rotate_left
      refine @FactSteps.cons _ _ _ _ 7 _ [6] _ rfl (by kernel_rfl) ?s7 ?_
      rotate_left
      refine @FactSteps.cons _ _ _ _ 8 _ [] _ rfl (by kernel_rfl) ?s8 ?_
      rotate_left
      refine @FactSteps.cons _ _ _ _ 9 _ [8] _ rfl (by kernel_rfl) ?s9 ?_
      rotate_left
      refine @FactSteps.cons _ _ _ _ 10 _ [9] _ rfl (by kernel_rfl) ?s10 ?_
      rotate_left
      refine @FactSteps.cons _ _ _ _ 11 _ [10] _ rfl (by kernel_rfl) ?s11 ?_
      rotate_left
      refine @FactSteps.cons _ _ _ _ 12 _ [11] _ rfl (by kernel_rfl) ?s12 ?_
      rotate_left
      refine @FactSteps.cons _ _ _ _ 13 _ [12] _ rfl (by kernel_rfl) ?s13 ?_
      rotate_left
      refine @FactSteps.cons _ _ _ _ 14 _ [2, 3, 7, 13] _ rfl (by kernel_rfl) ?s14 ?_
      rotate_left
      refine @FactSteps.cons _ _ _ _ 15 _ [14] _ rfl (by kernel_rfl) ?s15 ?_
      rotate_left
      refine @FactSteps.cons _ _ _ _ 16 _ [15] _ rfl (by kernel_rfl) ?s16 ?_
      rotate_left
      refine @FactSteps.cons _ _ _ _ 17 _ [15] _ rfl (by kernel_rfl) ?s17 ?_
      rotate_left
      refine @FactSteps.cons _ _ _ _ 18 _ [16, 14, 0, 1, 2, 3, 4, 5, 6, 7, 8, 9, 10, 11, 12, 13, 14, 15, 16] _ rfl (by kernel_rfl) ?s18 ?_
      rotate_left
      refine @FactSteps.cons _ _ _ _ 19 _ [17, 18, 0, 1, 2, 3, 4, 5, 6, 7, 8, 9, 10, 11, 12, 13, 14, 15, 16, 17, 18] _ rfl (by kernel_rfl) ?s19 ?_
      rotate_left
      exact FactSteps.nil
      case s0 =>
        rintro L a v w hv hg hL hd hcl ⟨e7, e3, e6, e9, hb, k9, f0, f1, f2, f3, f4, f5, f6, f7, f8, f9, f10, f11, f12, f13, f14, f15, f16, f17, f19⟩ K hK
        refine step_do rfl ?_
        clear hv
        go_simp
        exact hK.out _ _ ⟨e7, e3, e6, e9, hb, k9, fun _ => rfl, f1, f2, f3, f4, f5, f6, f7, f8, f9, f10, f11, f12, f13, f14, f15, f16, f17, f19⟩
      case s1 =>
        rintro L a v w hv hg hL hd hcl ⟨e7, e3, e6, e9, hb, k9, f0, f1, f2, f3, f4, f5, f6, f7, f8, f9, f10, f11, f12, f13, f14, f15, f16, f17, f19⟩ K hK
        have g0 := f0 (hd 0 (by decide))
        refine step_do rfl ?_
        clear hv
        go_simp
        exact hK.out _ _ ⟨e7, e3, e6, e9, hb, k9, f0, fun _ => rfl, f2, f3, f4, f5, f6, f7, f8, f9, f10, f11, f12, f13, f14, f15, f16, f17, f19⟩
      case s2 =>
        rintro L a v w hv hg hL hd hcl ⟨e7, e3, e6, e9, hb, k9, f0, f1, f2, f3, f4, f5, f6, f7, f8, f9, f10, f11, f12, f13, f14, f15, f16, f17, f19⟩ K hK
        have g1 := f1 (hd 1 (by decide))
        refine step_do rfl ?_
        refine wp_ldr rowBo (.tmp 70) rfl ((hv 70).trans g1) (rng49 (kB.below hb kB.lt) (hE.below hb).row hx) ((hE.below hb).row x hx) ?_
        exact hK.out _ _ ⟨e7, e3, e6, e9, hb, k9, f0, f1, fun _ => rfl, f3, f4, f5, f6, f7, f8, f9, f10, f11, f12, f13, f14, f15, f16, f17, f19⟩
      case s3 =>
        rintro L a v w hv hg hL hd hcl ⟨e7, e3, e6, e9, hb, k9, f0, f1, f2, f3, f4, f5, f6, f7, f8, f9, f10, f11, f12, f13, f14, f15, f16, f17, f19⟩ K hK
        refine step_do rfl ?_
        clear hv
        go_simp
        exact hK.out _ _ ⟨e7, e3, e6, e9, hb, k9, f0, f1, f2, fun _ => rfl, f4, f5, f6, f7, f8, f9, f10, f11, f12, f13, f14, f15, f16, f17, f19⟩
      case s4 =>
        rintro L a v w hv hg hL hd hcl ⟨e7, e3, e6, e9, hb, k9, f0, f1, f2, f3, f4, f5, f6, f7, f8, f9, f10, f11, f12, f13, f14, f15, f16, f17, f19⟩ K hK
        refine step_do rfl ?_
        clear hv
        go_simp
        exact hK.out _ _ ⟨e7, e3, e6, e9, hb, k9, f0, f1, f2, f3, fun _ => rfl, f5, f6, f7, f8, f9, f10, f11, f12, f13, f14, f15, f16, f17, f19⟩
      case s5 =>
        rintro L a v w hv hg hL hd hcl ⟨e7, e3, e6, e9, hb, k9, f0, f1, f2, f3, f4, f5, f6, f7, f8, f9, f10, f11, f12, f13, f14, f15, f16, f17, f19⟩ K hK
        have g4 := f4 (hd 4 (by decide))
        refine step_do rfl ?_
        clear hv
        go_simp
        exact hK.out _ _ ⟨e7, e3, e6, e9, hb, k9, f0, f1, f2, f3, f4, fun _ => rfl, f6, f7, f8, f9, f10, f11, f12, f13, f14, f15, f16, f17, f19⟩
      case s6 =>
        rintro L a v w hv hg hL hd hcl ⟨e7, e3, e6, e9, hb, k9, f0, f1, f2, f3, f4, f5, f6, f7, f8, f9, f10, f11, f12, f13, f14, f15, f16, f17, f19⟩ K hK
        have g5 := f5 (hd 5 (by decide))
        have cx : w.cell? ⟨gT, 1, none⟩ = some (.int .i64 wk) := (k5.below hb k5.lt).cell 1
        refine step_do rfl ?_
        clear hv
        go_simp
        exact hK.out _ _ ⟨e7, e3, e6, e9, hb, k9, f0, f1, f2, f3, f4, f5, fun _ => rfl, f7, f8, f9, f10, f11, f12, f13, f14, f15, f16, f17, f19⟩
      case s7 =>
        rintro L a v w hv hg hL hd hcl ⟨e7, e3, e6, e9, hb, k9, f0, f1, f2, f3, f4, f5, f6, f7, f8, f9, f10, f11, f12, f13, f14, f15, f16, f17, f19⟩ K hK
        have g6 := f6 (hd 6 (by decide))
        have ee := EM.out
        have ew : IntKind.i64.wrap (m : Int) = (m : Int) := IntWalk.i64_in _ (by omega)
        refine step_do rfl ?_
        clear hv
        go_simp
        exact hK.out _ _ ⟨e7, e3, e6, e9, hb, k9, f0, f1, f2, f3, f4, f5, f6, fun _ => rfl, f8, f9, f10, f11, f12, f13, f14, f15, f16, f17, f19⟩
      case s8 =>
        rintro L a v w hv hg hL hd hcl ⟨e7, e3, e6, e9, hb, k9, f0, f1, f2, f3, f4, f5, f6, f7, f8, f9, f10, f11, f12, f13, f14, f15, f16, f17, f19⟩ K hK
        refine step_do rfl ?_
        clear hv
        go_simp
        exact hK.out _ _ ⟨e7, e3, e6, e9, hb, k9, f0, f1, f2, f3, f4, f5, f6, f7, fun _ => rfl, f9, f10, f11, f12, f13, f14, f15, f16, f17, f19⟩
      case s9 =>
        rintro L a v w hv hg hL hd hcl ⟨e7, e3, e6, e9, hb, k9, f0, f1, f2, f3, f4, f5, f6, f7, f8, f9, f10, f11, f12, f13, f14, f15, f16, f17, f19⟩ K hK
        have g8 := f8 (hd 8 (by decide))
        refine step_do rfl ?_
        clear hv
        go_simp
        exact hK.out _ _ ⟨e7, e3, e6, e9, hb, k9, f0, f1, f2, f3, f4, f5, f6, f7, f8, fun _ => rfl, f10, f11, f12, f13, f14, f15, f16, f17, f19⟩
      case s10 =>
        rintro L a v w hv hg hL hd hcl ⟨e7, e3, e6, e9, hb, k9, f0, f1, f2, f3, f4, f5, f6, f7, f8, f9, f10, f11, f12, f13, f14, f15, f16, f17, f19⟩ K hK
        have g9 := f9 (hd 9 (by decide))
        have cx : w.cell? ⟨gT, 2, none⟩ = some (.int .i64 vl) := (k5.below hb k5.lt).cell 2
        refine step_do rfl ?_
        clear hv
        go_simp
        exact hK.out _ _ ⟨e7, e3, e6, e9, hb, k9, f0, f1, f2, f3, f4, f5, f6, f7, f8, f9, fun _ => rfl, f11, f12, f13, f14, f15, f16, f17, f19⟩
      case s11 =>
        rintro L a v w hv hg hL hd hcl ⟨e7, e3, e6, e9, hb, k9, f0, f1, f2, f3, f4, f5, f6, f7, f8, f9, f10, f11, f12, f13, f14, f15, f16, f17, f19⟩ K hK
        have g10 := f10 (hd 10 (by decide))
        refine step_do rfl ?_
        clear hv
        go_simp
        exact hK.out _ _ ⟨e7, e3, e6, e9, hb, k9, f0, f1, f2, f3, f4, f5, f6, f7, f8, f9, f10, fun _ => rfl, f12, f13, f14, f15, f16, f17, f19⟩
      case s12 =>
        rintro L a v w hv hg hL hd hcl ⟨e7, e3, e6, e9, hb, k9, f0, f1, f2, f3, f4, f5, f6, f7, f8, f9, f10, f11, f12, f13, f14, f15, f16, f17, f19⟩ K hK
        have g11 := f11 (hd 11 (by decide))
        have ee := EZ.out
        refine step_do rfl ?_
        clear hv
        go_simp
        exact hK.out _ _ ⟨e7, e3, e6, e9, hb, k9, f0, f1, f2, f3, f4, f5, f6, f7, f8, f9, f10, f11, fun _ => rfl, f13, f14, f15, f16, f17, f19⟩
      case s13 =>
        rintro L a v w hv hg hL hd hcl ⟨e7, e3, e6, e9, hb, k9, f0, f1, f2, f3, f4, f5, f6, f7, f8, f9, f10, f11, f12, f13, f14, f15, f16, f17, f19⟩ K hK
        have g12 := f12 (hd 12 (by decide))
        have ew : IntKind.i64.wrap (z : Int) = (z : Int) := IntWalk.i64_in _ (by omega)
        refine step_do rfl ?_
        clear hv
        go_simp
        exact hK.out _ _ ⟨e7, e3, e6, e9, hb, k9, f0, f1, f2, f3, f4, f5, f6, f7, f8, f9, f10, f11, f12, fun _ => rfl, f14, f15, f16, f17, f19⟩
      case s14 =>
        rintro L a v w hv hg hL hd hcl ⟨e7, e3, e6, e9, hb, k9, f0, f1, f2, f3, f4, f5, f6, f7, f8, f9, f10, f11, f12, f13, f14, f15, f16, f17, f19⟩ K hK
        have c18 : L 18 = false := off_of hcl (j := 18) (by kernel_rfl : waitsAt _ 18 = [16, 14, 0, 1, 2, 3, 4, 5, 6, 7, 8, 9, 10, 11, 12, 13, 14, 15, 16]) (d := 14) (by decide) hL
        have h2 := f2 (hd 2 (by decide))
        have h3 := f3 (hd 3 (by decide))
        have h7 := f7 (hd 7 (by decide))
        have h13 := f13 (hd 13 (by decide))
        refine step_do rfl ?_
        clear hv
        go_simp
        refine (wroteS (hE x hx).1 HXW.out ((hE.below hb) x hx).2.fresh).mono ?_
        rintro e wy ⟨q, rfl, hq, bb⟩
        exact hK.out _ _ ⟨e7, e3, e6, e9, (hb.trans (bb.mono hb.size)), ⟨fun _ => (k9.1 c18).below bb (k9.1 c18).lt, offC c18⟩, f0, f1, f2, f3, f4, f5, f6, f7, f8, f9, f10, f11, f12, f13, fun _ => TupB.mk hq, (fun h => (f15 h).below bb), (fun h => (f16 h).below bb), f17, f19⟩
      case s15 =>
        rintro L a v w hv hg hL hd hcl ⟨e7, e3, e6, e9, hb, k9, f0, f1, f2, f3, f4, f5, f6, f7, f8, f9, f10, f11, f12, f13, f14, f15, f16, f17, f19⟩ K hK
        have h14 := f14 (hd 14 (by decide))
        refine step_do rfl ?_
        clear hv
        go_simp
        exact hK.out _ _ ⟨e7, e3, e6, e9, hb, k9, f0, f1, f2, f3, f4, f5, f6, f7, f8, f9, f10, f11, f12, f13, f14, fun _ => h14, f16, f17, f19⟩
      case s16 =>
        rintro L a v w hv hg hL hd hcl ⟨e7, e3, e6, e9, hb, k9, f0, f1, f2, f3, f4, f5, f6, f7, f8, f9, f10, f11, f12, f13, f14, f15, f16, f17, f19⟩ K hK
        have c18 : L 18 = false := off_of hcl (j := 18) (by kernel_rfl : waitsAt _ 18 = [16, 14, 0, 1, 2, 3, 4, 5, 6, 7, 8, 9, 10, 11, 12, 13, 14, 15, 16]) (d := 16) (by decide) hL
        obtain ⟨cc, ec, hcc⟩ := f15 (hd 15 (by decide))
        refine step_do rfl ?_
        clear hv
        go_simp
        exact hK.out _ _ ⟨e7, e3, e6, e9, hb, ⟨fun _ => k9.1 c18, offC c18⟩, f0, f1, f2, f3, f4, f5, f6, f7, f8, f9, f10, f11, f12, f13, f14, f15, fun _ => hcc, f17, f19⟩
      case s17 =>
        rintro L a v w hv hg hL hd hcl ⟨e7, e3, e6, e9, hb, k9, f0, f1, f2, f3, f4, f5, f6, f7, f8, f9, f10, f11, f12, f13, f14, f15, f16, f17, f19⟩ K hK
        obtain ⟨cc, ec, hcc⟩ := f15 (hd 15 (by decide))
        refine step_do rfl ?_
        clear hv
        go_simp
        exact hK.out _ _ ⟨e7, e3, e6, e9, hb, k9, f0, f1, f2, f3, f4, f5, f6, f7, f8, f9, f10, f11, f12, f13, f14, f15, f16, fun _ => rfl, f19⟩
      case s18 =>
        rintro L a v w hv hg hL hd hcl ⟨e7, e3, e6, e9, hb, k9, f0, f1, f2, f3, f4, f5, f6, f7, f8, f9, f10, f11, f12, f13, f14, f15, f16, f17, f19⟩ K hK
        have h16 := f16 (hd 16 (by decide))
        have fr := h16.fresh
        obtain ⟨cs1, ev⟩ := fr.agg
        rw [ev] at fr
        have sz1 := fr.size XW.out
        have on1 := fr.one
        have kk := k9.1 hL
        refine step_do rfl ?_
        refine wp_st (cs := cs1) rowBo (.tmp 9) (.tmp 84) rfl ((hv 9).trans e9) ((hv 84).trans ev) kk sz1 s9 on1 ?_
        intro wy ky gy zy
        exact hK.out undef _ ⟨e7, e3, e6, e9, (hb.grown gy hb.size (fun q hq => by injection hq with hq; omega)), ⟨fun h => (by cases h), fun _ => ⟨cs1, ev, ky⟩⟩, f0, f1, f2, f3, f4, f5, f6, f7, f8, f9, f10, f11, f12, f13, (fun h => (f14 h).grown gy kk (by decide)), (fun h => (f15 h).grown gy kk (by decide)), (fun h => (f16 h).grown gy kk (by decide)), f17, f19⟩
      case s19 =>
        rintro L a v w hv hg hL hd hcl ⟨e7, e3, e6, e9, hb, k9, f0, f1, f2, f3, f4, f5, f6, f7, f8, f9, f10, f11, f12, f13, f14, f15, f16, f17, f19⟩ K hK
        have g0 := f0 (hd 0 (by decide))
        have g1 := f1 (hd 1 (by decide))
        have g2 := f2 (hd 2 (by decide))
        have g3 := f3 (hd 3 (by decide))
        have g4 := f4 (hd 4 (by decide))
        have g5 := f5 (hd 5 (by decide))
        have g6 := f6 (hd 6 (by decide))
        have g7 := f7 (hd 7 (by decide))
        have g8 := f8 (hd 8 (by decide))
        have g9 := f9 (hd 9 (by decide))
        have g10 := f10 (hd 10 (by decide))
        have g11 := f11 (hd 11 (by decide))
        have g12 := f12 (hd 12 (by decide))
        have g13 := f13 (hd 13 (by decide))
        have g17 := f17 (hd 17 (by decide))
        refine step_do rfl ?_
        clear hv
        go_simp
        exact hK.out _ _ ⟨e7, e3, e6, e9, hb, k9, f0, f1, f2, f3, f4, f5, f6, f7, f8, f9, f10, f11, f12, f13, f14, f15, f16, f17, fun _ => rfl⟩
    case hend =>
    rintro L v wc hall ⟨e7, e3, e6, e9, hb, k9, f0, f1, f2, f3, f4, f5, f6, f7, f8, f9, f10, f11, f12, f13, f14, f15, f16, f17, f19⟩
    have hL : ∀ i, i < 20 → L i = true := hall
    have f0 := f0 (hL 0 (by decide))
    have f1 := f1 (hL 1 (by decide))
    have f2 := f2 (hL 2 (by decide))
    have f3 := f3 (hL 3 (by decide))
    have f4 := f4 (hL 4 (by decide))
    have f5 := f5 (hL 5 (by decide))
    have f6 := f6 (hL 6 (by decide))
    have f7 := f7 (hL 7 (by decide))
    have f8 := f8 (hL 8 (by decide))
    have f9 := f9 (hL 9 (by decide))
    have f10 := f10 (hL 10 (by decide))
    have f11 := f11 (hL 11 (by decide))
    have f12 := f12 (hL 12 (by decide))
    have f13 := f13 (hL 13 (by decide))
    have f14 := f14 (hL 14 (by decide))
    have f15 := f15 (hL 15 (by decide))
    have f16 := f16 (hL 16 (by decide))
    have f17 := f17 (hL 17 (by decide))
    have f19 := f19 (hL 19 (by decide))
    obtain ⟨cW, ev, k9⟩ := k9.2 (hL 18 (by decide))
    rw [ev] at f16
    simp only [finA, List.foldl_cons, List.foldl_nil, Act.put, List.setIfInBounds_toArray, List.set_cons_succ, List.set_cons_zero, f0, f1, f2, f3, f4, f5, f6, f7, f8, f9, f10, f11, f12, f13, f17, f19, ev]
    have bb := hb
    have hW := f16
    clear e7 e3 e6 e9 f0 f1 f2 f3 f4 f5 f6 f7 f8 f9 f10 f11 f12 f13 f14 f15 f16 f17 f19 hL hall hb ev hb13 s9
    have k5 := k5.below bb k5.lt
    have kB := kB.below bb kB.lt
    have hE := hE.below bb
    have gb := gb.trans (bb.mono gb.size)
    clear bb
    have s9 := hW.fresh.size XW.out
    have oP := hW.fresh.one
    have hwr : IntKind.i64.wrap (nw + 1) = nw + 1 := IntWalk.i64_in _ (by omega)
    go_upto_region 19 with fail
    go_wp2_with first
      | ((with_reducible refine wpList_ld rowBo k9 s9 ?_ ?_); rotate_left; (rfl))
      | ((with_reducible refine wpList_str rowBo (there49 kB hE.row hx) s9 oP ?_ ?_ ?_); rotate_left; (rfl); (rfl); intro wd hwd)
    have gS : wc.grownBy wd (some gB) := by rw [hwd]; exact setCells_grown _ _ _ _
    have kC : Blk wd gB 56 (cat49 (upQ Q x cW)) := by rw [hwd]; exact set49 kB hE.row hx s9
    have e8 := (hE.grown gS kB (by decide)).up (a := x) XW.out (hW.grown gS kB (by decide))
    have gC := gb.grown gS gb.size (fun q hq => by injection hq; omega)
    have HH := Lib.hid (And.intro e8 (And.intro kC (And.intro gC BRW.out)))
    clear gS kC e8 gC kB hE hW k5 gb s9 oP k9
    subst hwd
    go_wp2_with fail
    go_roundw
    case rel => exact ⟨k + 1, _, _, _, (nw + 1), by omega, by go_num, by first | rfl | go_num, HH.out.1, by have := HH.out.2.2.2; push_cast; exact this, by omega, HH.out.2.1, HH.out.2.2.1⟩
    case measure => simp [intOf]; omega
  obtain rfl : k = n := by omega
  clear hlt hk
  have H8 := Lib.hid hE
  have HKB := Lib.hid kB
  have HGB := Lib.hid gb
  have HBR := Lib.hid hbr
  clear hE kB gb hbr
  go_upto_region 22 with fail
  refine nameW ?_
  intro wv hwv
  have bb : Below wr.heap.size wr wv := by rw [hwv]; exact Below.refl _ _
  have hE := H8.out.below bb
  have kB := HKB.out.below bb HKB.out.lt
  have gb := HGB.out.trans (bb.mono HGB.out.size)
  clear hwv bb H8 HKB HGB
  have hQ9 := hE.row
  have HQ9 := Lib.hid hQ9
  have sC := cat49_size hQ9
  have HSC := Lib.hid sC
  have hbz := fun (w : World) => buildB0 w
  have HBZ := Lib.hid hbz
  have H1Z := Lib.hid (bc_one (b := Bo.zero) (s := .slice none 0 0) rfl)
  have HSZ := Lib.hid (bc_size (s := .slice none 0 0) Bo.zero_shaped)
  clear hQ9 sC hbz
  go_upto_region 23 with first
    | ((refine wpList_bdV (v := .agg (bc Bo.zero (.slice none 0 0))) (w' := _) rfl 41 #[] rfl ?_ ?_); (simp only [List.map_toArray, List.map_nil]; exact HBZ.out _))
    | ((with_reducible refine wpList_st rowBo (Blk.new _ _ _) HSZ.out ?_ H1Z.out ?_ ?_ ?_); (rfl); rotate_left; (rfl); (rfl); intro gaw k12 ga gaz)
  have bb := new_below ga
  have hgw12' := gb.size
  have hE := hE.below bb
  have kB := kB.below bb kB.lt
  have gb := gb.trans (bb.mono gb.size)
  obtain ⟨g12, hg12⟩ : ∃ g12, g12 = wv.heap.size := ⟨_, rfl⟩
  rw [← hg12] at k12 ⊢
  have h12 : FoBo 84 (Bo.foldB F 0) (.agg (bc Bo.zero (.slice none 0 0))) gaw := ⟨none, 0, 0, rfl, OwnV.nil _ _ _, by omega⟩
  have hgw12 : w.heap.size ≤ g12 := by rw [hg12]; exact hgw12'
  clear bb ga hg12 gaz
  go_wp2_with first
    | ((with_reducible refine wpList_ld rowOwnB kB HSC.out ?_ ?_); rotate_left; (rfl))
  go_loopw [96] (fun i wr => ∃ (k : Nat) (c12 : Array Value), k ≤ 8 ∧ i = .int .i64 k ∧ Blk wr g12 41 c12 ∧ FoBo 84 (Bo.foldB F k) (.agg c12) wr ∧ EightB F Q wr ∧ Blk wr gB 56 (cat49 Q) ∧ Below w.heap.size w wr ∧ w.heap.size ≤ g12) (fun i _ => 8 - (intOf i).toNat)
  case atStart => exact ⟨0, _, by omega, rfl, k12, h12, hE, kB, gb, hgw12⟩
  case round =>
  clear k12 h12 hE kB gb
  obtain ⟨k, c12, hk, rfl, k12, h12, hE, kB, gb, hgw12⟩ := hrel
  by_cases hlt : k < 8
  · have hk0 : (0 : Int) ≤ (k : Int) := by omega
    have hk8 : (k : Int) < 8 := by omega
    have sQ := HQ9.out k hlt
    have oQ := (hE k hlt).2.fresh.one
    have hix := fun w' => run_index49 w' Q HQ9.out k hlt
    have HIX := Lib.hid hix
    clear hix
    go_upto_region 26 with first
      | ((with_reducible refine wpList_ix (HIX.out _) ?_ ?_ ?_); rotate_left; (rfl); (rfl))
      | ((with_reducible refine wpList_st rowBo (Blk.new _ _ _) sQ ?_ oQ ?_ ?_ ?_); (rfl); rotate_left; (rfl); (rfl); intro gaw k14 ga gaz)
    have bb := new_below ga
    obtain ⟨g14, hg14⟩ : ∃ g14, g14 = wr.heap.size := ⟨_, rfl⟩
    rw [← hg14] at k14 ⊢
    obtain ⟨p, hp⟩ : ∃ p, p = (k + 1) % 8 := ⟨_, rfl⟩
    obtain ⟨q, hq⟩ : ∃ q, q = (k + 2) % 8 := ⟨_, rfl⟩
    have hpl : p < 8 := by omega
    have hql : q < 8 := by omega
    have hp0 : (0 : Int) ≤ (p : Int) := by omega
    have hp8 : (p : Int) < 8 := by omega
    have hq0 : (0 : Int) ≤ (q : Int) := by omega
    have hq8 : (q : Int) < 8 := by omega
    have EP := Lib.hid (show ((k : Int) + 1).tmod 8 = (p : Int) by rw [Int.tmod_eq_emod_of_nonneg (by omega)]; omega)
    have EQ := Lib.hid (show ((k : Int) + 2).tmod 8 = (q : Int) by rw [Int.tmod_eq_emod_of_nonneg (by omega)]; omega)
    have W1 := Lib.hid (show IntKind.i64.wrap ((k : Int) + 1) = (k : Int) + 1 from IntWalk.i64_in _ (by omega))
    have W3 := Lib.hid (show IntKind.i64.wrap ((k : Int) + 2) = (k : Int) + 2 from IntWalk.i64_in _ (by omega))
    clear hp hq hg14 ga gaz
    have kB := kB.below bb kB.lt
    have k12 := k12.below bb k12.lt
    have hE := hE.below bb
    have h12 := h12.below bb
    have gb := gb.trans (bb.mono gb.size)
    clear bb
    refine wp_region_facts (fun L v w => v 13 = .int .i64 (k : Nat) ∧ v 3 = .pointer (some ⟨gB, 0, none⟩) ∧ Below gaw.heap.size gaw w ∧ (L 0 = true → v 100 = .int .i64 (k : Nat)) ∧ (L 1 = true → v 101 = .int .i64 ((k : Int) + 1)) ∧ (L 2 = true → v 102 = .int .i64 (p : Nat)) ∧ (L 3 = true → v 103 = .pointer (some ⟨gB, p * 49, none⟩)) ∧ (L 4 = true → v 104 = .agg (Q p)) ∧ (L 5 = true → v 105 = .int .i64 (k : Nat)) ∧ (L 6 = true → v 106 = .int .i64 ((k : Int) + 2)) ∧ (L 7 = true → v 107 = .int .i64 (q : Nat)) ∧ (L 8 = true → v 108 = .pointer (some ⟨gB, q * 49, none⟩)) ∧ (L 9 = true → v 109 = .agg (Q q)) ∧ Al 41 49 gaw.heap.size (L 10) (L 12) (v 15) (v 104) w ∧ Al 41 49 gaw.heap.size (L 11) (L 13) (v 16) (v 109) w ∧ TwoP (L 10) (L 11) (v 15) (v 16)) [100, 101, 102, 103, 104, 105, 106, 107, 108, 109, 15, 16] (by kernel_rfl) (by kernel_rfl) (by kernel_rfl) (by kernel_rfl) ?h0 ?hst ?hend
    case h0 =>
      intro L h0
      have h0 : ∀ i, i < 14 → L i = false := h0
      exact ⟨rfl, rfl, (Below.refl _ _).drew, offF h0 (i := 0) (by decide), offF h0 (i := 1) (by decide), offF h0 (i := 2) (by decide), offF h0 (i := 3) (by decide), offF h0 (i := 4) (by decide), offF h0 (i := 5) (by decide), offF h0 (i := 6) (by decide), offF h0 (i := 7) (by decide), offF h0 (i := 8) (by decide), offF h0 (i := 9) (by decide), Al.none_ (h0 10 (by decide)) (h0 12 (by decide)), Al.none_ (h0 11 (by decide)) (h0 13 (by decide)), offF h0 (i := 10) (by decide)⟩
    case hst =>
      show FactSteps _ _ _ _ [0, 1, 2, 3, 4, 5, 6, 7, 8, 9, 10, 11, 12, 13]
      refine @FactSteps.cons _ _ _ _ 0 _ [] _ rfl (by kernel_rfl) ?s0 ?_
      rotate_left
      refine @FactSteps.cons _ _ _ _ 1 _ [0] _ rfl (by kernel_rfl) ?s1 ?_
      rotate_left
      refine @FactSteps.cons _ _ _ _ 2 _ [1] _ rfl (by kernel_rfl) ?s2 ?_
      rotate_left
      refine @FactSteps.cons _ _ _ _ 3 _ [2] _ rfl (by kernel_rfl) ?s3 ?_
      rotate_left
      refine @FactSteps.cons _ _ _ _ 4 _ [3] _ rfl (by kernel_rfl) ?s4 ?_
      rotate_left
      refine @FactSteps.cons _ _ _ _ 5 _ [] _ rfl (by kernel_rfl) ?s5 ?_
      rotate_left
      refine @FactSteps.cons _ _ _ _ 6 _ [5] _ rfl (by kernel_rfl) ?s6 ?_
      rotate_left
      refine @FactSteps.cons _ _ _ _ 7 _ [6] _ rfl (by kernel_rfl) ?s7 ?_
      rotate_left
      refine @FactSteps.cons _ _ _ _ 8 _ [7] _ rfl (by kernel_rfl) ?s8 ?_
      rotate_left
      refine @FactSteps.cons _ _ _ _ 9 _ [8] _ rfl (by kernel_rfl) ?s9 ?_
      rotate_left
      refine @FactSteps.cons _ _ _ _ 10 _ [] _ rfl (by kernel_rfl) ?s10 ?_
      rotate_left
      refine @FactSteps.cons _ _ _ _ 11 _ [] _ rfl (by kernel_rfl) ?s11 ?_
      rotate_left
      refine @FactSteps.cons _ _ _ _ 12 _ [10, 4, 0, 1, 2, 3, 4, 10, 11] _ rfl (by kernel_rfl) ?s12 ?_
      rotate_left
      refine @FactSteps.cons _ _ _ _ 13 _ [11, 9, 12, 0, 1, 2, 3, 4, 5, 6, 7, 8, 9, 10, 11, 12] _ rfl (by kernel_rfl) ?s13 ?_
      rotate_left
      exact FactSteps.nil
      case s0 =>
        rintro L a v w hv hg hL hd hcl ⟨e13, e3, hb, f0, f1, f2, f3, f4, f5, f6, f7, f8, f9, f10, f11, d10_11⟩ K hK
        refine step_do rfl ?_
        clear hv
        go_simp
        exact hK.out _ _ ⟨e13, e3, hb, fun _ => rfl, f1, f2, f3, f4, f5, f6, f7, f8, f9, f10, f11, d10_11⟩
      case s1 =>
        rintro L a v w hv hg hL hd hcl ⟨e13, e3, hb, f0, f1, f2, f3, f4, f5, f6, f7, f8, f9, f10, f11, d10_11⟩ K hK
        have g0 := f0 (hd 0 (by decide))
        have e1 := W1.out
        refine step_do rfl ?_
        clear hv
        go_simp
        exact hK.out _ _ ⟨e13, e3, hb, f0, fun _ => rfl, f2, f3, f4, f5, f6, f7, f8, f9, f10, f11, d10_11⟩
      case s2 =>
        rintro L a v w hv hg hL hd hcl ⟨e13, e3, hb, f0, f1, f2, f3, f4, f5, f6, f7, f8, f9, f10, f11, d10_11⟩ K hK
        have g1 := f1 (hd 1 (by decide))
        have e1 := EP.out
        refine step_do rfl ?_
        clear hv
        go_simp
        exact hK.out _ _ ⟨e13, e3, hb, f0, f1, fun _ => rfl, f3, f4, f5, f6, f7, f8, f9, f10, f11, d10_11⟩
      case s3 =>
        rintro L a v w hv hg hL hd hcl ⟨e13, e3, hb, f0, f1, f2, f3, f4, f5, f6, f7, f8, f9, f10, f11, d10_11⟩ K hK
        have g2 := f2 (hd 2 (by decide))
        refine step_do rfl ?_
        clear hv
        go_simp
        exact hK.out _ _ ⟨e13, e3, hb, f0, f1, f2, fun _ => rfl, f4, f5, f6, f7, f8, f9, f10, f11, d10_11⟩
      case s4 =>
        rintro L a v w hv hg hL hd hcl ⟨e13, e3, hb, f0, f1, f2, f3, f4, f5, f6, f7, f8, f9, f10, f11, d10_11⟩ K hK
        have c12 : L 12 = false := off_of hcl (j := 12) (by kernel_rfl : waitsAt _ 12 = [10, 4, 0, 1, 2, 3, 4, 10, 11]) (d := 4) (by decide) hL
        have g3 := f3 (hd 3 (by decide))
        refine step_do rfl ?_
        refine wp_ldr rowBo (.tmp 103) rfl ((hv 103).trans g3) (rng49 (kB.below hb kB.lt) (hE.below hb).row hpl) ((hE.below hb).row p hpl) ?_
        exact hK.out _ _ ⟨e13, e3, hb, f0, f1, f2, f3, fun _ => rfl, f5, f6, f7, f8, f9, f10.other c12, f11, d10_11⟩
      case s5 =>
        rintro L a v w hv hg hL hd hcl ⟨e13, e3, hb, f0, f1, f2, f3, f4, f5, f6, f7, f8, f9, f10, f11, d10_11⟩ K hK
        refine step_do rfl ?_
        clear hv
        go_simp
        exact hK.out _ _ ⟨e13, e3, hb, f0, f1, f2, f3, f4, fun _ => rfl, f6, f7, f8, f9, f10, f11, d10_11⟩
      case s6 =>
        rintro L a v w hv hg hL hd hcl ⟨e13, e3, hb, f0, f1, f2, f3, f4, f5, f6, f7, f8, f9, f10, f11, d10_11⟩ K hK
        have g5 := f5 (hd 5 (by decide))
        have e1 := W3.out
        refine step_do rfl ?_
        clear hv
        go_simp
        exact hK.out _ _ ⟨e13, e3, hb, f0, f1, f2, f3, f4, f5, fun _ => rfl, f7, f8, f9, f10, f11, d10_11⟩
      case s7 =>
        rintro L a v w hv hg hL hd hcl ⟨e13, e3, hb, f0, f1, f2, f3, f4, f5, f6, f7, f8, f9, f10, f11, d10_11⟩ K hK
        have g6 := f6 (hd 6 (by decide))
        have e1 := EQ.out
        refine step_do rfl ?_
        clear hv
        go_simp
        exact hK.out _ _ ⟨e13, e3, hb, f0, f1, f2, f3, f4, f5, f6, fun _ => rfl, f8, f9, f10, f11, d10_11⟩
      case s8 =>
        rintro L a v w hv hg hL hd hcl ⟨e13, e3, hb, f0, f1, f2, f3, f4, f5, f6, f7, f8, f9, f10, f11, d10_11⟩ K hK
        have g7 := f7 (hd 7 (by decide))
        refine step_do rfl ?_
        clear hv
        go_simp
        exact hK.out _ _ ⟨e13, e3, hb, f0, f1, f2, f3, f4, f5, f6, f7, fun _ => rfl, f9, f10, f11, d10_11⟩
      case s9 =>
        rintro L a v w hv hg hL hd hcl ⟨e13, e3, hb, f0, f1, f2, f3, f4, f5, f6, f7, f8, f9, f10, f11, d10_11⟩ K hK
        have c13 : L 13 = false := off_of hcl (j := 13) (by kernel_rfl : waitsAt _ 13 = [11, 9, 12, 0, 1, 2, 3, 4, 5, 6, 7, 8, 9, 10, 11, 12]) (d := 9) (by decide) hL
        have g8 := f8 (hd 8 (by decide))
        refine step_do rfl ?_
        refine wp_ldr rowBo (.tmp 108) rfl ((hv 108).trans g8) (rng49 (kB.below hb kB.lt) (hE.below hb).row hql) ((hE.below hb).row q hql) ?_
        exact hK.out _ _ ⟨e13, e3, hb, f0, f1, f2, f3, f4, f5, f6, f7, f8, fun _ => rfl, f10, f11.other c13, d10_11⟩
      case s10 =>
        rintro L a v w hv hg hL hd hcl ⟨e13, e3, hb, f0, f1, f2, f3, f4, f5, f6, f7, f8, f9, f10, f11, d10_11⟩ K hK
        refine step_do rfl ?_
        go_simp
        have bb : Below w.heap.size w (w.alloc (.cells (bc Bo.zero (.slice none 0 0)) 41)) := (Below.refl _ _).alloc (Nat.le_refl _) _
        rw [hL] at f10
        exact hK.out _ _ ⟨e13, e3, (hb.trans (bb.mono hb.size)), f0, f1, f2, f3, f4, f5, f6, f7, f8, f9, f10.alloc_ hb.size rfl, f11.below bb, fun _ h => (by have f := f11; rw [show L 11 = true from h] at f; exact fun e => f.lt e.symm)⟩
      case s11 =>
        rintro L a v w hv hg hL hd hcl ⟨e13, e3, hb, f0, f1, f2, f3, f4, f5, f6, f7, f8, f9, f10, f11, d10_11⟩ K hK
        refine step_do rfl ?_
        go_simp
        have bb : Below w.heap.size w (w.alloc (.cells (bc Bo.zero (.slice none 0 0)) 41)) := (Below.refl _ _).alloc (Nat.le_refl _) _
        rw [hL] at f11
        exact hK.out _ _ ⟨e13, e3, (hb.trans (bb.mono hb.size)), f0, f1, f2, f3, f4, f5, f6, f7, f8, f9, f10.below bb, f11.alloc_ hb.size rfl, fun h _ => (by have f := f10; rw [show L 10 = true from h] at f; exact f.lt)⟩
      case s12 =>
        rintro L a v w hv hg hL hd hcl ⟨e13, e3, hb, f0, f1, f2, f3, f4, f5, f6, f7, f8, f9, f10, f11, d10_11⟩ K hK
        have ha : L 10 = true := hd 10 (by decide)
        obtain ⟨g, ds, ep, hg, kk, hds, _⟩ := f10.2 ha
        refine step_do rfl ?_
        refine wp_st (cs := (Q p)) rowBo (.tmp 15) (.tmp 104) rfl ((hv 15).trans ep) ((hv 104).trans (f4 (hd 4 (by decide)))) kk (HQ9.out p hpl) hds (hE p hpl).2.fresh.one ?_
        intro wy ky gy zy
        have bY : Below gaw.heap.size w wy := only_Below gy hg hb.size
        exact hK.out _ _ ⟨e13, e3, (hb.trans bY), f0, f1, f2, f3, f4, f5, f6, f7, f8, f9, Al.stored ha ep hg ky (HQ9.out p hpl) (f4 (hd 4 (by decide))), f11.far gy (fun h e => d10_11 ha h (ep.trans e.symm)), d10_11⟩
      case s13 =>
        rintro L a v w hv hg hL hd hcl ⟨e13, e3, hb, f0, f1, f2, f3, f4, f5, f6, f7, f8, f9, f10, f11, d10_11⟩ K hK
        have ha : L 11 = true := hd 11 (by decide)
        obtain ⟨g, ds, ep, hg, kk, hds, _⟩ := f11.2 ha
        refine step_do rfl ?_
        refine wp_st (cs := (Q q)) rowBo (.tmp 16) (.tmp 109) rfl ((hv 16).trans ep) ((hv 109).trans (f9 (hd 9 (by decide)))) kk (HQ9.out q hql) hds (hE q hql).2.fresh.one ?_
        intro wy ky gy zy
        have bY : Below gaw.heap.size w wy := only_Below gy hg hb.size
        exact hK.out _ _ ⟨e13, e3, (hb.trans bY), f0, f1, f2, f3, f4, f5, f6, f7, f8, f9, f10.far gy (fun h e => d10_11 h ha (e.trans ep.symm)), Al.stored ha ep hg ky (HQ9.out q hql) (f9 (hd 9 (by decide))), d10_11⟩
    case hend =>
    rintro L v wb hall ⟨e13, e3, hb, f0, f1, f2, f3, f4, f5, f6, f7, f8, f9, f10, f11, d10_11⟩
    have hL : ∀ i, i < 14 → L i = true := hall
    have f0 := f0 (hL 0 (by decide))
    have f1 := f1 (hL 1 (by decide))
    have f2 := f2 (hL 2 (by decide))
    have f3 := f3 (hL 3 (by decide))
    have f4 := f4 (hL 4 (by decide))
    have f5 := f5 (hL 5 (by decide))
    have f6 := f6 (hL 6 (by decide))
    have f7 := f7 (hL 7 (by decide))
    have f8 := f8 (hL 8 (by decide))
    have f9 := f9 (hL 9 (by decide))
    rw [hL 10 (by decide), hL 12 (by decide)] at f10
    rw [hL 11 (by decide), hL 13 (by decide)] at f11
    have d10_11 := d10_11 (hL 10 (by decide)) (hL 11 (by decide))
    obtain ⟨g15, ds, e15, ey, hg15, k15, _⟩ := f10.fin
    rw [f4] at ey
    injection ey with ey
    subst ey
    obtain ⟨g16, ds, e16, ey, hg16, k16, _⟩ := f11.fin
    rw [f9] at ey
    injection ey with ey
    subst ey
    simp only [finA, List.foldl_cons, List.foldl_nil, Act.put, List.setIfInBounds_toArray, List.set_cons_succ, List.set_cons_zero, f0, f1, f2, f3, f4, f5, f6, f7, f8, f9, e15, e16]
    have bb := hb
    clear e13 e3 f0 f1 f2 f3 f4 f5 f6 f7 f8 f9 f10 f11 d10_11 hL hall hb e15 e16
    have kB := kB.below bb kB.lt
    have k12 := k12.below bb k12.lt
    have k14 := k14.below bb k14.lt
    have hE := hE.below bb
    have h12 := h12.below bb
    have gb := gb.trans (bb.mono gb.size)
    clear bb
    go_upto_region 27 with fail
    have ⟨sA, rA⟩ := And.intro (HBR.out.s k hlt) (HBR.out.r k hlt)
    have ⟨sP, rP⟩ := And.intro (HBR.out.s p hpl) (HBR.out.r p hpl)
    have ⟨sQq, rQ⟩ := And.intro (HBR.out.s q hql) (HBR.out.r q hql)
    have sAP := Bo.join_shaped sA sP
    have rAP := Bo.join_right sA sP
    have sPQ := Bo.join_shaped sP sQq
    have sAPQ := Bo.join_shaped sAP sQq
    have rAPQ := Bo.join_right sAP sQq
    have eC := Bo.join_comm sP sA rP rA
    have eS := Bo.join_self sA rA
    have eA := (Bo.join_assoc sA sP sQq rA rP rQ).symm
    have EC := Lib.hid eC
    have ES := Lib.hid eS
    have EA := Lib.hid eA
    clear eC eS eA
    refine wp_region_facts (fun L v w => v 14 = .pointer (some ⟨g14, 0, none⟩) ∧ v 15 = .pointer (some ⟨g15, 0, none⟩) ∧ v 16 = .pointer (some ⟨g16, 0, none⟩) ∧ v 11 = .func (.func 16) #[] #[] ∧ Below wb.heap.size wb w ∧ (L 0 = true → v 110 = .agg (Q k)) ∧ (L 1 = true → v 111 = .bool true) ∧ (L 2 = true → v 112 = .bool false) ∧ (L 3 = true → v 113 = .bool false) ∧ (L 4 = true → v 114 = .func (.func 16) #[] #[]) ∧ (L 5 = true → v 115 = .agg (Q k)) ∧ (L 6 = true → v 116 = .agg (Q p)) ∧ (L 7 = true → FoBo 84 (Bo.join (F k) (F p)) (v 117) w) ∧ (L 8 = true → v 118 = .agg (Q p)) ∧ (L 9 = true → v 119 = .agg (Q k)) ∧ (L 10 = true → FoBo 84 (Bo.join (F k) (F p)) (v 120) w) ∧ (L 11 = true → v 121 = .bool true) ∧ (L 12 = true → v 122 = .bool false) ∧ (L 13 = true → v 123 = .bool false) ∧ (L 14 = true → v 124 = .bool false) ∧ (L 15 = true → v 125 = .func (.func 16) #[] #[]) ∧ (L 16 = true → v 126 = .agg (Q k)) ∧ (L 17 = true → v 127 = .agg (Q p)) ∧ (L 18 = true → FoBo 84 (Bo.join (F k) (F p)) (v 128) w) ∧ (L 19 = true → v 129 = .agg (Q q)) ∧ (L 20 = true → FoBo 84 (Bo.join (Bo.join (F k) (F p)) (F q)) (v 130) w) ∧ (L 21 = true → v 131 = .agg (Q k)) ∧ (L 22 = true → v 132 = .agg (Q p)) ∧ (L 23 = true → v 133 = .agg (Q q)) ∧ (L 24 = true → FoBo 84 (Bo.join (F p) (F q)) (v 134) w) ∧ (L 25 = true → FoBo 84 (Bo.join (Bo.join (F k) (F p)) (F q)) (v 135) w) ∧ (L 26 = true → v 136 = .bool true) ∧ (L 27 = true → v 137 = .bool false) ∧ (L 28 = true → v 138 = .bool false) ∧ (L 29 = true → v 139 = .bool false) ∧ (L 30 = true → v 140 = .func (.func 16) #[] #[]) ∧ (L 31 = true → v 141 = .agg (Q k)) ∧ (L 32 = true → v 142 = .agg (Q k)) ∧ (L 33 = true → FoBo 84 (F k) (v 143) w) ∧ (L 34 = true → v 144 = .agg (Q k)) ∧ (L 35 = true → v 145 = .bool true) ∧ (L 36 = true → v 146 = .bool false) ∧ (L 37 = true → v 147 = .bool false)) [110, 111, 112, 113, 114, 115, 116, 117, 118, 119, 120, 121, 122, 123, 124, 125, 126, 127, 128, 129, 130, 131, 132, 133, 134, 135, 136, 137, 138, 139, 140, 141, 142, 143, 144, 145, 146, 147] (by kernel_rfl) (by kernel_rfl) (by kernel_rfl) (by kernel_rfl) ?h0 ?hst ?hend
    case h0 =>
      intro L h0
      have h0 : ∀ i, i < 38 → L i = false := h0
      exact ⟨rfl, rfl, rfl, rfl, (Below.refl _ _).drew, offF h0 (i := 0) (by decide), offF h0 (i := 1) (by decide), offF h0 (i := 2) (by decide), offF h0 (i := 3) (by decide), offF h0 (i := 4) (by decide), offF h0 (i := 5) (by decide), offF h0 (i := 6) (by decide), offF h0 (i := 7) (by decide), offF h0 (i := 8) (by decide), offF h0 (i := 9) (by decide), offF h0 (i := 10) (by decide), offF h0 (i := 11) (by decide), offF h0 (i := 12) (by decide), offF h0 (i := 13) (by decide), offF h0 (i := 14) (by decide), offF h0 (i := 15) (by decide), offF h0 (i := 16) (by decide), offF h0 (i := 17) (by decide), offF h0 (i := 18) (by decide), offF h0 (i := 19) (by decide), offF h0 (i := 20) (by decide), offF h0 (i := 21) (by decide), offF h0 (i := 22) (by decide), offF h0 (i := 23) (by decide), offF h0 (i := 24) (by decide), offF h0 (i := 25) (by decide), offF h0 (i := 26) (by decide), offF h0 (i := 27) (by decide), offF h0 (i := 28) (by decide), offF h0 (i := 29) (by decide), offF h0 (i := 30) (by decide), offF h0 (i := 31) (by decide), offF h0 (i := 32) (by decide), offF h0 (i := 33) (by decide), offF h0 (i := 34) (by decide), offF h0 (i := 35) (by decide), offF h0 (i := 36) (by decide), offF h0 (i := 37) (by decide)⟩
    case hst =>
      show FactSteps _ _ _ _ [0, 1, 2, 3, 4, 5, 6, 7, 8, 9, 10, 11, 12, 13, 14, 15, 16, 17, 18, 19, 20, 21, 22, 23, 24, 25, 26, 27, 28, 29, 30, 31, 32, 33, 34, 35, 36, 37]
      refine @FactSteps.cons _ _ _ _ 0 _ [] _ rfl (by kernel_rfl) ?s0 ?_
      rotate_left
      refine @FactSteps.cons _ _ _ _ 1 _ [0] _ rfl (by kernel_rfl) ?s1 ?_
      rotate_left
      refine @FactSteps.cons _ _ _ _ 2 _ [1] _ rfl (by kernel_rfl) ?s2 ?_
      rotate_left
      refine @FactSteps.cons _ _ _ _ 3 _ [2, 1] _ rfl (by kernel_rfl) ?s3 ?_
      rotate_left
      refine @FactSteps.cons _ _ _ _ 4 _ [3] _ rfl (by kernel_rfl) ?s4 ?_
      rotate_left
      refine @FactSteps.cons _ _ _ _ 5 _ [3] _ rfl (by kernel_rfl) ?s5 ?_
      rotate_left
      refine @FactSteps.cons _ _ _ _ 6 _ [3] _ rfl (by kernel_rfl) ?s6 ?_
      rotate_left
      refine @FactSteps.cons _ _ _ _ 7 _ [5, 6, 3, 3] _ rfl (by kernel_rfl) ?s7 ?_
      rotate_left
      refine @FactSteps.cons _ _ _ _ 8 _ [3] _ rfl (by kernel_rfl) ?s8 ?_
      rotate_left
      refine @FactSteps.cons _ _ _ _ 9 _ [3] _ rfl (by kernel_rfl) ?s9 ?_
      rotate_left
      refine @FactSteps.cons _ _ _ _ 10 _ [8, 9, 7, 3] _ rfl (by kernel_rfl) ?s10 ?_
      rotate_left
      refine @FactSteps.cons _ _ _ _ 11 _ [4, 7, 10, 10, 3] _ rfl (by kernel_rfl) ?s11 ?_
      rotate_left
      refine @FactSteps.cons _ _ _ _ 12 _ [11, 3] _ rfl (by kernel_rfl) ?s12 ?_
      rotate_left
      refine @FactSteps.cons _ _ _ _ 13 _ [3, 12] _ rfl (by kernel_rfl) ?s13 ?_
      rotate_left
      refine @FactSteps.cons _ _ _ _ 14 _ [13, 11] _ rfl (by kernel_rfl) ?s14 ?_
      rotate_left
      refine @FactSteps.cons _ _ _ _ 15 _ [14] _ rfl (by kernel_rfl) ?s15 ?_
      rotate_left
      refine @FactSteps.cons _ _ _ _ 16 _ [14] _ rfl (by kernel_rfl) ?s16 ?_
      rotate_left
      refine @FactSteps.cons _ _ _ _ 17 _ [14] _ rfl (by kernel_rfl) ?s17 ?_
      rotate_left
      refine @FactSteps.cons _ _ _ _ 18 _ [16, 17, 14, 14] _ rfl (by kernel_rfl) ?s18 ?_
      rotate_left
      refine @FactSteps.cons _ _ _ _ 19 _ [14] _ rfl (by kernel_rfl) ?s19 ?_
      rotate_left
      refine @FactSteps.cons _ _ _ _ 20 _ [18, 19, 18, 14] _ rfl (by kernel_rfl) ?s20 ?_
      rotate_left
      refine @FactSteps.cons _ _ _ _ 21 _ [14] _ rfl (by kernel_rfl) ?s21 ?_
      rotate_left
      refine @FactSteps.cons _ _ _ _ 22 _ [14] _ rfl (by kernel_rfl) ?s22 ?_
      rotate_left
      refine @FactSteps.cons _ _ _ _ 23 _ [14] _ rfl (by kernel_rfl) ?s23 ?_
      rotate_left
      refine @FactSteps.cons _ _ _ _ 24 _ [22, 23, 20, 14] _ rfl (by kernel_rfl) ?s24 ?_
      rotate_left
      refine @FactSteps.cons _ _ _ _ 25 _ [21, 24, 24, 14] _ rfl (by kernel_rfl) ?s25 ?_
      rotate_left
      refine @FactSteps.cons _ _ _ _ 26 _ [15, 20, 25, 25, 14] _ rfl (by kernel_rfl) ?s26 ?_
      rotate_left
      refine @FactSteps.cons _ _ _ _ 27 _ [26, 14] _ rfl (by kernel_rfl) ?s27 ?_
      rotate_left
      refine @FactSteps.cons _ _ _ _ 28 _ [14, 27] _ rfl (by kernel_rfl) ?s28 ?_
      rotate_left
      refine @FactSteps.cons _ _ _ _ 29 _ [28, 26] _ rfl (by kernel_rfl) ?s29 ?_
      rotate_left
      refine @FactSteps.cons _ _ _ _ 30 _ [29] _ rfl (by kernel_rfl) ?s30 ?_
      rotate_left
      refine @FactSteps.cons _ _ _ _ 31 _ [29] _ rfl (by kernel_rfl) ?s31 ?_
      rotate_left
      refine @FactSteps.cons _ _ _ _ 32 _ [29] _ rfl (by kernel_rfl) ?s32 ?_
      rotate_left
      refine @FactSteps.cons _ _ _ _ 33 _ [31, 32, 29, 29] _ rfl (by kernel_rfl) ?s33 ?_
      rotate_left
      refine @FactSteps.cons _ _ _ _ 34 _ [29] _ rfl (by kernel_rfl) ?s34 ?_
      rotate_left
      refine @FactSteps.cons _ _ _ _ 35 _ [30, 33, 34, 33, 29] _ rfl (by kernel_rfl) ?s35 ?_
      rotate_left
      refine @FactSteps.cons _ _ _ _ 36 _ [35, 29] _ rfl (by kernel_rfl) ?s36 ?_
      rotate_left
      refine @FactSteps.cons _ _ _ _ 37 _ [29, 36] _ rfl (by kernel_rfl) ?s37 ?_
      rotate_left
      exact FactSteps.nil
      case s0 =>
        rintro L a v w hv hg hL hd hcl ⟨e14, e15, e16, e11, hb, f0, f1, f2, f3, f4, f5, f6, f7, f8, f9, f10, f11, f12, f13, f14, f15, f16, f17, f18, f19, f20, f21, f22, f23, f24, f25, f26, f27, f28, f29, f30, f31, f32, f33, f34, f35, f36, f37⟩ K hK
        refine step_do rfl ?_
        refine wp_ld rowBo (.tmp 14) rfl ((hv 14).trans e14) (k14.below hb k14.lt) sQ ?_
        exact hK.out _ _ ⟨e14, e15, e16, e11, hb, fun _ => rfl, f1, f2, f3, f4, f5, f6, f7, f8, f9, f10, f11, f12, f13, f14, f15, f16, f17, f18, f19, f20, f21, f22, f23, f24, f25, f26, f27, f28, f29, f30, f31, f32, f33, f34, f35, f36, f37⟩
      case s1 =>
        rintro L a v w hv hg hL hd hcl ⟨e14, e15, e16, e11, hb, f0, f1, f2, f3, f4, f5, f6, f7, f8, f9, f10, f11, f12, f13, f14, f15, f16, f17, f18, f19, f20, f21, f22, f23, f24, f25, f26, f27, f28, f29, f30, f31, f32, f33, f34, f35, f36, f37⟩ K hK
        have h0 := f0 (hd 0 (by decide))
        refine step_do rfl ?_
        clear hv
        go_simp
        refine (rightT sA rA ((hE.below hb) k hlt).2.fresh).mono ?_
        rintro e wy ⟨rfl, bb⟩
        exact hK.out _ _ ⟨e14, e15, e16, e11, (hb.trans (bb.mono hb.size)), f0, fun _ => rfl, f2, f3, f4, f5, f6, (fun h => (f7 h).below bb), f8, f9, (fun h => (f10 h).below bb), f11, f12, f13, f14, f15, f16, f17, (fun h => (f18 h).below bb), f19, (fun h => (f20 h).below bb), f21, f22, f23, (fun h => (f24 h).below bb), (fun h => (f25 h).below bb), f26, f27, f28, f29, f30, f31, f32, (fun h => (f33 h).below bb), f34, f35, f36, f37⟩
      case s2 =>
        rintro L a v w hv hg hL hd hcl ⟨e14, e15, e16, e11, hb, f0, f1, f2, f3, f4, f5, f6, f7, f8, f9, f10, f11, f12, f13, f14, f15, f16, f17, f18, f19, f20, f21, f22, f23, f24, f25, f26, f27, f28, f29, f30, f31, f32, f33, f34, f35, f36, f37⟩ K hK
        refine step_do rfl ?_
        clear hv
        go_simp
        exact hK.out _ _ ⟨e14, e15, e16, e11, hb, f0, f1, fun _ => rfl, f3, f4, f5, f6, f7, f8, f9, f10, f11, f12, f13, f14, f15, f16, f17, f18, f19, f20, f21, f22, f23, f24, f25, f26, f27, f28, f29, f30, f31, f32, f33, f34, f35, f36, f37⟩
      case s3 =>
        rintro L a v w hv hg hL hd hcl ⟨e14, e15, e16, e11, hb, f0, f1, f2, f3, f4, f5, f6, f7, f8, f9, f10, f11, f12, f13, f14, f15, f16, f17, f18, f19, f20, f21, f22, f23, f24, f25, f26, f27, f28, f29, f30, f31, f32, f33, f34, f35, f36, f37⟩ K hK
        have g2 := f2 (hd 2 (by decide))
        refine step_do rfl ?_
        clear hv
        go_simp
        exact hK.out _ _ ⟨e14, e15, e16, e11, hb, f0, f1, f2, fun _ => rfl, f4, f5, f6, f7, f8, f9, f10, f11, f12, f13, f14, f15, f16, f17, f18, f19, f20, f21, f22, f23, f24, f25, f26, f27, f28, f29, f30, f31, f32, f33, f34, f35, f36, f37⟩
      case s4 =>
        rintro L a v w hv hg hL hd hcl ⟨e14, e15, e16, e11, hb, f0, f1, f2, f3, f4, f5, f6, f7, f8, f9, f10, f11, f12, f13, f14, f15, f16, f17, f18, f19, f20, f21, f22, f23, f24, f25, f26, f27, f28, f29, f30, f31, f32, f33, f34, f35, f36, f37⟩ K hK
        have g3 := f3 (hd 3 (by decide))
        refine step_want (j := 3) (s := 113) (b := false) rfl rfl ((hv 113).trans (f3 (hd 3 (by decide)))) ?_
        clear hv
        go_simp
        exact hK.out _ _ ⟨e14, e15, e16, e11, hb, f0, f1, f2, f3, fun _ => rfl, f5, f6, f7, f8, f9, f10, f11, f12, f13, f14, f15, f16, f17, f18, f19, f20, f21, f22, f23, f24, f25, f26, f27, f28, f29, f30, f31, f32, f33, f34, f35, f36, f37⟩
      case s5 =>
        rintro L a v w hv hg hL hd hcl ⟨e14, e15, e16, e11, hb, f0, f1, f2, f3, f4, f5, f6, f7, f8, f9, f10, f11, f12, f13, f14, f15, f16, f17, f18, f19, f20, f21, f22, f23, f24, f25, f26, f27, f28, f29, f30, f31, f32, f33, f34, f35, f36, f37⟩ K hK
        refine step_want (j := 3) (s := 113) (b := false) rfl rfl ((hv 113).trans (f3 (hd 3 (by decide)))) ?_
        refine wp_ld rowBo (.tmp 14) rfl ((hv 14).trans e14) (k14.below hb k14.lt) sQ ?_
        exact hK.out _ _ ⟨e14, e15, e16, e11, hb, f0, f1, f2, f3, f4, fun _ => rfl, f6, f7, f8, f9, f10, f11, f12, f13, f14, f15, f16, f17, f18, f19, f20, f21, f22, f23, f24, f25, f26, f27, f28, f29, f30, f31, f32, f33, f34, f35, f36, f37⟩
      case s6 =>
        rintro L a v w hv hg hL hd hcl ⟨e14, e15, e16, e11, hb, f0, f1, f2, f3, f4, f5, f6, f7, f8, f9, f10, f11, f12, f13, f14, f15, f16, f17, f18, f19, f20, f21, f22, f23, f24, f25, f26, f27, f28, f29, f30, f31, f32, f33, f34, f35, f36, f37⟩ K hK
        refine step_want (j := 3) (s := 113) (b := false) rfl rfl ((hv 113).trans (f3 (hd 3 (by decide)))) ?_
        refine wp_ld rowBo (.tmp 15) rfl ((hv 15).trans e15) (k15.below hb k15.lt) (HQ9.out p hpl) ?_
        exact hK.out _ _ ⟨e14, e15, e16, e11, hb, f0, f1, f2, f3, f4, f5, fun _ => rfl, f7, f8, f9, f10, f11, f12, f13, f14, f15, f16, f17, f18, f19, f20, f21, f22, f23, f24, f25, f26, f27, f28, f29, f30, f31, f32, f33, f34, f35, f36, f37⟩
      case s7 =>
        rintro L a v w hv hg hL hd hcl ⟨e14, e15, e16, e11, hb, f0, f1, f2, f3, f4, f5, f6, f7, f8, f9, f10, f11, f12, f13, f14, f15, f16, f17, f18, f19, f20, f21, f22, f23, f24, f25, f26, f27, f28, f29, f30, f31, f32, f33, f34, f35, f36, f37⟩ K hK
        have h5 := f5 (hd 5 (by decide))
        have h6 := f6 (hd 6 (by decide))
        refine step_want (j := 3) (s := 113) (b := false) rfl rfl ((hv 113).trans (f3 (hd 3 (by decide)))) ?_
        clear hv
        go_simp
        refine (joinS sA sP rfl ((hE.below hb) k hlt).2.fresh ((hE.below hb) p hpl).2.fresh).mono ?_
        rintro e wy ⟨q, rfl, hq, bb⟩
        exact hK.out _ _ ⟨e14, e15, e16, e11, (hb.trans (bb.mono hb.size)), f0, f1, f2, f3, f4, f5, f6, fun _ => hq, f8, f9, (fun h => (f10 h).below bb), f11, f12, f13, f14, f15, f16, f17, (fun h => (f18 h).below bb), f19, (fun h => (f20 h).below bb), f21, f22, f23, (fun h => (f24 h).below bb), (fun h => (f25 h).below bb), f26, f27, f28, f29, f30, f31, f32, (fun h => (f33 h).below bb), f34, f35, f36, f37⟩
      case s8 =>
        rintro L a v w hv hg hL hd hcl ⟨e14, e15, e16, e11, hb, f0, f1, f2, f3, f4, f5, f6, f7, f8, f9, f10, f11, f12, f13, f14, f15, f16, f17, f18, f19, f20, f21, f22, f23, f24, f25, f26, f27, f28, f29, f30, f31, f32, f33, f34, f35, f36, f37⟩ K hK
        refine step_want (j := 3) (s := 113) (b := false) rfl rfl ((hv 113).trans (f3 (hd 3 (by decide)))) ?_
        refine wp_ld rowBo (.tmp 15) rfl ((hv 15).trans e15) (k15.below hb k15.lt) (HQ9.out p hpl) ?_
        exact hK.out _ _ ⟨e14, e15, e16, e11, hb, f0, f1, f2, f3, f4, f5, f6, f7, fun _ => rfl, f9, f10, f11, f12, f13, f14, f15, f16, f17, f18, f19, f20, f21, f22, f23, f24, f25, f26, f27, f28, f29, f30, f31, f32, f33, f34, f35, f36, f37⟩
      case s9 =>
        rintro L a v w hv hg hL hd hcl ⟨e14, e15, e16, e11, hb, f0, f1, f2, f3, f4, f5, f6, f7, f8, f9, f10, f11, f12, f13, f14, f15, f16, f17, f18, f19, f20, f21, f22, f23, f24, f25, f26, f27, f28, f29, f30, f31, f32, f33, f34, f35, f36, f37⟩ K hK
        refine step_want (j := 3) (s := 113) (b := false) rfl rfl ((hv 113).trans (f3 (hd 3 (by decide)))) ?_
        refine wp_ld rowBo (.tmp 14) rfl ((hv 14).trans e14) (k14.below hb k14.lt) sQ ?_
        exact hK.out _ _ ⟨e14, e15, e16, e11, hb, f0, f1, f2, f3, f4, f5, f6, f7, f8, fun _ => rfl, f10, f11, f12, f13, f14, f15, f16, f17, f18, f19, f20, f21, f22, f23, f24, f25, f26, f27, f28, f29, f30, f31, f32, f33, f34, f35, f36, f37⟩
      case s10 =>
        rintro L a v w hv hg hL hd hcl ⟨e14, e15, e16, e11, hb, f0, f1, f2, f3, f4, f5, f6, f7, f8, f9, f10, f11, f12, f13, f14, f15, f16, f17, f18, f19, f20, f21, f22, f23, f24, f25, f26, f27, f28, f29, f30, f31, f32, f33, f34, f35, f36, f37⟩ K hK
        have h8 := f8 (hd 8 (by decide))
        have h9 := f9 (hd 9 (by decide))
        refine step_want (j := 3) (s := 113) (b := false) rfl rfl ((hv 113).trans (f3 (hd 3 (by decide)))) ?_
        clear hv
        go_simp
        refine (joinS sP sA EC.out ((hE.below hb) p hpl).2.fresh ((hE.below hb) k hlt).2.fresh).mono ?_
        rintro e wy ⟨q, rfl, hq, bb⟩
        exact hK.out _ _ ⟨e14, e15, e16, e11, (hb.trans (bb.mono hb.size)), f0, f1, f2, f3, f4, f5, f6, (fun h => (f7 h).below bb), f8, f9, fun _ => hq, f11, f12, f13, f14, f15, f16, f17, (fun h => (f18 h).below bb), f19, (fun h => (f20 h).below bb), f21, f22, f23, (fun h => (f24 h).below bb), (fun h => (f25 h).below bb), f26, f27, f28, f29, f30, f31, f32, (fun h => (f33 h).below bb), f34, f35, f36, f37⟩
      case s11 =>
        rintro L a v w hv hg hL hd hcl ⟨e14, e15, e16, e11, hb, f0, f1, f2, f3, f4, f5, f6, f7, f8, f9, f10, f11, f12, f13, f14, f15, f16, f17, f18, f19, f20, f21, f22, f23, f24, f25, f26, f27, f28, f29, f30, f31, f32, f33, f34, f35, f36, f37⟩ K hK
        have h4 := f4 (hd 4 (by decide))
        have h7 := f7 (hd 7 (by decide))
        have h10 := f10 (hd 10 (by decide))
        refine step_want (j := 3) (s := 113) (b := false) rfl rfl ((hv 113).trans (f3 (hd 3 (by decide)))) ?_
        clear hv
        go_simp
        refine (same1B sAP rAP h7.fresh h10.fresh).mono ?_
        rintro e wy ⟨rfl, bb⟩
        exact hK.out _ _ ⟨e14, e15, e16, e11, (hb.trans (bb.mono hb.size)), f0, f1, f2, f3, f4, f5, f6, (fun h => (f7 h).below bb), f8, f9, (fun h => (f10 h).below bb), fun _ => rfl, f12, f13, f14, f15, f16, f17, (fun h => (f18 h).below bb), f19, (fun h => (f20 h).below bb), f21, f22, f23, (fun h => (f24 h).below bb), (fun h => (f25 h).below bb), f26, f27, f28, f29, f30, f31, f32, (fun h => (f33 h).below bb), f34, f35, f36, f37⟩
      case s12 =>
        rintro L a v w hv hg hL hd hcl ⟨e14, e15, e16, e11, hb, f0, f1, f2, f3, f4, f5, f6, f7, f8, f9, f10, f11, f12, f13, f14, f15, f16, f17, f18, f19, f20, f21, f22, f23, f24, f25, f26, f27, f28, f29, f30, f31, f32, f33, f34, f35, f36, f37⟩ K hK
        have g3 := f3 (hd 3 (by decide))
        refine step_want (j := 3) (s := 113) (b := false) rfl rfl ((hv 113).trans (f3 (hd 3 (by decide)))) ?_
        clear hv
        go_simp
        exact hK.out _ _ ⟨e14, e15, e16, e11, hb, f0, f1, f2, f3, f4, f5, f6, f7, f8, f9, f10, f11, fun _ => rfl, f13, f14, f15, f16, f17, f18, f19, f20, f21, f22, f23, f24, f25, f26, f27, f28, f29, f30, f31, f32, f33, f34, f35, f36, f37⟩
      case s13 =>
        rintro L a v w hv hg hL hd hcl ⟨e14, e15, e16, e11, hb, f0, f1, f2, f3, f4, f5, f6, f7, f8, f9, f10, f11, f12, f13, f14, f15, f16, f17, f18, f19, f20, f21, f22, f23, f24, f25, f26, f27, f28, f29, f30, f31, f32, f33, f34, f35, f36, f37⟩ K hK
        have g3 := f3 (hd 3 (by decide))
        have g12 := f12 (hd 12 (by decide))
        refine step_do rfl ?_
        clear hv
        go_simp
        exact hK.out _ _ ⟨e14, e15, e16, e11, hb, f0, f1, f2, f3, f4, f5, f6, f7, f8, f9, f10, f11, f12, fun _ => rfl, f14, f15, f16, f17, f18, f19, f20, f21, f22, f23, f24, f25, f26, f27, f28, f29, f30, f31, f32, f33, f34, f35, f36, f37⟩
      case s14 =>
        rintro L a v w hv hg hL hd hcl ⟨e14, e15, e16, e11, hb, f0, f1, f2, f3, f4, f5, f6, f7, f8, f9, f10, f11, f12, f13, f14, f15, f16, f17, f18, f19, f20, f21, f22, f23, f24, f25, f26, f27, f28, f29, f30, f31, f32, f33, f34, f35, f36, f37⟩ K hK
        have g13 := f13 (hd 13 (by decide))
        refine step_do rfl ?_
        clear hv
        go_simp
        exact hK.out _ _ ⟨e14, e15, e16, e11, hb, f0, f1, f2, f3, f4, f5, f6, f7, f8, f9, f10, f11, f12, f13, fun _ => rfl, f15, f16, f17, f18, f19, f20, f21, f22, f23, f24, f25, f26, f27, f28, f29, f30, f31, f32, f33, f34, f35, f36, f37⟩
      case s15 =>
        rintro L a v w hv hg hL hd hcl ⟨e14, e15, e16, e11, hb, f0, f1, f2, f3, f4, f5, f6, f7, f8, f9, f10, f11, f12, f13, f14, f15, f16, f17, f18, f19, f20, f21, f22, f23, f24, f25, f26, f27, f28, f29, f30, f31, f32, f33, f34, f35, f36, f37⟩ K hK
        have g14 := f14 (hd 14 (by decide))
        refine step_want (j := 14) (s := 124) (b := false) rfl rfl ((hv 124).trans (f14 (hd 14 (by decide)))) ?_
        clear hv
        go_simp
        exact hK.out _ _ ⟨e14, e15, e16, e11, hb, f0, f1, f2, f3, f4, f5, f6, f7, f8, f9, f10, f11, f12, f13, f14, fun _ => rfl, f16, f17, f18, f19, f20, f21, f22, f23, f24, f25, f26, f27, f28, f29, f30, f31, f32, f33, f34, f35, f36, f37⟩
      case s16 =>
        rintro L a v w hv hg hL hd hcl ⟨e14, e15, e16, e11, hb, f0, f1, f2, f3, f4, f5, f6, f7, f8, f9, f10, f11, f12, f13, f14, f15, f16, f17, f18, f19, f20, f21, f22, f23, f24, f25, f26, f27, f28, f29, f30, f31, f32, f33, f34, f35, f36, f37⟩ K hK
        refine step_want (j := 14) (s := 124) (b := false) rfl rfl ((hv 124).trans (f14 (hd 14 (by decide)))) ?_
        refine wp_ld rowBo (.tmp 14) rfl ((hv 14).trans e14) (k14.below hb k14.lt) sQ ?_
        exact hK.out _ _ ⟨e14, e15, e16, e11, hb, f0, f1, f2, f3, f4, f5, f6, f7, f8, f9, f10, f11, f12, f13, f14, f15, fun _ => rfl, f17, f18, f19, f20, f21, f22, f23, f24, f25, f26, f27, f28, f29, f30, f31, f32, f33, f34, f35, f36, f37⟩
      case s17 =>
        rintro L a v w hv hg hL hd hcl ⟨e14, e15, e16, e11, hb, f0, f1, f2, f3, f4, f5, f6, f7, f8, f9, f10, f11, f12, f13, f14, f15, f16, f17, f18, f19, f20, f21, f22, f23, f24, f25, f26, f27, f28, f29, f30, f31, f32, f33, f34, f35, f36, f37⟩ K hK
        refine step_want (j := 14) (s := 124) (b := false) rfl rfl ((hv 124).trans (f14 (hd 14 (by decide)))) ?_
        refine wp_ld rowBo (.tmp 15) rfl ((hv 15).trans e15) (k15.below hb k15.lt) (HQ9.out p hpl) ?_
        exact hK.out _ _ ⟨e14, e15, e16, e11, hb, f0, f1, f2, f3, f4, f5, f6, f7, f8, f9, f10, f11, f12, f13, f14, f15, f16, fun _ => rfl, f18, f19, f20, f21, f22, f23, f24, f25, f26, f27, f28, f29, f30, f31, f32, f33, f34, f35, f36, f37⟩
      case s18 =>
        rintro L a v w hv hg hL hd hcl ⟨e14, e15, e16, e11, hb, f0, f1, f2, f3, f4, f5, f6, f7, f8, f9, f10, f11, f12, f13, f14, f15, f16, f17, f18, f19, f20, f21, f22, f23, f24, f25, f26, f27, f28, f29, f30, f31, f32, f33, f34, f35, f36, f37⟩ K hK
        have h16 := f16 (hd 16 (by decide))
        have h17 := f17 (hd 17 (by decide))
        refine step_want (j := 14) (s := 124) (b := false) rfl rfl ((hv 124).trans (f14 (hd 14 (by decide)))) ?_
        clear hv
        go_simp
        refine (joinS sA sP rfl ((hE.below hb) k hlt).2.fresh ((hE.below hb) p hpl).2.fresh).mono ?_
        rintro e wy ⟨q, rfl, hq, bb⟩
        exact hK.out _ _ ⟨e14, e15, e16, e11, (hb.trans (bb.mono hb.size)), f0, f1, f2, f3, f4, f5, f6, (fun h => (f7 h).below bb), f8, f9, (fun h => (f10 h).below bb), f11, f12, f13, f14, f15, f16, f17, fun _ => hq, f19, (fun h => (f20 h).below bb), f21, f22, f23, (fun h => (f24 h).below bb), (fun h => (f25 h).below bb), f26, f27, f28, f29, f30, f31, f32, (fun h => (f33 h).below bb), f34, f35, f36, f37⟩
      case s19 =>
        rintro L a v w hv hg hL hd hcl ⟨e14, e15, e16, e11, hb, f0, f1, f2, f3, f4, f5, f6, f7, f8, f9, f10, f11, f12, f13, f14, f15, f16, f17, f18, f19, f20, f21, f22, f23, f24, f25, f26, f27, f28, f29, f30, f31, f32, f33, f34, f35, f36, f37⟩ K hK
        refine step_want (j := 14) (s := 124) (b := false) rfl rfl ((hv 124).trans (f14 (hd 14 (by decide)))) ?_
        refine wp_ld rowBo (.tmp 16) rfl ((hv 16).trans e16) (k16.below hb k16.lt) (HQ9.out q hql) ?_
        exact hK.out _ _ ⟨e14, e15, e16, e11, hb, f0, f1, f2, f3, f4, f5, f6, f7, f8, f9, f10, f11, f12, f13, f14, f15, f16, f17, f18, fun _ => rfl, f20, f21, f22, f23, f24, f25, f26, f27, f28, f29, f30, f31, f32, f33, f34, f35, f36, f37⟩
      case s20 =>
        rintro L a v w hv hg hL hd hcl ⟨e14, e15, e16, e11, hb, f0, f1, f2, f3, f4, f5, f6, f7, f8, f9, f10, f11, f12, f13, f14, f15, f16, f17, f18, f19, f20, f21, f22, f23, f24, f25, f26, f27, f28, f29, f30, f31, f32, f33, f34, f35, f36, f37⟩ K hK
        have h18 := f18 (hd 18 (by decide))
        have h19 := f19 (hd 19 (by decide))
        refine step_want (j := 14) (s := 124) (b := false) rfl rfl ((hv 124).trans (f14 (hd 14 (by decide)))) ?_
        clear hv
        go_simp
        refine (joinS sAP sQq rfl h18.fresh ((hE.below hb) q hql).2.fresh).mono ?_
        rintro e wy ⟨q, rfl, hq, bb⟩
        exact hK.out _ _ ⟨e14, e15, e16, e11, (hb.trans (bb.mono hb.size)), f0, f1, f2, f3, f4, f5, f6, (fun h => (f7 h).below bb), f8, f9, (fun h => (f10 h).below bb), f11, f12, f13, f14, f15, f16, f17, (fun h => (f18 h).below bb), f19, fun _ => hq, f21, f22, f23, (fun h => (f24 h).below bb), (fun h => (f25 h).below bb), f26, f27, f28, f29, f30, f31, f32, (fun h => (f33 h).below bb), f34, f35, f36, f37⟩
      case s21 =>
        rintro L a v w hv hg hL hd hcl ⟨e14, e15, e16, e11, hb, f0, f1, f2, f3, f4, f5, f6, f7, f8, f9, f10, f11, f12, f13, f14, f15, f16, f17, f18, f19, f20, f21, f22, f23, f24, f25, f26, f27, f28, f29, f30, f31, f32, f33, f34, f35, f36, f37⟩ K hK
        refine step_want (j := 14) (s := 124) (b := false) rfl rfl ((hv 124).trans (f14 (hd 14 (by decide)))) ?_
        refine wp_ld rowBo (.tmp 14) rfl ((hv 14).trans e14) (k14.below hb k14.lt) sQ ?_
        exact hK.out _ _ ⟨e14, e15, e16, e11, hb, f0, f1, f2, f3, f4, f5, f6, f7, f8, f9, f10, f11, f12, f13, f14, f15, f16, f17, f18, f19, f20, fun _ => rfl, f22, f23, f24, f25, f26, f27, f28, f29, f30, f31, f32, f33, f34, f35, f36, f37⟩
      case s22 =>
        rintro L a v w hv hg hL hd hcl ⟨e14, e15, e16, e11, hb, f0, f1, f2, f3, f4, f5, f6, f7, f8, f9, f10, f11, f12, f13, f14, f15, f16, f17, f18, f19, f20, f21, f22, f23, f24, f25, f26, f27, f28, f29, f30, f31, f32, f33, f34, f35, f36, f37⟩ K hK
        refine step_want (j := 14) (s := 124) (b := false) rfl rfl ((hv 124).trans (f14 (hd 14 (by decide)))) ?_
        refine wp_ld rowBo (.tmp 15) rfl ((hv 15).trans e15) (k15.below hb k15.lt) (HQ9.out p hpl) ?_
        exact hK.out _ _ ⟨e14, e15, e16, e11, hb, f0, f1, f2, f3, f4, f5, f6, f7, f8, f9, f10, f11, f12, f13, f14, f15, f16, f17, f18, f19, f20, f21, fun _ => rfl, f23, f24, f25, f26, f27, f28, f29, f30, f31, f32, f33, f34, f35, f36, f37⟩
      case s23 =>
        rintro L a v w hv hg hL hd hcl ⟨e14, e15, e16, e11, hb, f0, f1, f2, f3, f4, f5, f6, f7, f8, f9, f10, f11, f12, f13, f14, f15, f16, f17, f18, f19, f20, f21, f22, f23, f24, f25, f26, f27, f28, f29, f30, f31, f32, f33, f34, f35, f36, f37⟩ K hK
        refine step_want (j := 14) (s := 124) (b := false) rfl rfl ((hv 124).trans (f14 (hd 14 (by decide)))) ?_
        refine wp_ld rowBo (.tmp 16) rfl ((hv 16).trans e16) (k16.below hb k16.lt) (HQ9.out q hql) ?_
        exact hK.out _ _ ⟨e14, e15, e16, e11, hb, f0, f1, f2, f3, f4, f5, f6, f7, f8, f9, f10, f11, f12, f13, f14, f15, f16, f17, f18, f19, f20, f21, f22, fun _ => rfl, f24, f25, f26, f27, f28, f29, f30, f31, f32, f33, f34, f35, f36, f37⟩
      case s24 =>
        rintro L a v w hv hg hL hd hcl ⟨e14, e15, e16, e11, hb, f0, f1, f2, f3, f4, f5, f6, f7, f8, f9, f10, f11, f12, f13, f14, f15, f16, f17, f18, f19, f20, f21, f22, f23, f24, f25, f26, f27, f28, f29, f30, f31, f32, f33, f34, f35, f36, f37⟩ K hK
        have h22 := f22 (hd 22 (by decide))
        have h23 := f23 (hd 23 (by decide))
        refine step_want (j := 14) (s := 124) (b := false) rfl rfl ((hv 124).trans (f14 (hd 14 (by decide)))) ?_
        clear hv
        go_simp
        refine (joinS sP sQq rfl ((hE.below hb) p hpl).2.fresh ((hE.below hb) q hql).2.fresh).mono ?_
        rintro e wy ⟨q, rfl, hq, bb⟩
        exact hK.out _ _ ⟨e14, e15, e16, e11, (hb.trans (bb.mono hb.size)), f0, f1, f2, f3, f4, f5, f6, (fun h => (f7 h).below bb), f8, f9, (fun h => (f10 h).below bb), f11, f12, f13, f14, f15, f16, f17, (fun h => (f18 h).below bb), f19, (fun h => (f20 h).below bb), f21, f22, f23, fun _ => hq, (fun h => (f25 h).below bb), f26, f27, f28, f29, f30, f31, f32, (fun h => (f33 h).below bb), f34, f35, f36, f37⟩
      case s25 =>
        rintro L a v w hv hg hL hd hcl ⟨e14, e15, e16, e11, hb, f0, f1, f2, f3, f4, f5, f6, f7, f8, f9, f10, f11, f12, f13, f14, f15, f16, f17, f18, f19, f20, f21, f22, f23, f24, f25, f26, f27, f28, f29, f30, f31, f32, f33, f34, f35, f36, f37⟩ K hK
        have h21 := f21 (hd 21 (by decide))
        have h24 := f24 (hd 24 (by decide))
        refine step_want (j := 14) (s := 124) (b := false) rfl rfl ((hv 124).trans (f14 (hd 14 (by decide)))) ?_
        clear hv
        go_simp
        refine (joinS sA sPQ EA.out ((hE.below hb) k hlt).2.fresh h24.fresh).mono ?_
        rintro e wy ⟨q, rfl, hq, bb⟩
        exact hK.out _ _ ⟨e14, e15, e16, e11, (hb.trans (bb.mono hb.size)), f0, f1, f2, f3, f4, f5, f6, (fun h => (f7 h).below bb), f8, f9, (fun h => (f10 h).below bb), f11, f12, f13, f14, f15, f16, f17, (fun h => (f18 h).below bb), f19, (fun h => (f20 h).below bb), f21, f22, f23, (fun h => (f24 h).below bb), fun _ => hq, f26, f27, f28, f29, f30, f31, f32, (fun h => (f33 h).below bb), f34, f35, f36, f37⟩
      case s26 =>
        rintro L a v w hv hg hL hd hcl ⟨e14, e15, e16, e11, hb, f0, f1, f2, f3, f4, f5, f6, f7, f8, f9, f10, f11, f12, f13, f14, f15, f16, f17, f18, f19, f20, f21, f22, f23, f24, f25, f26, f27, f28, f29, f30, f31, f32, f33, f34, f35, f36, f37⟩ K hK
        have h15 := f15 (hd 15 (by decide))
        have h20 := f20 (hd 20 (by decide))
        have h25 := f25 (hd 25 (by decide))
        refine step_want (j := 14) (s := 124) (b := false) rfl rfl ((hv 124).trans (f14 (hd 14 (by decide)))) ?_
        clear hv
        go_simp
        refine (same1B sAPQ rAPQ h20.fresh h25.fresh).mono ?_
        rintro e wy ⟨rfl, bb⟩
        exact hK.out _ _ ⟨e14, e15, e16, e11, (hb.trans (bb.mono hb.size)), f0, f1, f2, f3, f4, f5, f6, (fun h => (f7 h).below bb), f8, f9, (fun h => (f10 h).below bb), f11, f12, f13, f14, f15, f16, f17, (fun h => (f18 h).below bb), f19, (fun h => (f20 h).below bb), f21, f22, f23, (fun h => (f24 h).below bb), (fun h => (f25 h).below bb), fun _ => rfl, f27, f28, f29, f30, f31, f32, (fun h => (f33 h).below bb), f34, f35, f36, f37⟩
      case s27 =>
        rintro L a v w hv hg hL hd hcl ⟨e14, e15, e16, e11, hb, f0, f1, f2, f3, f4, f5, f6, f7, f8, f9, f10, f11, f12, f13, f14, f15, f16, f17, f18, f19, f20, f21, f22, f23, f24, f25, f26, f27, f28, f29, f30, f31, f32, f33, f34, f35, f36, f37⟩ K hK
        have g14 := f14 (hd 14 (by decide))
        refine step_want (j := 14) (s := 124) (b := false) rfl rfl ((hv 124).trans (f14 (hd 14 (by decide)))) ?_
        clear hv
        go_simp
        exact hK.out _ _ ⟨e14, e15, e16, e11, hb, f0, f1, f2, f3, f4, f5, f6, f7, f8, f9, f10, f11, f12, f13, f14, f15, f16, f17, f18, f19, f20, f21, f22, f23, f24, f25, f26, fun _ => rfl, f28, f29, f30, f31, f32, f33, f34, f35, f36, f37⟩
      case s28 =>
        rintro L a v w hv hg hL hd hcl ⟨e14, e15, e16, e11, hb, f0, f1, f2, f3, f4, f5, f6, f7, f8, f9, f10, f11, f12, f13, f14, f15, f16, f17, f18, f19, f20, f21, f22, f23, f24, f25, f26, f27, f28, f29, f30, f31, f32, f33, f34, f35, f36, f37⟩ K hK
        have g14 := f14 (hd 14 (by decide))
        have g27 := f27 (hd 27 (by decide))
        refine step_do rfl ?_
        clear hv
        go_simp
        exact hK.out _ _ ⟨e14, e15, e16, e11, hb, f0, f1, f2, f3, f4, f5, f6, f7, f8, f9, f10, f11, f12, f13, f14, f15, f16, f17, f18, f19, f20, f21, f22, f23, f24, f25, f26, f27, fun _ => rfl, f29, f30, f31, f32, f33, f34, f35, f36, f37⟩
      case s29 =>
        rintro L a v w hv hg hL hd hcl ⟨e14, e15, e16, e11, hb, f0, f1, f2, f3, f4, f5, f6, f7, f8, f9, f10, f11, f12, f13, f14, f15, f16, f17, f18, f19, f20, f21, f22, f23, f24, f25, f26, f27, f28, f29, f30, f31, f32, f33, f34, f35, f36, f37⟩ K hK
        have g28 := f28 (hd 28 (by decide))
        refine step_do rfl ?_
        clear hv
        go_simp
        exact hK.out _ _ ⟨e14, e15, e16, e11, hb, f0, f1, f2, f3, f4, f5, f6, f7, f8, f9, f10, f11, f12, f13, f14, f15, f16, f17, f18, f19, f20, f21, f22, f23, f24, f25, f26, f27, f28, fun _ => rfl, f30, f31, f32, f33, f34, f35, f36, f37⟩
      case s30 =>
        rintro L a v w hv hg hL hd hcl ⟨e14, e15, e16, e11, hb, f0, f1, f2, f3, f4, f5, f6, f7, f8, f9, f10, f11, f12, f13, f14, f15, f16, f17, f18, f19, f20, f21, f22, f23, f24, f25, f26, f27, f28, f29, f30, f31, f32, f33, f34, f35, f36, f37⟩ K hK
        have g29 := f29 (hd 29 (by decide))
        refine step_want (j := 29) (s := 139) (b := false) rfl rfl ((hv 139).trans (f29 (hd 29 (by decide)))) ?_
        clear hv
        go_simp
        exact hK.out _ _ ⟨e14, e15, e16, e11, hb, f0, f1, f2, f3, f4, f5, f6, f7, f8, f9, f10, f11, f12, f13, f14, f15, f16, f17, f18, f19, f20, f21, f22, f23, f24, f25, f26, f27, f28, f29, fun _ => rfl, f31, f32, f33, f34, f35, f36, f37⟩
      case s31 =>
        rintro L a v w hv hg hL hd hcl ⟨e14, e15, e16, e11, hb, f0, f1, f2, f3, f4, f5, f6, f7, f8, f9, f10, f11, f12, f13, f14, f15, f16, f17, f18, f19, f20, f21, f22, f23, f24, f25, f26, f27, f28, f29, f30, f31, f32, f33, f34, f35, f36, f37⟩ K hK
        refine step_want (j := 29) (s := 139) (b := false) rfl rfl ((hv 139).trans (f29 (hd 29 (by decide)))) ?_
        refine wp_ld rowBo (.tmp 14) rfl ((hv 14).trans e14) (k14.below hb k14.lt) sQ ?_
        exact hK.out _ _ ⟨e14, e15, e16, e11, hb, f0, f1, f2, f3, f4, f5, f6, f7, f8, f9, f10, f11, f12, f13, f14, f15, f16, f17, f18, f19, f20, f21, f22, f23, f24, f25, f26, f27, f28, f29, f30, fun _ => rfl, f32, f33, f34, f35, f36, f37⟩
      case s32 =>
        rintro L a v w hv hg hL hd hcl ⟨e14, e15, e16, e11, hb, f0, f1, f2, f3, f4, f5, f6, f7, f8, f9, f10, f11, f12, f13, f14, f15, f16, f17, f18, f19, f20, f21, f22, f23, f24, f25, f26, f27, f28, f29, f30, f31, f32, f33, f34, f35, f36, f37⟩ K hK
        refine step_want (j := 29) (s := 139) (b := false) rfl rfl ((hv 139).trans (f29 (hd 29 (by decide)))) ?_
        refine wp_ld rowBo (.tmp 14) rfl ((hv 14).trans e14) (k14.below hb k14.lt) sQ ?_
        exact hK.out _ _ ⟨e14, e15, e16, e11, hb, f0, f1, f2, f3, f4, f5, f6, f7, f8, f9, f10, f11, f12, f13, f14, f15, f16, f17, f18, f19, f20, f21, f22, f23, f24, f25, f26, f27, f28, f29, f30, f31, fun _ => rfl, f33, f34, f35, f36, f37⟩
      case s33 =>
        rintro L a v w hv hg hL hd hcl ⟨e14, e15, e16, e11, hb, f0, f1, f2, f3, f4, f5, f6, f7, f8, f9, f10, f11, f12, f13, f14, f15, f16, f17, f18, f19, f20, f21, f22, f23, f24, f25, f26, f27, f28, f29, f30, f31, f32, f33, f34, f35, f36, f37⟩ K hK
        have h31 := f31 (hd 31 (by decide))
        have h32 := f32 (hd 32 (by decide))
        refine step_want (j := 29) (s := 139) (b := false) rfl rfl ((hv 139).trans (f29 (hd 29 (by decide)))) ?_
        clear hv
        go_simp
        refine (joinS sA sA ES.out ((hE.below hb) k hlt).2.fresh ((hE.below hb) k hlt).2.fresh).mono ?_
        rintro e wy ⟨q, rfl, hq, bb⟩
        exact hK.out _ _ ⟨e14, e15, e16, e11, (hb.trans (bb.mono hb.size)), f0, f1, f2, f3, f4, f5, f6, (fun h => (f7 h).below bb), f8, f9, (fun h => (f10 h).below bb), f11, f12, f13, f14, f15, f16, f17, (fun h => (f18 h).below bb), f19, (fun h => (f20 h).below bb), f21, f22, f23, (fun h => (f24 h).below bb), (fun h => (f25 h).below bb), f26, f27, f28, f29, f30, f31, f32, fun _ => hq, f34, f35, f36, f37⟩
      case s34 =>
        rintro L a v w hv hg hL hd hcl ⟨e14, e15, e16, e11, hb, f0, f1, f2, f3, f4, f5, f6, f7, f8, f9, f10, f11, f12, f13, f14, f15, f16, f17, f18, f19, f20, f21, f22, f23, f24, f25, f26, f27, f28, f29, f30, f31, f32, f33, f34, f35, f36, f37⟩ K hK
        refine step_want (j := 29) (s := 139) (b := false) rfl rfl ((hv 139).trans (f29 (hd 29 (by decide)))) ?_
        refine wp_ld rowBo (.tmp 14) rfl ((hv 14).trans e14) (k14.below hb k14.lt) sQ ?_
        exact hK.out _ _ ⟨e14, e15, e16, e11, hb, f0, f1, f2, f3, f4, f5, f6, f7, f8, f9, f10, f11, f12, f13, f14, f15, f16, f17, f18, f19, f20, f21, f22, f23, f24, f25, f26, f27, f28, f29, f30, f31, f32, f33, fun _ => rfl, f35, f36, f37⟩
      case s35 =>
        rintro L a v w hv hg hL hd hcl ⟨e14, e15, e16, e11, hb, f0, f1, f2, f3, f4, f5, f6, f7, f8, f9, f10, f11, f12, f13, f14, f15, f16, f17, f18, f19, f20, f21, f22, f23, f24, f25, f26, f27, f28, f29, f30, f31, f32, f33, f34, f35, f36, f37⟩ K hK
        have h30 := f30 (hd 30 (by decide))
        have h33 := f33 (hd 33 (by decide))
        have h34 := f34 (hd 34 (by decide))
        refine step_want (j := 29) (s := 139) (b := false) rfl rfl ((hv 139).trans (f29 (hd 29 (by decide)))) ?_
        clear hv
        go_simp
        refine (same1B sA rA h33.fresh ((hE.below hb) k hlt).2.fresh).mono ?_
        rintro e wy ⟨rfl, bb⟩
        exact hK.out _ _ ⟨e14, e15, e16, e11, (hb.trans (bb.mono hb.size)), f0, f1, f2, f3, f4, f5, f6, (fun h => (f7 h).below bb), f8, f9, (fun h => (f10 h).below bb), f11, f12, f13, f14, f15, f16, f17, (fun h => (f18 h).below bb), f19, (fun h => (f20 h).below bb), f21, f22, f23, (fun h => (f24 h).below bb), (fun h => (f25 h).below bb), f26, f27, f28, f29, f30, f31, f32, (fun h => (f33 h).below bb), f34, fun _ => rfl, f36, f37⟩
      case s36 =>
        rintro L a v w hv hg hL hd hcl ⟨e14, e15, e16, e11, hb, f0, f1, f2, f3, f4, f5, f6, f7, f8, f9, f10, f11, f12, f13, f14, f15, f16, f17, f18, f19, f20, f21, f22, f23, f24, f25, f26, f27, f28, f29, f30, f31, f32, f33, f34, f35, f36, f37⟩ K hK
        have g29 := f29 (hd 29 (by decide))
        refine step_want (j := 29) (s := 139) (b := false) rfl rfl ((hv 139).trans (f29 (hd 29 (by decide)))) ?_
        clear hv
        go_simp
        exact hK.out _ _ ⟨e14, e15, e16, e11, hb, f0, f1, f2, f3, f4, f5, f6, f7, f8, f9, f10, f11, f12, f13, f14, f15, f16, f17, f18, f19, f20, f21, f22, f23, f24, f25, f26, f27, f28, f29, f30, f31, f32, f33, f34, f35, fun _ => rfl, f37⟩
      case s37 =>
        rintro L a v w hv hg hL hd hcl ⟨e14, e15, e16, e11, hb, f0, f1, f2, f3, f4, f5, f6, f7, f8, f9, f10, f11, f12, f13, f14, f15, f16, f17, f18, f19, f20, f21, f22, f23, f24, f25, f26, f27, f28, f29, f30, f31, f32, f33, f34, f35, f36, f37⟩ K hK
        have g29 := f29 (hd 29 (by decide))
        have g36 := f36 (hd 36 (by decide))
        refine step_do rfl ?_
        clear hv
        go_simp
        exact hK.out _ _ ⟨e14, e15, e16, e11, hb, f0, f1, f2, f3, f4, f5, f6, f7, f8, f9, f10, f11, f12, f13, f14, f15, f16, f17, f18, f19, f20, f21, f22, f23, f24, f25, f26, f27, f28, f29, f30, f31, f32, f33, f34, f35, f36, fun _ => rfl⟩
    case hend =>
    rintro L v wc hall ⟨e14, e15, e16, e11, hb, f0, f1, f2, f3, f4, f5, f6, f7, f8, f9, f10, f11, f12, f13, f14, f15, f16, f17, f18, f19, f20, f21, f22, f23, f24, f25, f26, f27, f28, f29, f30, f31, f32, f33, f34, f35, f36, f37⟩
    have hL : ∀ i, i < 38 → L i = true := hall
    have f0 := f0 (hL 0 (by decide))
    have f1 := f1 (hL 1 (by decide))
    have f2 := f2 (hL 2 (by decide))
    have f3 := f3 (hL 3 (by decide))
    have f4 := f4 (hL 4 (by decide))
    have f5 := f5 (hL 5 (by decide))
    have f6 := f6 (hL 6 (by decide))
    have f7 := f7 (hL 7 (by decide))
    have f8 := f8 (hL 8 (by decide))
    have f9 := f9 (hL 9 (by decide))
    have f10 := f10 (hL 10 (by decide))
    have f11 := f11 (hL 11 (by decide))
    have f12 := f12 (hL 12 (by decide))
    have f13 := f13 (hL 13 (by decide))
    have f14 := f14 (hL 14 (by decide))
    have f15 := f15 (hL 15 (by decide))
    have f16 := f16 (hL 16 (by decide))
    have f17 := f17 (hL 17 (by decide))
    have f18 := f18 (hL 18 (by decide))
    have f19 := f19 (hL 19 (by decide))
    have f20 := f20 (hL 20 (by decide))
    have f21 := f21 (hL 21 (by decide))
    have f22 := f22 (hL 22 (by decide))
    have f23 := f23 (hL 23 (by decide))
    have f24 := f24 (hL 24 (by decide))
    have f25 := f25 (hL 25 (by decide))
    have f26 := f26 (hL 26 (by decide))
    have f27 := f27 (hL 27 (by decide))
    have f28 := f28 (hL 28 (by decide))
    have f29 := f29 (hL 29 (by decide))
    have f30 := f30 (hL 30 (by decide))
    have f31 := f31 (hL 31 (by decide))
    have f32 := f32 (hL 32 (by decide))
    have f33 := f33 (hL 33 (by decide))
    have f34 := f34 (hL 34 (by decide))
    have f35 := f35 (hL 35 (by decide))
    have f36 := f36 (hL 36 (by decide))
    have f37 := f37 (hL 37 (by decide))
    simp only [finA, List.foldl_cons, List.foldl_nil, Act.put, List.setIfInBounds_toArray, List.set_cons_succ, List.set_cons_zero, f0, f2, f3, f4, f5, f6, f8, f9, f12, f13, f14, f15, f16, f17, f19, f21, f22, f23, f27, f28, f29, f30, f31, f32, f34, f36, f37, f1, f11, f26, f35]
    have bb := hb
    clear e14 e15 e16 e11 f0 f1 f2 f3 f4 f5 f6 f7 f8 f9 f10 f11 f12 f13 f14 f15 f16 f17 f18 f19 f20 f21 f22 f23 f24 f25 f26 f27 f28 f29 f30 f31 f32 f33 f34 f35 f36 f37 hL hall hb
    have kB := kB.below bb kB.lt
    have k12 := k12.below bb k12.lt
    have k14 := k14.below bb k14.lt
    have hE := hE.below bb
    have h12 := h12.below bb
    have gb := gb.trans (bb.mono gb.size)
    clear bb
    obtain ⟨fs, fr, _⟩ := Bo.fold_ok HBR.out.s HBR.out.r k (by omega)
    have FS := Lib.hid fs
    have s12 := h12.fresh.size fs
    clear fs fr
    go_wp2_with first
      | ((with_reducible refine wpList_ld rowBo k12 s12 ?_ ?_); rotate_left; (rfl))
      | ((with_reducible refine wpList_ld rowBo k14 sQ ?_ ?_); rotate_left; (rfl))
    refine (joinS (h := Bo.foldB F (k + 1)) FS.out sA rfl h12.fresh (hE k hlt).2.fresh).mono ?_
    rintro e wd ⟨q1, rfl, hN, bb⟩
    obtain ⟨cN, rfl⟩ := hN.fresh.agg
    have sN := hN.fresh.size (Bo.join_shaped FS.out sA)
    have oN := hN.fresh.one
    have kB := kB.below bb kB.lt
    have k12 := k12.below bb k12.lt
    have k14 := k14.below bb k14.lt
    have hE := hE.below bb
    have h12 := h12.below bb
    have gb := gb.trans (bb.mono gb.size)
    clear bb
    go_upto_region 30 with first
      | ((with_reducible refine wpList_st rowBo k12 sN s12 oN ?_ ?_ ?_); rotate_left; (rfl); (rfl); intro gew k12n ge gez)
    have hE := hE.grown ge k12 (by decide)
    have kBne : gB ≠ g12 := fun e => by
      have h1 := kB
      have h2 := k12
      rw [e] at h1
      unfold Blk at h1 h2
      rw [h1] at h2
      injection h2 with h2
      injection h2 with _ h2
      exact absurd h2 (by decide)
    have kB := kB.grown ge (by intro h; injection h with h; exact kBne h.symm)
    have hN := hN.grown ge k12 (by decide)
    have gb := gb.grown ge gb.size (fun q hq => by injection hq; omega)
    have HH := Lib.hid (And.intro k12n (And.intro hN (And.intro hE (And.intro kB gb))))
    clear k12n hN hE kB gb h12 k12 k14 k15 k16 ge
    go_wp2_with fail
    go_roundw
    case rel => exact ⟨k + 1, cN, by omega, by go_num, HH.out.1, HH.out.2.1, HH.out.2.2.1, HH.out.2.2.2.1, HH.out.2.2.2.2, hgw12⟩
    case measure => simp [intOf]; omega
  obtain rfl : k = 8 := by omega
  clear hlt hk
  obtain ⟨fs, fr, _⟩ := Bo.fold_ok HBR.out.s HBR.out.r 8 (by omega)
  have hval := HBR.out.value
  generalize Bo.foldB F 8 = fb at fs hval h12
  obtain ⟨A, m, c, e12, _, _⟩ := h12
  injection e12 with e12
  subst e12
  have htal := k12.tal fs
  have T16 := Lib.hid (show (tc fb.t).size = 16 by rw [tc_size, fs.t])
  have hvc := fun w => value_any fb.t w fs.t
  rw [hval] at hvc
  have HVC := Lib.hid hvc
  clear hval hvc fs fr hE kB
  go_wp2_with first
    | ((with_reducible refine wpList_ldr rowT htal T16.out ?_ ?_); rotate_left; (rfl))
  refine (HVC.out _).mono ?_
  rintro e wz ⟨rfl, bb⟩
  have gb := gb.trans (bb.mono gb.size)
  go_wp2_with fail
  go_ret
  exact ⟨by simp, gb⟩
set_option maxRecDepth 100000 in
theorem lifted (os : Os) (started : os.Started) (H : Type) (enc : TypeId × Value → H) :
    ReturnsInHanded {} Tryz.checked os 5 .any (Rows.boardMeetsSpec.pre6 enc Tryz.prog Tryz.f5 Rows.boardMeetsRow.domain false) (Rows.boardMeetsSpec.post enc Tryz.prog Tryz.f5 false true false false) := by
  refine returnsInHanded_of_change (C := Tryz.checked) own started (by kernel_rfl) Tryz.func5
    (ChangeSpec.witness6 (enc := enc) (C := Tryz.checked) false ⟨#[], #[.slice none 0 0], []⟩ 8 (by kernel_rfl) (by kernel_rfl) (by kernel_rfl) (by kernel_rfl)) ?_
  intro W base args ds gs before hval0 hW hcnd _
  have hval : ∀ (j : Nat) t v, Tryz.f5.params[j]? = some t → args[j]? = some v → Value.okWide Tryz.prog W .any base t v := hval0
  have hW' := hW
  obtain ⟨p, q, hA0, hV, rfl, hfz, hnd⟩ := hW
  have hA : DataW.TrodAll enc Tryz.prog W 0 (fun _ => true) true Tryz.f5.params.toList args.toList ds p := hA0
  rw [Tryz.params5] at hA hval
  obtain ⟨v0, vs0, d0, ds0, p0, q0, hargs, rfl, rfl, h0, r0⟩ := trodAll_cons hA
  obtain ⟨rfl, rfl, rfl⟩ := trodAll_nil r0
  obtain rfl : args = #[v0] := by cases args; simp_all
  obtain ⟨rfl, rfl⟩ := trodVars_none hV
  have lt0 : ∀ x ∈ p0, x.block < W.heap.size := by obtain ⟨m, hm⟩ := h0; exact DataW.trod_lt m _ _ _ hm
  have k0 := h0
  obtain ⟨a0, n0, c0, l0, rfl, x0, y0, z0⟩ := open_trbs (hval 0 55 v0 rfl rfl) h0
  clear hA0 hval0
  refine (walk a0 n0 c0 l0 W x0 y0 z0).mono fun e W' ⟨he, bel⟩ => ?_
  subst he
  exact ⟨_, rfl, _, _, _, [], _, [], hW', trodAll_mk1 (shut_bool Tryz.underlying4 _), (trodAll_cons_mk (Below.trod laidOut (by kernel_rfl) (of_decide_eq_true (by kernel_rfl)) k0 bel lt0) trodAll_mk0), rfl, bel.frame _, fun h => by cases h⟩

theorem proved : Rows.BoardMeetsSaid :=
  OpenClaim.holds_of_wide 5 Tryz.f5 rfl rfl rfl rfl rfl rfl rfl ⟨rfl, rfl, rfl, rfl, rfl⟩ rfl rfl rfl rfl rfl (by kernel_rfl) Tryz.func5 (by kernel_rfl)
    (of_decide_eq_true (by kernel_rfl)) (by unfold Func.isWrapper; first | (rw [if_pos (by decide +kernel)]; kernel_rfl) | (rw [if_neg (by decide +kernel)]; exact ⟨rfl, rfl⟩))
    (fun os started H enc _ => lifted os started H enc)
#print axioms proved
end Go.Proofs.YtocoohpekpkmkaaGreat.BoardMeets

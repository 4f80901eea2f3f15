/- Registers joined one behind the other, and turns that come in. -/
import Derived.Test.YtocoohpekpkmkaaRegSame1
import Derived.Test.YtocoohpekpkmkaaRegOpen2
namespace Go.Proofs.Ytocoohpekpkmkaa
set_option linter.unusedVariables false
set_option linter.unusedSimpArgs false
namespace Reg
abbrev Nf := Nat → Nd
def mt (f g : Nf) : Nf := fun n => meetN (f n) (g n)
def foldF (F : Nat → Nf) : Nat → Nf
  | 0 => f0
  | k + 1 => mt (foldF F k) (F k)
def SameN (f g : Nf) : Prop := ∀ n, n < 8 → f n = g n
section
variable {f g h : Nf} {F : Nat → Nf}
theorem SameN.refl (f : Nf) : SameN f f := fun _ _ => rfl
theorem SameN.symm (a : SameN f g) : SameN g f := fun n hn => (a n hn).symm
theorem SameN.trans (a : SameN f g) (b : SameN g h) : SameN f h := fun n hn => (a n hn).trans (b n hn)
theorem SameN.mt {f' g' : Nf} (a : SameN f f') (b : SameN g g') : SameN (mt f g) (mt f' g') := fun n hn => by unfold Reg.mt; rw [a n hn, b n hn]
theorem mt_good (hf : GoodF f) (hg : GoodF g) : GoodF (mt f g) := meetN_goodF hf hg
theorem mt_comm (hf : GoodF f) (hg : GoodF g) : SameN (mt f g) (mt g f) := fun n hn => meetN_comm (hf n hn) (hg n hn)
theorem mt_self (f : Nf) : SameN (mt f f) f := fun n _ => meetN_self (f n)
theorem mt_assoc (hf : GoodF f) (hg : GoodF g) (hh : GoodF h) : SameN (mt (mt f g) h) (mt f (mt g h)) := fun n hn => meetN_assoc (hf n hn) (hg n hn) (hh n hn)
theorem foldF_good (hF : ∀ i, i < 8 → GoodF (F i)) : ∀ k, k ≤ 8 → GoodF (foldF F k) := by
  intro k
  induction k with
  | zero => intro _; exact f0_good
  | succ k ih => intro hk; exact mt_good (ih (by omega)) (hF k (by omega))
theorem foldF_has (hF : ∀ i, i < 8 → GoodF (F i)) {k : Nat} : ∀ j, j ≤ 8 → k < j → SameN (mt (foldF F j) (F k)) (foldF F j) := by
  intro j
  induction j with
  | zero => intro _ h; omega
  | succ j ih =>
    intro hj hk
    have gH := foldF_good hF j (by omega)
    have gj := hF j (by omega)
    have gk := hF k (by omega)
    have h1 : SameN (mt (mt (foldF F j) (F j)) (F k)) (mt (foldF F j) (mt (F j) (F k))) := mt_assoc gH gj gk
    by_cases e : k = j
    · subst e
      exact h1.trans ((SameN.refl _).mt (mt_self _))
    · have h2 : SameN (mt (foldF F j) (mt (F j) (F k))) (mt (foldF F j) (mt (F k) (F j))) := (SameN.refl _).mt (mt_comm gj gk)
      have h3 : SameN (mt (foldF F j) (mt (F k) (F j))) (mt (mt (foldF F j) (F k)) (F j)) := (mt_assoc gH gk gj).symm
      exact (h1.trans h2).trans (h3.trans ((ih (by omega) (by omega)).mt (SameN.refl _)))
theorem SameN.rep (a : SameN f g) : repU f = repU g ∧ repL f = repL g := rep_congr a
/-- no count passes k -/
def Few (F : Nat → Nf) (k : Int) : Prop := ∀ i, i < 8 → ∀ n, n < 8 → (F i n).1 ≤ k
theorem Few.meet {k : Int} (h : Few F k) {a b : Nat} (ha : a < 8) (hb : b < 8) : Few (upF F a (mt (F a) (F b))) k := fun i hi n hn => by
  unfold upF
  split
  · have h1 := h a ha n hn
    have h2 := h b hb n hn
    show max (F a n).1 (F b n).1 ≤ k
    omega
  · exact h i hi n hn
theorem Few.put {k : Int} (h : Few F k) {a : Nat} (ha : a < 8) (v : Int) : Few (upF F a (putNd (F a) a v)) (k + 1) := fun i hi n hn => by
  unfold upF
  split
  · have h1 := h a ha n hn
    unfold putNd
    split
    · simp only; omega
    · simp only; omega
  · have := h i hi n hn; omega
theorem repL_put {f : Nf} {k : Nat} (hk : k < 8) (v : Int) : repL (putNd f k v) = [((k : Int), (f k).1 + 1, v)] := by
  have key : ∀ m s : Nat, (List.range' s m).flatMap (fun n => oneV n (putNd f k v n).2) = if s ≤ k ∧ k < s + m then [((k : Int), (f k).1 + 1, v)] else [] := by
    intro m
    induction m with
    | zero => intro s; rw [if_neg (by omega)]; rfl
    | succ m ih =>
      intro s
      rw [List.range'_succ, List.flatMap_cons, ih]
      by_cases e : s = k
      · subst e
        rw [if_neg (by omega), if_pos (by omega)]
        simp [putNd, oneV]
      · rw [show oneV s (putNd f k v s).2 = [] by unfold putNd; rw [if_neg e]; rfl, List.nil_append]
        by_cases c : s + 1 ≤ k ∧ k < s + 1 + m
        · rw [if_pos c, if_pos (by omega)]
        · rw [if_neg c, if_neg (by omega)]
  unfold repL
  rw [List.range_eq_range', key 8 0, if_pos (by omega)]
end
end Reg
open Go.ChangeShapes Go.WideShapes Go.ChangeAt Go.RowKit Go.Deep
open Reg
/-- A turn: a node that puts a value, or meets another one. -/
structure Trn where
  node : Int
  wi : Int
  val : Int
  meet : Bool
def Trn.cs (t : Trn) : Array Value := #[.int .i64 t.node, .int .i64 t.wi, .int .i64 t.val, .bool t.meet]
def TrnAt (w : World) (B : Nat) (ad : Addr) (o : Trn) : Prop := ad.block < B ∧ w.cell? ad = some (.int .i64 o.node) ∧ w.cell? ⟨ad.block, ad.off + 1, none⟩ = some (.int .i64 o.wi) ∧ w.cell? ⟨ad.block, ad.off + 2, none⟩ = some (.int .i64 o.val) ∧ w.cell? ⟨ad.block, ad.off + 3, none⟩ = some (.bool o.meet) ∧
  (-9223372036854775808 ≤ o.node ∧ o.node ≤ 9223372036854775807) ∧ (-9223372036854775808 ≤ o.wi ∧ o.wi ≤ 9223372036854775807) ∧ -9223372036854775808 ≤ o.val ∧ o.val ≤ 9223372036854775807
def TrnsAt (w : World) (B : Nat) (a : Option Addr) (n : Nat) (l : List Trn) : Prop := n = l.length ∧ ∀ i o, l[i]? = some o → ∃ ad, a = some ad ∧ TrnAt w B (ad.add (i * 4)) o
theorem TrnsAt.below {w w' : World} {B n : Nat} {a : Option Addr} {l : List Trn} (h : TrnsAt w B a n l) (hb : Below B w w') : TrnsAt w' B a n l := ⟨h.1, fun i o ho => by
  obtain ⟨ad, e, h0, h1, h2, h3, h4, h5⟩ := h.2 i o ho
  exact ⟨ad, e, h0, (hb.cell h0).trans h1, (hb.cell (p := ⟨(ad.add (i * 4)).block, (ad.add (i * 4)).off + 1, none⟩) h0).trans h2, (hb.cell (p := ⟨(ad.add (i * 4)).block, (ad.add (i * 4)).off + 2, none⟩) h0).trans h3, (hb.cell (p := ⟨(ad.add (i * 4)).block, (ad.add (i * 4)).off + 3, none⟩) h0).trans h4, h5⟩⟩
theorem list_of {α : Type} {P : Nat → α → Prop} (n : Nat) (h : ∀ i, i < n → ∃ x, P i x) : ∃ l : List α, l.length = n ∧ ∀ j x, l[j]? = some x → P j x := by
  induction n with
  | zero => exact ⟨[], rfl, fun j x h => by simp at h⟩
  | succ n ih =>
    obtain ⟨l, h1, h2⟩ := ih (fun i hi => h i (by omega))
    obtain ⟨x, hx⟩ := h n (by omega)
    refine ⟨l ++ [x], by simp [h1], fun j y hy => ?_⟩
    by_cases hj : j < n
    · rw [List.getElem?_append_left (by omega)] at hy
      exact h2 j y hy
    · rw [List.getElem?_append_right (by omega)] at hy
      have h0 : j - l.length = 0 := by
        rcases Nat.eq_zero_or_pos (j - l.length) with h | h
        · exact h
        · rw [List.getElem?_eq_none (by simp; omega)] at hy
          cases hy
      rw [h0] at hy
      simp at hy
      subst hy
      have hjn : j < n + 1 := by
        rcases Nat.lt_or_ge j (n + 1) with h | h
        · exact h
        · omega
      obtain rfl : j = n := by omega
      exact hx
theorem cellsB : (Try.prog).cellsOf 4 = 1 := by kernel_rfl
theorem cellsTrn : (Try.prog).cellsOf 54 = 4 := by kernel_rfl
set_option maxRecDepth 100000 in
theorem open_trns {H : Type} {enc : TypeId × Value → H} {W : World} {base : Nat} {sp : Nat → Bool} {held : Bool} {r : Reach} {b0 : Nat} {v : Value} {d : DataW H} {p : List MemPlace}
    (hv : Value.okWide Try.prog W r b0 51 v) (h : DataW.Trod enc Try.prog W base sp held 51 v d p) :
    ∃ (a : Option Addr) (n c : Nat) (l : List Trn), v = .slice a n c ∧ TrnsAt W W.heap.size a n l ∧ n ≤ c ∧ c ≤ maxLen := by
  obtain ⟨a0, len0, cap0, rfl⟩ := okWide_slice Try.underlying51 hv
  obtain ⟨fuel, hf⟩ := h
  obtain ⟨a, n, c, h1, h2, h3, h4⟩ := rd_slice Try.underlying51 cellsTrn hf
  simp [Value.cells] at h1
  obtain ⟨rfl, rfl, rfl⟩ := h1
  obtain ⟨l, q1, q2⟩ := list_of (α := Trn) (P := fun i o => ∃ ad, a0 = some ad ∧ TrnAt W W.heap.size (ad.add (i * 4)) o) len0 (fun i hi => by
    obtain ⟨ad, cs, fu, x', ha, hl, hc, ht⟩ := h4 i hi
    obtain ⟨_, _, g0⟩ := rd_field Try.underlying54 ht 0 3 0 1 rfl cellsI
    obtain ⟨_, _, g1⟩ := rd_field Try.underlying54 ht 1 3 1 1 rfl cellsI
    obtain ⟨_, _, g2⟩ := rd_field Try.underlying54 ht 2 3 2 1 rfl cellsI
    obtain ⟨_, _, g3⟩ := rd_field Try.underlying54 ht 3 4 3 1 rfl cellsB
    match cs, hl with
    | [v0, v1, v2, v3], _ =>
      obtain ⟨k, hk, hk1⟩ := rd_int g0
      obtain ⟨m, hm, hm1⟩ := rd_int g1
      obtain ⟨x, hx, hx1⟩ := rd_int g2
      obtain ⟨b, hb, _⟩ := DataW.trod_bool Try.underlying4 g3
      injection hk with hk _
      injection hm with hm _
      injection hx with hx _
      injection hb with hb _
      subst hk hm hx hb
      have e0 := hc 0 (by omega)
      have e1 := hc 1 (by omega)
      have e2 := hc 2 (by omega)
      have e3 := hc 3 (by omega)
      have ad1 : ∀ (q : Addr) (n : Nat), n ≠ 0 → q.add n = ⟨q.block, q.off + n, none⟩ := fun q n hn => by unfold Addr.add; rw [if_neg hn]
      rw [ad1 _ 1 (by omega)] at e1
      rw [ad1 _ 2 (by omega)] at e2
      rw [ad1 _ 3 (by omega)] at e3
      have e0' : W.cell? (ad.add (i * 4)) = some (.int .i64 k) := e0
      exact ⟨⟨k, m, x, b⟩, ad, ha, World.block_lt_of_cell? W _ e0', e0', e1, e2, e3, hk1, hm1, hx1⟩)
  exact ⟨_, _, _, l, rfl, ⟨q1.symm, q2⟩, h2, h3⟩
theorem buildM0 (w : World) : (Instr.build 31 #[]).run Try.prog w = .ok (.agg (uc z8 (.slice none 0 0))) w := by kernel_rfl
theorem tmod_bd (v : Int) : -1099511627776 ≤ v.tmod 1000 ∧ v.tmod 1000 ≤ 1099511627776 := by
  have h1 := Int.lt_tmod_of_pos v (show (0 : Int) < 1000 by decide)
  have h2 := Int.tmod_lt_of_pos v (show (0 : Int) < 1000 by decide)
  omega
/-- a register and an error's number, as one value -/
def TupM (T : TypeId) (U : List Int) (l : List Vl) (k : Int) (q : Value) (w : World) : Prop := ∃ c, q = .tuple #[.agg c, .int .i64 k] ∧ FreshO T U l (.agg c) w
section
variable {T : TypeId} {U : List Int} {l : List Vl} {k : Int} {q : Value} {w w' : World}
theorem TupM.mk (h : FreshO T U l q w) : TupM T U l k (.tuple #[q, .int .i64 k]) w := by
  obtain ⟨c, e⟩ := h.fresh.agg
  subst e
  exact ⟨c, rfl, h⟩
theorem TupM.below (h : TupM T U l k q w) (hb : Below w.heap.size w w') : TupM T U l k q w' := by
  obtain ⟨c, e, h⟩ := h
  exact ⟨c, e, h.below hb⟩
theorem TupM.grown {t : TypeId} {g : Nat} {cs : Array Value} (h : TupM T U l k q w) (hg : w.grownBy w' (some g)) (kk : Blk w g t cs) (hne : t ≠ T) : TupM T U l k q w' := by
  obtain ⟨c, e, h⟩ := h
  exact ⟨c, e, h.grown hg kk hne⟩
end
theorem node_of (z : Int) : ∃ a : Nat, a < 8 ∧ (IntKind.u64.wrap z).tmod 8 = (a : Int) := by
  have h0 : 0 ≤ IntKind.u64.wrap z := by rw [IntKind.wrap_u64]; exact Int.emod_nonneg _ (by decide)
  have h := Int.emod_nonneg (IntKind.u64.wrap z) (show (8 : Int) ≠ 0 by decide)
  have h' := Int.emod_lt_of_pos (IntKind.u64.wrap z) (show (0 : Int) < 8 by decide)
  exact ⟨(IntKind.u64.wrap z % 8).toNat, by omega, by rw [Int.tmod_eq_emod_of_nonneg h0]; omega⟩
end Go.Proofs.Ytocoohpekpkmkaa

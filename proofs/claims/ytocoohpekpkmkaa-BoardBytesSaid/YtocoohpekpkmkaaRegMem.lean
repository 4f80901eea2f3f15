/- Registers in memory: a register's cells, a row of values that is read, a row of the call's own. -/
import Derived.Test.YtocoohpekpkmkaaRegWalks
import Derived.Test.YtocoohpekpkmkaaDotLdm
import Derived.Test.YtocoohpekpkmkaaStep
import Derived.Deep.RegionHeld3
namespace Go.Proofs.Ytocoohpekpkmkaa
set_option linter.unusedVariables false
set_option linter.unusedSimpArgs false
open Go.RowKit
open Reg

/-- a register's cells: eight numbers, a slice -/
def uc (U : List Int) (s : Value) : Array Value := (U.map (Value.int .i64) ++ [s]).toArray
theorem uc_size {U : List Int} (h : U.length = 8) (s : Value) : (uc U s).size = 9 := by simp [uc, h]
theorem uc_at {U : List Int} (h : U.length = 8) (s : Value) {i : Nat} (hi : i < 8) : (uc U s)[i]? = some (.int .i64 (U.getD i 0)) := by
  unfold uc
  rw [List.getElem?_toArray, List.getElem?_append_left (by rw [List.length_map]; omega), List.getElem?_map, List.getD_eq_getElem?_getD, List.getElem?_eq_getElem (by omega)]
  rfl
theorem uc_last {U : List Int} (h : U.length = 8) (s : Value) : (uc U s)[8]? = some s := by
  unfold uc
  rw [List.getElem?_toArray, List.getElem?_append_right (by rw [List.length_map]; omega), List.length_map, h]
  rfl
theorem uc_one {U : List Int} {s : Value} (h : s.oneCell' = true) : (uc U s).all (·.oneCell') = true := by
  unfold uc
  rw [Array.all_eq_true_iff_forall_mem]
  intro x hx
  simp at hx
  rcases hx with ⟨a, _, rfl⟩ | rfl
  · rfl
  · exact h
theorem rowM : RowT Try.prog 31 9 := ⟨_, Try.underlying31, rfl, by kernel_rfl⟩
theorem rowRM : RowT Try.prog 25 9 := ⟨_, Try.underlying25, rfl, by kernel_rfl⟩
theorem row8 : RowT Try.prog 22 8 := ⟨_, Try.underlying22, rfl, by kernel_rfl⟩
theorem rowV : RowT Try.prog 49 3 := ⟨_, Try.underlying49, rfl, by kernel_rfl⟩
theorem rowRV : RowT Try.prog 105 3 := ⟨_, Try.underlying105, rfl, by kernel_rfl⟩
theorem uc_range {w : World} {b : Nat} {t : TypeId} {U : List Int} {s : Value} (h : Blk w b t (uc U s)) : w.rangeAt b 0 (U.map (Value.int .i64)) := fun j v hv => by
  have hj : j < (U.map (Value.int .i64)).length := (List.getElem?_eq_some_iff.1 hv).1
  rw [Nat.zero_add, h.cell]
  unfold uc
  rw [List.getElem?_toArray, List.getElem?_append_left hj]
  exact hv
theorem eight {U : List Int} (h : U.length = 8) : ∃ a b c d e f g i, U = [a, b, c, d, e, f, g, i] := by
  match U, h with
  | [a, b, c, d, e, f, g, i], _ => exact ⟨a, b, c, d, e, f, g, i, rfl⟩
theorem vrange_keep {w w' : World} {b o B : Nat} {cs : List Value} (h : w.rangeAt b o cs) (hb : Below B w w') (hB : b < B) : w'.rangeAt b o cs := fun j v hv => (hb.cell (p := ⟨b, o + j, none⟩) hB).trans (h j v hv)

/-- a value lies there -/
def VAt (w : World) (B : Nat) (ad : Addr) (v : Vl) : Prop := ad.block < B ∧ w.cell? ad = some (.int .i64 v.1) ∧ w.cell? ⟨ad.block, ad.off + 1, none⟩ = some (.int .i64 v.2.1) ∧ w.cell? ⟨ad.block, ad.off + 2, none⟩ = some (.int .i64 v.2.2)
/-- values: from A on there are n of them, l -/
def RdV (w : World) (B : Nat) (A : Option Addr) (n : Nat) (l : List Vl) : Prop := n = l.length ∧ ∀ i v, l[i]? = some v → ∃ ad, A = some ad ∧ VAt w B (ad.add (i * 3)) v
/-- values' cells -/
def vcs (l : List Vl) : List Value := l.flatMap fun v => [.int .i64 v.1, .int .i64 v.2.1, .int .i64 v.2.2]
section
variable {w w' : World} {B B' n : Nat} {A : Option Addr} {l : List Vl}
theorem VAt.below {ad : Addr} {v : Vl} (h : VAt w B ad v) (hb : Below B w w') : VAt w' B ad v := ⟨h.1, (hb.cell h.1).trans h.2.1, (hb.cell (p := ⟨ad.block, ad.off + 1, none⟩) h.1).trans h.2.2.1, (hb.cell (p := ⟨ad.block, ad.off + 2, none⟩) h.1).trans h.2.2.2⟩
theorem RdV.below (h : RdV w B A n l) (hb : Below B w w') : RdV w' B A n l := ⟨h.1, fun i d hi => by obtain ⟨ad, e, h2⟩ := h.2 i d hi; exact ⟨ad, e, h2.below hb⟩⟩
theorem RdV.more (h : RdV w B A n l) (hB : B ≤ B') : RdV w B' A n l := ⟨h.1, fun i d hi => by obtain ⟨ad, e, h2, h3⟩ := h.2 i d hi; exact ⟨ad, e, by omega, h3⟩⟩
theorem RdV.size (h : RdV w B A n l) : RdV w w.heap.size A n l := ⟨h.1, fun i d hi => by obtain ⟨ad, e, h2, h3, h4⟩ := h.2 i d hi; exact ⟨ad, e, World.block_lt_of_cell? w _ h3, h3, h4⟩⟩
theorem RdV.drew (h : RdV w B A n l) : RdV w.drew B A n l := h
theorem RdV.nil (w : World) (B : Nat) (A : Option Addr) : RdV w B A 0 [] := ⟨rfl, fun i d hi => by simp at hi⟩
theorem vcs_len (l : List Vl) : (vcs l).length = l.length * 3 := by
  induction l with
  | nil => rfl
  | cons d l ih => show (([.int .i64 d.1, .int .i64 d.2.1, .int .i64 d.2.2] : List Value) ++ vcs l).length = _; rw [List.length_append, ih]; simp; omega
theorem vcs_app (l m : List Vl) : vcs (l ++ m) = vcs l ++ vcs m := by unfold vcs; rw [List.flatMap_append]
theorem vcs_one (l : List Vl) : ∀ u ∈ vcs l, u.oneCell' = true := by
  intro u hu
  unfold vcs at hu
  rw [List.mem_flatMap] at hu
  obtain ⟨d, _, hd⟩ := hu
  simp at hd
  rcases hd with rfl | rfl | rfl <;> rfl
theorem vcs_at (l : List Vl) : ∀ (i : Nat) (d : Vl), l[i]? = some d → (vcs l)[i * 3]? = some (.int .i64 d.1) ∧ (vcs l)[i * 3 + 1]? = some (.int .i64 d.2.1) ∧ (vcs l)[i * 3 + 2]? = some (.int .i64 d.2.2) := by
  induction l with
  | nil => intro i d h; simp at h
  | cons x l ih =>
    intro i d h
    have e : vcs (x :: l) = .int .i64 x.1 :: .int .i64 x.2.1 :: .int .i64 x.2.2 :: vcs l := rfl
    rw [e]
    cases i with
    | zero => simp at h; subst h; exact ⟨rfl, rfl, rfl⟩
    | succ i =>
      have := ih i d (by simpa using h)
      rw [show (i + 1) * 3 = i * 3 + 1 + 1 + 1 by omega]
      simpa using this
theorem add_nextV (ad : Addr) (i k : Nat) (hk : k ≠ 0) : ad.add (i * 3 + k) = ⟨(ad.add (i * 3)).block, (ad.add (i * 3)).off + k, none⟩ := by
  rw [show ad.add (i * 3 + k) = (ad.add (i * 3)).add k from (add_add ad (i * 3) k).symm]
  unfold Addr.add
  rw [if_neg hk]
theorem RdV.of_rd (h : Rd w B A (vcs l)) : RdV w B A l.length l := ⟨rfl, fun i d hi => by
  obtain ⟨h1, h2, h3⟩ := vcs_at l i d hi
  obtain ⟨a, e, hb, hc⟩ := h _ _ h1
  obtain ⟨a', e', _, hc'⟩ := h _ _ h2
  obtain ⟨a'', e'', _, hc''⟩ := h _ _ h3
  obtain rfl : a = a' := by rw [e] at e'; injection e'
  obtain rfl : a = a'' := by rw [e] at e''; injection e''
  rw [add_nextV _ _ _ (by decide)] at hc' hc''
  exact ⟨a, e, by rw [block_add]; exact hb, hc, hc', hc''⟩⟩
theorem RdV.rd (h : RdV w B A n l) : Rd w B A (vcs l) := fun j u hu => by
  have hj : j < l.length * 3 := by
    have := (List.getElem?_eq_some_iff.1 hu).1
    rwa [vcs_len] at this
  obtain ⟨i, b, rfl, hb⟩ : ∃ i b, j = i * 3 + b ∧ b < 3 := ⟨j / 3, j % 3, by omega, by omega⟩
  have hi : i < l.length := by omega
  obtain ⟨ad, e, h1, h2, h3, h4⟩ := h.2 i _ (List.getElem?_eq_getElem hi)
  obtain ⟨k1, k2, k3⟩ := vcs_at l i _ (List.getElem?_eq_getElem hi)
  refine ⟨ad, e, by rw [block_add] at h1; exact h1, ?_⟩
  rcases (show b = 0 ∨ b = 1 ∨ b = 2 by omega) with rfl | rfl | rfl
  · rw [Nat.add_zero] at hu ⊢
    rw [h2, ← hu, k1]
  · rw [add_nextV _ _ _ (by decide), h3, ← hu, k2]
  · rw [add_nextV _ _ _ (by decide), h4, ← hu, k3]
end
/-- a row of values of the call's own -/
def OwnV (T : TypeId) (w : World) (base : Nat) (A : Option Addr) (n c : Nat) (l : List Vl) : Prop := n = l.length ∧ w.ownsRow base T 3 (.slice A n c) n (vcs l)
theorem infoV : (Try.prog.info? 49).map (fun i => (i.zero, i.size, i.bytes)) = some (some (.agg #[.int .i64 0, .int .i64 0, .int .i64 0]), 3, 24) := by kernel_rfl
theorem infoRV : (Try.prog.info? 105).map (fun i => (i.zero, i.size, i.bytes)) = some (some (.agg #[.int .i64 0, .int .i64 0, .int .i64 0]), 3, 24) := by kernel_rfl
section
variable {T : TypeId} {w w' : World} {base n c : Nat} {A : Option Addr} {bs : List Vl}
theorem OwnV.raw (h : OwnV T w base A n c bs) : Rd w w.heap.size A (vcs bs) := fun j u hu => by
  rcases h.2.2 with ⟨hv, h0⟩ | ⟨g, cap, cur, hv, hb, hh, hn, hm, hs, hc⟩
  · have := h.2.1; rw [h0] at this; simp at this; rw [this] at hu; simp at hu
  · injection hv with hA
    subst hA
    exact ⟨_, rfl, (h.2.lt g rfl).2, h.2.cells (g := g) rfl j u hu⟩
theorem OwnV.rd (h : OwnV T w base A n c bs) : RdV w w.heap.size A n bs := by
  have := RdV.of_rd h.raw
  rwa [← h.1] at this
theorem OwnV.alloc (h : OwnV T w base A n c bs) (o : Obj) : OwnV T (w.alloc o) base A n c bs := ⟨h.1, h.2.alloc o⟩
theorem OwnV.nil (T : TypeId) (w : World) (base : Nat) : OwnV T w base none 0 0 [] := ⟨rfl, World.ownsRow_nil w base _ 3⟩
theorem OwnV.mono {base' : Nat} (h : OwnV T w base A n c bs) (hb : base' ≤ base) : OwnV T w base' A n c bs := by
  refine ⟨h.1, h.2.1, ?_⟩
  rcases h.2.2 with h | ⟨g, cap, cur, h1, h2, h3⟩
  · exact .inl h
  · exact .inr ⟨g, cap, cur, h1, by omega, h3⟩
theorem OwnV.lt (h : OwnV T w base A n c bs) : ∀ g, A.map (·.block) = some g → base ≤ g ∧ g < w.heap.size := fun g hg => h.2.lt g (by
  rcases A with _ | a
  · simp at hg
  · simpa [Value.ownBlock] using hg)
theorem OwnV.form (h : OwnV T w base A n c bs) (hn : 0 < n) : ∃ g, A = some ⟨g, 0, none⟩ ∧ base ≤ g ∧ g < w.heap.size := by
  rcases h.2.2 with ⟨_, h0⟩ | ⟨g, cap, cur, hv, hb, hh, _⟩
  · omega
  · injection hv with hA
    subst hA
    exact ⟨g, rfl, hb, lt_of_block hh⟩
theorem OwnV.free {g : Nat} (h : OwnV T w base (some ⟨g, 0, none⟩) n c bs) (j : Nat) : w.frozen? ⟨g, j, none⟩ = false := h.2.frozenAt j
theorem OwnV.setFar {p : Addr} (h : OwnV T w base A n c bs) (hp : A.map (·.block) ≠ some p.block) (u : Value) : OwnV T (w.setCell p u) base A n c bs :=
  ⟨h.1, ownsRow_setCell_other h.2 (by
    rcases A with _ | a
    · simp [Value.ownBlock]
    · simpa [Value.ownBlock] using hp) u⟩
theorem OwnV.drew (h : OwnV T w base A n c bs) : OwnV T w.drew base A n c bs := h
theorem OwnV.grown {row : Option Nat} (h : OwnV T w base A n c bs) (hg : w.grownBy w' row) (hne : A.map (·.block) = none ∨ A.map (·.block) ≠ row) : OwnV T w' base A n c bs :=
  ⟨h.1, h.2.kept hg (by
    rcases A with _ | a
    · exact .inl rfl
    · rcases hne with h | h
      · simp at h
      · exact .inr h)⟩
theorem OwnV.below {B : Nat} (h : OwnV T w base A n c bs) (hb : Below B w w') (hB : w.heap.size ≤ B) : OwnV T w' base A n c bs :=
  ⟨h.1, h.2.kept (row := none) ⟨hb.os, hb.tape, hb.output, hb.size, fun k hk _ => hb.block k (by omega)⟩ (by
    rcases h.2.2 with ⟨e, _⟩ | ⟨g, cap, cur, e, _⟩
    · rw [e]; exact .inl rfl
    · rw [e]; exact .inr (by simp [Value.ownBlock]))⟩
end


theorem wpList_appV {w : World} {ops : Array Oper} {rest : List Oper} {o : Oper} {a : Act} {Q : Exit → Act → World → Prop} (hgd : o.guard = none) (s x : Operand)
    (ho : o.op = .call { callee := .builtin .append, args := #[s, x], argTypes := #[29, 29] })
    {base : Nat} {A : Option Addr} {n c : Nat} {bs : List Vl} (hs : a.eval s = .slice A n c) (hown : OwnV 49 w base A n c bs)
    {B : Nat} {D : Option Addr} {m d : Nat} {news : List Vl} (hx : a.eval x = .slice D m d) (hr : Rd w B D (vcs news)) (hm : m = news.length)
    (hbytes : n + m ≤ 1000000000000) (hbase : base ≤ w.heap.size)
    (h : ∀ A' c' w', OwnV 49 w' base A' (n + m) c' (bs ++ news) → w.grownBy w' (A.map (·.block)) → Moved A' (A.map (·.block)) w.heap.size → Below base w w' →
      wpList Try.prog ops Q rest (a.put o.dst (.slice A' (n + m) c')) w') : wpList Try.prog ops Q (o :: rest) a w := by
  obtain ⟨i0, hi, hz0, hz1, hz2⟩ := info_parts infoV
  have hob : (Value.slice A n c).ownBlock = A.map (·.block) := by cases A <;> rfl
  refine wpList_app w hgd s x 29 ho base 49 i0 (.agg #[.int .i64 0, .int .i64 0, .int .i64 0]) 3 24 Try.underlying29 hi hz0 hz1 hz2 rfl (by decide) _ _ _ hs hown.2 B D m d (vcs news) hx hr (by rw [vcs_len, hm]) (vcs_one _) (by unfold maxLen; omega) (by omega) hbase ?_
  intro A' c' w' h1 h2 h3
  rw [hob] at h2 h3
  exact h A' c' w' ⟨by rw [List.length_append, hown.1, hm], by rw [vcs_app]; exact h1⟩ h2 h3 ((Below.refl _ _).grown h2 hbase (fun g hg => (hown.lt g hg).1))
theorem wpList_appRV {w : World} {ops : Array Oper} {rest : List Oper} {o : Oper} {a : Act} {Q : Exit → Act → World → Prop} (hgd : o.guard = none) (s x : Operand)
    (ho : o.op = .call { callee := .builtin .append, args := #[s, x], argTypes := #[23, 23] })
    {base : Nat} {A : Option Addr} {n c : Nat} {bs : List Vl} (hs : a.eval s = .slice A n c) (hown : OwnV 105 w base A n c bs)
    {B : Nat} {D : Option Addr} {m d : Nat} {news : List Vl} (hx : a.eval x = .slice D m d) (hr : Rd w B D (vcs news)) (hm : m = news.length)
    (hbytes : n + m ≤ 1000000000000) (hbase : base ≤ w.heap.size)
    (h : ∀ A' c' w', OwnV 105 w' base A' (n + m) c' (bs ++ news) → w.grownBy w' (A.map (·.block)) → Moved A' (A.map (·.block)) w.heap.size → Below base w w' →
      wpList Try.prog ops Q rest (a.put o.dst (.slice A' (n + m) c')) w') : wpList Try.prog ops Q (o :: rest) a w := by
  obtain ⟨i0, hi, hz0, hz1, hz2⟩ := info_parts infoRV
  have hob : (Value.slice A n c).ownBlock = A.map (·.block) := by cases A <;> rfl
  refine wpList_app w hgd s x 23 ho base 105 i0 (.agg #[.int .i64 0, .int .i64 0, .int .i64 0]) 3 24 Try.underlying23 hi hz0 hz1 hz2 rfl (by decide) _ _ _ hs hown.2 B D m d (vcs news) hx hr (by rw [vcs_len, hm]) (vcs_one _) (by unfold maxLen; omega) (by omega) hbase ?_
  intro A' c' w' h1 h2 h3
  rw [hob] at h2 h3
  exact h A' c' w' ⟨by rw [List.length_append, hown.1, hm], by rw [vcs_app]; exact h1⟩ h2 h3 ((Below.refl _ _).grown h2 hbase (fun g hg => (hown.lt g hg).1))
/-- one of the eight, out of the value -/
def uI (U : List Int) : Array Value := (U.map (Value.int .i64)).toArray
theorem run_index8 (w : World) (U : List Int) (hU : U.length = 8) (k : Nat) (hk : k < 8) : (Instr.index 22 (.agg (uI U)) (.int .i64 (k : Nat))).run Try.prog w = .ok (.int .i64 (U.getD k 0)) w := by
  have hsz : (sizeOf 3).run Try.prog w = .ok 1 w := by kernel_rfl
  have hag : (isAgg 3).run Try.prog w = .ok false w := by kernel_rfl
  have hx : (uI U)[k]? = some (.int .i64 (U.getD k 0)) := by
    unfold uI
    rw [List.getElem?_toArray, List.getElem?_map, List.getD_eq_getElem?_getD, List.getElem?_eq_getElem (by omega)]
    rfl
  simp only [Instr.index, asIntOf, Sem.run_bind, Sem.run_pure, Result.andThen_ok, run_underlying Try.underlying22, hsz]
  rw [if_pos (by omega)]
  simp [part, hag, hsz, hx]
end Go.Proofs.Ytocoohpekpkmkaa

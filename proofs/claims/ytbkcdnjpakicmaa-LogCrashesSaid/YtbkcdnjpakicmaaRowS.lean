/- Rows of the call's own whose elements are slices of bytes that were there before. -/
import Derived.Test.YtbkcdnjpakicmaaSls
import Derived.Test.YtbkcdnjpakicmaaFoot
namespace Go.Proofs.Ytbkcdnjpakicmaa
open Go.RowKit
/-- The elements es read as ls, below block B. -/
def ElS (w : World) (B : Nat) (es : List Sl) (ls : List (List UInt8)) : Prop :=
  es.length = ls.length ∧ ∀ (j : Nat) (e : Sl) (x : List UInt8), es[j]? = some e → ls[j]? = some x → RdB w B e.1 e.2.1 x ∧ e.2.1 ≤ e.2.2 ∧ e.2.2 ≤ maxLen
def RowS (w : World) (B base : Nat) (A : Option Addr) (n c : Nat) (ls : List (List UInt8)) : Prop :=
  n = ls.length ∧ ∃ es : List Sl, ElS w B es ls ∧ w.ownsRow base 22 1 (.slice A n c) n (es.map sv)
theorem sv_one (es : List Sl) : ∀ u ∈ es.map sv, u.oneCell' = true := by
  intro u hu
  obtain ⟨c, _, rfl⟩ := List.mem_map.1 hu
  rfl
section
variable {w w' : World} {B B' base n c : Nat} {A : Option Addr} {ls ms : List (List UInt8)} {es fs : List Sl}
theorem ElS.below (h : ElS w B es ls) (hb : Below B w w') : ElS w' B es ls := ⟨h.1, fun j e x q1 q2 => ⟨(h.2 j e x q1 q2).1.below hb, (h.2 j e x q1 q2).2⟩⟩
theorem ElS.append (h : ElS w B es ls) (k : ElS w B fs ms) : ElS w B (es ++ fs) (ls ++ ms) := by
  refine ⟨by simp [h.1, k.1], fun j e x q1 q2 => ?_⟩
  by_cases hj : j < es.length
  · rw [List.getElem?_append_left hj] at q1
    rw [List.getElem?_append_left (by rw [← h.1]; exact hj)] at q2
    exact h.2 j e x q1 q2
  · rw [List.getElem?_append_right (by omega)] at q1
    rw [List.getElem?_append_right (by have := h.1; omega)] at q2
    exact k.2 _ e x q1 (by rw [h.1]; exact q2)
theorem ElS.nil (w : World) (B : Nat) : ElS w B [] [] := ⟨rfl, fun j e x h => by simp at h⟩
theorem ElS.one {D : Option Addr} {m d : Nat} {x : List UInt8} (h : RdB w B D m x) (h1 : m ≤ d) (h2 : d ≤ maxLen) : ElS w B [(D, m, d)] [x] := by
  refine ⟨rfl, fun j e y q1 q2 => ?_⟩
  have hj : j = 0 := by
    rcases Nat.eq_zero_or_pos j with h | h
    · exact h
    · rw [List.getElem?_eq_none (by simp; omega)] at q1
      cases q1
  subst hj
  simp at q1 q2
  subst q1 q2
  exact ⟨h, h1, h2⟩
theorem RdS.els (h : RdS w B A n ls) : ∃ es, ElS w B es ls ∧ Rd w B A (es.map sv) := by
  obtain ⟨es, h1, h2, h3, h4⟩ := h
  exact ⟨es, ⟨h2, h4⟩, h3⟩
theorem RowS.rd (h : RowS w B base A n c ls) : RdS w w.heap.size A n ls := by
  obtain ⟨h1, es, h2, h3⟩ := h
  exact ⟨es, h1, h2.1, Rd.of_own h3, fun j e x q1 q2 => ⟨(h2.2 j e x q1 q2).1.size, (h2.2 j e x q1 q2).2⟩⟩
theorem RowS.below (h : RowS w B base A n c ls) (hb : Below w.heap.size w w') (hB : B ≤ w.heap.size) : RowS w' B base A n c ls := by
  obtain ⟨h1, es, h2, h3⟩ := h
  exact ⟨h1, es, h2.below (hb.mono hB), ownsRow_keep h3 fun k hk => hb.block k (ownsRow_lt h3 hk)⟩
/-- A new row. -/
theorem RowS.made (w : World) (B base : Nat) (hb : base ≤ w.heap.size) : RowS (w.alloc (.cells #[] 22)) B base (some ⟨w.heap.size, 0, none⟩) 0 0 [] :=
  ⟨rfl, [], ElS.nil _ _, rfl, .inr ⟨w.heap.size, 0, #[], rfl, hb, heap_alloc_new w _, Nat.le_refl _, Nat.zero_le _, rfl, rfl⟩⟩
end
theorem wpList_appR {w : World} {ops : Array Oper} {rest : List Oper} {o : Oper} {a : Act} {Q : Exit → Act → World → Prop} (hgd : o.guard = none) (s x : Operand)
    (ho : o.op = .call { callee := .builtin .append, args := #[s, x], argTypes := #[38, 38] })
    {B base : Nat} {A : Option Addr} {n c : Nat} {ls : List (List UInt8)} (hs : a.eval s = .slice A n c) (hown : RowS w B base A n c ls)
    {B2 : Nat} {D : Option Addr} {m d : Nat} {es : List Sl} {ms : List (List UInt8)} (hx : a.eval x = .slice D m d) (hr : Rd w B2 D (es.map sv)) (he : ElS w B es ms) (hm : m = ms.length)
    (hbytes : n + m ≤ 1099511627776) (hbase : base ≤ w.heap.size) (hB : B ≤ base)
    (h : ∀ A' c' w', RowS w' B base A' (n + m) c' (ls ++ ms) → Below base w w' → wpList Try.prog ops Q rest (a.put o.dst (.slice A' (n + m) c')) w') : wpList Try.prog ops Q (o :: rest) a w := by
  obtain ⟨i0, hi, hz0, hz1, hz2⟩ := info_parts infoS
  obtain ⟨q1, fs, q2, q3⟩ := hown
  refine wpList_app w hgd s x 38 ho base 22 i0 (.slice none 0 0) 1 24 Try.underlying38 hi hz0 hz1 hz2 rfl (by decide) _ _ _ hs q3 B2 D m d (es.map sv) hx hr (by rw [List.length_map, he.1, hm, Nat.mul_one]) (sv_one _) (by unfold maxLen; omega) (by omega) hbase ?_
  intro A' c' w' h1 h2 h3
  have hbl : Below base w w' := (Below.refl _ _).grown h2 hbase (fun g hg => (q3.lt g hg).1)
  refine h A' c' w' ⟨by simp [q1, hm], fs ++ es, (q2.append he).below (hbl.mono hB), by simpa using h1⟩ hbl
/-- The same law where the operation is guarded, and its guard is decided. -/
theorem wpList_appRg {w : World} {ops : Array Oper} {rest : List Oper} {o : Oper} {a : Act} {Q : Exit → Act → World → Prop} (hw : Region.wanted o (yielded ops a.tmps) = true) (s x : Operand)
    (ho : o.op = .call { callee := .builtin .append, args := #[s, x], argTypes := #[38, 38] })
    {B base : Nat} {A : Option Addr} {n c : Nat} {ls : List (List UInt8)} (hs : a.eval s = .slice A n c) (hown : RowS w B base A n c ls)
    {B2 : Nat} {D : Option Addr} {m d : Nat} {es : List Sl} {ms : List (List UInt8)} (hx : a.eval x = .slice D m d) (hr : Rd w B2 D (es.map sv)) (he : ElS w B es ms) (hm : m = ms.length)
    (hbytes : n + m ≤ 1099511627776) (hbase : base ≤ w.heap.size) (hB : B ≤ base)
    (h : ∀ A' c' w', RowS w' B base A' (n + m) c' (ls ++ ms) → Below base w w' → w.grownBy w' (A.map (·.block)) → wpList Try.prog ops Q rest (a.put o.dst (.slice A' (n + m) c')) w') : wpList Try.prog ops Q (o :: rest) a w := by
  obtain ⟨i0, hi, hz0, hz1, hz2⟩ := info_parts infoS
  obtain ⟨q1, fs, q2, q3⟩ := hown
  refine wpList_step fun K hK => ?_
  rw [if_pos hw]
  obtain ⟨v', w', hrun, h2, h3, h4⟩ := run_app (P := Try.prog) w base 38 o.type 22 i0 (.slice none 0 0) 1 24 Try.underlying38 hi hz0 hz1 hz2 rfl (by decide) (.slice A n c) n _ q3 B2 D m d (es.map sv) hr (by rw [List.length_map, he.1, hm, Nat.mul_one]) (sv_one _) (by unfold maxLen; omega) (by omega) hbase
  unfold Oper.wp execOp
  simp only [ho, resolve, invoke, builtin, Sem.run_bind, Sem.run_pure, Result.andThen_ok, List.map_toArray, List.map_cons, List.map_nil, hs, hx, hrun]
  have hbl : Below base w w' := (Below.refl _ _).grown h3 hbase (fun g hg => (q3.lt g hg).1)
  have hob : (Value.slice A n c).ownBlock = A.map (·.block) := by cases A <;> rfl
  have hgr := h3
  rw [hob] at hgr
  have hv : ∃ A' c', v' = .slice A' (n + m) c' := by
    rcases h2.2 with ⟨rfl, h0⟩ | ⟨g, cap, cur, rfl, _⟩
    · exact ⟨none, 0, by rw [h0]⟩
    · exact ⟨_, _, rfl⟩
  obtain ⟨A', c', rfl⟩ := hv
  exact hK _ _ (h A' c' w' ⟨by simp [q1, hm], fs ++ es, (q2.append he).below (hbl.mono hB), by simpa using h2⟩ hbl hgr)
section
variable {w w' : World} {B base n c : Nat} {A : Option Addr} {ls ms : List (List UInt8)}
theorem only_row {row : Option Nat} (hg : w.grownBy w' row) : Only (fun k => row = some k) w w' := ⟨hg.os, hg.tape, hg.output, hg.size, fun k hk hn => hg.block k hk fun e => hn e.symm⟩
theorem RowS.cast (h : RowS w B base A n c ls) (e : ls = ms) : RowS w B base A n c ms := e ▸ h
theorem RowS.lt (h : RowS w B base A n c ls) : ∀ k, A.map (·.block) = some k → base ≤ k ∧ k < w.heap.size := fun k hk => by
  obtain ⟨h1, es, h2, h3⟩ := h
  exact ⟨(h3.lt k (by cases A with
    | none => cases hk
    | some a => exact hk)).1, ownsRow_lt h3 hk⟩
theorem RowS.only {F : Nat → Prop} (h : RowS w B base A n c ls) (ho : Only F w w') (hB : ∀ k, F k → B ≤ k) (hs : B ≤ w.heap.size) (hn : ∀ k, A.map (·.block) = some k → ¬ F k) : RowS w' B base A n c ls := by
  obtain ⟨h1, es, h2, h3⟩ := h
  have hb : Below B w w' := ho.to_below hB hs
  exact ⟨h1, es, h2.below hb, ownsRow_keep h3 fun k hk => ho.block k (ownsRow_lt h3 hk) (hn k hk)⟩
end
end Go.Proofs.Ytbkcdnjpakicmaa

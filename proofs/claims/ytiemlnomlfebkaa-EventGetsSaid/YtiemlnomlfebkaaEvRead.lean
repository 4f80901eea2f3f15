/- The walk of the document's Read of an event (printed by wip/gen/evread.py). -/
import Derived.Test.YtiemlnomlfebkaaEvGetM
import Derived.Test.YtiemlnomlfebkaaEvCopy
import Derived.Test.YtiemlnomlfebkaaRSt
import Derived.Test.YtiemlnomlfebkaaHeldC
import Derived.Deep.DeepCutAuto
namespace Go.Proofs.Ytiemlnomlfebkaa
set_option linter.unusedVariables false
set_option linter.unusedSimpArgs false
open Go.RowKit
open Dot Evt
namespace Evt
/-- so many numbers, as the document's reader has them -/
def rdN : Nat → List UInt8 → Nat → List Int × List UInt8 × Nat
  | 0, l, e => ([], l, e)
  | k + 1, l, e =>
    let a := Vint.intM l e
    let R := rdN k a.2.1 a.2.2
    ((a.1 : Int) :: R.1, R.2)
def rd7 (l : List UInt8) (e : Nat) : List Int × List UInt8 × Nat := rdN 7 l e
/-- up to so many dots, as the document's reader has them -/
def rdDD : Nat → List UInt8 → Nat → List Dt × List UInt8 × Nat
  | 0, l, e => ([], l, e)
  | k + 1, l, e => if (rdDD k l e).2.2 = 0 then
      let a := Vint.intM (rdDD k l e).2.1 0
      let b := Vint.intM a.2.1 a.2.2
      ((rdDD k l e).1 ++ [((a.1 : Int), (b.1 : Int))], b.2)
    else rdDD k l e
/-- what is behind the kind -/
def rdK (n q t k w : Nat) (l : List UInt8) (e : Nat) : Ev × List UInt8 × Nat :=
  if k = 1 then
    let v := Vint.intM l e
    (⟨((n : Int), (q : Int)), t, k, w, (v.1 : Nat), p0, []⟩, v.2)
  else
    let P := if k = 2 then rd7 l e else (p0, l, e)
    let m := Vint.intM P.2.1 P.2.2
    let e6 := if 96 < m.1 then (if m.2.2 = 0 then 6 else m.2.2) else m.2.2
    let D := rdDD m.1 m.2.1 e6
    (⟨((n : Int), (q : Int)), t, k, w, 0, P.1, D.1⟩, D.2)
/-- an event, as the document's reader has it -/
def rdE (l : List UInt8) : Ev × List UInt8 × Nat :=
  let a := Vint.intM l 0
  let b := Vint.intM a.2.1 a.2.2
  let c := Vint.intM b.2.1 b.2.2
  let d := Vint.intM c.2.1 c.2.2
  let e4 := if d.2.2 = 0 ∧ ¬ (1 ≤ d.1 ∧ d.1 ≤ 3) then 4 else d.2.2
  let f := Vint.intM d.2.1 e4
  rdK a.1 b.1 c.1 d.1 f.1 f.2.1 f.2.2
theorem rd7_len (l : List UInt8) (e : Nat) : (rd7 l e).1.length = 7 := rfl
theorem rdK_p (n q t k w : Nat) (l : List UInt8) (e : Nat) : (rdK n q t k w l e).1.p.length = 7 := by
  unfold rdK
  by_cases h1 : k = 1
  · rw [if_pos h1]; rfl
  · rw [if_neg h1]
    by_cases h2 : k = 2
    · simp only [if_pos h2]; exact rd7_len l e
    · simp only [if_neg h2]; rfl
theorem rdDD_stuck (l : List UInt8) (e k : Nat) (h : (rdDD k l e).2.2 ≠ 0) : ∀ m, k ≤ m → rdDD m l e = rdDD k l e := by
  intro m
  induction m with
  | zero => intro hk; obtain rfl : k = 0 := by omega
            rfl
  | succ m ih =>
    intro hk
    by_cases e1 : k = m + 1
    · rw [e1]
    · have h1 := ih (by omega)
      rw [rdDD, if_neg (by rw [h1]; exact h), h1]
/-! the same as with early ends -/
theorem rdN_bad (k : Nat) : ∀ (l : List UInt8) (e : Nat), e ≠ 0 → (rdN k l e).2.2 = e := by
  induction k with
  | zero => intro l e _; rfl
  | succ k ih =>
    intro l e h
    show (rdN k (Vint.intM l e).2.1 (Vint.intM l e).2.2).2.2 = e
    rw [intM_err h]
    exact ih l e h
theorem rdN_ok (k : Nat) : ∀ (l : List UInt8) (ns : List Nat) (r : List UInt8), decs k l = .ok (ns, r) → rdN k l 0 = (ns.map fun x : Nat => (x : Int), r, 0) := by
  induction k with
  | zero => intro l ns r h; simp [decs] at h; obtain ⟨rfl, rfl⟩ := h; rfl
  | succ k ih =>
    intro l ns r h
    unfold decs at h
    split at h
    · cases h
    · rename_i n l1 h1
      split at h
      · cases h
      · rename_i ns' r' h2
        injection h with h
        injection h with h h'
        subst h h'
        show (((Vint.intM l 0).1 : Int) :: (rdN k (Vint.intM l 0).2.1 (Vint.intM l 0).2.2).1, (rdN k (Vint.intM l 0).2.1 (Vint.intM l 0).2.2).2) = _
        rw [Vint.intM_ok h1]
        simp only
        rw [ih _ _ _ h2]
        rfl
theorem rdN_err (k : Nat) : ∀ (l : List UInt8) (y : Nat), decs k l = .error y → (rdN k l 0).2.2 = y ∧ y ≠ 0 := by
  induction k with
  | zero => intro l y h; cases h
  | succ k ih =>
    intro l y h
    unfold decs at h
    show (rdN k (Vint.intM l 0).2.1 (Vint.intM l 0).2.2).2.2 = y ∧ _
    split at h
    · rename_i x h1
      injection h with h
      subst h
      have hx := Vint.dec_err h1
      have hne : x ≠ 0 := by omega
      rw [Vint.intM_bad h1]
      exact ⟨rdN_bad k _ _ hne, hne⟩
    · rename_i n l1 h1
      split at h
      · rename_i x h2
        injection h with h
        subst h
        rw [Vint.intM_ok h1]
        exact ih _ _ h2
      · cases h
theorem rdDD_ok (k : Nat) (l : List UInt8) : ∀ (ds : List Dt) (r : List UInt8), decD k l = .ok (ds, r) → rdDD k l 0 = (ds, r, 0) := by
  induction k with
  | zero => intro ds r h; simp [decD] at h; obtain ⟨rfl, rfl⟩ := h; rfl
  | succ k ih =>
    intro ds r h
    unfold decD at h
    split at h
    · cases h
    · rename_i ds' r' h0
      split at h
      · cases h
      · rename_i n r1 h1
        split at h
        · cases h
        · rename_i q r2 h2
          injection h with h
          injection h with h h'
          subst h h'
          rw [rdDD, ih _ _ h0, if_pos rfl]
          simp only [Vint.intM_ok h1, Vint.intM_ok h2]
theorem rdDD_err (k : Nat) (l : List UInt8) : ∀ (y : Nat), decD k l = .error y → (rdDD k l 0).2.2 = y ∧ y ≠ 0 := by
  induction k with
  | zero => intro y h; cases h
  | succ k ih =>
    intro y h
    unfold decD at h
    split at h
    · rename_i x h0
      injection h with h
      subst h
      obtain ⟨q1, q2⟩ := ih _ h0
      rw [rdDD, if_neg (by rw [q1]; exact q2)]
      exact ⟨q1, q2⟩
    · rename_i ds' r' h0
      rw [rdDD, rdDD_ok k l _ _ h0, if_pos rfl]
      split at h
      · rename_i x h1
        injection h with h
        subst h
        have hx := Vint.dec_err h1
        simp only [Vint.intM_bad h1]
        rw [intM_err (by omega)]
        exact ⟨rfl, by omega⟩
      · rename_i n r1 h1
        split at h
        · rename_i x h2
          injection h with h
          subst h
          have hx := Vint.dec_err h2
          simp only [Vint.intM_ok h1, Vint.intM_bad h2]
          first | exact ⟨rfl, by omega⟩ | exact ⟨trivial, by omega⟩
        · cases h
theorem rdDD_bad (k : Nat) (l : List UInt8) (e : Nat) (h : e ≠ 0) : rdDD k l e = ([], l, e) := rdDD_stuck l e 0 h k (Nat.zero_le _)
/-- the dots that an event removes, as the document's reader has them -/
def rdLL (l : List UInt8) (e : Nat) : List Dt × List UInt8 × Nat :=
  let m := Vint.intM l e
  let e6 := if 96 < m.1 then (if m.2.2 = 0 then 6 else m.2.2) else m.2.2
  rdDD m.1 m.2.1 e6
theorem rdLL_ok {l : List UInt8} {ds : List Dt} {r : List UInt8} (h : decL l = .ok (ds, r)) : rdLL l 0 = (ds, r, 0) := by
  unfold decL at h
  split at h
  · cases h
  · rename_i m r1 h1
    split at h
    · cases h
    · rename_i hm
      simp only [rdLL, Vint.intM_ok h1, if_neg hm]
      exact rdDD_ok _ _ _ _ h
theorem rdLL_err {l : List UInt8} {y : Nat} (h : decL l = .error y) : (rdLL l 0).2.2 = y ∧ y ≠ 0 := by
  unfold decL at h
  split at h
  · rename_i x h1
    injection h with h
    subst h
    have hx := Vint.dec_err h1
    simp only [rdLL, Vint.intM_bad h1]
    rw [if_neg (by omega), rdDD_bad _ _ _ (by omega)]
    exact ⟨rfl, by omega⟩
  · rename_i m r1 h1
    split at h
    · rename_i hm
      injection h with h
      subst h
      simp only [rdLL, Vint.intM_ok h1, if_pos hm, if_true]
      rw [rdDD_bad _ _ _ (by omega)]
      exact ⟨rfl, by omega⟩
    · rename_i hm
      simp only [rdLL, Vint.intM_ok h1, if_neg hm]
      exact rdDD_err _ _ _ h
theorem rdLL_bad {l : List UInt8} {e : Nat} (h : e ≠ 0) : (rdLL l e).2.2 = e := by
  simp only [rdLL, intM_err h]
  rw [if_neg (by omega), rdDD_bad _ _ _ h]
theorem rdK_eq (n q t k w : Nat) (l : List UInt8) (e : Nat) : rdK n q t k w l e = if k = 1 then (⟨((n : Int), (q : Int)), t, k, w, ((Vint.intM l e).1 : Nat), p0, []⟩, (Vint.intM l e).2) else
    if k = 2 then (⟨((n : Int), (q : Int)), t, k, w, 0, (rd7 l e).1, (rdLL (rd7 l e).2.1 (rd7 l e).2.2).1⟩, (rdLL (rd7 l e).2.1 (rd7 l e).2.2).2)
    else (⟨((n : Int), (q : Int)), t, k, w, 0, p0, (rdLL l e).1⟩, (rdLL l e).2) := by
  unfold rdK
  by_cases h1 : k = 1
  · rw [if_pos h1, if_pos h1]
  · rw [if_neg h1, if_neg h1]
    by_cases h2 : k = 2
    · simp only [if_pos h2]; rfl
    · simp only [if_neg h2]; rfl
theorem rdK_bad (n q t k w : Nat) {l : List UInt8} {e : Nat} (h : e ≠ 0) : (rdK n q t k w l e).2.2 = e := by
  rw [rdK_eq]
  by_cases h1 : k = 1
  · rw [if_pos h1]; simp only [intM_err h]
  · rw [if_neg h1]
    by_cases h2 : k = 2
    · rw [if_pos h2]
      have h3 := rdN_bad 7 l e h
      simp only
      rw [rdLL_bad (by unfold rd7; rw [h3]; exact h)]
      exact h3
    · rw [if_neg h2]
      exact rdLL_bad h
theorem rdK_ok {n q t k w : Nat} {l : List UInt8} {x : Ev} {r : List UInt8} (h : decK n q t k w l = .ok (x, r)) : rdK n q t k w l 0 = (x, r, 0) := by
  rw [rdK_eq]
  unfold decK at h
  by_cases h1 : k = 1
  · rw [if_pos h1] at h ⊢
    split at h
    · cases h
    · rename_i h2
      injection h with h
      injection h with h h'
      subst h h'
      simp only [Vint.intM_ok h2]
  · rw [if_neg h1] at h ⊢
    by_cases h2 : k = 2
    · rw [if_pos h2] at h ⊢
      split at h
      · cases h
      · rename_i h3
        split at h
        · cases h
        · rename_i h4
          injection h with h
          injection h with h h'
          subst h h'
          have h5 := rdN_ok 7 _ _ _ h3
          unfold rd7
          rw [h5]
          simp only [rdLL_ok h4]
    · rw [if_neg h2] at h ⊢
      split at h
      · cases h
      · rename_i h4
        injection h with h
        injection h with h h'
        subst h h'
        simp only [rdLL_ok h4]
theorem rdK_err {n q t k w : Nat} {l : List UInt8} {y : Nat} (h : decK n q t k w l = .error y) : (rdK n q t k w l 0).2.2 = y ∧ y ≠ 0 := by
  rw [rdK_eq]
  unfold decK at h
  by_cases h1 : k = 1
  · rw [if_pos h1] at h ⊢
    split at h
    · rename_i h2
      injection h with h
      subst h
      have := Vint.dec_err h2
      simp only [Vint.intM_bad h2]
      exact ⟨trivial, by omega⟩
    · cases h
  · rw [if_neg h1] at h ⊢
    by_cases h2 : k = 2
    · rw [if_pos h2] at h ⊢
      split at h
      · rename_i h3
        injection h with h
        subst h
        obtain ⟨q1, q2⟩ := rdN_err 7 _ _ h3
        unfold rd7
        simp only
        rw [rdLL_bad (by rw [q1]; exact q2)]
        exact ⟨q1, q2⟩
      · rename_i h3
        split at h
        · rename_i h4
          injection h with h
          subst h
          have h5 := rdN_ok 7 _ _ _ h3
          unfold rd7
          rw [h5]
          exact rdLL_err h4
        · cases h
    · rw [if_neg h2] at h ⊢
      split at h
      · rename_i h4
        injection h with h
        subst h
        exact rdLL_err h4
      · cases h
theorem rdE_eq {l : List UInt8} : (∀ x r, decE l = .ok (x, r) → rdE l = (x, r, 0)) ∧ ∀ y, decE l = .error y → (rdE l).2.2 = y ∧ y ≠ 0 := by
  cases h0 : Vint.dec l with
  | error x0 =>
    have hx := Vint.dec_err h0
    refine ⟨fun x r h => ?_, fun y h => ?_⟩
    · simp [decE, h0] at h
    · simp [decE, h0] at h
      subst h
      have hne : x0 ≠ 0 := by omega
      simp only [rdE, Vint.intM_bad h0, intM_err hne, hne, false_and, if_false]
      exact ⟨rdK_bad _ _ _ _ _ hne, hne⟩
  | ok p0 =>
    obtain ⟨n, l1⟩ := p0
    cases h1 : Vint.dec l1 with
    | error x0 =>
      have hx := Vint.dec_err h1
      refine ⟨fun x r h => ?_, fun y h => ?_⟩
      · simp [decE, h0, h1] at h
      · simp [decE, h0, h1] at h
        subst h
        have hne : x0 ≠ 0 := by omega
        simp only [rdE, Vint.intM_ok h0, Vint.intM_bad h1, intM_err hne, hne, false_and, if_false]
        exact ⟨rdK_bad _ _ _ _ _ hne, hne⟩
    | ok p1 =>
      obtain ⟨q, l2⟩ := p1
      cases h2 : Vint.dec l2 with
      | error x0 =>
        have hx := Vint.dec_err h2
        refine ⟨fun x r h => ?_, fun y h => ?_⟩
        · simp [decE, h0, h1, h2] at h
        · simp [decE, h0, h1, h2] at h
          subst h
          have hne : x0 ≠ 0 := by omega
          simp only [rdE, Vint.intM_ok h0, Vint.intM_ok h1, Vint.intM_bad h2, intM_err hne, hne, false_and, if_false]
          exact ⟨rdK_bad _ _ _ _ _ hne, hne⟩
      | ok p2 =>
        obtain ⟨t, l3⟩ := p2
        cases h3 : Vint.dec l3 with
        | error x0 =>
          have hx := Vint.dec_err h3
          refine ⟨fun x r h => ?_, fun y h => ?_⟩
          · simp [decE, h0, h1, h2, h3] at h
          · simp [decE, h0, h1, h2, h3] at h
            subst h
            have hne : x0 ≠ 0 := by omega
            simp only [rdE, Vint.intM_ok h0, Vint.intM_ok h1, Vint.intM_ok h2, Vint.intM_bad h3, intM_err hne, hne, false_and, if_false]
            exact ⟨rdK_bad _ _ _ _ _ hne, hne⟩
        | ok p3 =>
          obtain ⟨k, l4⟩ := p3
          by_cases hk : 1 ≤ k ∧ k ≤ 3
          · cases h4 : Vint.dec l4 with
            | error x0 =>
              have hx := Vint.dec_err h4
              refine ⟨fun x r h => ?_, fun y h => ?_⟩
              · simp [decE, h0, h1, h2, h3, h4, hk] at h
              · simp [decE, h0, h1, h2, h3, h4, hk] at h
                subst h
                have hne : x0 ≠ 0 := by omega
                simp only [rdE, Vint.intM_ok h0, Vint.intM_ok h1, Vint.intM_ok h2, Vint.intM_ok h3, hk, and_self, not_true_eq_false, and_false, if_false, Vint.intM_bad h4]
                exact ⟨rdK_bad _ _ _ _ _ hne, hne⟩
            | ok p4 =>
              obtain ⟨w, l5⟩ := p4
              refine ⟨fun x r h => ?_, fun y h => ?_⟩
              · have h' : decK n q t k w l5 = .ok (x, r) := by simpa [decE, h0, h1, h2, h3, h4, hk] using h
                simp only [rdE, Vint.intM_ok h0, Vint.intM_ok h1, Vint.intM_ok h2, Vint.intM_ok h3, hk, and_self, not_true_eq_false, and_false, if_false, Vint.intM_ok h4]
                exact rdK_ok h'
              · have h' : decK n q t k w l5 = .error y := by simpa [decE, h0, h1, h2, h3, h4, hk] using h
                simp only [rdE, Vint.intM_ok h0, Vint.intM_ok h1, Vint.intM_ok h2, Vint.intM_ok h3, hk, and_self, not_true_eq_false, and_false, if_false, Vint.intM_ok h4]
                exact rdK_err h'
          · refine ⟨fun x r h => ?_, fun y h => ?_⟩
            · simp [decE, h0, h1, h2, h3, hk] at h
            · simp [decE, h0, h1, h2, h3, hk] at h
              subst h
              simp only [rdE, Vint.intM_ok h0, Vint.intM_ok h1, Vint.intM_ok h2, Vint.intM_ok h3, hk, not_false_eq_true, and_true, if_true, intM_err (show (4 : Nat) ≠ 0 by omega)]
              exact ⟨rdK_bad _ _ _ _ _ (by omega), by omega⟩
end Evt
/-- what Read of an event leaves -/
def ReadEv (w : World) (g : Nat) (A : Option Addr) (n c : Nat) (bs r0 : List UInt8) (e : Ending) (w' : World) : Prop :=
  ∃ A' m' c', e = .returned (.agg (ec (rdE r0).1 (.slice A' m' c'))) ∧ OwnD w' w.heap.size A' m' c' (rdE r0).1.l ∧ RSt w' g A n c bs (rdE r0).2.1 (rdE r0).2.2 ∧ w.grownBy w' (some g)
theorem stepsD {w : World} {ops : Array Oper} {o : Oper} {a : Act} {K : Act → World → Prop} {Q : Exit → Act → World → Prop} {E : Prop} (hgd : o.guard = none) (s x : Operand)
    (ho : o.op = .call { callee := .builtin .append, args := #[s, x], argTypes := #[26, 26] })
    {base : Nat} {A : Option Addr} {n c : Nat} {bs : List Dt} (hs : a.eval s = .slice A n c) (hown : OwnD w base A n c bs)
    {B : Nat} {D : Option Addr} {m d : Nat} {news : List Dt} (hx : a.eval x = .slice D m d) (hr : Rd w B D (dcs news)) (hm : m = news.length)
    (hbytes : n + m ≤ 1000000000000) (hbase : base ≤ w.heap.size)
    (h : ∀ A' c' w', OwnD w' base A' (n + m) c' (bs ++ news) → w.grownBy w' (A.map (·.block)) → Moved A' (A.map (·.block)) w.heap.size → Below base w w' →
      K (a.put o.dst (.slice A' (n + m) c')) w') :
    if Region.wanted o (yielded ops a.tmps) = true then Oper.wp Try.prog o a w K Q else E := by
  have hw : Region.wanted o (yielded ops a.tmps) = true := by simp [Region.wanted, hgd]
  rw [if_pos hw]
  obtain ⟨i0, hi, hz0, hz1, hz2⟩ := info_parts infoD
  have hob : (Value.slice A n c).ownBlock = A.map (·.block) := by cases A <;> rfl
  obtain ⟨v', w', hrun, h2, h3, h4⟩ := run_app (P := Try.prog) w base 26 o.type 23 i0 (.agg #[.int .i64 0, .int .i64 0]) 2 16 Try.underlying26 hi hz0 hz1 hz2 rfl (by decide) (.slice A n c) n _ hown.2 B D m d (dcs news) hr (by rw [dcs_len, hm]) (dcs_one _) (by unfold maxLen; omega) (by omega) hbase
  unfold Oper.wp execOp
  simp only [ho, resolve, invoke, builtin, Sem.run_bind, Sem.run_pure, Result.andThen_ok, List.map_toArray, List.map_cons, List.map_nil, hs, hx, hrun]
  have hv : ∃ A' c', v' = .slice A' (n + m) c' ∧ v'.ownBlock = A'.map (·.block) := by
    rcases h2.2 with ⟨rfl, h0⟩ | ⟨g, cap, cur, rfl, _⟩
    · exact ⟨none, 0, by rw [h0], rfl⟩
    · exact ⟨_, _, rfl, rfl⟩
  obtain ⟨A', c', rfl, hb⟩ := hv
  rw [hb] at h4
  rw [hob] at h3 h4
  exact h _ _ _ ⟨by rw [List.length_append, hown.1, hm], by rw [dcs_app]; exact h2⟩ h3 h4 ((Below.refl _ _).grown h3 hbase (fun g hg => (hown.lt g hg).1))
/-- while an event is read: the result's and the event's own memory, the reader -/
structure RdS (w0 : World) (g b : Nat) (A : Option Addr) (n c : Nat) (bs : List UInt8) (cs : Array Value) (r : List UInt8) (e : Nat) (w : World) : Prop where
  kz : Blk w b 28 (cT 0)
  kx : Blk w (b + 1) 28 cs
  R : RSt w g A n c bs r e
  gW : w0.grownBy w (some g)
section
variable {w0 w w' : World} {g b n c : Nat} {A : Option Addr} {bs r : List UInt8} {cs : Array Value} {e : Nat}
theorem RdS.after (h : RdS w0 g b A n c bs cs r e w) (hgb : g < b) {r' : List UInt8} {e' : Nat} (gg : w.grownBy w' (some g)) (R : RSt w' g A n c bs r' e') : RdS w0 g b A n c bs cs r' e' w' :=
  ⟨h.kz.grown gg (fun h => by injection h; omega), h.kx.grown gg (fun h => by injection h; omega), R, grown_trans h.gW gg⟩
theorem RdS.set_ (h : RdS w0 g b A n c bs cs r e w) (hgb : g < b) (hw : w0.heap.size ≤ b) (i : Nat) (v : Value) : RdS w0 g b A n c bs (cs.setIfInBounds i v) r e (w.setCell ⟨b + 1, i, none⟩ v) :=
  ⟨h.kz.far (p := ⟨b + 1, i, none⟩) (by show b ≠ b + 1; omega) v, h.kx.set_ i v, h.R.map fun _ _ k => k.far (p := ⟨b + 1, i, none⟩) (by show g ≠ b + 1; omega) v, only_new h.gW (p := ⟨b + 1, i, none⟩) (by show _ ≤ b + 1; omega) v⟩
theorem RdS.cs_ (h : RdS w0 g b A n c bs cs r e w) {cs' : Array Value} (hc : cs = cs') : RdS w0 g b A n c bs cs' r e w := hc ▸ h
end
set_option maxRecDepth 100000 in
set_option maxHeartbeats 4000000 in
theorem rread07_any (g : Nat) (A : Option Addr) (n c B : Nat) (bs r0 : List UInt8) (w : World) (hR : RSt w g A n c bs r0 0) (hb : RdB w B A n bs) (hB : B ≤ g) (hglt : g < w.heap.size) (hn : n ≤ 1000000000) :
    Calls Try.prog 46 #[.pointer (some ⟨g, 0, none⟩)] w (ReadEv w g A n c bs r0) := by
  have HBG := Lib.hid (hb.more hB)
  have HGL := Lib.hid hglt
  clear hb
  have HINT := Lib.hid (fun (r : List UInt8) (e : Nat) (w1 : World) (h : RSt w1 g A n c bs r e) (gW : w.grownBy w1 (some g)) => rint_m g A n c g bs r e w1 h (Rdr.only HBG.out gW HGL.out) hn)
  go_enter Try.func46, Try.ntmps46
  go_upto_region 2 with fail
  refine nameW ?_
  intro wv hwv
  obtain ⟨b, hbb⟩ : ∃ b, b = w.heap.size := ⟨_, rfl⟩
  rw [← hbb]
  have h0 : RdS w g b A n c bs (cT 0) r0 0 wv := by
    refine ⟨?_, ?_, ?_, ?_⟩
    · rw [hwv, hbb]; exact (Blk.new w _ _).alloc _
    · have h := Blk.new (w.alloc (.cells (cT 0) 28)) 28 (cT 0)
      rw [show (w.alloc (.cells (cT 0) 28)).heap.size = w.heap.size + 1 by simp] at h
      rw [hwv, hbb]
      exact h
    · rw [hwv]; exact hR.map (fun _ _ k => (k.alloc _).alloc _)
    · rw [hwv]; exact only_alloc (only_alloc (World.grownBy.refl _ _) _) _
  have HW := Lib.hid (show w.heap.size ≤ b ∧ g < b from by omega)
  clear hwv hbb hR hglt
  go_wp2_with fail
  refine (HINT.out _ _ _ h0.R h0.gW).mono ?_
  rintro e w1 ⟨rfl, gg, R1⟩
  obtain ⟨n1, r1, e1, hI⟩ : ∃ n1 r1 e1, Vint.intM r0 0 = (n1, r1, e1) := ⟨_, _, _, rfl⟩
  rw [hI] at R1 ⊢
  have HI0 := Lib.hid hI
  have h0' := h0.after HW.out.2 gg R1
  clear gg hI R1 h0
  have cc := h0'.kx.cell 0
  have fc := h0'.kx.free 0
  have h1 := (h0'.set_ HW.out.2 HW.out.1 0 (.int .i64 (n1 : Nat))).cs_ (cs' := #[.int .i64 (n1 : Nat), .int .i64 0, .int .i64 0, .int .i64 0, .int .i64 0, .int .i64 0, .int .i64 0, .int .i64 0, .int .i64 0, .int .i64 0, .int .i64 0, .int .i64 0, .int .i64 0, .slice none 0 0]) rfl
  clear h0'
  go_upto_region 3 with fail
  refine nameW ?_
  intro W1 hwn
  rw [← hwn] at h1
  clear hwn cc fc
  go_wp2_with fail
  refine (HINT.out _ _ _ h1.R h1.gW).mono ?_
  rintro e w2 ⟨rfl, gg, R2⟩
  obtain ⟨q, r2, e2, hI⟩ : ∃ q r2 e2, Vint.intM r1 e1 = (q, r2, e2) := ⟨_, _, _, rfl⟩
  rw [hI] at R2 ⊢
  have HI1 := Lib.hid hI
  have h1' := h1.after HW.out.2 gg R2
  clear gg hI R2 h1
  have cc := h1'.kx.cell 1
  have fc := h1'.kx.free 1
  have h2 := (h1'.set_ HW.out.2 HW.out.1 1 (.int .i64 (q : Nat))).cs_ (cs' := #[.int .i64 (n1 : Nat), .int .i64 (q : Nat), .int .i64 0, .int .i64 0, .int .i64 0, .int .i64 0, .int .i64 0, .int .i64 0, .int .i64 0, .int .i64 0, .int .i64 0, .int .i64 0, .int .i64 0, .slice none 0 0]) rfl
  clear h1'
  go_upto_region 4 with fail
  refine nameW ?_
  intro W2 hwn
  rw [← hwn] at h2
  clear hwn cc fc
  go_wp2_with fail
  refine (HINT.out _ _ _ h2.R h2.gW).mono ?_
  rintro e w3 ⟨rfl, gg, R3⟩
  obtain ⟨t, r3, e3, hI⟩ : ∃ t r3 e3, Vint.intM r2 e2 = (t, r3, e3) := ⟨_, _, _, rfl⟩
  rw [hI] at R3 ⊢
  have HI2 := Lib.hid hI
  have h2' := h2.after HW.out.2 gg R3
  clear gg hI R3 h2
  have cc := h2'.kx.cell 2
  have fc := h2'.kx.free 2
  have h3 := (h2'.set_ HW.out.2 HW.out.1 2 (.int .i64 (t : Nat))).cs_ (cs' := #[.int .i64 (n1 : Nat), .int .i64 (q : Nat), .int .i64 (t : Nat), .int .i64 0, .int .i64 0, .int .i64 0, .int .i64 0, .int .i64 0, .int .i64 0, .int .i64 0, .int .i64 0, .int .i64 0, .int .i64 0, .slice none 0 0]) rfl
  clear h2'
  go_upto_region 5 with fail
  refine nameW ?_
  intro W3 hwn
  rw [← hwn] at h3
  clear hwn cc fc
  go_wp2_with fail
  refine (HINT.out _ _ _ h3.R h3.gW).mono ?_
  rintro e w4 ⟨rfl, gg, R4⟩
  obtain ⟨k, r4, e4, hI⟩ : ∃ k r4 e4, Vint.intM r3 e3 = (k, r4, e4) := ⟨_, _, _, rfl⟩
  rw [hI] at R4 ⊢
  have HI3 := Lib.hid hI
  have h3' := h3.after HW.out.2 gg R4
  clear gg hI R4 h3
  have cc := h3'.kx.cell 3
  have fc := h3'.kx.free 3
  have h4 := (h3'.set_ HW.out.2 HW.out.1 3 (.int .i64 (k : Nat))).cs_ (cs' := #[.int .i64 (n1 : Nat), .int .i64 (q : Nat), .int .i64 (t : Nat), .int .i64 (k : Nat), .int .i64 0, .int .i64 0, .int .i64 0, .int .i64 0, .int .i64 0, .int .i64 0, .int .i64 0, .int .i64 0, .int .i64 0, .slice none 0 0]) rfl
  clear h3'
  go_upto_region 6 with fail
  refine nameW ?_
  intro W4 hwn
  rw [← hwn] at h4
  clear hwn cc fc
  obtain ⟨F, hF⟩ : ∃ F : Bool, F = decide (e4 = 0 ∧ ¬ (1 ≤ k ∧ k ≤ 3)) := ⟨_, rfl⟩
  have HF := Lib.hid hF
  clear hF
  go_cut [35] (fun f wx => f = .bool F ∧ W4 = wx)
  case first =>
    obtain ⟨at4, _, kR, _⟩ := h4.R
    have c2 : W4.cell? ⟨g, 2, none⟩ = some (.int .i64 (e4 : Nat)) := kR.cell 2
    have c3 : W4.cell? ⟨b + 1, 3, none⟩ = some (.int .i64 (k : Nat)) := h4.kx.cell 3
    by_cases he : e4 = 0
    · have hq : ((e4 : Int) == 0) = true := by rw [beq_iff_eq]; omega
      by_cases hk1 : 1 ≤ k
      · have d1 : decide ((k : Int) < 1) = false := decide_eq_false (by omega)
        by_cases hk2 : k ≤ 3
        · have d3 : decide ((3 : Int) < (k : Int)) = false := decide_eq_false (by omega)
          have hf : F = false := by rw [HF.out]; simp [hk1, hk2]
          subst hf
          clear he kR
          go_wp2_with fail
          go_meet
          exact ⟨rfl, rfl⟩
        · have d3 : decide ((3 : Int) < (k : Int)) = true := decide_eq_true (by omega)
          have hf : F = true := by rw [HF.out]; simp [he, hk2]
          subst hf
          clear he kR
          go_wp2_with fail
          go_meet
          exact ⟨rfl, rfl⟩
      · have d1 : decide ((k : Int) < 1) = true := decide_eq_true (by omega)
        have hf : F = true := by rw [HF.out]; simp [he, hk1]
        subst hf
        clear he kR
        go_wp2_with fail
        go_meet
        exact ⟨rfl, rfl⟩
    · have hq : ((e4 : Int) == 0) = false := by rw [beq_eq_false_iff_ne]; omega
      have hf : F = false := by rw [HF.out]; simp [he]
      subst hf
      clear he kR
      go_wp2_with fail
      go_meet
      exact ⟨rfl, rfl⟩
  case rest =>
  obtain ⟨rfl, rfl⟩ := hcut
  obtain ⟨f4, hf4⟩ : ∃ f4 : Nat, f4 = if e4 = 0 ∧ ¬ (1 ≤ k ∧ k ≤ 3) then 4 else e4 := ⟨_, rfl⟩
  have HF4 := Lib.hid hf4
  clear hf4
  go_upto_if 35 with fail
  go_cut [] (fun wx => RdS w g b A n c bs #[.int .i64 (n1 : Nat), .int .i64 (q : Nat), .int .i64 (t : Nat), .int .i64 (k : Nat), .int .i64 0, .int .i64 0, .int .i64 0, .int .i64 0, .int .i64 0, .int .i64 0, .int .i64 0, .int .i64 0, .int .i64 0, .slice none 0 0] r4 f4 wx)
  case first =>
    cases F
    case false =>
      have hf : f4 = e4 := by
        rw [HF4.out, if_neg]
        intro h
        have := HF.out
        rw [decide_eq_true h] at this
        cases this
      rw [← hf] at h4
      clear hf
      go_wp2_with fail
      go_meet
      exact h4
    case true =>
      have hf : f4 = 4 := by
        rw [HF4.out, if_pos (of_decide_eq_true HF.out.symm)]
      obtain ⟨kz, kx, ⟨at4, q1, kR, q2⟩, gW⟩ := h4
      have c2 : W4.cell? ⟨g, 2, none⟩ = some (.int .i64 (e4 : Nat)) := kR.cell 2
      have f2 := kR.free 2
      have hn5 : RdS w g b A n c bs #[.int .i64 (n1 : Nat), .int .i64 (q : Nat), .int .i64 (t : Nat), .int .i64 (k : Nat), .int .i64 0, .int .i64 0, .int .i64 0, .int .i64 0, .int .i64 0, .int .i64 0, .int .i64 0, .int .i64 0, .int .i64 0, .slice none 0 0] r4 4 (W4.setCell ⟨g, 2, none⟩ (.int .i64 4)) := ⟨kz.far (p := ⟨g, 2, none⟩) (by show b ≠ g; have := HW.out; omega) _, kx.far (p := ⟨g, 2, none⟩) (by show b + 1 ≠ g; have := HW.out; omega) _, ⟨at4, q1, kR.set_ 2 _, q2⟩, only_set gW _⟩
      have HN5 := Lib.hid hn5
      have HFF := Lib.hid hf
      clear hf hn5 kz kx kR gW
      go_wp2_with fail
      go_meet
      rw [HFF.out]
      exact HN5.out
  case rest =>
  have h4 := hcut
  clear hcut
  rename_i _ W4
  go_upto_region 8 with fail
  go_wp2_with fail
  refine (HINT.out _ _ _ h4.R h4.gW).mono ?_
  rintro e w5 ⟨rfl, gg, R5⟩
  obtain ⟨wk, r5, e5, hI⟩ : ∃ wk r5 e5, Vint.intM r4 f4 = (wk, r5, e5) := ⟨_, _, _, rfl⟩
  rw [hI] at R5 ⊢
  have HI4 := Lib.hid hI
  have h4' := h4.after HW.out.2 gg R5
  clear gg hI R5 h4
  have cc := h4'.kx.cell 4
  have fc := h4'.kx.free 4
  have h5 := (h4'.set_ HW.out.2 HW.out.1 4 (.int .i64 (wk : Nat))).cs_ (cs' := #[.int .i64 (n1 : Nat), .int .i64 (q : Nat), .int .i64 (t : Nat), .int .i64 (k : Nat), .int .i64 (wk : Nat), .int .i64 0, .int .i64 0, .int .i64 0, .int .i64 0, .int .i64 0, .int .i64 0, .int .i64 0, .int .i64 0, .slice none 0 0]) rfl
  clear h4'
  go_upto_region 9 with fail
  refine nameW ?_
  intro W5 hwn
  rw [← hwn] at h5
  clear hwn cc fc
  by_cases hk1 : k = 1
  · have hq1 : ((k : Int) == 1) = true := by rw [beq_iff_eq]; omega
    have HK1 := Lib.hid hk1
    clear hk1
    have cc := h5.kx.cell 3
    have c3 : W5.cell? ⟨b + 1, 3, none⟩ = some (.int .i64 (k : Nat)) := cc
    clear cc
    go_wp2_with fail
    clear c3
    refine (HINT.out _ _ _ h5.R h5.gW).mono ?_
    rintro e w6 ⟨rfl, gg, R6⟩
    obtain ⟨v, r6, e6, hI⟩ : ∃ v r6 e6, Vint.intM r5 e5 = (v, r6, e6) := ⟨_, _, _, rfl⟩
    rw [hI] at R6 ⊢
    have HI5 := Lib.hid hI
    have h5' := h5.after HW.out.2 gg R6
    clear gg hI R6 h5
    have cc := h5'.kx.cell 5
    have fc := h5'.kx.free 5
    have h6 := (h5'.set_ HW.out.2 HW.out.1 5 (.int .i64 (v : Nat))).cs_ (cs' := #[.int .i64 (n1 : Nat), .int .i64 (q : Nat), .int .i64 (t : Nat), .int .i64 (k : Nat), .int .i64 (wk : Nat), .int .i64 (v : Nat), .int .i64 0, .int .i64 0, .int .i64 0, .int .i64 0, .int .i64 0, .int .i64 0, .int .i64 0, .slice none 0 0]) rfl
    clear h5'
    go_upto_region 11 with fail
    refine nameW ?_
    intro W6 hwn
    rw [← hwn] at h6
    clear hwn cc fc
    have HE := Lib.hid (show rdE r0 = (⟨((n1 : Int), (q : Int)), (t : Nat), (k : Nat), (wk : Nat), (v : Nat), Evt.p0, []⟩, r6, e6) by
      have h1 := HF4.out
      simp only [rdE, HI0.out, HI1.out, HI2.out, HI3.out]
      rw [← h1, HI4.out, rdK_eq, if_pos HK1.out, HI5.out])
    obtain ⟨cz, hcz⟩ : ∃ cz : Array Value, cz = #[.int .i64 (n1 : Nat), .int .i64 (q : Nat), .int .i64 (t : Nat), .int .i64 (k : Nat), .int .i64 (wk : Nat), .int .i64 (v : Nat), .int .i64 0, .int .i64 0, .int .i64 0, .int .i64 0, .int .i64 0, .int .i64 0, .int .i64 0, .slice none 0 0] := ⟨_, rfl⟩
    have hf := h6.cs_ hcz.symm
    have SX := Lib.hid (show cz.size = 14 by rw [hcz]; rfl)
    have OX := Lib.hid (show cz.all (·.oneCell') = true by rw [hcz]; kernel_rfl)
    have SZ := Lib.hid (show (cT 0).size = 14 from rfl)
    have HCZ := Lib.hid hcz
    obtain ⟨kz, kx, hRf, gWf⟩ := hf
    clear hcz h6
    go_wp2_with first
      | ((with_reducible refine wpList_ld rowE kx SX.out ?_ ?_); rotate_left; (rfl))
      | ((with_reducible refine wpList_st rowE kz SX.out SZ.out OX.out ?_ ?_ ?_); rotate_left; (rfl); (rfl); intro w92 k92 g92 z92)
    have hR92 := hRf.map (fun _ _ k => k.grown g92 (fun h => by injection h; have := HW.out; omega))
    have gW92 := grown_on gWf g92 HW.out.1
    exact bodyPost_ret (v := .agg cz) (results_blk rfl rowE k92 SX.out rfl) rfl ⟨none, 0, 0, by rw [HE.out, HCZ.out]; rfl, by rw [HE.out]; exact OwnD.nil _ _, by rw [HE.out]; exact hR92, gW92⟩
  have hq1 : ((k : Int) == 1) = false := by rw [beq_eq_false_iff_ne]; omega
  have HK1 := Lib.hid hk1
  clear hk1
  have c3 : W5.cell? ⟨b + 1, 3, none⟩ = some (.int .i64 (k : Nat)) := h5.kx.cell 3
  obtain ⟨P, rP, eP, hP⟩ : ∃ P rP eP, (if k = 2 then rd7 r5 e5 else (Evt.p0, r5, e5)) = (P, rP, eP) := ⟨_, _, _, rfl⟩
  have HP := Lib.hid hP
  clear hP
  go_upto_if 51 with fail
  go_cut [] (fun wx => RdS w g b A n c bs #[.int .i64 (n1 : Nat), .int .i64 (q : Nat), .int .i64 (t : Nat), .int .i64 (k : Nat), .int .i64 (wk : Nat), .int .i64 0, .int .i64 (P.getD 0 0), .int .i64 (P.getD 1 0), .int .i64 (P.getD 2 0), .int .i64 (P.getD 3 0), .int .i64 (P.getD 4 0), .int .i64 (P.getD 5 0), .int .i64 (P.getD 6 0), .slice none 0 0] rP eP wx)
  case first =>
    by_cases hk2 : k = 2
    · have hq2 : ((k : Int) == 2) = true := by rw [beq_iff_eq]; omega
      have HK2 := Lib.hid hk2
      clear hk2
      go_wp2_with fail
      clear c3
      refine (HINT.out _ _ _ h5.R h5.gW).mono ?_
      rintro e w6 ⟨rfl, gg, R6⟩
      obtain ⟨y0, r6, e6, hI⟩ : ∃ y0 r6 e6, Vint.intM r5 e5 = (y0, r6, e6) := ⟨_, _, _, rfl⟩
      rw [hI] at R6 ⊢
      have HI5 := Lib.hid hI
      have h5' := h5.after HW.out.2 gg R6
      clear gg hI R6 h5
      have cc := h5'.kx.cell 6
      have fc := h5'.kx.free 6
      have h6 := (h5'.set_ HW.out.2 HW.out.1 6 (.int .i64 (y0 : Nat))).cs_ (cs' := #[.int .i64 (n1 : Nat), .int .i64 (q : Nat), .int .i64 (t : Nat), .int .i64 (k : Nat), .int .i64 (wk : Nat), .int .i64 0, .int .i64 (y0 : Nat), .int .i64 0, .int .i64 0, .int .i64 0, .int .i64 0, .int .i64 0, .int .i64 0, .slice none 0 0]) rfl
      clear h5'
      go_upto_region 14 with fail
      refine nameW ?_
      intro W6 hwn
      rw [← hwn] at h6
      clear hwn cc fc
      go_wp2_with fail
      refine (HINT.out _ _ _ h6.R h6.gW).mono ?_
      rintro e w7 ⟨rfl, gg, R7⟩
      obtain ⟨y1, r7, e7, hI⟩ : ∃ y1 r7 e7, Vint.intM r6 e6 = (y1, r7, e7) := ⟨_, _, _, rfl⟩
      rw [hI] at R7 ⊢
      have HI6 := Lib.hid hI
      have h6' := h6.after HW.out.2 gg R7
      clear gg hI R7 h6
      have cc := h6'.kx.cell 7
      have fc := h6'.kx.free 7
      have h7 := (h6'.set_ HW.out.2 HW.out.1 7 (.int .i64 (y1 : Nat))).cs_ (cs' := #[.int .i64 (n1 : Nat), .int .i64 (q : Nat), .int .i64 (t : Nat), .int .i64 (k : Nat), .int .i64 (wk : Nat), .int .i64 0, .int .i64 (y0 : Nat), .int .i64 (y1 : Nat), .int .i64 0, .int .i64 0, .int .i64 0, .int .i64 0, .int .i64 0, .slice none 0 0]) rfl
      clear h6'
      go_upto_region 15 with fail
      refine nameW ?_
      intro W7 hwn
      rw [← hwn] at h7
      clear hwn cc fc
      go_wp2_with fail
      refine (HINT.out _ _ _ h7.R h7.gW).mono ?_
      rintro e w8 ⟨rfl, gg, R8⟩
      obtain ⟨y2, r8, e8, hI⟩ : ∃ y2 r8 e8, Vint.intM r7 e7 = (y2, r8, e8) := ⟨_, _, _, rfl⟩
      rw [hI] at R8 ⊢
      have HI7 := Lib.hid hI
      have h7' := h7.after HW.out.2 gg R8
      clear gg hI R8 h7
      have cc := h7'.kx.cell 8
      have fc := h7'.kx.free 8
      have h8 := (h7'.set_ HW.out.2 HW.out.1 8 (.int .i64 (y2 : Nat))).cs_ (cs' := #[.int .i64 (n1 : Nat), .int .i64 (q : Nat), .int .i64 (t : Nat), .int .i64 (k : Nat), .int .i64 (wk : Nat), .int .i64 0, .int .i64 (y0 : Nat), .int .i64 (y1 : Nat), .int .i64 (y2 : Nat), .int .i64 0, .int .i64 0, .int .i64 0, .int .i64 0, .slice none 0 0]) rfl
      clear h7'
      go_upto_region 16 with fail
      refine nameW ?_
      intro W8 hwn
      rw [← hwn] at h8
      clear hwn cc fc
      go_wp2_with fail
      refine (HINT.out _ _ _ h8.R h8.gW).mono ?_
      rintro e w9 ⟨rfl, gg, R9⟩
      obtain ⟨y3, r9, e9, hI⟩ : ∃ y3 r9 e9, Vint.intM r8 e8 = (y3, r9, e9) := ⟨_, _, _, rfl⟩
      rw [hI] at R9 ⊢
      have HI8 := Lib.hid hI
      have h8' := h8.after HW.out.2 gg R9
      clear gg hI R9 h8
      have cc := h8'.kx.cell 9
      have fc := h8'.kx.free 9
      have h9 := (h8'.set_ HW.out.2 HW.out.1 9 (.int .i64 (y3 : Nat))).cs_ (cs' := #[.int .i64 (n1 : Nat), .int .i64 (q : Nat), .int .i64 (t : Nat), .int .i64 (k : Nat), .int .i64 (wk : Nat), .int .i64 0, .int .i64 (y0 : Nat), .int .i64 (y1 : Nat), .int .i64 (y2 : Nat), .int .i64 (y3 : Nat), .int .i64 0, .int .i64 0, .int .i64 0, .slice none 0 0]) rfl
      clear h8'
      go_upto_region 17 with fail
      refine nameW ?_
      intro W9 hwn
      rw [← hwn] at h9
      clear hwn cc fc
      go_wp2_with fail
      refine (HINT.out _ _ _ h9.R h9.gW).mono ?_
      rintro e w10 ⟨rfl, gg, R10⟩
      obtain ⟨y4, r10, e10, hI⟩ : ∃ y4 r10 e10, Vint.intM r9 e9 = (y4, r10, e10) := ⟨_, _, _, rfl⟩
      rw [hI] at R10 ⊢
      have HI9 := Lib.hid hI
      have h9' := h9.after HW.out.2 gg R10
      clear gg hI R10 h9
      have cc := h9'.kx.cell 10
      have fc := h9'.kx.free 10
      have h10 := (h9'.set_ HW.out.2 HW.out.1 10 (.int .i64 (y4 : Nat))).cs_ (cs' := #[.int .i64 (n1 : Nat), .int .i64 (q : Nat), .int .i64 (t : Nat), .int .i64 (k : Nat), .int .i64 (wk : Nat), .int .i64 0, .int .i64 (y0 : Nat), .int .i64 (y1 : Nat), .int .i64 (y2 : Nat), .int .i64 (y3 : Nat), .int .i64 (y4 : Nat), .int .i64 0, .int .i64 0, .slice none 0 0]) rfl
      clear h9'
      go_upto_region 18 with fail
      refine nameW ?_
      intro W10 hwn
      rw [← hwn] at h10
      clear hwn cc fc
      go_wp2_with fail
      refine (HINT.out _ _ _ h10.R h10.gW).mono ?_
      rintro e w11 ⟨rfl, gg, R11⟩
      obtain ⟨y5, r11, e11, hI⟩ : ∃ y5 r11 e11, Vint.intM r10 e10 = (y5, r11, e11) := ⟨_, _, _, rfl⟩
      rw [hI] at R11 ⊢
      have HI10 := Lib.hid hI
      have h10' := h10.after HW.out.2 gg R11
      clear gg hI R11 h10
      have cc := h10'.kx.cell 11
      have fc := h10'.kx.free 11
      have h11 := (h10'.set_ HW.out.2 HW.out.1 11 (.int .i64 (y5 : Nat))).cs_ (cs' := #[.int .i64 (n1 : Nat), .int .i64 (q : Nat), .int .i64 (t : Nat), .int .i64 (k : Nat), .int .i64 (wk : Nat), .int .i64 0, .int .i64 (y0 : Nat), .int .i64 (y1 : Nat), .int .i64 (y2 : Nat), .int .i64 (y3 : Nat), .int .i64 (y4 : Nat), .int .i64 (y5 : Nat), .int .i64 0, .slice none 0 0]) rfl
      clear h10'
      go_upto_region 19 with fail
      refine nameW ?_
      intro W11 hwn
      rw [← hwn] at h11
      clear hwn cc fc
      go_wp2_with fail
      refine (HINT.out _ _ _ h11.R h11.gW).mono ?_
      rintro e w12 ⟨rfl, gg, R12⟩
      obtain ⟨y6, r12, e12, hI⟩ : ∃ y6 r12 e12, Vint.intM r11 e11 = (y6, r12, e12) := ⟨_, _, _, rfl⟩
      rw [hI] at R12 ⊢
      have HI11 := Lib.hid hI
      have h11' := h11.after HW.out.2 gg R12
      clear gg hI R12 h11
      have cc := h11'.kx.cell 12
      have fc := h11'.kx.free 12
      have h12 := (h11'.set_ HW.out.2 HW.out.1 12 (.int .i64 (y6 : Nat))).cs_ (cs' := #[.int .i64 (n1 : Nat), .int .i64 (q : Nat), .int .i64 (t : Nat), .int .i64 (k : Nat), .int .i64 (wk : Nat), .int .i64 0, .int .i64 (y0 : Nat), .int .i64 (y1 : Nat), .int .i64 (y2 : Nat), .int .i64 (y3 : Nat), .int .i64 (y4 : Nat), .int .i64 (y5 : Nat), .int .i64 (y6 : Nat), .slice none 0 0]) rfl
      clear h11'
      have hp : P = [(y0 : Int), (y1 : Int), (y2 : Int), (y3 : Int), (y4 : Int), (y5 : Int), (y6 : Int)] ∧ rP = r12 ∧ eP = e12 := by
        have h := HP.out
        rw [if_pos HK2.out] at h
        simp only [rd7, rdN, HI5.out, HI6.out, HI7.out, HI8.out, HI9.out, HI10.out, HI11.out] at h
        injection h with h1 h2
        injection h2 with h2 h3
        exact ⟨h1.symm, h2.symm, h3.symm⟩
      have H12 := Lib.hid h12
      have HPP := Lib.hid hp
      clear h12 hp
      go_wp2_with fail
      go_meet
      obtain ⟨rfl, rfl, rfl⟩ := HPP.out
      exact H12.out
    · have hq2 : ((k : Int) == 2) = false := by rw [beq_eq_false_iff_ne]; omega
      have hp : P = Evt.p0 ∧ rP = r5 ∧ eP = e5 := by
        have h := HP.out
        rw [if_neg hk2] at h
        injection h with h1 h2
        injection h2 with h2 h3
        exact ⟨h1.symm, h2.symm, h3.symm⟩
      have HPP := Lib.hid hp
      clear hp hk2
      go_wp2_with fail
      go_meet
      obtain ⟨rfl, rfl, rfl⟩ := HPP.out
      exact h5
  case rest =>
  have hp := hcut
  clear hcut h5 c3
  rename_i _ W6
  go_upto_region 20 with fail
  go_wp2_with fail
  refine (HINT.out _ _ _ hp.R hp.gW).mono ?_
  rintro e w7 ⟨rfl, gg, R7⟩
  obtain ⟨m, r7, e7, hI⟩ : ∃ m r7 e7, Vint.intM rP eP = (m, r7, e7) := ⟨_, _, _, rfl⟩
  rw [hI] at R7 ⊢
  have HIM := Lib.hid hI
  have h7 := hp.after HW.out.2 gg R7
  obtain ⟨f7, hf7⟩ : ∃ f7 : Nat, f7 = if 96 < m then (if e7 = 0 then 6 else e7) else e7 := ⟨_, rfl⟩
  have HF7 := Lib.hid hf7
  have HMS := Lib.hid (show f7 = 0 → m ≤ 96 from fun h => by
    false_or_by_contra
    rw [hf7, if_pos (by omega)] at h
    split at h <;> omega)
  have hmb : m ≤ 1099511627776 := by
    have h := hI
    by_cases he : e7 = 0
    · subst he
      have := intM_good (l := rP) (e := eP) (by rw [h])
      rw [h] at this
      exact this.2.2
    · have := intM_small rP eP (by rw [h]; exact he)
      rw [h] at this
      simp only at this
      omega
  have HMB := Lib.hid hmb
  clear gg hI R7 hp hf7 hmb
  go_upto_if 83 with fail
  go_cut [] (fun wx => RdS w g b A n c bs #[.int .i64 (n1 : Nat), .int .i64 (q : Nat), .int .i64 (t : Nat), .int .i64 (k : Nat), .int .i64 (wk : Nat), .int .i64 0, .int .i64 (P.getD 0 0), .int .i64 (P.getD 1 0), .int .i64 (P.getD 2 0), .int .i64 (P.getD 3 0), .int .i64 (P.getD 4 0), .int .i64 (P.getD 5 0), .int .i64 (P.getD 6 0), .slice none 0 0] r7 f7 wx)
  case first =>
    by_cases hm : 96 < m
    · have hd : (96 : Int) < (m : Int) := by omega
      have hf : f7 = if e7 = 0 then 6 else e7 := by rw [HF7.out, if_pos hm]
      have HFF := Lib.hid hf
      clear hf hm
      go_wp2_with fail
      refine (rfail_m g 6 A n c bs r7 e7 _ h7.R).mono ?_
      rintro e w8 ⟨rfl, gg, R8⟩
      rw [← HFF.out] at R8
      have h8 := h7.after HW.out.2 gg R8
      clear gg R8
      go_wp2_with fail
      go_meet
      exact h8
    · have hd : (m : Int) ≤ 96 := by omega
      have hf : f7 = e7 := by rw [HF7.out, if_neg hm]
      rw [← hf] at h7
      clear hf hm
      go_wp2_with fail
      go_meet
      exact h7
  case rest =>
  have h8 := hcut
  clear hcut h7
  rename_i _ W8
  have HFIN := Lib.hid (show rdE r0 = (⟨((n1 : Int), (q : Int)), (t : Nat), (k : Nat), (wk : Nat), 0, P, (rdDD m r7 f7).1⟩, (rdDD m r7 f7).2) by
    have h1 := HF4.out
    have h2 := HP.out
    have h7 := HF7.out
    simp only [rdE, HI0.out, HI1.out, HI2.out, HI3.out]
    rw [← h1, HI4.out]
    simp only [rdK, if_neg HK1.out]
    by_cases hk2 : k = 2
    · rw [if_pos hk2] at h2
      simp only [if_pos hk2, h2, HIM.out]
      rw [← h7]
    · rw [if_neg hk2] at h2
      simp only [if_neg hk2]
      injection h2 with h3 h4
      injection h4 with h4 h5
      subst h3 h4 h5
      simp only [HIM.out]
      rw [← h7])
  go_upto_region 23 with fail
  go_wp2_with fail
  go_loopw [5] (fun i wr => ∃ (j : Nat) (Ad : Option Addr) (md cd : Nat), j ≤ m ∧ i = .int .i64 j ∧ RdS w g b A n c bs #[.int .i64 (n1 : Nat), .int .i64 (q : Nat), .int .i64 (t : Nat), .int .i64 (k : Nat), .int .i64 (wk : Nat), .int .i64 0, .int .i64 (P.getD 0 0), .int .i64 (P.getD 1 0), .int .i64 (P.getD 2 0), .int .i64 (P.getD 3 0), .int .i64 (P.getD 4 0), .int .i64 (P.getD 5 0), .int .i64 (P.getD 6 0), .slice Ad md cd] (rdDD j r7 f7).2.1 (rdDD j r7 f7).2.2 wr ∧ OwnD wr (b + 1 + 1) Ad md cd (rdDD j r7 f7).1 ∧ md ≤ j) (fun i _ => m - (intOf i).toNat)
  case atStart => exact ⟨0, none, 0, 0, by omega, rfl, h8, OwnD.nil _ _, by omega⟩
  case round =>
    clear h8
    obtain ⟨j, Ad, md, cd, hj, rfl, hs, ho, hmd⟩ := hrel
    have hst : (rdDD j r7 f7).2.2 = 0 → f7 = 0 ∧ rdDD (j + 1) r7 f7 = ((rdDD j r7 f7).1 ++ [(((Vint.intM (rdDD j r7 f7).2.1 0).1 : Int), ((Vint.intM (Vint.intM (rdDD j r7 f7).2.1 0).2.1 (Vint.intM (rdDD j r7 f7).2.1 0).2.2).1 : Int))], (Vint.intM (Vint.intM (rdDD j r7 f7).2.1 0).2.1 (Vint.intM (rdDD j r7 f7).2.1 0).2.2).2) := fun h => by
      refine ⟨?_, by rw [rdDD, if_pos h]⟩
      false_or_by_contra
      rename_i hne
      rw [rdDD_bad j r7 f7 hne] at h
      exact hne h
    have hfin : (j = m ∨ (rdDD j r7 f7).2.2 ≠ 0) → rdDD m r7 f7 = rdDD j r7 f7 := fun h => by
      rcases h with h | h
      · rw [h]
      · exact rdDD_stuck r7 f7 j h m hj
    generalize rdDD j r7 f7 = S at *
    obtain ⟨L, r8, e8⟩ := S
    simp only at hs ho hst hfin
    have HST := Lib.hid hst
    have HFN := Lib.hid hfin
    clear hst hfin
    obtain ⟨at8, _, kR, _⟩ := hs.R
    have c2 : wr.cell? ⟨g, 2, none⟩ = some (.int .i64 (e8 : Nat)) := kR.cell 2
    clear kR
    have hmb := HMB.out
    by_cases hgo : j < m ∧ e8 = 0
    case pos =>
      obtain ⟨hlt, rfl⟩ := hgo
      obtain ⟨hf0, hst⟩ := HST.out rfl
      have hm96 := HMS.out hf0
      have HST2 := Lib.hid hst
      have c2 : wr.cell? ⟨g, 2, none⟩ = some (.int .i64 0) := c2
      have hk1 : (j : Int) < (m : Int) := by omega
      clear HST HFN hst hf0
      go_wp2_with fail
      clear c2
      refine (HINT.out _ _ _ hs.R hs.gW).mono ?_
      rintro e w9 ⟨rfl, gg, R9⟩
      obtain ⟨x1, r9, e9, hI⟩ : ∃ x1 r9 e9, Vint.intM r8 0 = (x1, r9, e9) := ⟨_, _, _, rfl⟩
      rw [hI] at R9 ⊢
      have hst := HST2.out
      rw [hI] at hst
      have HST3 := Lib.hid hst
      have h9 := hs.after HW.out.2 gg R9
      have o9 := ho.grown gg (.inr (fun h => by have := (ho.lt g h).1; have := HW.out; omega))
      clear gg hI R9 hs ho HST2 hst
      go_upto_region 27 with fail
      obtain ⟨su, hsu⟩ : ∃ su : Array Value, su = #[.int .i64 (n1 : Nat), .int .i64 (q : Nat), .int .i64 (t : Nat), .int .i64 (k : Nat), .int .i64 (wk : Nat), .int .i64 0, .int .i64 (P.getD 0 0), .int .i64 (P.getD 1 0), .int .i64 (P.getD 2 0), .int .i64 (P.getD 3 0), .int .i64 (P.getD 4 0), .int .i64 (P.getD 5 0), .int .i64 (P.getD 6 0), .slice Ad md cd] := ⟨_, rfl⟩
      rw [← hsu] at h9
      have HU13 := Lib.hid (show su[13]? = some (.slice Ad md cd) by rw [hsu]; rfl)
      have HUS := Lib.hid (fun (A' : Option Addr) (m' c' : Nat) => (show su.setIfInBounds 13 (.slice A' m' c') = #[.int .i64 (n1 : Nat), .int .i64 (q : Nat), .int .i64 (t : Nat), .int .i64 (k : Nat), .int .i64 (wk : Nat), .int .i64 0, .int .i64 (P.getD 0 0), .int .i64 (P.getD 1 0), .int .i64 (P.getD 2 0), .int .i64 (P.getD 3 0), .int .i64 (P.getD 4 0), .int .i64 (P.getD 5 0), .int .i64 (P.getD 6 0), .slice A' m' c'] by rw [hsu]; rfl))
      clear hsu
      refine wp_region_C (fun w' => Blk w' (b + 1) 28 su) 7 (by kernel_rfl) ?_
      replace h9 : RdS w g b A n c bs su r9 e9 w9.drew := ⟨h9.kz, h9.kx, h9.R.map (fun _ _ q => q.drew), only_drew h9.gW⟩
      replace o9 := o9.drew
      generalize w9.drew = wd at *
      refine wpAnyC_pure (i := 0) (v := ?rv952) rfl (by kernel_rfl) (by kernel_rfl) (by kernel_rfl) (fun _ _ _ h => h) (by decide) (Or.inl ⟨by rfl, ?ry952⟩) (fun _ => (h9.kx)) ?_
      case ry952 => ((intro w; go_simp); (try with_reducible rfl))
      simp only [Act.put, List.getElem_toArray, List.getElem_cons_zero, List.getElem_cons_succ, List.setIfInBounds_toArray, List.set_cons_succ, List.set_cons_zero]
      refine wpAnyC_pure (i := 2) (v := ?rv955) rfl (by kernel_rfl) (by kernel_rfl) (by kernel_rfl) (fun _ _ _ h => h) (by decide) (Or.inl ⟨by rfl, ?ry955⟩) (fun _ => (h9.kx)) ?_
      case ry955 => ((intro w; go_simp); (try with_reducible rfl))
      simp only [Act.put, List.getElem_toArray, List.getElem_cons_zero, List.getElem_cons_succ, List.setIfInBounds_toArray, List.set_cons_succ, List.set_cons_zero]
      refine wpAnyC_pure (i := 3) (v := ?rv958) rfl (by kernel_rfl) (by kernel_rfl) (by kernel_rfl) (fun _ _ _ h => h) (by decide) (Or.inl ⟨by rfl, ?ry958⟩) (fun _ => (h9.kx)) ?_
      case ry958 => ((intro w; go_simp); (try with_reducible rfl))
      simp only [Act.put, List.getElem_toArray, List.getElem_cons_zero, List.getElem_cons_succ, List.setIfInBounds_toArray, List.set_cons_succ, List.set_cons_zero]
      refine wpAnyC_take (i := 1) (v := ?rv1) rfl (by kernel_rfl) (by kernel_rfl) (by kernel_rfl) (fun _ _ _ h => h) (by decide) (by kernel_rfl) (by kernel_rfl) (Or.inl ⟨by rfl, ?ry1⟩) h9.kx ?_
      case ry1 => (intro wS hSw; have c8 : wS.cell? ⟨b + 1, 13, none⟩ = some (.slice Ad md cd) := (hSw.cell 13).trans HU13.out; clear hSw; go_simp; (try with_reducible rfl))
      try simp only [Act.put, List.getElem_toArray, List.getElem_cons_zero, List.getElem_cons_succ, List.setIfInBounds_toArray, List.set_cons_succ, List.set_cons_zero]
      refine wpAnyC_ready (rs := [4]) (by kernel_rfl) (by simp) ?_
      refine AllReadyC.consS rfl (fun K hK => ?_) .nil
      go_simp
      refine (HINT.out _ _ _ h9.R h9.gW).mono ?_
      rintro e w10 ⟨rfl, gg, R10⟩
      obtain ⟨x2, r10, e10, hI⟩ : ∃ x2 r10 e10, Vint.intM r9 e9 = (x2, r10, e10) := ⟨_, _, _, rfl⟩
      rw [hI] at R10 ⊢
      have hst := HST3.out
      simp only [hI] at hst
      have HST4 := Lib.hid hst
      have h10 := h9.after HW.out.2 gg R10
      have o10 := o9.grown gg (.inr (fun h => by have := (o9.lt g h).1; have := HW.out; omega))
      refine hK.out _ _ h10.kx ?_
      clear hK K gg hI R10 h9 o9 HST3 hst
      try simp only [Act.put, List.getElem_toArray, List.getElem_cons_zero, List.getElem_cons_succ, List.setIfInBounds_toArray, List.set_cons_succ, List.set_cons_zero]
      refine wpAnyC_pure (i := 5) (v := ?rv979) rfl (by kernel_rfl) (by kernel_rfl) (by kernel_rfl) (fun _ _ _ h => h) (by decide) (Or.inl ⟨by rfl, ?ry979⟩) (fun _ => (h10.kx)) ?_
      case ry979 => ((intro w; go_simp); (try with_reducible rfl))
      simp only [Act.put, List.getElem_toArray, List.getElem_cons_zero, List.getElem_cons_succ, List.setIfInBounds_toArray, List.set_cons_succ, List.set_cons_zero]
      refine wpAnyC_ready (rs := [6]) (by kernel_rfl) (by simp) ?_
      refine AllReadyC.consS rfl (fun K hK => ?_) .nil
      go_simp
      have h11 : RdS w g b A n c bs su r10 e10 (w10.alloc (.cells #[.int .i64 (x1 : Nat), .int .i64 (x2 : Nat)] 23)) := ⟨h10.kz.alloc _, h10.kx.alloc _, h10.R.map (fun _ _ q => q.alloc _), only_alloc h10.gW _⟩
      have o11 := o10.alloc (.cells #[.int .i64 (x1 : Nat), .int .i64 (x2 : Nat)] 23)
      have rX := Rd.made w10 #[.int .i64 (x1 : Nat), .int .i64 (x2 : Nat)] 23 (0, 0)
      refine hK.out _ _ h11.kx ?_
      clear hK K h10 o10
      generalize w10.alloc (.cells #[.int .i64 (x1 : Nat), .int .i64 (x2 : Nat)] 23) = w11 at *
      generalize w10.heap.size = gx at *
      try simp only [Act.put, List.getElem_toArray, List.getElem_cons_zero, List.getElem_cons_succ, List.setIfInBounds_toArray, List.set_cons_succ, List.set_cons_zero]
      have hs11 : b + 1 < w11.heap.size := h11.kx.lt
      refine wpAnyC_ready (rs := [7]) (by kernel_rfl) (by simp) ?_
      refine AllReadyC.cons rfl (by kernel_rfl) (fun K hK => ?_) .nil
      refine stepsD rfl (.tmp 101) (.tmp 106) rfl (by rfl) o11 (by rfl) (m := 1) (news := [(((x1 : Nat) : Int), ((x2 : Nat) : Int))]) rX rfl (by omega) (by omega) ?_
      intro A8 c8' w12 o12 g12 m12 b12
      have h12 : RdS w g b A n c bs su r10 e10 w12 := ⟨h11.kz.grown g12 (own_ne o11.2 h11.kz (by decide)), h11.kx.grown g12 (own_ne o11.2 h11.kx (by decide)), h11.R.map (fun _ _ q => q.grown g12 (fun h => by have := (o11.lt g h).1; have := HW.out; omega)), only_below h11.gW (b12.mono (by have := HW.out; omega))⟩
      refine hK.out _ _ ?_
      clear hK K h11 o11 g12 m12 b12 rX
      try simp only [Act.put, List.getElem_toArray, List.getElem_cons_zero, List.getElem_cons_succ, List.setIfInBounds_toArray, List.set_cons_succ, List.set_cons_zero]
      refine wpAnyC_pure (i := 8) (v := ?rv8) rfl (by kernel_rfl) (by kernel_rfl) (by kernel_rfl) (fun _ _ _ h => h) (by decide) (Or.inl ⟨by rfl, ?ry8⟩) (fun h => absurd h (by decide)) ?_
      case ry8 => ((intro w; go_simp); (try with_reducible rfl))
      try simp only [Act.put, List.getElem_toArray, List.getElem_cons_zero, List.getElem_cons_succ, List.setIfInBounds_toArray, List.set_cons_succ, List.set_cons_zero]
      have c9 : w12.cell? ⟨b + 1, 13, none⟩ = some (.slice Ad md cd) := (h12.kx.cell 13).trans HU13.out
      have f9 := h12.kx.free 13
      have o13 := o12.setFar (p := ⟨b + 1, 13, none⟩) (own_ne o12.2 h12.kx (by decide)) (.slice A8 (md + 1) c8')
      have h13 := (h12.set_ HW.out.2 HW.out.1 13 (.slice A8 (md + 1) c8')).cs_ (HUS.out A8 (md + 1) c8')
      have H13 := Lib.hid h13
      have O13 := Lib.hid o13
      refine wpAnyC_ready (rs := [9]) (by kernel_rfl) (by simp) ?_
      refine AllReadyC.cons rfl (by kernel_rfl) (fun K hK => ?_) .nil
      clear h13 o13 h12 o12
      go_simp
      refine hK.out _ _ ?_
      clear hK K c9 f9
      refine wpAnyC_done (by kernel_rfl) ?_ _
      go_wp2_with fail
      go_roundw
      case rel => exact ⟨j + 1, A8, md + 1, c8', by omega, by go_num, by rw [HST4.out]; exact H13.out, by rw [HST4.out]; exact O13.out, by omega⟩
      case measure => simp [intOf]; omega
    case neg =>
      have hf2 := HFN.out (by omega)
      have hrl := HFIN.out
      rw [hf2] at hrl
      have HE := Lib.hid hrl
      clear HST HFN hf2 hrl HFIN
      obtain ⟨cz, hcz⟩ : ∃ cz : Array Value, cz = #[.int .i64 (n1 : Nat), .int .i64 (q : Nat), .int .i64 (t : Nat), .int .i64 (k : Nat), .int .i64 (wk : Nat), .int .i64 0, .int .i64 (P.getD 0 0), .int .i64 (P.getD 1 0), .int .i64 (P.getD 2 0), .int .i64 (P.getD 3 0), .int .i64 (P.getD 4 0), .int .i64 (P.getD 5 0), .int .i64 (P.getD 6 0), .slice Ad md cd] := ⟨_, rfl⟩
      have hf := hs.cs_ hcz.symm
      have SX := Lib.hid (show cz.size = 14 by rw [hcz]; rfl)
      have OX := Lib.hid (show cz.all (·.oneCell') = true by rw [hcz]; kernel_rfl)
      have SZ := Lib.hid (show (cT 0).size = 14 from rfl)
      have HCZ := Lib.hid hcz
      obtain ⟨kz, kx, hRf, gWf⟩ := hf
      clear hcz hs
      by_cases hlt : j < m
      case' pos =>
        have he1 : e8 ≠ 0 := fun h => hgo ⟨hlt, h⟩
        have hk1 : (j : Int) < (m : Int) := by omega
        have hq : (((e8 : Nat) : Int) == 0) = false := by rw [beq_eq_false_iff_ne]; omega
        clear hgo
        go_upto_region 28 with fail
        clear c2
      case' neg =>
        obtain rfl : j = m := by omega
        clear hgo
        go_upto_region 28 with fail
        clear c2
      all_goals
        go_wp2_with first
          | ((with_reducible refine wpList_ld rowE kx SX.out ?_ ?_); rotate_left; (rfl))
          | ((with_reducible refine wpList_st rowE kz SX.out SZ.out OX.out ?_ ?_ ?_); rotate_left; (rfl); (rfl); intro w92 k92 g92 z92)
        have hR92 := hRf.map (fun _ _ k => k.grown g92 (fun h => by injection h; have := HW.out; omega))
        have gW92 := grown_on gWf g92 HW.out.1
        have o92 := (ho.grown g92 (.inr (own_ne ho.2 kz (by decide)))).mono (base' := w.heap.size) (by have := HW.out; omega)
        exact bodyPost_ret (v := .agg cz) (results_blk rfl rowE k92 SX.out rfl) rfl ⟨Ad, md, cd, by rw [HE.out, HCZ.out]; rfl, by rw [HE.out]; exact o92, by rw [HE.out]; exact hR92, gW92⟩
end Go.Proofs.Ytiemlnomlfebkaa

/- Plain laws: the event of bytes; no program in sight. -/
import Derived.Test.YtiemlnomlfebkaaVintMath
import Derived.Test.YtiemlnomlfebkaaEvMath
namespace Go.Proofs.Ytiemlnomlfebkaa.Evt
set_option linter.unusedVariables false
set_option linter.unusedSimpArgs false
open Dot
/-- so many numbers, and the rest; or the error -/
def decs : Nat → List UInt8 → Except Nat (List Nat × List UInt8)
  | 0, l => .ok ([], l)
  | k + 1, l => match Vint.dec l with
    | .error x => .error x
    | .ok (n, r) => match decs k r with
      | .error x => .error x
      | .ok (ns, r') => .ok (n :: ns, r')
/-- so many dots, and the rest; or the error -/
def decD : Nat → List UInt8 → Except Nat (List Dt × List UInt8)
  | 0, l => .ok ([], l)
  | k + 1, l => match decD k l with
    | .error x => .error x
    | .ok (ds, r) => match Vint.dec r with
      | .error x => .error x
      | .ok (n, r1) => match Vint.dec r1 with
        | .error x => .error x
        | .ok (q, r2) => .ok (ds ++ [((n : Int), (q : Int))], r2)
/-- the dots that an event removes -/
def decL (l : List UInt8) : Except Nat (List Dt × List UInt8) :=
  match Vint.dec l with
  | .error x => .error x
  | .ok (m, r) => if 96 < m then .error 6 else decD m r
/-- what is behind an event's first five numbers -/
def decK (n q t k wk : Nat) (l : List UInt8) : Except Nat (Ev × List UInt8) :=
  if k = 1 then
    match Vint.dec l with
    | .error x => .error x
    | .ok (v, r) => .ok (⟨((n : Int), (q : Int)), t, k, wk, v, p0, []⟩, r)
  else if k = 2 then
    match decs 7 l with
    | .error x => .error x
    | .ok (p, r) => match decL r with
      | .error x => .error x
      | .ok (ds, r') => .ok (⟨((n : Int), (q : Int)), t, k, wk, 0, p.map fun x : Nat => (x : Int), ds⟩, r')
  else
    match decL l with
    | .error x => .error x
    | .ok (ds, r') => .ok (⟨((n : Int), (q : Int)), t, k, wk, 0, p0, ds⟩, r')
/-- an event's numbers, and the rest; or the error -/
def decE (l : List UInt8) : Except Nat (Ev × List UInt8) :=
  match Vint.dec l with
  | .error x => .error x
  | .ok (n, l1) => match Vint.dec l1 with
    | .error x => .error x
    | .ok (q, l2) => match Vint.dec l2 with
      | .error x => .error x
      | .ok (t, l3) => match Vint.dec l3 with
        | .error x => .error x
        | .ok (k, l4) => if 1 ≤ k ∧ k ≤ 3 then
            match Vint.dec l4 with
            | .error x => .error x
            | .ok (wk, l5) => decK n q t k wk l5
          else .error 4
theorem decs_len : ∀ (k : Nat) (l : List UInt8) (ns : List Nat) (r : List UInt8), decs k l = .ok (ns, r) → ns.length = k := by
  intro k
  induction k with
  | zero => intro l ns r h; simp [decs] at h; rw [h.1]; rfl
  | succ k ih =>
    intro l ns r h
    unfold decs at h
    split at h
    · cases h
    · split at h
      · cases h
      · rename_i h2
        injection h with h
        injection h with h _
        rw [← h, List.length_cons, ih _ _ _ h2]
theorem decs_suf : ∀ (k : Nat) (l : List UInt8) (ns : List Nat) (r : List UInt8), decs k l = .ok (ns, r) → l = ns.flatMap Vint.enc ++ r ∧ ∀ n ∈ ns, n ≤ Vint.top := by
  intro k
  induction k with
  | zero => intro l ns r h; simp [decs] at h; obtain ⟨rfl, rfl⟩ := h; exact ⟨rfl, by simp⟩
  | succ k ih =>
    intro l ns r h
    unfold decs at h
    split at h
    · cases h
    · rename_i n r1 h1
      split at h
      · cases h
      · rename_i ns' r' h2
        injection h with h
        injection h with h h'
        subst h h'
        obtain ⟨e1, e2⟩ := Vint.dec_ok h1
        obtain ⟨e3, e4⟩ := ih _ _ _ h2
        refine ⟨by rw [e1, e3]; simp, fun x hx => ?_⟩
        rcases List.mem_cons.1 hx with rfl | hx
        · exact e2
        · exact e4 x hx
theorem decs_enc : ∀ (ns : List Nat) (r : List UInt8), (∀ n ∈ ns, n ≤ Vint.top) → decs ns.length (ns.flatMap Vint.enc ++ r) = .ok (ns, r) := by
  intro ns
  induction ns with
  | nil => intro r _; rfl
  | cons n ns ih =>
    intro r h
    rw [List.length_cons, decs, List.flatMap_cons, List.append_assoc, Vint.dec_enc (h n (by simp))]
    simp only [ih r fun x hx => h x (by simp [hx])]
theorem decD_err {k : Nat} {l : List UInt8} {x : Nat} (h : decD k l = .error x) : ∀ m, k ≤ m → decD m l = .error x := by
  intro m
  induction m with
  | zero => intro hk; obtain rfl : k = 0 := by omega
            exact h
  | succ m ih =>
    intro hk
    by_cases e : k = m + 1
    · rw [← e]; exact h
    · rw [decD, ih (by omega)]
theorem decD_len : ∀ (k : Nat) (l : List UInt8) (ds : List Dt) (r : List UInt8), decD k l = .ok (ds, r) → ds.length = k := by
  intro k
  induction k with
  | zero => intro l ds r h; simp [decD] at h; rw [h.1]; rfl
  | succ k ih =>
    intro l ds r h
    unfold decD at h
    split at h
    · cases h
    · rename_i h1
      split at h
      · cases h
      · split at h
        · cases h
        · injection h with h
          injection h with h _
          rw [← h, List.length_append, ih _ _ _ h1]
          rfl
/-- dots' bytes -/
def encD (l : List Dt) : List UInt8 := l.flatMap fun d => Vint.enc d.1.toNat ++ Vint.enc d.2.toNat
theorem decD_suf : ∀ (k : Nat) (l : List UInt8) (ds : List Dt) (r : List UInt8), decD k l = .ok (ds, r) → l = encD ds ++ r ∧ ∀ d ∈ ds, (0 ≤ d.1 ∧ d.1 ≤ top) ∧ 0 ≤ d.2 ∧ d.2 ≤ top := by
  intro k
  induction k with
  | zero => intro l ds r h; simp [decD] at h; obtain ⟨rfl, rfl⟩ := h; exact ⟨rfl, by simp⟩
  | succ k ih =>
    intro l ds r h
    unfold decD at h
    split at h
    · cases h
    · rename_i ds' r' h0
      split at h
      · cases h
      · rename_i n r1 h1
        split at h
        · cases h
        · rename_i q r2 h2
          injection h with h
          injection h with h h'
          subst h h'
          obtain ⟨e1, e2⟩ := Vint.dec_ok h1
          obtain ⟨e3, e4⟩ := Vint.dec_ok h2
          obtain ⟨e5, e6⟩ := ih _ _ _ h0
          have t1 : Vint.top = 1099511627776 := rfl
          have t2 : top = 1099511627776 := rfl
          refine ⟨by rw [e5, e1, e3]; simp [encD], fun d hd => ?_⟩
          rcases List.mem_append.1 hd with hd | hd
          · exact e6 d hd
          · simp at hd
            subst hd
            simp only
            omega
theorem decD_enc (l : List Dt) (h : ∀ d ∈ l, (0 ≤ d.1 ∧ d.1 ≤ top) ∧ 0 ≤ d.2 ∧ d.2 ≤ top) : ∀ k, k ≤ l.length → ∀ r, decD k (encD (l.take k) ++ r) = .ok (l.take k, r) := by
  intro k
  induction k with
  | zero => intro _ r; rfl
  | succ k ih =>
    intro hk r
    have hkl : k < l.length := by omega
    have hd := h _ (List.getElem_mem hkl)
    have t1 : Vint.top = 1099511627776 := rfl
    have t2 : top = 1099511627776 := rfl
    have ht : l.take (k + 1) = l.take k ++ [l[k]] := List.take_succ_eq_append_getElem hkl
    have h1 := ih (by omega) (Vint.enc l[k].1.toNat ++ (Vint.enc l[k].2.toNat ++ r))
    have e : encD (l.take (k + 1)) ++ r = encD (l.take k) ++ (Vint.enc l[k].1.toNat ++ (Vint.enc l[k].2.toNat ++ r)) := by rw [ht]; simp only [encD, List.flatMap_append, List.flatMap_cons, List.flatMap_nil, List.append_nil, List.append_assoc]
    rw [e, decD, h1]
    simp only [Vint.dec_enc (show l[k].1.toNat ≤ Vint.top by omega), Vint.dec_enc (show l[k].2.toNat ≤ Vint.top by omega)]
    rw [ht]
    have e1 : ((l[k].1.toNat : Nat) : Int) = l[k].1 := by omega
    have e2 : ((l[k].2.toNat : Nat) : Int) = l[k].2 := by omega
    rw [e1, e2]
theorem decL_enc (l : List Dt) (hl : l.length ≤ 96) (h : ∀ d ∈ l, (0 ≤ d.1 ∧ d.1 ≤ top) ∧ 0 ≤ d.2 ∧ d.2 ≤ top) (r : List UInt8) : decL (Vint.enc l.length ++ (encD l ++ r)) = .ok (l, r) := by
  have t1 : Vint.top = 1099511627776 := rfl
  unfold decL
  rw [Vint.dec_enc (by omega)]
  simp only
  rw [if_neg (by omega)]
  have := decD_enc l h l.length (Nat.le_refl _) r
  rwa [List.take_length] at this
theorem decL_suf {l : List UInt8} {ds : List Dt} {r : List UInt8} (h : decL l = .ok (ds, r)) : l = Vint.enc ds.length ++ (encD ds ++ r) ∧ ds.length ≤ 96 ∧ ∀ d ∈ ds, (0 ≤ d.1 ∧ d.1 ≤ top) ∧ 0 ≤ d.2 ∧ d.2 ≤ top := by
  unfold decL at h
  split at h
  · cases h
  · rename_i m r1 h1
    split at h
    · cases h
    · rename_i hm
      obtain ⟨e1, _⟩ := Vint.dec_ok h1
      obtain ⟨e3, e4⟩ := decD_suf _ _ _ _ h
      have e5 := decD_len _ _ _ _ h
      subst e5
      exact ⟨by rw [e1, e3], by omega, e4⟩
end Go.Proofs.Ytiemlnomlfebkaa.Evt

/- Plain laws: the closed set of what there is is right, and has just that; how many there are in the one or the other. -/
import Derived.Test.YtacmdkjodnaohaaDotLessF
namespace Go.Proofs.Ytacmdkjodnaohaa
open Dot
namespace Dot
theorem lead_mono (r : Nat → Bool) (Q : Nat) : lead r Q ≤ lead r (Q + 1) := by
  have := lead_le r Q
  rw [lead]
  split <;> omega
theorem lead_all {r : Nat → Bool} : ∀ (Q q : Nat), 1 ≤ q → q ≤ lead r Q → r q = true := by
  intro Q
  induction Q with
  | zero => intro q h1 h2; simp [lead] at h2; omega
  | succ Q ih =>
    intro q h1 h2
    rw [lead] at h2
    by_cases h : r Q = true ∧ Q = lead r Q + 1
    · rw [if_pos h] at h2
      by_cases e : q = Q
      · rw [e]; exact h.1
      · exact ih q h1 (by omega)
    · rw [if_neg h] at h2
      exact ih q h1 h2
theorem rest_mem {r : Nat → Bool} (h0 : r 0 = false) : ∀ (Q q : Nat), q ∈ rest r Q → r q = true ∧ q < Q ∧ lead r Q + 2 ≤ q := by
  intro Q
  induction Q with
  | zero => intro q h; simp [rest] at h
  | succ Q ih =>
    intro q h
    rw [rest] at h
    have hl := lead_le r Q
    by_cases hc : r Q = true ∧ Q ≠ lead r Q + 1
    · rw [if_pos hc] at h
      have hl2 : lead r (Q + 1) = lead r Q := by rw [lead, if_neg (fun h => hc.2 h.2)]
      rw [hl2]
      rcases List.mem_append.1 h with h | h
      · have := ih q h
        exact ⟨this.1, by omega, this.2.2⟩
      · simp at h
        subst h
        refine ⟨hc.1, by omega, ?_⟩
        have : q ≠ 0 := fun e => by rw [e, h0] at hc; simp at hc
        omega
    · rw [if_neg hc] at h
      have := ih q h
      refine ⟨this.1, by omega, ?_⟩
      rw [lead]
      split
      · omega
      · exact this.2.2
theorem rest_has {r : Nat → Bool} : ∀ (Q q : Nat), r q = true → q < Q → q ≤ lead r Q ∨ q ∈ rest r Q := by
  intro Q
  induction Q with
  | zero => intro q _ h; omega
  | succ Q ih =>
    intro q hr hq
    by_cases e : q = Q
    · subst e
      by_cases hc : q = lead r q + 1
      · left
        rw [lead, if_pos ⟨hr, hc⟩]
        exact Nat.le_refl _
      · right
        rw [rest, if_pos ⟨hr, hc⟩]
        simp
    · rcases ih q hr (by omega) with h | h
      · exact .inl (Nat.le_trans h (lead_mono r Q))
      · right
        rw [rest]
        split
        · exact List.mem_append_left _ h
        · exact h
theorem rest_sorted {r : Nat → Bool} (h0 : r 0 = false) : ∀ Q, (rest r Q).Pairwise (· < ·) := by
  intro Q
  induction Q with
  | zero => simp [rest]
  | succ Q ih =>
    rw [rest]
    split
    · rw [List.pairwise_append]
      refine ⟨ih, by simp, fun a ha b hb => ?_⟩
      simp at hb
      subst hb
      exact (rest_mem h0 _ a ha).2.1
    · exact ih
theorem rest_len2 {r : Nat → Bool} (h0 : r 0 = false) : ∀ Q, (rest r (Q + 1)).length ≤ Q := by
  intro Q
  induction Q with
  | zero => simp [rest, h0]
  | succ Q ih =>
    rw [rest]
    split <;> (try simp only [List.length_append, List.length_cons, List.length_nil]) <;> omega
theorem mem_moreTo (G : Grid) (d : Dt) : ∀ N, d ∈ moreTo G N ↔ ∃ n q, n < N ∧ q ∈ rest (G n) 98 ∧ d = ((n : Int), (q : Int)) := by
  intro N
  induction N with
  | zero => simp [moreTo]
  | succ N ih =>
    rw [moreTo, List.mem_append, ih]
    unfold numb
    rw [List.mem_map]
    constructor
    · rintro (⟨n, q, h1, h2, h3⟩ | ⟨q, h1, h2⟩)
      · exact ⟨n, q, by omega, h2, h3⟩
      · exact ⟨N, q, by omega, h1, h2.symm⟩
    · rintro ⟨n, q, h1, h2, h3⟩
      by_cases e : n = N
      · subst e; exact .inr ⟨q, h2, h3.symm⟩
      · exact .inl ⟨n, q, by omega, h2, h3⟩
theorem in_zero {G : Grid} (h : InG G) (n : Nat) : G n 0 = false := by
  rw [← Bool.not_eq_true]
  intro e
  have := h n 0 e
  omega
theorem more_sorted {G : Grid} (h : InG G) : ∀ N, (moreTo G N).Pairwise (fun a b => befB a b = true) := by
  intro N
  induction N with
  | zero => simp [moreTo]
  | succ N ih =>
    rw [moreTo, List.pairwise_append]
    refine ⟨ih, ?_, fun a ha b hb => ?_⟩
    · unfold numb
      rw [List.pairwise_map]
      refine (rest_sorted (in_zero h N) 98).imp fun hab => ?_
      unfold befB
      simp
      omega
    · obtain ⟨n, q, h1, _, rfl⟩ := (mem_moreTo G a N).1 ha
      unfold numb at hb
      obtain ⟨p, _, rfl⟩ := List.mem_map.1 hb
      unfold befB
      simp
      omega
theorem more_len2 {G : Grid} (h : InG G) : ∀ N, (moreTo G N).length ≤ N * 96 := by
  intro N
  induction N with
  | zero => simp [moreTo]
  | succ N ih =>
    have h97 : G N 97 = false := by
      rw [← Bool.not_eq_true]
      intro e
      have := h N 97 e
      omega
    have h1 : rest (G N) 98 = rest (G N) 97 := by
      rw [show (98 : Nat) = 97 + 1 from rfl, rest, if_neg (by rw [h97]; simp)]
    have h2 : (rest (G N) 97).length ≤ 96 := rest_len2 (in_zero h N) 96
    rw [moreTo, List.length_append, numb_len, h1]
    omega
theorem upto_get (G : Grid) {n : Nat} (hn : n < 8) : (uptoS G).getD n 0 = (lead (G n) 98 : Int) := by
  unfold uptoS
  rw [List.getD_eq_getElem?_getD, List.getElem?_map, List.getElem?_range hn]
  rfl
theorem lead_le96 {G : Grid} (h : InG G) (n : Nat) : lead (G n) 98 ≤ 96 := by
  by_cases e : lead (G n) 98 = 0
  · omega
  · have := lead_all (r := G n) 98 (lead (G n) 98) (by omega) (Nat.le_refl _)
    exact (h n _ this).2.2
theorem right_closed {G : Grid} (h : InG G) : rightB (uptoS G) (moreS G) = true := by
  rw [right_iff]
  refine ⟨?_, by have := more_len2 h 8; unfold moreS; omega, fun i hi => ?_⟩
  · rw [List.all_eq_true]
    intro x hx
    unfold uptoS at hx
    obtain ⟨n, _, rfl⟩ := List.mem_map.1 hx
    have := lead_le96 h n
    rw [numOk_iff]
    omega
  · have hg : (moreS G).getD i (0, 0) = (moreS G)[i] := by rw [List.getD_eq_getElem?_getD, List.getElem?_eq_getElem hi]; rfl
    obtain ⟨n, q, h1, h2, h3⟩ := (mem_moreTo G (moreS G)[i] 8).1 (List.getElem_mem hi)
    have h4 := rest_mem (in_zero h n) 98 q h2
    have h5 := h n q h4.1
    unfold goodAt
    rw [hg, h3]
    simp only [Bool.and_eq_true, Bool.or_eq_true, decide_eq_true_eq]
    refine ⟨⟨(may_iff _).2 (by simp only; omega), ?_⟩, ?_⟩
    · rw [Int.toNat_natCast, upto_get G h1]
      omega
    · by_cases e : i = 0
      · exact .inl e
      · right
        have hp := List.pairwise_iff_getElem.1 (more_sorted h 8) (i - 1) i (by show i - 1 < (moreS G).length; omega) hi (by omega)
        have hg2 : (moreS G).getD (i - 1) (0, 0) = (moreS G)[i - 1] := by rw [List.getD_eq_getElem?_getD, List.getElem?_eq_getElem (by omega)]; rfl
        rw [hg2, ← h3]
        exact hp
theorem has_closed {G : Grid} (h : InG G) : hasG (uptoS G) (moreS G) = G := by
  funext n q
  unfold hasG
  rw [right_closed h, Bool.true_and, Bool.eq_iff_iff]
  simp only [Bool.and_eq_true, Bool.or_eq_true, decide_eq_true_eq, List.contains_iff_mem]
  constructor
  · rintro ⟨⟨⟨h1, h2⟩, h3⟩, h4⟩
    rw [upto_get G h1] at h4
    rcases h4 with h4 | h4
    · exact lead_all 98 q h2 (by omega)
    · obtain ⟨m, p, _, h6, h7⟩ := (mem_moreTo G _ 8).1 h4
      simp only [Prod.mk.injEq, Int.natCast_inj] at h7
      obtain ⟨rfl, rfl⟩ := h7
      exact (rest_mem (in_zero h n) 98 q h6).1
  · intro hg
    obtain ⟨h1, h2, h3⟩ := h n q hg
    refine ⟨⟨⟨h1, h2⟩, h3⟩, ?_⟩
    rw [upto_get G h1]
    rcases rest_has (r := G n) 98 q hg (by omega) with h4 | h4
    · exact .inl (by omega)
    · exact .inr ((mem_moreTo G _ 8).2 ⟨n, q, h1, h4, rfl⟩)
theorem has_may (U : List Int) (l : List Dt) (d : Dt) : hasB U l d = true → mayB d = true := fun h => by
  unfold hasB at h
  simp only [Bool.and_eq_true] at h
  exact h.1
theorem orG_comm (g h : Grid) : orG g h = orG h g := by funext n q; exact Bool.or_comm _ _
theorem orG_assoc (g h k : Grid) : orG (orG g h) k = orG g (orG h k) := by funext n q; exact Bool.or_assoc _ _ _
theorem orG_self (g : Grid) : orG g g = g := by funext n q; exact Bool.or_self _
theorem orG_left (g h : Grid) : orG (orG g h) g = orG g h := by rw [orG_comm (orG g h) g, ← orG_assoc, orG_self]
end Dot
theorem rowTo_or (X Y : Grid) (n : Nat) : ∀ Q, (rowTo (orG X Y) n Q).length = (rowTo X n Q).length + (fltG X (rowTo Y n Q)).length := by
  intro Q
  induction Q with
  | zero => simp [rowTo, fltG]
  | succ Q ih =>
    unfold fltG at ih ⊢
    rw [rowTo, rowTo, rowTo]
    have ho : orG X Y n Q = (X n Q || Y n Q) := rfl
    have hi : isG X ((n : Int), (Q : Int)) = X n Q := rfl
    cases hx : X n Q <;> cases hy : Y n Q <;> simp [ho, hx, hy, hi, List.filter_append, ih] <;> omega
theorem dots_or (X Y : Grid) : ∀ N, (dotsTo (orG X Y) N).length = (dotsTo X N).length + (fltG X (dotsTo Y N)).length := by
  intro N
  induction N with
  | zero => simp [dotsTo, fltG]
  | succ N ih =>
    have h := rowTo_or X Y N 98
    unfold fltG at ih h ⊢
    rw [dotsTo, dotsTo, dotsTo, List.filter_append]
    simp only [List.length_append]
    omega
theorem has_or (X Y : Grid) (hX : InG X) (hY : InG Y) (d : Dt) : hasB (uptoS (orG X Y)) (moreS (orG X Y)) d = (mayB d && (X d.1.toNat d.2.toNat || Y d.1.toNat d.2.toNat)) := by
  unfold hasB
  rw [has_closed (orG_in hX hY)]
  rfl
end Go.Proofs.Ytacmdkjodnaohaa

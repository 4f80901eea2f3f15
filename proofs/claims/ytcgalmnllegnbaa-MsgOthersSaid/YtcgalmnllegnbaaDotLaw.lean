/- Plain laws: the dots of what there is are what there is. -/
import Derived.Test.YtcgalmnllegnbaaDotMath
namespace Go.Proofs.Ytcgalmnllegnbaa.Dot
set_option linter.unusedVariables false
set_option linter.unusedSimpArgs false
set_option maxRecDepth 100000
/-- all that there is may be -/
def InG (G : Grid) : Prop := ∀ n q, G n q = true → n < 8 ∧ 1 ≤ q ∧ q ≤ 96
theorem hasG_in (U : List Int) (l : List Dt) : InG (hasG U l) := fun n q h => by
  unfold hasG at h
  simp only [Bool.and_eq_true, decide_eq_true_eq] at h
  exact ⟨h.1.1.1.2, h.1.1.2, h.1.2⟩
theorem noG_in : InG noG := fun n q h => by cases h
theorem putG_in {G : Grid} (h : InG G) {d : Dt} (hd : mayB d = true) : InG (putG G d) := fun n q h2 => by
  have := (may_iff d).1 hd
  unfold putG at h2
  simp only [Bool.or_eq_true, Bool.and_eq_true, decide_eq_true_eq] at h2
  rcases h2 with h2 | h2
  · exact h n q h2
  · omega
theorem orG_in {G H : Grid} (h : InG G) (h' : InG H) : InG (orG G H) := fun n q h2 => by
  unfold orG at h2
  simp only [Bool.or_eq_true] at h2
  rcases h2 with h2 | h2
  · exact h n q h2
  · exact h' n q h2
theorem mem_rowTo (g : Grid) (n : Nat) (d : Dt) : ∀ Q, d ∈ rowTo g n Q ↔ ∃ q, q < Q ∧ g n q = true ∧ d = ((n : Int), (q : Int)) := by
  intro Q
  induction Q with
  | zero => simp [rowTo]
  | succ Q ih =>
    rw [rowTo]
    by_cases h : g n Q = true
    · rw [if_pos h, List.mem_append, ih, List.mem_singleton]
      constructor
      · rintro (⟨q, h1, h2⟩ | h1)
        · exact ⟨q, by omega, h2⟩
        · exact ⟨Q, by omega, h, h1⟩
      · rintro ⟨q, h1, h2, h3⟩
        by_cases e : q = Q
        · subst e; exact .inr h3
        · exact .inl ⟨q, by omega, h2, h3⟩
    · rw [if_neg h, ih]
      constructor
      · rintro ⟨q, h1, h2⟩
        exact ⟨q, by omega, h2⟩
      · rintro ⟨q, h1, h2, h3⟩
        refine ⟨q, ?_, h2, h3⟩
        by_cases e : q = Q
        · subst e; exact absurd h2 h
        · omega
theorem mem_dotsTo (g : Grid) (d : Dt) : ∀ N, d ∈ dotsTo g N ↔ ∃ n q, n < N ∧ q < 98 ∧ g n q = true ∧ d = ((n : Int), (q : Int)) := by
  intro N
  induction N with
  | zero => simp [dotsTo]
  | succ N ih =>
    rw [dotsTo, List.mem_append, ih, mem_rowTo]
    constructor
    · rintro (⟨n, q, h1, h2⟩ | ⟨q, h1, h2, h3⟩)
      · exact ⟨n, q, by omega, h2⟩
      · exact ⟨N, q, by omega, h1, h2, h3⟩
    · rintro ⟨n, q, h1, h2, h3, h4⟩
      by_cases e : n = N
      · subst e; exact .inr ⟨q, h2, h3, h4⟩
      · exact .inl ⟨n, q, by omega, h2, h3, h4⟩
theorem listG_dots {G : Grid} (h : InG G) : listG (dotsS G) = G := by
  funext n q
  rw [Bool.eq_iff_iff]
  unfold listG dotsS
  rw [List.any_eq_true]
  simp only [Bool.and_eq_true, decide_eq_true_eq]
  constructor
  · rintro ⟨d, h1, ⟨h2, h3⟩, h4⟩
    obtain ⟨m, p, h5, h6, h7, rfl⟩ := (mem_dotsTo G d 8).1 h1
    simp only at h3 h4
    obtain rfl : m = n := by omega
    obtain rfl : p = q := by omega
    exact h7
  · intro h1
    obtain ⟨k1, k2, k3⟩ := h n q h1
    exact ⟨((n : Int), (q : Int)), (mem_dotsTo G _ 8).2 ⟨n, q, k1, by omega, h1, rfl⟩, ⟨(may_iff _).2 (by simp only; omega), rfl⟩, rfl⟩
theorem listG_app (l m : List Dt) : listG (l ++ m) = orG (listG l) (listG m) := by
  funext n q
  unfold listG orG
  rw [List.any_append]
end Go.Proofs.Ytcgalmnllegnbaa.Dot

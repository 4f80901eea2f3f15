/- What two registers know together: the program's way and the document's are one list. -/
import Derived.Test.YtocoohpekpkmkaaRegKeep1
namespace Go.Proofs.Ytocoohpekpkmkaa
set_option linter.unusedVariables false
set_option linter.unusedSimpArgs false
namespace Reg
theorem mem_keepL (p : Vl → Bool) (v : Vl) (l : List Vl) : ∀ M : List Vl, v ∈ keepL p M l ↔ v ∈ M ∨ (v ∈ l ∧ p v = true) := by
  induction l with
  | nil => intro M; simp [keepL]
  | cons u l ih =>
    intro M
    show v ∈ keepL p (if (p u && decide (u ∉ M)) = true then M ++ [u] else M) l ↔ _
    rw [ih]
    by_cases hp : p u = true
    · by_cases hm : u ∈ M
      · rw [if_neg (by simp [hm])]
        constructor
        · rintro (h | ⟨h1, h2⟩)
          · exact Or.inl h
          · exact Or.inr ⟨List.mem_cons_of_mem _ h1, h2⟩
        · rintro (h | ⟨h1, h2⟩)
          · exact Or.inl h
          · rcases List.mem_cons.1 h1 with rfl | h1
            · exact Or.inl hm
            · exact Or.inr ⟨h1, h2⟩
      · rw [if_pos (by simp [hm, hp])]
        constructor
        · rintro (h | ⟨h1, h2⟩)
          · rcases List.mem_append.1 h with h | h
            · exact Or.inl h
            · obtain rfl := List.mem_singleton.1 h
              exact Or.inr ⟨List.mem_cons_self .., hp⟩
          · exact Or.inr ⟨List.mem_cons_of_mem _ h1, h2⟩
        · rintro (h | ⟨h1, h2⟩)
          · exact Or.inl (List.mem_append_left _ h)
          · rcases List.mem_cons.1 h1 with rfl | h1
            · exact Or.inl (List.mem_append_right _ (List.mem_singleton.2 rfl))
            · exact Or.inr ⟨h1, h2⟩
    · rw [if_neg (by simp [hp])]
      constructor
      · rintro (h | ⟨h1, h2⟩)
        · exact Or.inl h
        · exact Or.inr ⟨List.mem_cons_of_mem _ h1, h2⟩
      · rintro (h | ⟨h1, h2⟩)
        · exact Or.inl h
        · rcases List.mem_cons.1 h1 with rfl | h1
          · exact absurd h2 hp
          · exact Or.inr ⟨h1, h2⟩
theorem nodup_keepL (p : Vl → Bool) (l : List Vl) : ∀ M : List Vl, M.Nodup → (keepL p M l).Nodup := by
  induction l with
  | nil => intro M h; exact h
  | cons u l ih =>
    intro M h
    show (keepL p (if (p u && decide (u ∉ M)) = true then M ++ [u] else M) l).Nodup
    refine ih _ ?_
    split
    · rename_i hc
      have hm : u ∉ M := by
        intro hm
        simp [hm] at hc
      rw [List.nodup_append]
      refine ⟨h, by simp, ?_⟩
      intro a ha b hb
      obtain rfl := List.mem_singleton.1 hb
      intro e
      exact hm (e ▸ ha)
    · exact h
/-- the facts of a right register -/
structure RightF (U : List Int) (l : List Vl) : Prop where
  num : ∀ i, 0 ≤ U.getD i 0
  node : ∀ v, v ∈ l → 0 ≤ v.1 ∧ v.1 < 8
  seq : ∀ v, v ∈ l → 1 ≤ v.2.1 ∧ v.2.1 ≤ U.getD v.1.toNat 0
  up : l.Pairwise (fun x y => x.1 < y.1)
theorem right_facts {U : List Int} {l : List Vl} (h : rightM U l = true) : RightF U l := by
  obtain ⟨h1, h2⟩ := (rightM_iff U l).1 h
  have hk : ∀ k (hk : k < l.length), mayN l[k].1 l[k].2.2 = true ∧ lastV l k < l[k].1 ∧ inB l[k].2.1 1 (U.getD l[k].1.toNat 0) = true := by
    intro k hk
    have h3 := h2 k hk
    unfold goodV at h3
    rw [show l.getD k (0, 0, 0) = l[k] by rw [List.getD_eq_getElem?_getD, List.getElem?_eq_getElem hk]; rfl] at h3
    simp only [Bool.and_eq_true, decide_eq_true_eq] at h3
    exact ⟨h3.1.1, h3.1.2, h3.2⟩
  refine ⟨fun i => (all_numV h1 i).1, ?_, ?_, ?_⟩
  · intro v hv
    obtain ⟨k, hkl, rfl⟩ := List.getElem_of_mem hv
    have := (mayN_iff _ _).1 (hk k hkl).1
    exact ⟨this.1, this.2.1⟩
  · intro v hv
    obtain ⟨k, hkl, rfl⟩ := List.getElem_of_mem hv
    exact (inB_iff _ _ _).1 (hk k hkl).2.2
  · rw [List.pairwise_iff_getElem]
    intro i j hi hj hij
    induction j with
    | zero => omega
    | succ j ih =>
      have h3 := (hk (j + 1) hj).2.1
      rw [lastV_succ, show l.getD j (0, 0, 0) = l[j] by rw [List.getD_eq_getElem?_getD, List.getElem?_eq_getElem (by omega)]; rfl] at h3
      by_cases e : i = j
      · subst e; exact h3
      · have := ih (by omega) (by omega)
        omega
/-- a node's value; a number of 0: it has none -/
def ofV (l : List Vl) (n : Int) : Vl := (l.find? (fun v => v.1 == n)).getD (0, 0, 0)
theorem ofV_pos {l : List Vl} {n : Int} (h : 0 < (ofV l n).2.1) : ofV l n ∈ l ∧ (ofV l n).1 = n := by
  unfold ofV at *
  cases hf : l.find? (fun v => v.1 == n) with
  | none => rw [hf] at h; exact absurd h (by decide)
  | some u =>
    rw [Option.getD_some]
    exact ⟨List.mem_of_find?_eq_some hf, by have := List.find?_some hf; simpa using this⟩
theorem ofV_mem {l : List Vl} (hu : l.Pairwise (fun x y => x.1 < y.1)) {v : Vl} (hv : v ∈ l) : ofV l v.1 = v := by
  induction l with
  | nil => cases hv
  | cons u l ih =>
    rw [List.pairwise_cons] at hu
    unfold ofV
    rw [List.find?_cons]
    rcases List.mem_cons.1 hv with rfl | h
    · simp
    · have := hu.1 v h
      rw [show (u.1 == v.1) = false by simp; omega]
      exact ih hu.2 h
def meetAt (U V : List Int) (l m : List Vl) (n : Nat) : List Vl :=
  if (0 < (ofV l n).2.1 ∧ ofV l n = ofV m n) ∨ V.getD n 0 < (ofV l n).2.1 then [ofV l n] else if U.getD n 0 < (ofV m n).2.1 then [ofV m n] else []
def meetL (U V : List Int) (l m : List Vl) : List Vl := (List.range 8).flatMap (meetAt U V l m)
theorem meetAt_node {U V : List Int} {l m : List Vl} (ha : RightF U l) (hb : RightF V m) {n : Nat} {v : Vl} (h : v ∈ meetAt U V l m n) : v.1 = n := by
  unfold meetAt at h
  split at h
  · rename_i hc
    obtain rfl := List.mem_singleton.1 h
    rcases hc with ⟨h1, _⟩ | h1
    · exact (ofV_pos h1).2
    · have := hb.num n
      exact (ofV_pos (by omega)).2
  · split at h
    · rename_i hc
      obtain rfl := List.mem_singleton.1 h
      have := ha.num n
      exact (ofV_pos (by omega)).2
    · cases h
theorem mem_meetL {U V : List Int} {l m : List Vl} (ha : RightF U l) (hb : RightF V m) (v : Vl) :
    v ∈ meetL U V l m ↔ (v ∈ l ∧ keptB V m v = true) ∨ (v ∈ m ∧ newsB U v = true) := by
  unfold meetL keptB newsB
  rw [List.mem_flatMap]
  simp only [List.mem_range, Bool.or_eq_true, decide_eq_true_eq]
  constructor
  · rintro ⟨n, hn, h⟩
    have hnode := meetAt_node ha hb h
    have ht : v.1.toNat = n := by omega
    rw [ht]
    unfold meetAt at h
    split at h
    · rename_i hc
      obtain rfl := List.mem_singleton.1 h
      rcases hc with ⟨h1, h2⟩ | h1
      · refine Or.inl ⟨(ofV_pos h1).1, Or.inl ?_⟩
        rw [h2] at h1 ⊢
        exact (ofV_pos h1).1
      · have := hb.num n
        exact Or.inl ⟨(ofV_pos (by omega)).1, Or.inr h1⟩
    · split at h
      · rename_i hc
        obtain rfl := List.mem_singleton.1 h
        have := ha.num n
        exact Or.inr ⟨(ofV_pos (by omega)).1, hc⟩
      · cases h
  · intro h
    have hv : 0 ≤ v.1 ∧ v.1 < 8 := by
      rcases h with h | h
      · exact ha.node v h.1
      · exact hb.node v h.1
    have hn : ((v.1.toNat : Nat) : Int) = v.1 := by omega
    refine ⟨v.1.toNat, by omega, ?_⟩
    unfold meetAt
    rw [hn]
    rcases h with ⟨h1, h2⟩ | ⟨h1, h2⟩
    · have hx := ofV_mem ha.up h1
      rw [hx]
      rw [if_pos ?_]
      · exact List.mem_singleton.2 rfl
      · rcases h2 with h2 | h2
        · refine Or.inl ⟨by have := ha.seq v h1; omega, ?_⟩
          rw [ofV_mem hb.up h2]
        · exact Or.inr h2
    · have hy := ofV_mem hb.up h1
      rw [hy]
      by_cases hc : (0 < (ofV l v.1).2.1 ∧ ofV l v.1 = v) ∨ V.getD v.1.toNat 0 < (ofV l v.1).2.1
      · exfalso
        rcases hc with ⟨h3, h4⟩ | h3
        · have h5 := (ofV_pos h3).1
          rw [h4] at h5
          have := ha.seq v h5
          omega
        · have h4 := hb.num v.1.toNat
          obtain ⟨h5, h6⟩ := ofV_pos (l := l) (n := v.1) (by omega)
          have h7 := ha.seq _ h5
          rw [h6] at h7
          have h8 := hb.seq v h1
          omega
      · rw [if_neg hc, if_pos h2]
        exact List.mem_singleton.2 rfl
theorem pairwise_flat {f : Nat → List Vl} (h1 : ∀ n, (f n).length ≤ 1) (h2 : ∀ n v, v ∈ f n → v.1 = n) : ∀ k s : Nat, ((List.range' s k).flatMap f).Pairwise (fun x y => x.1 < y.1) := by
  intro k
  induction k with
  | zero => intro s; simp
  | succ k ih =>
    intro s
    rw [List.range'_succ, List.flatMap_cons, List.pairwise_append]
    refine ⟨?_, ih (s + 1), ?_⟩
    · have := h1 s
      match hf : f s, this with
      | [], _ => exact List.Pairwise.nil
      | [x], _ => exact List.pairwise_singleton _ _
    · intro x hx y hy
      rw [List.mem_flatMap] at hy
      obtain ⟨n, hn, hy⟩ := hy
      rw [List.mem_range'_1] at hn
      rw [h2 s x hx, h2 n y hy]
      omega
theorem meetAt_len (U V : List Int) (l m : List Vl) (n : Nat) : (meetAt U V l m n).length ≤ 1 := by
  unfold meetAt
  split
  · simp
  · split <;> simp
theorem meetL_up {U V : List Int} {l m : List Vl} (ha : RightF U l) (hb : RightF V m) : (meetL U V l m).Pairwise (fun x y => x.1 < y.1) := by
  unfold meetL
  rw [List.range_eq_range']
  exact pairwise_flat (meetAt_len U V l m) (fun n v hv => meetAt_node ha hb hv) 8 0
theorem meetL_len (U V : List Int) (l m : List Vl) : (meetL U V l m).length ≤ 8 := by
  unfold meetL
  rw [List.length_flatMap]
  have h : ∀ (k : List Nat), (k.map fun n => (meetAt U V l m n).length).sum ≤ k.length := by
    intro k
    induction k with
    | nil => simp
    | cons a k ih => have := meetAt_len U V l m a; simp; omega
  simpa using h (List.range 8)
theorem meet_perm {U V : List Int} {l m : List Vl} (ha : RightF U l) (hb : RightF V m) : (keepL (newsB U) (keepL (keptB V m) [] l) m).Perm (meetL U V l m) := by
  refine (List.perm_ext_iff_of_nodup (nodup_keepL _ _ _ (nodup_keepL _ _ _ List.nodup_nil)) ?_).2 fun v => ?_
  · exact (meetL_up ha hb).imp fun {a b} h e => by rw [e] at h; omega
  · rw [mem_keepL, mem_keepL, mem_meetL ha hb]
    simp
theorem perm_sorted {l : List Vl} : ∀ {m : List Vl}, l.Perm m → l.Pairwise (fun x y => x.1 ≤ y.1) → m.Pairwise (fun x y => x.1 < y.1) → l = m := by
  induction l with
  | nil => intro m h _ _; exact (List.nil_perm.1 h).symm
  | cons a l ih =>
    intro m h h1 h2
    match m, h with
    | [], h => exact absurd h.length_eq (by simp)
    | b :: m, h =>
      rw [List.pairwise_cons] at h1 h2
      have hab : a = b := by
        rcases List.mem_cons.1 (h.mem_iff.1 (List.mem_cons_self ..)) with e | e
        · exact e
        · rcases List.mem_cons.1 (h.mem_iff.2 (List.mem_cons_self ..)) with e2 | e2
          · exact e2.symm
          · have := h2.1 a e
            have := h1.1 b e2
            omega
      subst hab
      rw [ih ((List.perm_cons a).1 h) h1.2 h2.2]
end Reg
end Go.Proofs.Ytocoohpekpkmkaa

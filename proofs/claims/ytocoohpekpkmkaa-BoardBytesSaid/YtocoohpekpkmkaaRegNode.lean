/- A right register, node by node; what two know together, node by node; plain. -/
import Derived.Test.YtocoohpekpkmkaaRegMeetM
namespace Go.Proofs.Ytocoohpekpkmkaa
set_option linter.unusedVariables false
set_option linter.unusedSimpArgs false
namespace Reg
/-- what is known of a node: how many it wrote, and its value (number, value), if it is kept -/
abbrev Nd := Int × Option (Int × Int)
def oneV (n : Nat) : Option (Int × Int) → List Vl
  | none => []
  | some (q, v) => [((n : Int), q, v)]
/-- the register of what is known of each node -/
def repU (f : Nat → Nd) : List Int := (List.range 8).map fun n => (f n).1
def repL (f : Nat → Nd) : List Vl := (List.range 8).flatMap fun n => oneV n (f n).2
structure GoodN (x : Nd) : Prop where
  num : 0 ≤ x.1 ∧ x.1 ≤ 1099511627776
  val : ∀ q v, x.2 = some (q, v) → 1 ≤ q ∧ q ≤ x.1 ∧ -1099511627776 ≤ v ∧ v ≤ 1099511627776
def GoodF (f : Nat → Nd) : Prop := ∀ n, n < 8 → GoodN (f n)
theorem repU_len (f : Nat → Nd) : (repU f).length = 8 := by simp [repU]
theorem repU_get (f : Nat → Nd) {n : Nat} (h : n < 8) : (repU f).getD n 0 = (f n).1 := by
  unfold repU
  rw [List.getD_eq_getElem?_getD, List.getElem?_map, List.getElem?_range h]
  rfl
theorem repU_wf {f : Nat → Nd} (h : GoodF f) (x : Int) (hx : x ∈ repU f) : 0 ≤ x ∧ x ≤ 1099511627776 := by
  unfold repU at hx
  obtain ⟨n, hn, rfl⟩ := List.mem_map.1 hx
  exact (h n (List.mem_range.1 hn)).num
theorem mem_oneV {n : Nat} {x : Option (Int × Int)} {v : Vl} : v ∈ oneV n x ↔ x = some v.2 ∧ v.1 = n := by
  obtain ⟨a, q, z⟩ := v
  rcases x with _ | ⟨q', z'⟩
  · simp [oneV]
  · simp only [oneV, List.mem_singleton, Prod.mk.injEq, Option.some.injEq]
    constructor
    · rintro ⟨h1, h2, h3⟩
      exact ⟨⟨h2.symm, h3.symm⟩, h1⟩
    · rintro ⟨⟨h2, h3⟩, h1⟩
      exact ⟨h1, h2.symm, h3.symm⟩
theorem oneV_len (n : Nat) (x : Option (Int × Int)) : (oneV n x).length ≤ 1 := by
  rcases x with _ | ⟨q, v⟩ <;> simp [oneV]
theorem mem_repL {f : Nat → Nd} {v : Vl} : v ∈ repL f ↔ ∃ n, n < 8 ∧ (f n).2 = some v.2 ∧ v.1 = (n : Int) := by
  unfold repL
  rw [List.mem_flatMap]
  constructor
  · rintro ⟨n, hn, h⟩
    obtain ⟨h1, h2⟩ := mem_oneV.1 h
    exact ⟨n, List.mem_range.1 hn, h1, h2⟩
  · rintro ⟨n, hn, h1, h2⟩
    exact ⟨n, List.mem_range.2 hn, mem_oneV.2 ⟨h1, h2⟩⟩
theorem repL_up (f : Nat → Nd) : (repL f).Pairwise (fun x y => x.1 < y.1) := by
  unfold repL
  rw [List.range_eq_range']
  exact pairwise_flat (f := fun n => oneV n (f n).2) (fun n => oneV_len n _) (fun n v hv => (mem_oneV.1 hv).2) 8 0
theorem flatMap_cong {α β : Type} {f g : α → List β} : ∀ {l : List α}, (∀ x, x ∈ l → f x = g x) → l.flatMap f = l.flatMap g := by
  intro l
  induction l with
  | nil => intro _; rfl
  | cons a l ih =>
    intro h
    rw [List.flatMap_cons, List.flatMap_cons, h a (List.mem_cons_self ..), ih fun x hx => h x (List.mem_cons_of_mem _ hx)]
theorem find_flat {g : Nat → List Vl} (h1 : ∀ n, (g n).length ≤ 1) (h2 : ∀ n v, v ∈ g n → v.1 = n) (m : Nat) : ∀ k s : Nat, ((List.range' s k).flatMap g).find? (fun v => v.1 == (m : Int)) = if s ≤ m ∧ m < s + k then (g m).head? else none := by
  intro k
  induction k with
  | zero => intro s; rw [if_neg (by omega)]; rfl
  | succ k ih =>
    intro s
    rw [List.range'_succ, List.flatMap_cons, List.find?_append, ih]
    by_cases e : s = m
    · subst e
      have hh : (g s).find? (fun v => v.1 == (s : Int)) = (g s).head? := by
        have h3 := h1 s
        match hg : g s, h3 with
        | [], _ => rfl
        | [x], _ =>
          have hx := h2 s x (by rw [hg]; exact List.mem_singleton.2 rfl)
          simp [hx]
      rw [hh, if_neg (by omega), if_pos (by omega), Option.or_none]
    · have hn : (g s).find? (fun v => v.1 == (m : Int)) = none := by
        rw [List.find?_eq_none]
        intro v hv
        have := h2 s v hv
        simp
        omega
      rw [hn, Option.none_or]
      by_cases hc : s + 1 ≤ m ∧ m < s + 1 + k
      · rw [if_pos hc, if_pos (by omega)]
      · rw [if_neg hc, if_neg (by omega)]
theorem ofV_repL (f : Nat → Nd) {n : Nat} (hn : n < 8) : ofV (repL f) n = (oneV n (f n).2).head?.getD (0, 0, 0) := by
  unfold ofV repL
  rw [List.range_eq_range', find_flat (g := fun n => oneV n (f n).2) (fun n => oneV_len n _) (fun n v hv => (mem_oneV.1 hv).2) n 8 0, if_pos (by omega)]
/-- what two know of a node together -/
def gtN (u : Int) : Option (Int × Int) → Bool
  | none => false
  | some (q, _) => decide (u < q)
def meetN (x y : Nd) : Nd := (max x.1 y.1, if x.2 = y.2 then x.2 else if gtN y.1 x.2 then x.2 else if gtN x.1 y.2 then y.2 else none)
theorem meetN_good {x y : Nd} (hx : GoodN x) (hy : GoodN y) : GoodN (meetN x y) := by
  refine ⟨?_, ?_⟩
  · have h1 := hx.num
    have h2 := hy.num
    show 0 ≤ max x.1 y.1 ∧ max x.1 y.1 ≤ _
    omega
  · intro q v h
    show 1 ≤ q ∧ q ≤ max x.1 y.1 ∧ _
    unfold meetN at h
    simp only at h
    split at h
    · have := hx.val q v h; omega
    · split at h
      · have := hx.val q v h; omega
      · split at h
        · have := hy.val q v h; omega
        · cases h
theorem meetN_comm {x y : Nd} (hx : GoodN x) (hy : GoodN y) : meetN x y = meetN y x := by
  obtain ⟨u, a⟩ := x
  obtain ⟨v, b⟩ := y
  unfold meetN
  simp only
  rw [show max u v = max v u by omega]
  congr 1
  by_cases e : a = b
  · subst e; simp
  · have e' : ¬ b = a := fun h => e h.symm
    rw [if_neg e, if_neg e']
    cases h1 : gtN v a <;> cases h2 : gtN u b <;> simp only [Bool.false_eq_true, if_false, if_true]
    rcases a with _ | ⟨p, s⟩
    · cases h1
    · rcases b with _ | ⟨q, t⟩
      · cases h2
      · have h3 := hx.val p s rfl
        have h4 := hy.val q t rfl
        simp only [gtN, decide_eq_true_eq] at h1 h2 h3 h4
        omega
theorem meetN_self (x : Nd) : meetN x x = x := by
  obtain ⟨u, a⟩ := x
  unfold meetN
  simp
theorem meetN_assoc {x y z : Nd} (hx : GoodN x) (hy : GoodN y) (hz : GoodN z) : meetN (meetN x y) z = meetN x (meetN y z) := by
  obtain ⟨u, a⟩ := x
  obtain ⟨v, b⟩ := y
  obtain ⟨t, c⟩ := z
  unfold meetN
  simp only
  rw [show max (max u v) t = max u (max v t) by omega]
  congr 1
  have ha := hx.val
  have hb := hy.val
  have hc := hz.val
  simp only at ha hb hc
  rcases a with _ | ⟨p, s⟩ <;> rcases b with _ | ⟨q, r⟩ <;> rcases c with _ | ⟨k, o⟩
  all_goals
    try have ha := ha _ _ rfl
    try have hb := hb _ _ rfl
    try have hc := hc _ _ rfl
    grind [gtN]
/-- the greater ones -/
theorem meet_rep_U (f g : Nat → Nd) : (List.range 8).map (fun i => max ((repU f).getD i 0) ((repU g).getD i 0)) = repU fun n => meetN (f n) (g n) := by
  unfold repU
  refine List.map_congr_left fun i hi => ?_
  have h := repU_get f (List.mem_range.1 hi)
  have h' := repU_get g (List.mem_range.1 hi)
  unfold repU at h h'
  rw [h, h']
  rfl
theorem head_none (n : Nat) : (oneV n none).head?.getD (0, 0, 0) = (0, 0, 0) := rfl
theorem head_some (n : Nat) (q v : Int) : (oneV n (some (q, v))).head?.getD (0, 0, 0) = ((n : Int), q, v) := rfl
theorem meet_pt (n : Nat) {x y : Nd} (h1 : GoodN x) (h2 : GoodN y) (X Y : Vl) (hX : X = (oneV n x.2).head?.getD (0, 0, 0)) (hY : Y = (oneV n y.2).head?.getD (0, 0, 0)) :
    (if (0 < X.2.1 ∧ X = Y) ∨ y.1 < X.2.1 then [X] else if x.1 < Y.2.1 then [Y] else []) = oneV n (meetN x y).2 := by
  have a1 := h1.num
  have a2 := h2.num
  have ha := h1.val
  have hb := h2.val
  obtain ⟨u, a⟩ := x
  obtain ⟨v, b⟩ := y
  simp only at a1 a2 ha hb hX hY
  rcases a with _ | ⟨p, s⟩ <;> rcases b with _ | ⟨q, r⟩
  · rw [head_none] at hX hY
    subst hX hY
    rw [if_neg (by simp; omega), if_neg (by simp; omega)]
    rfl
  · have hb := hb q r rfl
    rw [head_none] at hX
    rw [head_some] at hY
    subst hX hY
    rw [if_neg (by simp; omega)]
    unfold meetN
    simp only [gtN, reduceCtorEq, if_false, Bool.false_eq_true, decide_eq_true_eq]
    by_cases c : u < q
    · rw [if_pos c, if_pos c]; rfl
    · rw [if_neg c, if_neg c]; rfl
  · have ha := ha p s rfl
    rw [head_some] at hX
    rw [head_none] at hY
    subst hX hY
    unfold meetN
    simp only [gtN, reduceCtorEq, if_false, Bool.false_eq_true, decide_eq_true_eq, Prod.mk.injEq]
    by_cases c : v < p
    · rw [if_pos (Or.inr c), if_pos c]; rfl
    · rw [if_neg (by omega), if_neg (by omega), if_neg c]; rfl
  · have ha := ha p s rfl
    have hb := hb q r rfl
    rw [head_some] at hX hY
    subst hX hY
    unfold meetN
    simp only [gtN, decide_eq_true_eq, Prod.mk.injEq, true_and, Option.some.injEq]
    by_cases e : p = q ∧ s = r
    · rw [if_pos (Or.inl ⟨by omega, e⟩), if_pos e]; rfl
    · rw [if_neg e]
      by_cases c : v < p
      · rw [if_pos (Or.inr c), if_pos c]; rfl
      · rw [if_neg (by rintro (h | h); exact e h.2; exact c h), if_neg c]
        by_cases d : u < q
        · rw [if_pos d, if_pos d]; rfl
        · rw [if_neg d, if_neg d]; rfl
theorem meet_rep_L {f g : Nat → Nd} (hf : GoodF f) (hg : GoodF g) : meetL (repU f) (repU g) (repL f) (repL g) = repL fun n => meetN (f n) (g n) := by
  unfold meetL
  conv => rhs; unfold repL
  refine flatMap_cong fun n hn => ?_
  have hn := List.mem_range.1 hn
  unfold meetAt
  rw [repU_get f hn, repU_get g hn]
  exact meet_pt n (hf n hn) (hg n hn) _ _ (ofV_repL f hn) (ofV_repL g hn)
/-- a right register of its nodes -/
theorem right_rep {f : Nat → Nd} (h : GoodF f) : rightM (repU f) (repL f) = true := by
  rw [rightM_iff]
  refine ⟨?_, ?_⟩
  · rw [List.all_eq_true]
    intro x hx
    rw [numOk_iff]
    exact repU_wf h x hx
  · intro i hi
    have e : (repL f).getD i (0, 0, 0) = (repL f)[i] := by rw [List.getD_eq_getElem?_getD, List.getElem?_eq_getElem hi]; rfl
    obtain ⟨n, hn, h1, h2⟩ := mem_repL.1 (List.getElem_mem hi)
    have hv := (h n hn).val _ _ h1
    unfold goodV
    rw [e]
    have hlast : lastV (repL f) i < (repL f)[i].1 := by
      cases i with
      | zero => rw [lastV_zero, h2]; omega
      | succ i =>
        rw [lastV_succ, show (repL f).getD i (0, 0, 0) = (repL f)[i] by rw [List.getD_eq_getElem?_getD, List.getElem?_eq_getElem (by omega)]; rfl]
        exact (List.pairwise_iff_getElem.1 (repL_up f)) i (i + 1) (by omega) hi (by omega)
    simp only [Bool.and_eq_true, decide_eq_true_eq]
    refine ⟨⟨?_, hlast⟩, ?_⟩
    · rw [mayN_iff, h2]
      generalize (repL f)[i] = d at *
      obtain ⟨d0, d1, d2⟩ := d
      simp only at hv h2 ⊢
      omega
    · rw [inB_iff, h2, Int.toNat_natCast, repU_get f hn]
      generalize (repL f)[i] = d at *
      obtain ⟨d0, d1, d2⟩ := d
      simp only at hv h2 ⊢
      omega
theorem repL_len (f : Nat → Nd) : (repL f).length ≤ 8 := by
  unfold repL
  rw [List.length_flatMap]
  have h : ∀ (k : List Nat), (k.map fun n => (oneV n (f n).2).length).sum ≤ k.length := by
    intro k
    induction k with
    | nil => simp
    | cons a k ih => have := oneV_len a (f a).2; simp; omega
  simpa using h (List.range 8)
theorem own_rep {f : Nat → Nd} (h : GoodF f) : ownM (repU f) (repL f) = (repU f, repL f) := by
  unfold ownM
  rw [right_rep h]
  rfl
theorem rep_congr {f g : Nat → Nd} (h : ∀ n, n < 8 → f n = g n) : repU f = repU g ∧ repL f = repL g := by
  unfold repU repL
  constructor
  · exact List.map_congr_left fun i hi => by rw [h i (List.mem_range.1 hi)]
  · exact flatMap_cong fun i hi => by rw [h i (List.mem_range.1 hi)]
/-- a value of a node put: it stands alone -/
def putNd (f : Nat → Nd) (k : Nat) (v : Int) : Nat → Nd := fun n => if n = k then ((f n).1 + 1, some ((f n).1 + 1, v)) else ((f n).1, none)
theorem putNd_good {f : Nat → Nd} (h : GoodF f) {k : Nat} {v : Int} (hv : -1099511627776 ≤ v ∧ v ≤ 1099511627776) (hk : (f k).1 < 1099511627776) : GoodF (putNd f k v) := fun n hn => by
  have h1 := (h n hn).num
  unfold putNd
  split
  · rename_i e
    subst e
    refine ⟨?_, ?_⟩
    · simp only; omega
    · intro q u hq
      simp only [Option.some.injEq, Prod.mk.injEq] at hq
      simp only
      omega
  · exact ⟨h1, fun q u hq => by cases hq⟩
theorem put_rep {f : Nat → Nd} (h : GoodF f) {k : Nat} {v : Int} (hk8 : k < 8) (hv : -1099511627776 ≤ v ∧ v ≤ 1099511627776) (hk : (f k).1 < 1099511627776) :
    putM (repU f) (repL f) (k : Int) v = ((repU (putNd f k v), repL (putNd f k v)), 0) := by
  unfold putM
  have hmay : mayN (k : Int) v = true := (mayN_iff _ _).2 ⟨by omega, by omega, hv.1, hv.2⟩
  rw [right_rep h, hmay, if_neg (by rintro (h | h) <;> cases h), Int.toNat_natCast, repU_get f hk8, if_neg (by omega)]
  congr 1
  congr 1
  · apply List.ext_getElem
    · rw [List.length_set, repU_len, repU_len]
    · intro i h1 h2
      have hi : i < 8 := by rw [repU_len] at h2; exact h2
      rw [List.getElem_set]
      simp only [repU, List.getElem_map, List.getElem_range, putNd]
      by_cases e : k = i
      · subst e; rw [if_pos rfl, if_pos rfl]
      · rw [if_neg e, if_neg (fun h => e h.symm)]
  · have key : ∀ m s : Nat, (List.range' s m).flatMap (fun n => oneV n (putNd f k v n).2) = if s ≤ k ∧ k < s + m then [((k : Int), (f k).1 + 1, v)] else [] := by
      intro m
      induction m with
      | zero => intro s; rw [if_neg (by omega)]; rfl
      | succ m ih =>
        intro s
        rw [List.range'_succ, List.flatMap_cons, ih]
        by_cases e : s = k
        · subst e
          rw [if_neg (by omega), if_pos (by omega)]
          simp [putNd, oneV]
        · rw [show oneV s (putNd f k v s).2 = [] by unfold putNd; rw [if_neg e]; rfl, List.nil_append]
          by_cases c : s + 1 ≤ k ∧ k < s + 1 + m
          · rw [if_pos c, if_pos (by omega)]
          · rw [if_neg c, if_neg (by omega)]
    unfold repL
    rw [List.range_eq_range', key 8 0, if_pos (by omega)]
end Reg
end Go.Proofs.Ytocoohpekpkmkaa

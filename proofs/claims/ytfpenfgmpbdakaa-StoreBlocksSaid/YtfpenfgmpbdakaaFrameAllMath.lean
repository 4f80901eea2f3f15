/- Frames one behind the other, in plain Lean. -/
import Derived.Test.YtfpenfgmpbdakaaFrameMath
namespace Go.Proofs.Ytfpenfgmpbdakaa.Frame
set_option linter.unusedVariables false
set_option linter.unusedSimpArgs false
def frms (l : List (List UInt8)) : List UInt8 := (l.map frm).flatten
theorem frms_nil : frms [] = [] := rfl
theorem frms_cons (x : List UInt8) (l : List (List UInt8)) : frms (x :: l) = frm x ++ frms l := by simp [frms]
theorem frms_append (l m : List (List UInt8)) : frms (l ++ m) = frms l ++ frms m := by simp [frms]
theorem frms_snoc (l : List (List UInt8)) (x : List UInt8) : frms (l ++ [x]) = frms l ++ frm x := by simp [frms]
/-- Bytes are these bodies' frames, and then what is none. -/
def Parts (b : List UInt8) (l : List (List UInt8)) (r : List UInt8) : Prop := b = frms l ++ r ∧ (∀ x ∈ l, x.length ≤ 4096) ∧ ∃ y, dec r = .error y
theorem frm_pos (x : List UInt8) : 0 < (frm x).length := by rw [frm_length]; omega
theorem Parts.same {b : List UInt8} {l m : List (List UInt8)} {r z : List UInt8} (h1 : Parts b l r) (h2 : Parts b m z) : l = m ∧ r = z := by
  obtain ⟨e1, s1, y1, d1⟩ := h1
  obtain ⟨e2, s2, y2, d2⟩ := h2
  have e : frms l ++ r = frms m ++ z := by rw [← e1, e2]
  clear e1 e2
  induction l generalizing m with
  | nil =>
    cases m with
    | nil => exact ⟨rfl, e⟩
    | cons x m =>
      exfalso
      rw [frms_nil, List.nil_append, frms_cons, List.append_assoc] at e
      rw [e, dec_frm (s2 x (by simp))] at d1
      cases d1
  | cons x l ih =>
    cases m with
    | nil =>
      exfalso
      rw [frms_nil, List.nil_append, frms_cons, List.append_assoc] at e
      rw [← e, dec_frm (s1 x (by simp))] at d2
      cases d2
    | cons y m =>
      rw [frms_cons, frms_cons, List.append_assoc, List.append_assoc] at e
      have t := dec_frm (s1 x (by simp)) (frms l ++ r)
      rw [e, dec_frm (s2 y (by simp))] at t
      simp only [Except.ok.injEq, Prod.mk.injEq] at t
      obtain ⟨t1, t2⟩ := t
      obtain ⟨i1, i2⟩ := ih (fun q hq => s1 q (by simp [hq])) (fun q hq => s2 q (by simp [hq])) t2.symm
      exact ⟨by rw [t1, i1], i2⟩
/-- A frame that is torn is none. -/
theorem torn {x r z : List UInt8} (hx : x.length ≤ 4096) {m : List UInt8} (h : frm x ++ m = r ++ z) (hr : r.length < (frm x).length) : ∃ y, dec r = .error y := by
  rcases hd : dec r with y | ⟨q, s⟩
  · exact ⟨y, rfl⟩
  exfalso
  obtain ⟨e1, e2⟩ := dec_ok hd
  have t := dec_frm hx m
  rw [h, e1, List.append_assoc, dec_frm e2] at t
  simp only [Except.ok.injEq, Prod.mk.injEq] at t
  rw [e1, t.1, List.length_append] at hr
  omega
theorem dec_nil' : dec [] = .error 3 := rfl
/-- What is left of frames that are cut: the whole ones, and then what is none. -/
theorem parts_cut {ls : List (List UInt8)} (hs : ∀ x ∈ ls, x.length ≤ 4096) (k : Nat) (hk : k ≤ (frms ls).length) :
    ∃ j, j ≤ ls.length ∧ Parts ((frms ls).take k) (ls.take j) ((frms ls).take k |>.drop (frms (ls.take j)).length) ∧ (frms (ls.take j)).length ≤ k ∧ ∀ i, j < i → i ≤ ls.length → k < (frms (ls.take i)).length := by
  induction ls generalizing k with
  | nil => exact ⟨0, Nat.le_refl _, ⟨by simp [frms], by simp, 3, by simp [frms]; rfl⟩, by simp [frms], fun i h1 h2 => by simp at h2; omega⟩
  | cons x l ih =>
    by_cases hkx : k < (frm x).length
    · refine ⟨0, Nat.zero_le _, ⟨by simp [frms], by simp, ?_⟩, by simp [frms], fun i h1 _ => ?_⟩
      · refine torn (x := x) (hs x (by simp)) (m := frms l) (z := (frms (x :: l)).drop k) ?_ ?_
        · simp only [List.take_zero, frms_nil, List.length_nil, List.drop_zero]
          rw [List.take_append_drop, frms_cons]
        · simp only [List.take_zero, frms_nil, List.length_nil, List.drop_zero]
          rw [List.length_take]
          omega
      · obtain ⟨i, rfl⟩ : ∃ i', i = i' + 1 := ⟨i - 1, by omega⟩
        rw [List.take_succ_cons, frms_cons, List.length_append]
        omega
    · rw [frms_cons, List.length_append] at hk
      obtain ⟨j, h1, ⟨h2, h3, h4⟩, h5, h6⟩ := ih (fun q hq => hs q (by simp [hq])) (k - (frm x).length) (by omega)
      have et : (frms (x :: l)).take k = frm x ++ (frms l).take (k - (frm x).length) := by
        rw [frms_cons, List.take_append, List.take_of_length_le (by omega)]
      refine ⟨j + 1, by simp; omega, ⟨?_, fun q hq => ?_, ?_⟩, ?_, fun i h7 h8 => ?_⟩
      · rw [et, List.take_succ_cons, frms_cons, List.length_append, ← List.drop_drop, List.drop_left, List.append_assoc]
        exact congrArg _ h2
      · rw [List.take_succ_cons, List.mem_cons] at hq
        rcases hq with rfl | hq
        · exact hs _ (by simp)
        · exact h3 q hq
      · rw [et, List.take_succ_cons, frms_cons, List.length_append, ← List.drop_drop, List.drop_left]
        exact h4
      · rw [List.take_succ_cons, frms_cons, List.length_append]
        omega
      · obtain ⟨i, rfl⟩ : ∃ i', i = i' + 1 := ⟨i - 1, by omega⟩
        have := h6 i (by omega) (by simp at h8; omega)
        rw [List.take_succ_cons, frms_cons, List.length_append]
        omega
end Go.Proofs.Ytfpenfgmpbdakaa.Frame

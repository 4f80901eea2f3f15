/- Plain laws: an event's bytes, there and back. -/
import Derived.Test.YtiemlnomlfebkaaEvGetAll
import Derived.Test.YtiemlnomlfebkaaEvPutAll
namespace Go.Proofs.Ytiemlnomlfebkaa
set_option linter.unusedVariables false
set_option linter.unusedSimpArgs false
open Dot Evt
theorem flat_nat (l : List Nat) : l.flatMap Vint.enc = encs l := rfl
theorem encD_eq (l : List Dt) : encs ((dotNums l).map Int.toNat) = encD l := by
  rw [dotNums_nat]
  induction l with
  | nil => rfl
  | cons a l ih =>
    show encs (a.1.toNat :: a.2.toNat :: dotN l) = Vint.enc a.1.toNat ++ Vint.enc a.2.toNat ++ encD l
    rw [encs_cons, encs_cons, ih, List.append_assoc]
theorem encE_eq (x : Ev) : encE x = Vint.enc x.d.1.toNat ++ (Vint.enc x.d.2.toNat ++ (Vint.enc x.t.toNat ++ (Vint.enc x.k.toNat ++ (Vint.enc x.w.toNat ++ (if x.k = 1 then Vint.enc x.v.toNat else (if x.k = 2 then encs (x.p.map Int.toNat) else []) ++ (Vint.enc x.l.length ++ encD x.l)))))) := by
  unfold encE numsE
  rw [List.map_append, encs_app]
  have h1 : encs (([x.d.1, x.d.2, x.t, x.k, x.w] : List Int).map Int.toNat) = Vint.enc x.d.1.toNat ++ (Vint.enc x.d.2.toNat ++ (Vint.enc x.t.toNat ++ (Vint.enc x.k.toNat ++ Vint.enc x.w.toNat))) := by simp [encs]
  rw [h1]
  by_cases hk : x.k = 1
  · rw [if_pos hk, if_pos hk]
    simp [encs]
  · rw [if_neg hk, if_neg hk, List.map_append, List.map_append, encs_app, encs_app, encD_eq]
    by_cases h2 : x.k = 2
    · rw [if_pos h2, if_pos h2]
      simp [encs]
    · rw [if_neg h2, if_neg h2]
      simp [encs]
theorem decE_enc {x : Ev} (hp : x.p.length = 7) (hx : rightE x = true) (r : List UInt8) : decE (encE x ++ r) = .ok (x, r) := by
  obtain ⟨⟨a0, a1, a2, a3, a4, a5⟩, hpb, h96, hdd⟩ := right_facts hp hx
  have t1 : Vint.top = 1099511627776 := rfl
  have t2 : top = 1099511627776 := rfl
  have hk : kindB x = true := by
    unfold rightE at hx
    simp only [Bool.and_eq_true] at hx
    exact hx.2
  have hL := decL_enc x.l h96 (fun d hd => by have := hdd d hd; omega) r
  obtain ⟨⟨n, q⟩, t, k, wk, v, p, l⟩ := x
  simp only at a0 a1 a2 a3 a4 a5 h96 hdd hp hL hpb
  rw [encE_eq]
  simp only
  obtain ⟨n, rfl⟩ := Int.eq_ofNat_of_zero_le a0.1
  obtain ⟨q, rfl⟩ := Int.eq_ofNat_of_zero_le a1.1
  obtain ⟨t, rfl⟩ := Int.eq_ofNat_of_zero_le a2.1
  obtain ⟨k, rfl⟩ := Int.eq_ofNat_of_zero_le (show 0 ≤ k by omega)
  obtain ⟨wk, rfl⟩ := Int.eq_ofNat_of_zero_le a4.1
  simp only [Int.toNat_natCast, List.append_assoc]
  unfold decE
  simp only [Vint.dec_enc (show n ≤ Vint.top by omega), Vint.dec_enc (show q ≤ Vint.top by omega), Vint.dec_enc (show t ≤ Vint.top by omega), Vint.dec_enc (show k ≤ Vint.top by omega)]
  rw [if_pos (show 1 ≤ k ∧ k ≤ 3 by omega)]
  simp only [Vint.dec_enc (show wk ≤ Vint.top by omega)]
  unfold decK
  unfold kindB at hk
  simp only at hk
  by_cases k1 : k = 1
  · have k1' : (k : Int) = 1 := by omega
    rw [if_pos k1'] at hk ⊢
    simp only [Bool.and_eq_true, decide_eq_true_eq, inB_iff] at hk
    obtain ⟨⟨rfl, hv⟩, rfl⟩ := hk
    obtain ⟨v, rfl⟩ := Int.eq_ofNat_of_zero_le hv.1
    rw [if_pos k1]
    simp only [Int.toNat_natCast, Vint.dec_enc (show v ≤ Vint.top by omega)]
  · have k1' : ¬ (k : Int) = 1 := by omega
    rw [if_neg k1'] at hk ⊢
    rw [if_neg k1]
    by_cases k2 : k = 2
    · have k2' : (k : Int) = 2 := by omega
      rw [if_pos k2'] at hk ⊢
      simp only [Bool.and_eq_true, decide_eq_true_eq] at hk
      obtain ⟨_, rfl⟩ := hk
      rw [if_pos k2]
      have hpl : (p.map Int.toNat).length = 7 := by rw [List.length_map, hp]
      have hb : ∀ z ∈ p, 0 ≤ z ∧ z ≤ 1099511627776 := by
        match p, hp with
        | [p0, p1, p2, p3, p4, p5, p6], _ =>
          intro z hz
          simp at hpb hz
          omega
      have hds := decs_enc (p.map Int.toNat) (Vint.enc l.length ++ (encD l ++ r)) (fun z hz => by
        obtain ⟨y, hy, rfl⟩ := List.mem_map.1 hz
        have := hb y hy
        omega)
      rw [hpl, flat_nat] at hds
      rw [List.append_assoc, List.append_assoc, hds]
      simp only [hL]
      have hback : (p.map Int.toNat).map (fun z : Nat => (z : Int)) = p := by
        rw [List.map_map]
        conv => rhs; rw [← List.map_id p]
        refine List.map_congr_left fun z hz => ?_
        have := hb z hz
        simp only [Function.comp, id]
        omega
      rw [hback]
    · have k2' : ¬ (k : Int) = 2 := by omega
      rw [if_neg k2'] at hk ⊢
      have k3' : (k : Int) = 3 := by omega
      rw [if_pos k3'] at hk
      simp only [Bool.and_eq_true, decide_eq_true_eq] at hk
      obtain ⟨rfl, rfl⟩ := hk
      rw [if_neg k2, List.nil_append, List.append_assoc, hL]
theorem decE_put {l : List UInt8} {x : Ev} {r : List UInt8} (h : decE l = .ok (x, r)) : l = encE x ++ r := by
  unfold decE at h
  split at h
  · cases h
  rename_i n l1 h1
  split at h
  · cases h
  rename_i q l2 h2
  split at h
  · cases h
  rename_i t l3 h3
  split at h
  · cases h
  rename_i k l4 h4
  split at h
  case isFalse => cases h
  rename_i hk
  split at h
  · cases h
  rename_i wk l5 h5
  have e1 := (Vint.dec_ok h1).1
  have e2 := (Vint.dec_ok h2).1
  have e3 := (Vint.dec_ok h3).1
  have e4 := (Vint.dec_ok h4).1
  have e5 := (Vint.dec_ok h5).1
  suffices hs : ∃ s, encE x = Vint.enc n ++ (Vint.enc q ++ (Vint.enc t ++ (Vint.enc k ++ (Vint.enc wk ++ s)))) ∧ l5 = s ++ r by
    obtain ⟨s, g1, g2⟩ := hs
    rw [g1, e1, e2, e3, e4, e5, g2]
    simp only [List.append_assoc]
  rw [encE_eq]
  unfold decK at h
  split at h
  · rename_i k1
    split at h
    · cases h
    · rename_i v r' h6
      injection h with h
      injection h with h h'
      subst h h'
      refine ⟨Vint.enc v, ?_, (Vint.dec_ok h6).1⟩
      simp only [Int.toNat_natCast]
      rw [if_pos (by omega)]
  · rename_i k1
    split at h
    · rename_i k2
      split at h
      · cases h
      · rename_i p r' h6
        split at h
        · cases h
        · rename_i ds r'' h7
          injection h with h
          injection h with h h'
          subst h h'
          refine ⟨encs p ++ (Vint.enc ds.length ++ encD ds), ?_, ?_⟩
          · simp only [Int.toNat_natCast]
            rw [if_neg (by omega), if_pos (by omega), List.map_map]
            have : p.map (Int.toNat ∘ fun x : Nat => (x : Int)) = p := by
              conv => rhs; rw [← List.map_id p]
              exact List.map_congr_left fun z _ => by simp
            rw [this]
          · rw [(decs_suf _ _ _ _ h6).1, (decL_suf h7).1, flat_nat]
            simp only [List.append_assoc]
    · rename_i k2
      split at h
      · cases h
      · rename_i ds r'' h7
        injection h with h
        injection h with h h'
        subst h h'
        refine ⟨Vint.enc ds.length ++ encD ds, ?_, ?_⟩
        · simp only [Int.toNat_natCast]
          rw [if_neg (by omega), if_neg (by omega), List.nil_append]
        · rw [(decL_suf h7).1]
          simp only [List.append_assoc]
theorem decEs_enc (xs : List Ev) (h : ∀ x ∈ xs, x.p.length = 7 ∧ rightE x = true) : ∀ k, k ≤ xs.length → ∀ r, decEs k ((xs.take k).flatMap encE ++ r) = .ok (xs.take k, r) := by
  intro k
  induction k with
  | zero => intro _ r; rfl
  | succ k ih =>
    intro hk r
    have hkl : k < xs.length := by omega
    have hd := h _ (List.getElem_mem hkl)
    have ht : xs.take (k + 1) = xs.take k ++ [xs[k]] := List.take_succ_eq_append_getElem hkl
    have h1 := ih (by omega) (encE xs[k] ++ r)
    have e : (xs.take (k + 1)).flatMap encE ++ r = (xs.take k).flatMap encE ++ (encE xs[k] ++ r) := by rw [ht]; simp only [List.flatMap_append, List.flatMap_cons, List.flatMap_nil, List.append_nil, List.append_assoc]
    rw [e, decEs, h1]
    simp only [decE_enc hd.1 hd.2, if_pos hd.2]
    rw [ht]
theorem getAll_enc (xs : List Ev) (h : ∀ x ∈ xs, x.p.length = 7 ∧ rightE x = true) (hl : xs.length ≤ 768) : getAllE (Vint.enc xs.length ++ xs.flatMap encE) = (xs, 0) := by
  have t1 : Vint.top = 1099511627776 := rfl
  have h1 := decEs_enc xs h xs.length (Nat.le_refl _) []
  rw [List.take_length, List.append_nil] at h1
  unfold getAllE decA
  rw [Vint.dec_enc (by omega)]
  simp only
  rw [if_neg (by omega), h1]
  simp
end Go.Proofs.Ytiemlnomlfebkaa

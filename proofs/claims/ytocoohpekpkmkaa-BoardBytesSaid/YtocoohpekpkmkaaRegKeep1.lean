/- The walk of Meet's own keep. -/
import Derived.Test.YtocoohpekpkmkaaRegKeep
namespace Go.Proofs.Ytocoohpekpkmkaa
set_option linter.unusedVariables false
set_option linter.unusedSimpArgs false
open Go.RowKit
open Reg
theorem keepL_len (p : Vl → Bool) (l : List Vl) : ∀ M : List Vl, (keepL p M l).length ≤ M.length + l.length := by
  induction l with
  | nil => intro M; exact Nat.le_refl _
  | cons v l ih =>
    intro M
    show (keepL p _ l).length ≤ _
    refine Nat.le_trans (ih _) ?_
    show (if (p v && decide (v ∉ M)) = true then M ++ [v] else M).length + l.length ≤ _
    split <;> simp <;> omega
theorem keepL_snoc (p : Vl → Bool) (M l : List Vl) (v : Vl) : keepL p M (l ++ [v]) = if p v && decide (v ∉ keepL p M l) then keepL p M l ++ [v] else keepL p M l := by
  unfold keepL
  rw [List.foldl_append]
  rfl
set_option maxRecDepth 100000 in
set_option maxHeartbeats 2000000 in
theorem keep29_any (f : FuncId) (Mv : Value) (p : Vl → Bool) (U : List Int) (hU : U.length = 8) (g : Nat) (A : Option Addr) (n c : Nat) (l : List Vl) (A0 : Option Addr) (m0 c0 : Nat) (L0 : List Vl) (w : World)
    (hen : ∀ (args : Array Value) (w : World), (callFunc f args).run Try.prog w = .ok (.enter f args) w)
    (step : ∀ v, v ∈ l → ∀ w', Below g w w' → Calls Try.prog f #[Mv, v3 v] w' fun e w'' => e = .returned (.bool (p v)) ∧ Below w'.heap.size w' w'')
    (hl : RdV w g A n l) (hn : n ≤ 1000) (hm : m0 ≤ 1000) (hg : Blk w g 31 (uc U (.slice A0 m0 c0))) (ho : OwnV 49 w (g + 1) A0 m0 c0 L0) :
    Calls Try.prog 48 #[.slice A n c, .func (.func f) #[Mv] #[], .pointer (some ⟨g, 0, none⟩)] w fun e w' => e = .returned (.tuple #[]) ∧ ∃ A' m' c', Blk w' g 31 (uc U (.slice A' m' c')) ∧ OwnV 49 w' (g + 1) A' m' c' (keepL p L0 l) ∧ Below g w w' := by
  have HN := Lib.hid hl.1
  have HNB := Lib.hid hn
  have HM0 := Lib.hid (show L0.length ≤ 1000 by rw [← ho.1]; exact hm)
  have HU := Lib.hid hU
  have HRK := Lib.hid fun (w' : World) (hb : Below g w w') => hl.below hb
  have HST := Lib.hid step
  clear hn hm hU hl step
  go_enter Try.func48, Try.ntmps48
  go_wp2_with fail
  go_loopw [9] (fun i wr => ∃ (k : Nat) (A' : Option Addr) (m' c' : Nat), k ≤ n ∧ i = .int .i64 k ∧ Blk wr g 31 (uc U (.slice A' m' c')) ∧ OwnV 49 wr (g + 1) A' m' c' (keepL p L0 (l.take k)) ∧ Below g w wr) (fun i _ => n - (intOf i).toNat)
  case atStart => exact ⟨0, A0, m0, c0, by omega, rfl, hg, ho, Below.refl _ _⟩
  case round =>
    clear hg ho
    obtain ⟨k, A', m', c', hk, rfl, kg, ho, gb⟩ := hrel
    by_cases hlt : k < n
    · have hkl : k < l.length := by rw [← HN.out]; exact hlt
      have hkb : k < 100000 := by have := HNB.out; omega
      have hmb : m' ≤ 2000 := by
        have h1 := keepL_len p (l.take k) L0
        rw [← ho.1, List.length_take] at h1
        have := HM0.out
        have := HNB.out
        omega
      obtain ⟨ad, hA, q5, q0, q1, q2⟩ := (HRK.out wr gb).2 k _ (List.getElem?_eq_getElem hkl)
      have hst := HST.out l[k] (List.getElem_mem hkl)
      have hsn : keepL p L0 (l.take (k + 1)) = if p l[k] && decide (l[k] ∉ keepL p L0 (l.take k)) then keepL p L0 (l.take k) ++ [l[k]] else keepL p L0 (l.take k) := by
        rw [take_snoc l hkl, keepL_snoc]
      generalize l[k] = d at *
      generalize keepL p L0 (l.take k) = K at *
      have hcn := fun w' (h : OwnV 49 w' (g + 1) A' m' c' K) => contains29_any A' m' c' w'.heap.size K d w' h.rd (by omega) (Nat.le_refl _)
      obtain ⟨x, s, z⟩ := d
      unfold v3 at hst hcn
      simp only at q0 q1 q2 hst hcn
      subst hA
      have HSN := Lib.hid hsn
      have HS := Lib.hid hst
      have HC := Lib.hid hcn
      have hk0 : (0 : Int) ≤ (k : Int) := by omega
      have hkn : (k : Int) < (n : Int) := by omega
      have hgs := kg.lt
      clear hsn hst hcn
      go_upto_region 3 with fail
      refine nameW ?_
      intro wn hwn
      have kd : Blk wn wr.heap.size 49 #[.int .i64 x, .int .i64 s, .int .i64 z] := by rw [hwn]; exact Blk.new wr _ _
      have bn : Below wr.heap.size wr wn := by rw [hwn]; exact (Below.refl _ _).alloc (Nat.le_refl _) _
      have kg1 := kg.below bn hgs
      have ho1 := ho.below bn (Nat.le_refl _)
      have gb1 := gb.trans (bn.mono (by omega))
      clear hwn bn kg ho gb q0 q1 q2
      go_wp2_with ((with_reducible refine wpList_ld rowV kd (th_size _ _ _) ?_ ?_); rotate_left; (rfl))
      refine (HS.out wn gb1).mono ?_
      rintro e w1 ⟨rfl, b1⟩
      have hgn := kg1.lt
      have kd1 := kd.below b1 kd.lt
      have kg2 := kg1.below b1 hgn
      have ho2 := ho1.below b1 (Nat.le_refl _)
      have gb2 := gb1.trans (b1.mono (by omega))
      clear b1 kd kg1 ho1 gb1 HS
      have c8 : w1.cell? ⟨g, 8, none⟩ = some (.slice A' m' c') := (kg2.cell 8).trans (uc_last HU.out _)
      by_cases hp : p (x, s, z) = true
      case neg =>
        have hp2 : p (x, s, z) = false := by simpa using hp
        have hks := HSN.out
        rw [hp2, Bool.false_and, if_neg (by simp)] at hks
        have HKS := Lib.hid hks
        rw [hp2]
        clear hp hp2 hks
        go_wp2_with fail
        go_roundw
        case rel => exact ⟨k + 1, A', m', c', by omega, by go_num, kg2, by rw [HKS.out]; exact ho2, gb2⟩
        case measure => simp [intOf]; omega
      rw [hp]
      go_wp2_with ((with_reducible refine wpList_ldg rowV kd1 (th_size _ _ _) ?_ ?_ ?_); rotate_left; (rfl); (rfl))
      refine (HC.out w1 ho2).mono ?_
      rintro e w2 ⟨rfl, b2⟩
      have hgn2 := kg2.lt
      have kd2 := kd1.below b2 kd1.lt
      have kg3 := kg2.below b2 hgn2
      have ho3 := ho2.below b2 (Nat.le_refl _)
      have gb3 := gb2.trans (b2.mono (by omega))
      have hws := b2.size
      clear b2 kd1 kg2 ho2 gb2 c8 HC
      by_cases hmem : (x, s, z) ∈ K
      · have hks := HSN.out
        rw [if_neg (by simp [hmem])] at hks
        have HKS := Lib.hid hks
        rw [decide_eq_true hmem]
        clear hks hmem
        go_wp2_with fail
        go_roundw
        case rel => exact ⟨k + 1, A', m', c', by omega, by go_num, kg3, by rw [HKS.out]; exact ho3, gb3⟩
        case measure => simp [intOf]; omega
      have hks := HSN.out
      rw [if_pos (by simp [hmem, hp])] at hks
      have HKS := Lib.hid hks
      rw [decide_eq_false hmem]
      clear hks hmem hp
      have c8 : w2.cell? ⟨g, 8, none⟩ = some (.slice A' m' c') := (kg3.cell 8).trans (uc_last HU.out _)
      have t0 : w2.cell? ⟨wr.heap.size, 0, none⟩ = some (.int .i64 x) := kd2.cell 0
      have t1 : w2.cell? ⟨wr.heap.size, 1, none⟩ = some (.int .i64 s) := kd2.cell 1
      have t2 : w2.cell? ⟨wr.heap.size, 2, none⟩ = some (.int .i64 z) := kd2.cell 2
      have hg2 := kg3.lt
      have hwb := kd2.lt
      have hne : A'.map (·.block) ≠ some g := fun e => by have := (ho3.lt g e).1; omega
      go_wp2_with (at_builtin; refine wpList_appV rfl (.tmp 24) (.tmp 26) rfl rfl (ho3.alloc _) (news := [(x, s, z)]) rfl (Rd.made _ _ _ _) rfl ?h2 ?h3 ?h4)
      case h2 => omega
      case h3 => simp; omega
      intro A2 c2 w3 o4 g4 m4 b4
      have kg4 : Blk w3 g 31 (uc U (.slice A' m' c')) := (kg3.alloc _).grown g4 hne
      have hne2 : A2.map (·.block) ≠ some g := fun e => by have := (o4.lt g e).1; omega
      have c82 : w3.cell? ⟨g, 8, none⟩ = some (.slice A' m' c') := (kg4.cell 8).trans (uc_last HU.out _)
      have f82 := kg4.free 8
      have bw := ((gb3.alloc (by omega) (.cells #[.int .i64 x, .int .i64 s, .int .i64 z] 49)).trans (b4.mono (Nat.le_succ g))).setCell (p := ⟨g, 8, none⟩) (Nat.le_refl _) (.slice A2 (m' + 1) c2)
      have o5 := o4.setFar (p := ⟨g, 8, none⟩) hne2 (.slice A2 (m' + 1) c2)
      have k5 := kg4.set_ 8 (.slice A2 (m' + 1) c2)
      rw [uc_set8 HU.out] at k5
      have HO5 := Lib.hid o5
      have HB5 := Lib.hid bw
      have HK5 := Lib.hid k5
      clear g4 m4 b4 o4 o5 bw k5
      go_wp2_with fail
      go_roundw
      case rel => exact ⟨k + 1, A2, m' + 1, c2, by omega, by go_num, HK5.out, by rw [HKS.out]; exact HO5.out, HB5.out⟩
      case measure => simp [intOf]; omega
    · obtain rfl : k = n := by omega
      have ho := ho
      rw [List.take_of_length_le (by rw [← HN.out]; exact Nat.le_refl _)] at ho
      go_wp2_with fail
      go_end0
      exact ⟨rfl, A', m', c', kg, ho, gb⟩
end Go.Proofs.Ytocoohpekpkmkaa

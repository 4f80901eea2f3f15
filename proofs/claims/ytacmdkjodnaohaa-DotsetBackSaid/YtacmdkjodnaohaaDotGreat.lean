/- The law's great. -/
import Derived.Test.YtacmdkjodnaohaaDotRAdd
namespace Go.Proofs.Ytacmdkjodnaohaa
open Go.RowKit
open Dot
set_option maxRecDepth 100000 in
set_option maxHeartbeats 2000000 in
theorem great_any (ss : List SetV) (m bs : Nat) (w : World) (hm : m = ss.length) (hm2 : m ≤ 1000) (hR : RowSet w w.heap.size bs ss) :
    Calls Try.prog 9 #[.slice (some ⟨bs, 0, none⟩) m m] w fun e w' => e = .returned (.bool (ss.any fun s => decide (1000 < s.n))) ∧ Below w.heap.size w w' := by
  obtain ⟨R, hR0⟩ : ∃ R, R = ss.any fun s => decide (1000 < s.n) := ⟨_, rfl⟩
  rw [← hR0]
  have HR0 := Lib.hid hR0
  have HM := Lib.hid hm
  clear hR0 hm
  go_enter Try.func9, Try.ntmps9
  go_wp2_with fail
  go_loopw [7] (fun i wr => ∃ k : Nat, k ≤ m ∧ i = .int .i64 k ∧ (∀ (j : Nat) (s : SetV), j < k → ss[j]? = some s → ¬ 1000 < s.n) ∧ Below w.heap.size w wr) (fun i _ => m - (intOf i).toNat)
  case atStart => exact ⟨0, by omega, rfl, fun j s hj => by omega, Below.refl _ _⟩
  case round =>
    obtain ⟨k, hk, rfl, hall, gb⟩ := hrel
    have HA := Lib.hid hall
    clear hall
    by_cases hlt : k < m
    · have hkl : k < ss.length := by rw [← HM.out]; exact hlt
      obtain ⟨hrg, hU, hrd⟩ := (hR.below gb hR.1 (Nat.le_refl _)).2 k _ (List.getElem?_eq_getElem hkl)
      have hkg : ss[k]? = some ss[k] := List.getElem?_eq_getElem hkl
      have hmem : ss[k] ∈ ss := List.getElem_mem hkl
      generalize ss[k] = s at *
      have hcl : s.cs.length = 9 := by unfold SetV.cs; rw [List.length_append, List.length_map, hU]; rfl
      have HCL := Lib.hid hcl
      have HSZ := Lib.hid (uc_size hU (.slice s.A s.n s.c))
      have h1c := uc_one (U := s.U) (s := .slice s.A s.n s.c) rfl
      have hk0 : (0 : Int) ≤ (k : Int) := by omega
      have hkm : (k : Int) < (m : Int) := by omega
      obtain ⟨sc, hsc⟩ : ∃ sc, sc = uc s.U (.slice s.A s.n s.c) := ⟨_, rfl⟩
      have hsc2 : s.cs.toArray = sc := by rw [hsc]; rfl
      rw [← hsc] at HSZ h1c
      have HSC := Lib.hid hsc
      have HSC2 := Lib.hid hsc2
      have H1C := Lib.hid h1c
      obtain ⟨L, hL⟩ : ∃ L, L = s.cs := ⟨_, rfl⟩
      rw [← hL] at hrg HCL HSC2
      clear hcl hsc hsc2 h1c hL
      have HKG := Lib.hid hkg
      clear hkg
      go_upto_region 3 with fail
      go_upto_region 4 with first
        | ((with_reducible refine wpList_ldm rowLS hrg HCL.out ?_ ?_); rotate_left; (rfl); rw [HSC2.out])
        | ((with_reducible refine wpList_st rowLS (Blk.new _ _ _) HSZ.out ?_ H1C.out ?_ ?_ ?_); (rfl); rotate_left; (rfl); (rfl); intro w6 k6 g6 z6)
      have bA : Below wr.heap.size wr w6 := (((Below.refl _ _).alloc (Nat.le_refl _) _).grown g6 (by simp) (fun q hq => by injection hq with hq; omega))
      have gb6 := gb.trans (bA.mono gb.size)
      obtain ⟨gr, hgr2⟩ : ∃ gr, gr = wr.heap.size := ⟨_, rfl⟩
      rw [← hgr2] at k6 ⊢
      rw [HSC.out] at k6
      have t8 : w6.cell? ⟨gr, 8, none⟩ = some (.slice s.A s.n s.c) := (k6.cell 8).trans (uc_last hU _)
      clear hgr2 g6 z6 bA gb hrg hrd k6
      by_cases hbig : 1000 < s.n
      · have hf : R = true := by rw [HR0.out, List.any_eq_true]; exact ⟨s, hmem, decide_eq_true hbig⟩
        subst hf
        have hd : decide ((1000 : Int) < (s.n : Int)) = true := decide_eq_true (by omega)
        go_wp2_with fail
        go_ret
        exact ⟨rfl, gb6⟩
      · have hd : decide ((1000 : Int) < (s.n : Int)) = false := decide_eq_false (by omega)
        have HB := Lib.hid hbig
        clear hbig
        go_wp2_with fail
        go_roundw
        case rel => exact ⟨k + 1, by omega, by go_num, fun j u hj hu => by
          by_cases e : j = k
          · subst e; rw [HKG.out] at hu; injection hu with hu; rw [← hu]; exact HB.out
          · exact HA.out j u (by omega) hu, gb6⟩
        case measure => simp [intOf]; omega
    · have hf : R = false := by
        rw [HR0.out, ← Bool.not_eq_true, List.any_eq_true]
        rintro ⟨s, hs, hb⟩
        obtain ⟨i, hi, rfl⟩ := List.getElem_of_mem hs
        exact HA.out i _ (by have := HM.out; omega) (List.getElem?_eq_getElem hi) (of_decide_eq_true hb)
      subst hf
      have hkd : decide ((k : Int) < (m : Int)) = false := decide_eq_false (by omega)
      go_wp2_with fail
      go_ret
      exact ⟨rfl, gb⟩
end Go.Proofs.Ytacmdkjodnaohaa

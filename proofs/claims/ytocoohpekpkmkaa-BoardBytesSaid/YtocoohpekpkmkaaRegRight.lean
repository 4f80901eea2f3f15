/- The walks of reg.Right and of the document's Right (printed by gen/regright.py). -/
import Derived.Test.YtocoohpekpkmkaaRegMem
import Derived.Test.YtocoohpekpkmkaaQuiet
namespace Go.Proofs.Ytocoohpekpkmkaa
set_option linter.unusedVariables false
set_option linter.unusedSimpArgs false
open Go.RowKit
open Reg

set_option maxHeartbeats 4000000 in
theorem right29_any (U : List Int) (hU : U.length = 8) (A : Option Addr) (n c : Nat) (l : List Vl) (w : World) (hl : RdV w w.heap.size A n l) (hnb : n ≤ 100000) :
    Calls Try.prog 14 #[.agg (uc U (.slice A n c))] w fun e w' => e = .returned (.bool (rightM U l)) ∧ Below w.heap.size w w' := by
  have HN := Lib.hid hl.1
  have HNB := Lib.hid hnb
  clear hnb
  obtain ⟨R, hR⟩ : ∃ R, R = rightM U l := ⟨_, rfl⟩
  have hri := rightM_iff U l
  rw [← hR] at hri ⊢
  have HR := Lib.hid hR
  have HRI := Lib.hid hri
  clear hR hri
  have HS := Lib.hid (uc_size hU (.slice A n c))
  have hix := fun w (k : Nat) (hk : k < 8) => run_index8 w U hU k hk
  have HIX := Lib.hid hix
  have HUL := Lib.hid (show (U.map (Value.int .i64)).length = 8 by rw [List.length_map, hU])
  have HU := Lib.hid hU
  clear hix hU
  go_enter Try.func14, Try.ntmps14
  go_upto_region 1 with fail
  refine nameW ?_
  intro wv hwv
  obtain ⟨g, hg⟩ : ∃ g, g = w.heap.size := ⟨_, rfl⟩
  rw [← hg]
  have k0 : Blk wv g 31 (uc U (.slice A n c)) := by rw [hwv, hg]; exact Blk.new w _ _
  have hb0 : Below w.heap.size w wv := by rw [hwv]; exact (Below.refl _ _).alloc (Nat.le_refl _) _
  have hgw : w.heap.size ≤ g := by omega
  have t8 : wv.cell? ⟨g, 8, none⟩ = some (.slice A n c) := (k0.cell 8).trans (uc_last HU.out _)
  have hrg := uc_range k0
  have T8 := Lib.hid t8
  clear hwv hg t8
  go_upto_region 2 with ((with_reducible refine wpList_ldm row8 hrg HUL.out ?_ ?_); rotate_left; (rfl))
  rw [show (U.map (Value.int .i64)).toArray = uI U from rfl]
  clear hrg
  have K0 := Lib.hid k0
  have HB0 := Lib.hid hb0
  clear k0 hb0
  go_loopw [10] (fun i wr => ∃ k : Nat, k ≤ 8 ∧ i = .int .i64 k ∧ (∀ j, j < k → numOk (U.getD j 0) = true) ∧ wv = wr) (fun i _ => 8 - (intOf i).toNat)
  case atStart => exact ⟨0, by omega, rfl, fun j hj => by omega, rfl⟩
  case round =>
  obtain ⟨k, hk, rfl, hall, rfl⟩ := hrel
  have HA0 := Lib.hid hall
  clear hall
  by_cases hlt : k < 8
  case pos =>
    have hx1 := fun w => HIX.out w k hlt
    have hnf : numOk (U.getD k 0) = false → R = false := fun h => by
      rw [← Bool.not_eq_true, HRI.out]
      intro h2
      have := List.all_eq_true.1 h2.1 (U.getD k 0) (by rw [List.getD_eq_getElem?_getD, List.getElem?_eq_getElem (by rw [HU.out]; exact hlt)]; exact List.getElem_mem _)
      rw [h] at this
      cases this
    have hkd : decide ((k : Int) < 8) = true := decide_eq_true (by omega)
    generalize hu : U.getD k 0 = u at *
    have HUK := Lib.hid hu
    have hwi : ∀ w', Calls Try.prog 54 #[.int .i64 u, .int .i64 0, .int .i64 1099511627776] w' fun e w'' => e = .returned (.bool (numOk u)) ∧ w' = w'' := fun w' => within29_any u 0 1099511627776 w' (Or.inr trivial)
    have HWI := Lib.hid hwi
    clear hu hwi
    by_cases h1 : numOk u = false
    · have hR : R = false := hnf h1
      subst hR
      clear hnf
      go_wp2_with fail
      refine (HWI.out _).mono ?_
      rw [h1]
      rintro e w1 ⟨rfl, rfl⟩
      go_wp2_with fail
      go_ret
      exact ⟨rfl, HB0.out⟩
    · have h2 : numOk u = true := by simpa using h1
      have HN1 := Lib.hid h2
      clear hnf h1
      go_wp2_with fail
      refine (HWI.out _).mono ?_
      rw [h2]
      rintro e w1 ⟨rfl, rfl⟩
      clear h2
      go_wp2_with fail
      go_roundw
      case rel => exact ⟨k + 1, by omega, by go_num, fun j hj => by
        by_cases e : j = k
        · subst e; rw [HUK.out]; exact HN1.out
        · exact HA0.out j (by omega), (by first | rfl | trivial)⟩
      case measure => simp [intOf]; omega
  obtain rfl : k = 8 := by omega
  have HOK := Lib.hid (show U.all numOk = true from (by
    rw [List.all_eq_true]
    intro x hx
    obtain ⟨i, hi, rfl⟩ := List.getElem_of_mem hx
    have := HA0.out i (by rw [HU.out] at hi; omega)
    rwa [List.getD_eq_getElem?_getD, List.getElem?_eq_getElem hi] at this))
  have k0 := K0.out
  have hb0 := HB0.out
  have t8 := T8.out
  go_wp2_with fail
  go_loopw [5, 20] (fun s i wr => ∃ k : Nat, k ≤ n ∧ i = .int .i64 k ∧ s = .int .i64 (lastV l k) ∧ (∀ j, j < k → goodV U l j = true) ∧ Blk wr g 31 (uc U (.slice A n c)) ∧ Below w.heap.size w wr) (fun _ i _ => n - (intOf i).toNat)
  case atStart => exact ⟨0, by omega, rfl, rfl, fun j hj => by omega, k0, hb0⟩
  case round =>
    clear k0 hb0 t8
    obtain ⟨k, hk, rfl, rfl, hall, k0, hbel⟩ := hrel
    have HA := Lib.hid hall
    clear hall
    by_cases hlt : k < n
    · have hkl : k < l.length := by rw [← HN.out]; exact hlt
      have hkb : k < 100000 := by have := HNB.out; omega
      obtain ⟨ad, rfl, hdt⟩ := (hl.below hbel).2 k _ (List.getElem?_eq_getElem hkl)
      have hge : l.getD k (0, 0, 0) = l[k] := by rw [List.getD_eq_getElem?_getD, List.getElem?_eq_getElem hkl]; rfl
      have hgd : goodV U l k = (mayN (l[k]).1 (l[k]).2.2 && decide (lastV l k < (l[k]).1) && inB (l[k]).2.1 1 (U.getD (l[k]).1.toNat 0)) := by
        unfold goodV
        rw [hge]
      have hls := lastV_succ l k
      rw [hge] at hls
      clear hge
      generalize l[k] = d at *
      obtain ⟨x, s, z⟩ := d
      obtain ⟨q5, q0, q1, q2⟩ := hdt
      simp only at q0 q1 q2 hgd hls
      have HG := Lib.hid hgd
      have HLS := Lib.hid hls
      clear hgd hls
      obtain ⟨wn, hwn⟩ : ∃ wn, wn = wr.alloc (.cells #[.int .i64 x, .int .i64 s, .int .i64 z] 49) := ⟨_, rfl⟩
      obtain ⟨gd, hgd⟩ : ∃ gd, gd = wr.heap.size := ⟨_, rfl⟩
      have kd : Blk wn gd 49 #[.int .i64 x, .int .i64 s, .int .i64 z] := by rw [hwn, hgd]; exact Blk.new wr _ _
      have bn : Below wr.heap.size wr wn := by rw [hwn]; exact (Below.refl _ _).alloc (Nat.le_refl _) _
      have k1 := k0.below bn k0.lt
      have hb1 := hbel.trans (bn.mono hbel.size)
      have HW := Lib.hid hwn
      have HGD := Lib.hid hgd
      have hgl : g < gd := by rw [hgd]; exact k0.lt
      clear hwn hgd bn
      go_upto_region 11 with fail
      rw [← HW.out, ← HGD.out]
      clear q0 q1 q2 k0 hbel
      have t0 : wn.cell? ⟨gd, 0, none⟩ = some (.int .i64 x) := kd.cell 0
      have t1 : wn.cell? ⟨gd, 1, none⟩ = some (.int .i64 s) := kd.cell 1
      have t2 : wn.cell? ⟨gd, 2, none⟩ = some (.int .i64 z) := kd.cell 2
      have t8 : wn.cell? ⟨g, 8, none⟩ = some (.slice (some ad) n c) := (k1.cell 8).trans (uc_last HU.out _)
      have hmc : ∀ w', Calls Try.prog 45 #[.int .i64 x, .int .i64 z] w' fun e w'' => e = .returned (.bool (mayN x z)) ∧ Below w'.heap.size w' w'' := fun w' => (mayN_any x z w').mono fun e w'' h => ⟨h.1, by rw [← h.2]; exact Below.refl _ _⟩
      cases hm : mayN x z
      · rw [hm] at hmc
        have hf : R = false := by
          rw [HR.out]
          refine goodV_false hkl ?_
          rw [HG.out, hm]
          rfl
        subst hf
        clear hm
        have HMC := Lib.hid hmc
        clear hmc
        refine wp_region_below (by kernel_rfl) (by kernel_rfl) ?_
        intro T iT F hF hT
        have S0 : ∀ xf, (F xf).cell? ⟨gd, 0, none⟩ = some (.int .i64 x) := fun xf => ((hF xf).cell (p := ⟨gd, 0, none⟩) kd.lt).trans t0
        have S1 : ∀ xf, (F xf).cell? ⟨gd, 1, none⟩ = some (.int .i64 s) := fun xf => ((hF xf).cell (p := ⟨gd, 1, none⟩) kd.lt).trans t1
        have S2 : ∀ xf, (F xf).cell? ⟨gd, 2, none⟩ = some (.int .i64 z) := fun xf => ((hF xf).cell (p := ⟨gd, 2, none⟩) kd.lt).trans t2
        have S8 : ∀ xf, (F xf).cell? ⟨g, 8, none⟩ = some (.slice (some ad) n c) := fun xf => ((hF xf).cell (p := ⟨g, 8, none⟩) k1.lt).trans t8
        have HF := Lib.hid hF
        have HT := Lib.hid hT
        clear hF hT
        repeat (first
          | go_big_quiet_step ((first
              | (go_at_call 45; exact calls_below HF.out HT.out (HMC.out _)))))
        refine wpQuiet_nil ?_
        intro w' hw'
        obtain ⟨qf, rfl⟩ := hw'
        have bF := HF.out qf
        have z0 := S0 qf
        clear HF HT S0 S1 S2 S8
        go_wp2_with fail
        go_ret
        exact ⟨rfl, hb1.trans (bF.mono hb1.size)⟩
      · rw [hm] at hmc
        have hmi := (mayN_iff _ _).1 hm
        obtain ⟨y, rfl⟩ := Int.eq_ofNat_of_zero_le hmi.1
        have hy : y < 8 := by omega
        obtain ⟨u, hu⟩ : ∃ u, u = U.getD y 0 := ⟨_, rfl⟩
        have hub := all_numV HOK.out y
        have tu : wn.cell? ⟨g, y, none⟩ = some (.int .i64 u) := by rw [hu]; exact (k1.cell y).trans (uc_at HU.out _ hy)
        have hg2 : goodV U l k = (decide (lastV l k < (y : Int)) && inB s 1 u) := by
          rw [HG.out, hm, hu]
          rfl
        rw [← hu] at hub
        have HG2 := Lib.hid hg2
        clear hg2 hu HG hmi
        have hy0 : (0 : Int) ≤ (y : Int) := by omega
        have hy8 : (y : Int) < 8 := by omega
        generalize hlv : lastV l k = lv at *
        have HLV := Lib.hid hlv
        clear hlv
        by_cases ho : (y : Int) ≤ lv
        · have hf : R = false := by
            rw [HR.out]
            refine goodV_false hkl ?_
            rw [HG2.out, decide_eq_false (by omega)]
            rfl
          subst hf
          have hdd : decide ((y : Int) ≤ lv) = true := decide_eq_true ho
          clear ho
          clear hm
          have HMC := Lib.hid hmc
          clear hmc
          refine wp_region_below (by kernel_rfl) (by kernel_rfl) ?_
          intro T iT F hF hT
          have S0 : ∀ xf, (F xf).cell? ⟨gd, 0, none⟩ = some (.int .i64 (y : Int)) := fun xf => ((hF xf).cell (p := ⟨gd, 0, none⟩) kd.lt).trans t0
          have S1 : ∀ xf, (F xf).cell? ⟨gd, 1, none⟩ = some (.int .i64 s) := fun xf => ((hF xf).cell (p := ⟨gd, 1, none⟩) kd.lt).trans t1
          have S2 : ∀ xf, (F xf).cell? ⟨gd, 2, none⟩ = some (.int .i64 z) := fun xf => ((hF xf).cell (p := ⟨gd, 2, none⟩) kd.lt).trans t2
          have S8 : ∀ xf, (F xf).cell? ⟨g, 8, none⟩ = some (.slice (some ad) n c) := fun xf => ((hF xf).cell (p := ⟨g, 8, none⟩) k1.lt).trans t8
          have SU : ∀ xf, (F xf).cell? ⟨g, y, none⟩ = some (.int .i64 u) := fun xf => ((hF xf).cell (p := ⟨g, y, none⟩) k1.lt).trans tu
          have HF := Lib.hid hF
          have HT := Lib.hid hT
          clear hF hT
          repeat (first
            | go_big_quiet_step ((first
                | (go_at_call 45; exact calls_below HF.out HT.out (HMC.out _)))))
          refine wpQuiet_nil ?_
          intro w' hw'
          obtain ⟨qf, rfl⟩ := hw'
          have bF := HF.out qf
          have z0 := S0 qf
          clear HF HT S0 S1 S2 S8
          go_wp2_with fail
          go_ret
          exact ⟨rfl, hb1.trans (bF.mono hb1.size)⟩
        · have hdd : decide ((y : Int) ≤ lv) = false := decide_eq_false ho
          have hwc : ∀ w', Calls Try.prog 54 #[.int .i64 s, .int .i64 1, .int .i64 u] w' fun e w'' => e = .returned (.bool (inB s 1 u)) ∧ Below w'.heap.size w' w'' := fun w' => (within29_any s 1 u w' (Or.inr trivial)).mono fun e w'' h => ⟨h.1, by rw [← h.2]; exact Below.refl _ _⟩
          have hd2 : decide (lv < (y : Int)) = true := decide_eq_true (by omega)
          rw [hd2, Bool.true_and] at HG2
          clear ho hd2
          cases hi : inB s 1 u
          · rw [hi] at hwc HG2
            have hf : R = false := by
              rw [HR.out]
              exact goodV_false hkl HG2.out
            subst hf
            have HWC := Lib.hid hwc
            clear hwc hi
            clear hm
            have HMC := Lib.hid hmc
            clear hmc
            refine wp_region_below (by kernel_rfl) (by kernel_rfl) ?_
            intro T iT F hF hT
            have S0 : ∀ xf, (F xf).cell? ⟨gd, 0, none⟩ = some (.int .i64 (y : Int)) := fun xf => ((hF xf).cell (p := ⟨gd, 0, none⟩) kd.lt).trans t0
            have S1 : ∀ xf, (F xf).cell? ⟨gd, 1, none⟩ = some (.int .i64 s) := fun xf => ((hF xf).cell (p := ⟨gd, 1, none⟩) kd.lt).trans t1
            have S2 : ∀ xf, (F xf).cell? ⟨gd, 2, none⟩ = some (.int .i64 z) := fun xf => ((hF xf).cell (p := ⟨gd, 2, none⟩) kd.lt).trans t2
            have S8 : ∀ xf, (F xf).cell? ⟨g, 8, none⟩ = some (.slice (some ad) n c) := fun xf => ((hF xf).cell (p := ⟨g, 8, none⟩) k1.lt).trans t8
            have SU : ∀ xf, (F xf).cell? ⟨g, y, none⟩ = some (.int .i64 u) := fun xf => ((hF xf).cell (p := ⟨g, y, none⟩) k1.lt).trans tu
            have HF := Lib.hid hF
            have HT := Lib.hid hT
            clear hF hT
            repeat (first
              | go_big_quiet_step ((first
                  | (go_at_call 45; exact calls_below HF.out HT.out (HMC.out _))
                  | (go_at_call 54; exact calls_below HF.out HT.out (HWC.out _)))))
            refine wpQuiet_nil ?_
            intro w' hw'
            obtain ⟨qf, rfl⟩ := hw'
            have bF := HF.out qf
            have z0 := S0 qf
            clear HF HT S0 S1 S2 S8
            go_wp2_with fail
            go_ret
            exact ⟨rfl, hb1.trans (bF.mono hb1.size)⟩
          · rw [hi] at hwc HG2
            have HGK := HG2
            have HWC := Lib.hid hwc
            clear hwc hi
            clear hm
            have HMC := Lib.hid hmc
            clear hmc
            refine wp_region_below (by kernel_rfl) (by kernel_rfl) ?_
            intro T iT F hF hT
            have S0 : ∀ xf, (F xf).cell? ⟨gd, 0, none⟩ = some (.int .i64 (y : Int)) := fun xf => ((hF xf).cell (p := ⟨gd, 0, none⟩) kd.lt).trans t0
            have S1 : ∀ xf, (F xf).cell? ⟨gd, 1, none⟩ = some (.int .i64 s) := fun xf => ((hF xf).cell (p := ⟨gd, 1, none⟩) kd.lt).trans t1
            have S2 : ∀ xf, (F xf).cell? ⟨gd, 2, none⟩ = some (.int .i64 z) := fun xf => ((hF xf).cell (p := ⟨gd, 2, none⟩) kd.lt).trans t2
            have S8 : ∀ xf, (F xf).cell? ⟨g, 8, none⟩ = some (.slice (some ad) n c) := fun xf => ((hF xf).cell (p := ⟨g, 8, none⟩) k1.lt).trans t8
            have SU : ∀ xf, (F xf).cell? ⟨g, y, none⟩ = some (.int .i64 u) := fun xf => ((hF xf).cell (p := ⟨g, y, none⟩) k1.lt).trans tu
            have HF := Lib.hid hF
            have HT := Lib.hid hT
            clear hF hT
            repeat (first
              | go_big_quiet_step ((first
                  | (go_at_call 45; exact calls_below HF.out HT.out (HMC.out _))
                  | (go_at_call 54; exact calls_below HF.out HT.out (HWC.out _)))))
            refine wpQuiet_nil ?_
            intro w' hw'
            obtain ⟨qf, rfl⟩ := hw'
            have bF := HF.out qf
            have z0 := S0 qf
            clear HF HT S0 S1 S2 S8
            go_wp2_with fail
            go_roundw
            case rel => exact ⟨k + 1, by omega, by go_num, by rw [HLS.out], fun j hj => by
              by_cases e : j = k
              · subst e; exact HGK.out
              · exact HA.out j (by omega), k1.below bF k1.lt, hb1.trans (bF.mono hb1.size)⟩
            case measure => simp [intOf]; omega
    · have hR : R = true := by
        rw [HRI.out]
        exact ⟨HOK.out, fun i hi => HA.out i (by have := HN.out; omega)⟩
      subst hR
      go_wp2_with fail
      go_ret
      exact ⟨rfl, hbel⟩
set_option maxHeartbeats 4000000 in
theorem rright29_any (U : List Int) (hU : U.length = 8) (A : Option Addr) (n c : Nat) (l : List Vl) (w : World) (hl : RdV w w.heap.size A n l) (hnb : n ≤ 100000) :
    Calls Try.prog 15 #[.agg (uc U (.slice A n c))] w fun e w' => e = .returned (.bool (rightM U l)) ∧ Below w.heap.size w w' := by
  have HN := Lib.hid hl.1
  have HNB := Lib.hid hnb
  clear hnb
  obtain ⟨R, hR⟩ : ∃ R, R = rightM U l := ⟨_, rfl⟩
  have hri := rightM_iff U l
  rw [← hR] at hri ⊢
  have HR := Lib.hid hR
  have HRI := Lib.hid hri
  clear hR hri
  have HS := Lib.hid (uc_size hU (.slice A n c))
  have hix := fun w (k : Nat) (hk : k < 8) => run_index8 w U hU k hk
  have HIX := Lib.hid hix
  have HUL := Lib.hid (show (U.map (Value.int .i64)).length = 8 by rw [List.length_map, hU])
  have HU := Lib.hid hU
  clear hix hU
  go_enter Try.func15, Try.ntmps15
  go_upto_region 1 with fail
  refine nameW ?_
  intro wv hwv
  obtain ⟨g, hg⟩ : ∃ g, g = w.heap.size := ⟨_, rfl⟩
  rw [← hg]
  have k0 : Blk wv g 25 (uc U (.slice A n c)) := by rw [hwv, hg]; exact Blk.new w _ _
  have hb0 : Below w.heap.size w wv := by rw [hwv]; exact (Below.refl _ _).alloc (Nat.le_refl _) _
  have hgw : w.heap.size ≤ g := by omega
  have t8 : wv.cell? ⟨g, 8, none⟩ = some (.slice A n c) := (k0.cell 8).trans (uc_last HU.out _)
  have hrg := uc_range k0
  have T8 := Lib.hid t8
  clear hwv hg t8
  go_upto_region 2 with ((with_reducible refine wpList_ldm row8 hrg HUL.out ?_ ?_); rotate_left; (rfl))
  rw [show (U.map (Value.int .i64)).toArray = uI U from rfl]
  clear hrg
  have K0 := Lib.hid k0
  have HB0 := Lib.hid hb0
  clear k0 hb0
  go_loopw [9] (fun i wr => ∃ k : Nat, k ≤ 8 ∧ i = .int .i64 k ∧ (∀ j, j < k → numOk (U.getD j 0) = true) ∧ wv = wr) (fun i _ => 8 - (intOf i).toNat)
  case atStart => exact ⟨0, by omega, rfl, fun j hj => by omega, rfl⟩
  case round =>
  obtain ⟨k, hk, rfl, hall, rfl⟩ := hrel
  have HA0 := Lib.hid hall
  clear hall
  by_cases hlt : k < 8
  case pos =>
    have hx1 := fun w => HIX.out w k hlt
    have hnf : numOk (U.getD k 0) = false → R = false := fun h => by
      rw [← Bool.not_eq_true, HRI.out]
      intro h2
      have := List.all_eq_true.1 h2.1 (U.getD k 0) (by rw [List.getD_eq_getElem?_getD, List.getElem?_eq_getElem (by rw [HU.out]; exact hlt)]; exact List.getElem_mem _)
      rw [h] at this
      cases this
    have hkd : decide ((k : Int) < 8) = true := decide_eq_true (by omega)
    generalize hu : U.getD k 0 = u at *
    have HUK := Lib.hid hu
    have hok := numOk_iff u
    clear hu
    by_cases h1 : u < 0
    · have hR : R = false := hnf (by rw [← Bool.not_eq_true, hok]; omega)
      subst hR
      clear hok hnf
      go_wp2_with fail
      go_ret
      exact ⟨rfl, HB0.out⟩
    · by_cases h2 : 1099511627776 < u
      · have hR : R = false := hnf (by rw [← Bool.not_eq_true, hok]; omega)
        subst hR
        clear hok hnf
        go_wp2_with fail
        go_ret
        exact ⟨rfl, HB0.out⟩
      · have hn1 := hok.2 ⟨by omega, by omega⟩
        have HN1 := Lib.hid hn1
        clear hok hnf hn1
        go_wp2_with fail
        go_roundw
        case rel => exact ⟨k + 1, by omega, by go_num, fun j hj => by
          by_cases e : j = k
          · subst e; rw [HUK.out]; exact HN1.out
          · exact HA0.out j (by omega), (by first | rfl | trivial)⟩
        case measure => simp [intOf]; omega
  obtain rfl : k = 8 := by omega
  have HOK := Lib.hid (show U.all numOk = true from (by
    rw [List.all_eq_true]
    intro x hx
    obtain ⟨i, hi, rfl⟩ := List.getElem_of_mem hx
    have := HA0.out i (by rw [HU.out] at hi; omega)
    rwa [List.getD_eq_getElem?_getD, List.getElem?_eq_getElem hi] at this))
  have k0 := K0.out
  have hb0 := HB0.out
  have t8 := T8.out
  go_wp2_with fail
  go_loopw [22] (fun i wr => ∃ k : Nat, k ≤ n ∧ i = .int .i64 k ∧ (∀ j, j < k → goodV U l j = true) ∧ Blk wr g 25 (uc U (.slice A n c)) ∧ Below w.heap.size w wr) (fun i _ => n - (intOf i).toNat)
  case atStart => exact ⟨0, by omega, rfl, fun j hj => by omega, k0, hb0⟩
  case round =>
    clear k0 hb0 t8
    obtain ⟨k, hk, rfl, hall, k0, hbel⟩ := hrel
    have HA := Lib.hid hall
    clear hall
    by_cases hlt : k < n
    · have hkl : k < l.length := by rw [← HN.out]; exact hlt
      have hkb : k < 100000 := by have := HNB.out; omega
      obtain ⟨ad, rfl, hdt⟩ := (hl.below hbel).2 k _ (List.getElem?_eq_getElem hkl)
      have hge : l.getD k (0, 0, 0) = l[k] := by rw [List.getD_eq_getElem?_getD, List.getElem?_eq_getElem hkl]; rfl
      have hgd : goodV U l k = (mayN (l[k]).1 (l[k]).2.2 && decide (lastV l k < (l[k]).1) && inB (l[k]).2.1 1 (U.getD (l[k]).1.toNat 0)) := by
        unfold goodV
        rw [hge]
      have hls := lastV_succ l k
      rw [hge] at hls
      clear hge
      generalize l[k] = d at *
      obtain ⟨x, s, z⟩ := d
      obtain ⟨q5, q0, q1, q2⟩ := hdt
      simp only at q0 q1 q2 hgd hls
      have HG := Lib.hid hgd
      have HLS := Lib.hid hls
      clear hgd hls
      obtain ⟨wn, hwn⟩ : ∃ wn, wn = wr.alloc (.cells #[.int .i64 x, .int .i64 s, .int .i64 z] 105) := ⟨_, rfl⟩
      obtain ⟨gd, hgd⟩ : ∃ gd, gd = wr.heap.size := ⟨_, rfl⟩
      have kd : Blk wn gd 105 #[.int .i64 x, .int .i64 s, .int .i64 z] := by rw [hwn, hgd]; exact Blk.new wr _ _
      have bn : Below wr.heap.size wr wn := by rw [hwn]; exact (Below.refl _ _).alloc (Nat.le_refl _) _
      have k1 := k0.below bn k0.lt
      have hb1 := hbel.trans (bn.mono hbel.size)
      have HW := Lib.hid hwn
      have HGD := Lib.hid hgd
      have hgl : g < gd := by rw [hgd]; exact k0.lt
      clear hwn hgd bn
      go_upto_region 10 with fail
      rw [← HW.out, ← HGD.out]
      clear q0 q1 q2 k0 hbel
      have t0 : wn.cell? ⟨gd, 0, none⟩ = some (.int .i64 x) := kd.cell 0
      have t1 : wn.cell? ⟨gd, 1, none⟩ = some (.int .i64 s) := kd.cell 1
      have t2 : wn.cell? ⟨gd, 2, none⟩ = some (.int .i64 z) := kd.cell 2
      have t8 : wn.cell? ⟨g, 8, none⟩ = some (.slice (some ad) n c) := (k1.cell 8).trans (uc_last HU.out _)
      have hmc : ∀ w', Calls Try.prog 46 #[.int .i64 x, .int .i64 z] w' fun e w'' => e = .returned (.bool (mayN x z)) ∧ Below w'.heap.size w' w'' := fun w' => (rmay29_any x z w').mono fun e w'' h => ⟨h.1, by rw [← h.2]; exact Below.refl _ _⟩
      cases hm : mayN x z
      · rw [hm] at hmc
        have hf : R = false := by
          rw [HR.out]
          refine goodV_false hkl ?_
          rw [HG.out, hm]
          rfl
        subst hf
        clear hm
        have HMC := Lib.hid hmc
        clear hmc
        refine wp_region_below (by kernel_rfl) (by kernel_rfl) ?_
        intro T iT F hF hT
        have S0 : ∀ xf, (F xf).cell? ⟨gd, 0, none⟩ = some (.int .i64 x) := fun xf => ((hF xf).cell (p := ⟨gd, 0, none⟩) kd.lt).trans t0
        have S1 : ∀ xf, (F xf).cell? ⟨gd, 1, none⟩ = some (.int .i64 s) := fun xf => ((hF xf).cell (p := ⟨gd, 1, none⟩) kd.lt).trans t1
        have S2 : ∀ xf, (F xf).cell? ⟨gd, 2, none⟩ = some (.int .i64 z) := fun xf => ((hF xf).cell (p := ⟨gd, 2, none⟩) kd.lt).trans t2
        have S8 : ∀ xf, (F xf).cell? ⟨g, 8, none⟩ = some (.slice (some ad) n c) := fun xf => ((hF xf).cell (p := ⟨g, 8, none⟩) k1.lt).trans t8
        have HF := Lib.hid hF
        have HT := Lib.hid hT
        clear hF hT
        repeat (first
          | go_big_quiet_step ((first
              | (go_at_call 46; exact calls_below HF.out HT.out (HMC.out _)))))
        refine wpQuiet_nil ?_
        intro w' hw'
        obtain ⟨qf, rfl⟩ := hw'
        have bF := HF.out qf
        have z0 := S0 qf
        clear HF HT S0 S1 S2 S8
        go_wp2_with fail
        go_ret
        exact ⟨rfl, hb1.trans (bF.mono hb1.size)⟩
      · rw [hm] at hmc
        have hmi := (mayN_iff _ _).1 hm
        obtain ⟨y, rfl⟩ := Int.eq_ofNat_of_zero_le hmi.1
        have hy : y < 8 := by omega
        obtain ⟨u, hu⟩ : ∃ u, u = U.getD y 0 := ⟨_, rfl⟩
        have hub := all_numV HOK.out y
        have tu : wn.cell? ⟨g, y, none⟩ = some (.int .i64 u) := by rw [hu]; exact (k1.cell y).trans (uc_at HU.out _ hy)
        have hg2 : goodV U l k = (decide (lastV l k < (y : Int)) && inB s 1 u) := by
          rw [HG.out, hm, hu]
          rfl
        rw [← hu] at hub
        have HG2 := Lib.hid hg2
        clear hg2 hu HG hmi
        have hy0 : (0 : Int) ≤ (y : Int) := by omega
        have hy8 : (y : Int) < 8 := by omega
        by_cases h1 : s < 1
        · have hf : R = false := by
            rw [HR.out]
            refine goodV_false hkl ?_
            rw [HG2.out, show inB s 1 u = false by rw [← Bool.not_eq_true, inB_iff]; omega, Bool.and_false]
          subst hf
          have hdd : decide (s < 1) = true := decide_eq_true h1
          clear h1
          clear hm
          have HMC := Lib.hid hmc
          clear hmc
          refine wp_region_below (by kernel_rfl) (by kernel_rfl) ?_
          intro T iT F hF hT
          have S0 : ∀ xf, (F xf).cell? ⟨gd, 0, none⟩ = some (.int .i64 (y : Int)) := fun xf => ((hF xf).cell (p := ⟨gd, 0, none⟩) kd.lt).trans t0
          have S1 : ∀ xf, (F xf).cell? ⟨gd, 1, none⟩ = some (.int .i64 s) := fun xf => ((hF xf).cell (p := ⟨gd, 1, none⟩) kd.lt).trans t1
          have S2 : ∀ xf, (F xf).cell? ⟨gd, 2, none⟩ = some (.int .i64 z) := fun xf => ((hF xf).cell (p := ⟨gd, 2, none⟩) kd.lt).trans t2
          have S8 : ∀ xf, (F xf).cell? ⟨g, 8, none⟩ = some (.slice (some ad) n c) := fun xf => ((hF xf).cell (p := ⟨g, 8, none⟩) k1.lt).trans t8
          have SU : ∀ xf, (F xf).cell? ⟨g, y, none⟩ = some (.int .i64 u) := fun xf => ((hF xf).cell (p := ⟨g, y, none⟩) k1.lt).trans tu
          have HF := Lib.hid hF
          have HT := Lib.hid hT
          clear hF hT
          repeat (first
            | go_big_quiet_step ((first
                | (go_at_call 46; exact calls_below HF.out HT.out (HMC.out _)))))
          refine wpQuiet_nil ?_
          intro w' hw'
          obtain ⟨qf, rfl⟩ := hw'
          have bF := HF.out qf
          have z0 := S0 qf
          clear HF HT S0 S1 S2 S8
          go_wp2_with fail
          go_ret
          exact ⟨rfl, hb1.trans (bF.mono hb1.size)⟩
        have hd1 : decide (s < 1) = false := decide_eq_false h1
        by_cases h2 : u < s
        · have hf : R = false := by
            rw [HR.out]
            refine goodV_false hkl ?_
            rw [HG2.out, show inB s 1 u = false by rw [← Bool.not_eq_true, inB_iff]; omega, Bool.and_false]
          subst hf
          have hdd : decide (u < s) = true := decide_eq_true h2
          clear h1 h2
          clear hm
          have HMC := Lib.hid hmc
          clear hmc
          refine wp_region_below (by kernel_rfl) (by kernel_rfl) ?_
          intro T iT F hF hT
          have S0 : ∀ xf, (F xf).cell? ⟨gd, 0, none⟩ = some (.int .i64 (y : Int)) := fun xf => ((hF xf).cell (p := ⟨gd, 0, none⟩) kd.lt).trans t0
          have S1 : ∀ xf, (F xf).cell? ⟨gd, 1, none⟩ = some (.int .i64 s) := fun xf => ((hF xf).cell (p := ⟨gd, 1, none⟩) kd.lt).trans t1
          have S2 : ∀ xf, (F xf).cell? ⟨gd, 2, none⟩ = some (.int .i64 z) := fun xf => ((hF xf).cell (p := ⟨gd, 2, none⟩) kd.lt).trans t2
          have S8 : ∀ xf, (F xf).cell? ⟨g, 8, none⟩ = some (.slice (some ad) n c) := fun xf => ((hF xf).cell (p := ⟨g, 8, none⟩) k1.lt).trans t8
          have SU : ∀ xf, (F xf).cell? ⟨g, y, none⟩ = some (.int .i64 u) := fun xf => ((hF xf).cell (p := ⟨g, y, none⟩) k1.lt).trans tu
          have HF := Lib.hid hF
          have HT := Lib.hid hT
          clear hF hT
          repeat (first
            | go_big_quiet_step ((first
                | (go_at_call 46; exact calls_below HF.out HT.out (HMC.out _)))))
          refine wpQuiet_nil ?_
          intro w' hw'
          obtain ⟨qf, rfl⟩ := hw'
          have bF := HF.out qf
          have z0 := S0 qf
          clear HF HT S0 S1 S2 S8
          go_wp2_with fail
          go_ret
          exact ⟨rfl, hb1.trans (bF.mono hb1.size)⟩
        have hd2 : decide (u < s) = false := decide_eq_false h2
        have hg3 : goodV U l k = decide (lastV l k < (y : Int)) := by rw [HG2.out, show inB s 1 u = true by rw [inB_iff]; omega, Bool.and_true]
        have HG3 := Lib.hid hg3
        clear h1 h2 hg3
        by_cases hk0 : k = 0
        · subst hk0
          have HGK := Lib.hid (show goodV U l 0 = true by rw [HG3.out, lastV_zero]; exact decide_eq_true (by omega))
          clear hm
          have HMC := Lib.hid hmc
          clear hmc
          refine wp_region_below (by kernel_rfl) (by kernel_rfl) ?_
          intro T iT F hF hT
          have S0 : ∀ xf, (F xf).cell? ⟨gd, 0, none⟩ = some (.int .i64 (y : Int)) := fun xf => ((hF xf).cell (p := ⟨gd, 0, none⟩) kd.lt).trans t0
          have S1 : ∀ xf, (F xf).cell? ⟨gd, 1, none⟩ = some (.int .i64 s) := fun xf => ((hF xf).cell (p := ⟨gd, 1, none⟩) kd.lt).trans t1
          have S2 : ∀ xf, (F xf).cell? ⟨gd, 2, none⟩ = some (.int .i64 z) := fun xf => ((hF xf).cell (p := ⟨gd, 2, none⟩) kd.lt).trans t2
          have S8 : ∀ xf, (F xf).cell? ⟨g, 8, none⟩ = some (.slice (some ad) n c) := fun xf => ((hF xf).cell (p := ⟨g, 8, none⟩) k1.lt).trans t8
          have SU : ∀ xf, (F xf).cell? ⟨g, y, none⟩ = some (.int .i64 u) := fun xf => ((hF xf).cell (p := ⟨g, y, none⟩) k1.lt).trans tu
          have HF := Lib.hid hF
          have HT := Lib.hid hT
          clear hF hT
          repeat (first
            | go_big_quiet_step ((first
                | (go_at_call 46; exact calls_below HF.out HT.out (HMC.out _)))))
          refine wpQuiet_nil ?_
          intro w' hw'
          obtain ⟨qf, rfl⟩ := hw'
          have bF := HF.out qf
          have z0 := S0 qf
          clear HF HT S0 S1 S2 S8
          go_wp2_with fail
          go_roundw
          case rel => exact ⟨1, by omega, by rfl, fun j hj => by
            by_cases e : j = 0
            · subst e; exact HGK.out
            · exact HA.out j (by omega), k1.below bF k1.lt, hb1.trans (bF.mono hb1.size)⟩
          case measure => simp [intOf]; omega
        obtain ⟨m, hmk⟩ : ∃ m, k = m + 1 := ⟨k - 1, by omega⟩
        have hml : m < l.length := by omega
        have hkp : 0 < k := by omega
        have hwk : IntKind.i64.wrap ((k : Int) - 1) = (m : Int) := by
          have := HNB.out
          rw [IntKind.wrap_i64]
          omega
        have hm0 : (0 : Int) ≤ (m : Int) := by omega
        have hmn : (m : Int) < (n : Int) := by omega
        obtain ⟨ad2, hae, hdt2⟩ := (hl.below hb1).2 m _ (List.getElem?_eq_getElem hml)
        injection hae with hae
        subst hae
        have hpe : l.getD m (0, 0, 0) = l[m] := by rw [List.getD_eq_getElem?_getD, List.getElem?_eq_getElem hml]; rfl
        have hg4 : goodV U l k = decide ((l[m]).1 < (y : Int)) := by rw [HG3.out, hmk, lastV_succ, hpe]
        clear hpe
        generalize l[m] = d at *
        obtain ⟨x2, s2, z2⟩ := d
        obtain ⟨p5, p0, _, _⟩ := hdt2
        simp only at p0 hg4
        have p6 : (ad.add (m * 3)).block < wn.heap.size := Nat.lt_of_lt_of_le p5 hb1.size
        have HG4 := Lib.hid hg4
        clear hg4 hmk
        by_cases ho : (y : Int) ≤ x2
        · have hf : R = false := by
            rw [HR.out]
            refine goodV_false hkl ?_
            rw [HG4.out, decide_eq_false (by omega)]
          subst hf
          have hdd : decide ((y : Int) ≤ x2) = true := decide_eq_true ho
          clear ho
          clear hm
          have HMC := Lib.hid hmc
          clear hmc
          refine wp_region_below (by kernel_rfl) (by kernel_rfl) ?_
          intro T iT F hF hT
          have S0 : ∀ xf, (F xf).cell? ⟨gd, 0, none⟩ = some (.int .i64 (y : Int)) := fun xf => ((hF xf).cell (p := ⟨gd, 0, none⟩) kd.lt).trans t0
          have S1 : ∀ xf, (F xf).cell? ⟨gd, 1, none⟩ = some (.int .i64 s) := fun xf => ((hF xf).cell (p := ⟨gd, 1, none⟩) kd.lt).trans t1
          have S2 : ∀ xf, (F xf).cell? ⟨gd, 2, none⟩ = some (.int .i64 z) := fun xf => ((hF xf).cell (p := ⟨gd, 2, none⟩) kd.lt).trans t2
          have S8 : ∀ xf, (F xf).cell? ⟨g, 8, none⟩ = some (.slice (some ad) n c) := fun xf => ((hF xf).cell (p := ⟨g, 8, none⟩) k1.lt).trans t8
          have SU : ∀ xf, (F xf).cell? ⟨g, y, none⟩ = some (.int .i64 u) := fun xf => ((hF xf).cell (p := ⟨g, y, none⟩) k1.lt).trans tu
          have SP : ∀ xf, (F xf).cell? (ad.add (m * 3)) = some (.int .i64 x2) := fun xf => ((hF xf).cell p6).trans p0
          have HF := Lib.hid hF
          have HT := Lib.hid hT
          clear hF hT
          repeat (first
            | go_big_quiet_step ((first
                | (go_at_call 46; exact calls_below HF.out HT.out (HMC.out _)))))
          refine wpQuiet_nil ?_
          intro w' hw'
          obtain ⟨qf, rfl⟩ := hw'
          have bF := HF.out qf
          have z0 := S0 qf
          clear HF HT S0 S1 S2 S8
          go_wp2_with fail
          go_ret
          exact ⟨rfl, hb1.trans (bF.mono hb1.size)⟩
        · have hdd : decide ((y : Int) ≤ x2) = false := decide_eq_false ho
          have HGK := Lib.hid (show goodV U l k = true by rw [HG4.out]; exact decide_eq_true (by omega))
          clear ho
          clear hm
          have HMC := Lib.hid hmc
          clear hmc
          refine wp_region_below (by kernel_rfl) (by kernel_rfl) ?_
          intro T iT F hF hT
          have S0 : ∀ xf, (F xf).cell? ⟨gd, 0, none⟩ = some (.int .i64 (y : Int)) := fun xf => ((hF xf).cell (p := ⟨gd, 0, none⟩) kd.lt).trans t0
          have S1 : ∀ xf, (F xf).cell? ⟨gd, 1, none⟩ = some (.int .i64 s) := fun xf => ((hF xf).cell (p := ⟨gd, 1, none⟩) kd.lt).trans t1
          have S2 : ∀ xf, (F xf).cell? ⟨gd, 2, none⟩ = some (.int .i64 z) := fun xf => ((hF xf).cell (p := ⟨gd, 2, none⟩) kd.lt).trans t2
          have S8 : ∀ xf, (F xf).cell? ⟨g, 8, none⟩ = some (.slice (some ad) n c) := fun xf => ((hF xf).cell (p := ⟨g, 8, none⟩) k1.lt).trans t8
          have SU : ∀ xf, (F xf).cell? ⟨g, y, none⟩ = some (.int .i64 u) := fun xf => ((hF xf).cell (p := ⟨g, y, none⟩) k1.lt).trans tu
          have SP : ∀ xf, (F xf).cell? (ad.add (m * 3)) = some (.int .i64 x2) := fun xf => ((hF xf).cell p6).trans p0
          have HF := Lib.hid hF
          have HT := Lib.hid hT
          clear hF hT
          repeat (first
            | go_big_quiet_step ((first
                | (go_at_call 46; exact calls_below HF.out HT.out (HMC.out _)))))
          refine wpQuiet_nil ?_
          intro w' hw'
          obtain ⟨qf, rfl⟩ := hw'
          have bF := HF.out qf
          have z0 := S0 qf
          clear HF HT S0 S1 S2 S8
          go_wp2_with fail
          go_roundw
          case rel => exact ⟨k + 1, by omega, by go_num, fun j hj => by
            by_cases e : j = k
            · subst e; exact HGK.out
            · exact HA.out j (by omega), k1.below bF k1.lt, hb1.trans (bF.mono hb1.size)⟩
          case measure => simp [intOf]; omega
    · have hR : R = true := by
        rw [HRI.out]
        exact ⟨HOK.out, fun i hi => HA.out i (by have := HN.out; omega)⟩
      subst hR
      go_wp2_with fail
      go_ret
      exact ⟨rfl, hbel⟩
end Go.Proofs.Ytocoohpekpkmkaa

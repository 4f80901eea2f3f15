/- The walk of the document's Has. -/
import Derived.Test.YtacmdkjodnaohaaDotRRight
namespace Go.Proofs.Ytacmdkjodnaohaa
open Go.RowKit
open Dot
theorem hasB_false1 {U : List Int} {l : List Dt} {d : Dt} (h : rightB U l = false) : hasB U l d = false := by unfold hasB hasG; rw [h]; simp
theorem hasB_false2 {U : List Int} {l : List Dt} {d : Dt} (h : mayB d = false) : hasB U l d = false := by unfold hasB; rw [h]; rfl
theorem hasB_eq {U : List Int} {l : List Dt} {y p : Nat} (h : rightB U l = true) (hm : mayB ((y : Int), (p : Int)) = true) : hasB U l ((y : Int), (p : Int)) = (decide ((p : Int) ≤ U.getD y 0) || l.contains ((y : Int), (p : Int))) := by
  have := (may_iff _).1 hm
  simp only at this
  unfold hasB hasG
  rw [h, hm]
  simp only [Int.toNat_natCast]
  rw [decide_eq_true (show y < 8 by omega), decide_eq_true (show 1 ≤ p by omega), decide_eq_true (show p ≤ 96 by omega)]
  simp
set_option maxRecDepth 100000 in
set_option maxHeartbeats 2000000 in
theorem rhas_any (U : List Int) (hU : U.length = 8) (A : Option Addr) (n c : Nat) (l : List Dt) (x q : Int) (w : World) (hl : RdD w w.heap.size A n l) :
    Calls Try.prog 18 #[.agg (uc U (.slice A n c)), .agg #[.int .i64 x, .int .i64 q]] w fun e w' => e = .returned (.bool (hasB U l (x, q))) ∧ Below w.heap.size w w' := by
  have HN := Lib.hid hl.1
  obtain ⟨R, hR⟩ : ∃ R, R = hasB U l (x, q) := ⟨_, rfl⟩
  rw [← hR]
  have HS := Lib.hid (uc_size hU (.slice A n c))
  have HU := Lib.hid hU
  have hrc := fun w' (hb : Below w.heap.size w w') => rright_any U hU A n c l w' ((hl.below hb).more hb.size)
  have HRC := Lib.hid hrc
  clear hU hrc
  go_enter Try.func18, Try.ntmps18
  go_upto_region 1 with fail
  refine nameW ?_
  intro wv hwv
  obtain ⟨g, hg⟩ : ∃ g, g = w.heap.size := ⟨_, rfl⟩
  rw [← hg]
  have k0 : Blk wv g 35 (uc U (.slice A n c)) := by rw [hwv, hg]; exact (Blk.new w _ _).alloc _
  have kd : Blk wv (g + 1) 27 #[.int .i64 x, .int .i64 q] := by
    have h := Blk.new (w.alloc (.cells (uc U (.slice A n c)) 35)) 27 #[.int .i64 x, .int .i64 q]
    rw [hwv, hg]
    simpa using h
  have hb0 : Below w.heap.size w wv := by rw [hwv]; exact ((Below.refl _ _).alloc (Nat.le_refl _) _).alloc (by simp) _
  have hgw : w.heap.size ≤ g := by omega
  clear hwv hg
  go_wp2_with ((with_reducible refine wpList_ld rowRS k0 HS.out ?_ ?_); rotate_left; (rfl))
  refine (HRC.out wv hb0).mono ?_
  rintro e w1 ⟨rfl, h1⟩
  have k1 := k0.below h1 k0.lt
  have kd1 := kd.below h1 kd.lt
  have b1 := hb0.trans (h1.mono hb0.size)
  clear k0 kd hb0 h1
  by_cases hr : rightB U l = true
  case neg =>
    have hr2 : rightB U l = false := by simpa using hr
    have hf : R = false := by rw [hR]; exact hasB_false1 hr2
    rw [hr2]
    clear hR hr
    subst hf
    go_wp2_with fail
    go_ret
    exact ⟨rfl, b1⟩
  rw [hr]
  have t0 : w1.cell? ⟨g + 1, 0, none⟩ = some (.int .i64 x) := kd1.cell 0
  have t1 : w1.cell? ⟨g + 1, 1, none⟩ = some (.int .i64 q) := kd1.cell 1
  go_wp2_with fail
  refine (rmay_any x q w1).mono ?_
  rintro e w2 ⟨rfl, h2⟩
  have k2 := k1.below h2 k1.lt
  have kd2 := kd1.below h2 kd1.lt
  have b2 := b1.trans (h2.mono b1.size)
  clear k1 kd1 b1 h2 t0 t1
  by_cases hm : mayB (x, q) = true
  case neg =>
    have hm2 : mayB (x, q) = false := by simpa using hm
    have hf : R = false := by rw [hR]; exact hasB_false2 hm2
    rw [hm2]
    clear hR hm hr
    subst hf
    go_wp2_with fail
    go_ret
    exact ⟨rfl, b2⟩
  rw [hm]
  have hmi := (may_iff _).1 hm
  simp only at hmi
  obtain ⟨y, rfl⟩ := Int.eq_ofNat_of_zero_le hmi.1
  obtain ⟨p, rfl⟩ := Int.eq_ofNat_of_zero_le (show 0 ≤ q by omega)
  have hy : y < 8 := by omega
  have hy0 : (0 : Int) ≤ (y : Int) := by omega
  have hy8 : (y : Int) < 8 := by omega
  rw [hasB_eq hr hm] at hR
  have hn768 : n ≤ 768 := by have := ((right_iff U l).1 hr).2.1; have := HN.out; omega
  obtain ⟨u, hu⟩ : ∃ u, u = U.getD y 0 := ⟨_, rfl⟩
  rw [← hu] at hR
  have t0 : w2.cell? ⟨g + 1, 0, none⟩ = some (.int .i64 (y : Nat)) := kd2.cell 0
  have t1 : w2.cell? ⟨g + 1, 1, none⟩ = some (.int .i64 (p : Nat)) := kd2.cell 1
  have tu : w2.cell? ⟨g, y, none⟩ = some (.int .i64 u) := by rw [hu]; exact (k2.cell _).trans (uc_at HU.out _ hy)
  have HRR := Lib.hid hR
  clear hR hm hr hmi hu
  go_upto_region 3 with fail
  go_region_held3 (fun w' => w'.cell? ⟨g + 1, 0, none⟩ = some (.int .i64 (y : Nat)) ∧ w'.cell? ⟨g + 1, 1, none⟩ = some (.int .i64 (p : Nat)) ∧ w'.cell? ⟨g, y, none⟩ = some (.int .i64 u))
    (first | go_keep)
    (first | fail)
  have k3 := k2.drew
  have kd3 := kd2.drew
  have b3 := b2.drew
  clear k2 kd2 b2 t0 t1 tu
  generalize w2.drew = w3 at *
  by_cases hpu : (p : Int) ≤ u
  · have hf : R = true := by rw [HRR.out, decide_eq_true hpu]; rfl
    subst hf
    have hd : decide ((p : Int) ≤ u) = true := decide_eq_true hpu
    go_wp2_with fail
    go_ret
    exact ⟨rfl, b3⟩
  have hd : decide ((p : Int) ≤ u) = false := decide_eq_false hpu
  have hR2 : R = l.contains ((y : Int), (p : Int)) := by rw [HRR.out, hd]; rfl
  have HR2 := Lib.hid hR2
  have t8 : w3.cell? ⟨g, 8, none⟩ = some (.slice A n c) := (k3.cell 8).trans (uc_last HU.out _)
  clear hR2
  go_wp2_with fail
  go_loopw [26] (fun i wr => ∃ k : Nat, k ≤ n ∧ i = .int .i64 k ∧ (∀ j d, j < k → l[j]? = some d → d ≠ ((y : Int), (p : Int))) ∧ Blk wr (g + 1) 27 #[.int .i64 (y : Nat), .int .i64 (p : Nat)] ∧ Below w.heap.size w wr) (fun i _ => n - (intOf i).toNat)
  case atStart => exact ⟨0, by omega, rfl, fun j d hj => by omega, kd3, b3⟩
  case round =>
    clear kd3 b3 t8 k3
    obtain ⟨k, hk, rfl, hall, kd, hbel⟩ := hrel
    have HA := Lib.hid hall
    clear hall
    by_cases hlt : k < n
    · have hkl : k < l.length := by rw [← HN.out]; exact hlt
      obtain ⟨ad, rfl, hdt⟩ := (hl.below hbel).2 k _ (List.getElem?_eq_getElem hkl)
      have hkg : l[k]? = some l[k] := List.getElem?_eq_getElem hkl
      have hmem : l[k] ∈ l := List.getElem_mem hkl
      generalize l[k] = d at *
      obtain ⟨x2, q2⟩ := d
      obtain ⟨q5, q0, q1⟩ := hdt
      simp only at q0 q1
      have HKG := Lib.hid hkg
      clear hkg
      obtain ⟨wn, hwn⟩ : ∃ wn, wn = wr.alloc (.cells #[.int .i64 x2, .int .i64 q2] 27) := ⟨_, rfl⟩
      obtain ⟨gd, hgd⟩ : ∃ gd, gd = wr.heap.size := ⟨_, rfl⟩
      have kn : Blk wn gd 27 #[.int .i64 x2, .int .i64 q2] := by rw [hwn, hgd]; exact Blk.new wr _ _
      have bn : Below wr.heap.size wr wn := by rw [hwn]; exact (Below.refl _ _).alloc (Nat.le_refl _) _
      have kd1 := kd.below bn kd.lt
      have hb1 := hbel.trans (bn.mono hbel.size)
      have HW := Lib.hid hwn
      have HGD := Lib.hid hgd
      clear hwn hgd bn
      go_upto_region 8 with fail
      rw [← HW.out, ← HGD.out]
      clear q0 q1 kd hbel
      have t0 : wn.cell? ⟨gd, 0, none⟩ = some (.int .i64 x2) := kn.cell 0
      have t1 : wn.cell? ⟨gd, 1, none⟩ = some (.int .i64 q2) := kn.cell 1
      have t2 : wn.cell? ⟨g + 1, 0, none⟩ = some (.int .i64 (y : Nat)) := kd1.cell 0
      have t3 : wn.cell? ⟨g + 1, 1, none⟩ = some (.int .i64 (p : Nat)) := kd1.cell 1
      by_cases e1 : x2 = (y : Int)
      · subst e1
        by_cases e2 : q2 = (p : Int)
        · subst e2
          have hf : R = true := by rw [HR2.out, List.contains_iff_mem]; exact hmem
          subst hf
          go_wp2_with fail
          go_ret
          exact ⟨rfl, hb1⟩
        · have he : (((y : Int), q2) : Dt) ≠ ((y : Int), (p : Int)) := fun h => e2 (by injection h)
          have HE := Lib.hid he
          clear he
          go_wp2_with fail
          go_roundw
          case rel => exact ⟨k + 1, by omega, by go_num, fun j d hj hd => by
            by_cases e : j = k
            · subst e; rw [HKG.out] at hd; injection hd with hd; rw [← hd]; exact HE.out
            · exact HA.out j d (by omega) hd, kd1, hb1⟩
          case measure => simp [intOf]; omega
      · have he : ((x2, q2) : Dt) ≠ ((y : Int), (p : Int)) := fun h => e1 (by injection h)
        have HE := Lib.hid he
        clear he
        go_wp2_with fail
        go_roundw
        case rel => exact ⟨k + 1, by omega, by go_num, fun j d hj hd => by
          by_cases e : j = k
          · subst e; rw [HKG.out] at hd; injection hd with hd; rw [← hd]; exact HE.out
          · exact HA.out j d (by omega) hd, kd1, hb1⟩
        case measure => simp [intOf]; omega
    · have hf : R = false := by
        rw [HR2.out, ← Bool.not_eq_true, List.contains_iff_mem]
        intro h
        obtain ⟨i, hi, he⟩ := List.getElem_of_mem h
        exact HA.out i _ (by have := HN.out; omega) (List.getElem?_eq_getElem hi) he
      subst hf
      have hkd : decide ((k : Int) < (n : Int)) = false := decide_eq_false (by omega)
      go_wp2_with fail
      go_ret
      exact ⟨rfl, hbel⟩
end Go.Proofs.Ytacmdkjodnaohaa

/- The walks of Newer, Join, Write; the document's. -/
import Derived.Test.YtocoohpekpkmkaaRegWalks
import Derived.Test.YtocoohpekpkmkaaStep
namespace Go.Proofs.Ytocoohpekpkmkaa
set_option linter.unusedVariables false
set_option linter.unusedSimpArgs false
open Go.RowKit
open Reg
theorem rowLa : RowT Try.prog 62 3 := ⟨_, Try.underlying62, rfl, by kernel_rfl⟩
theorem rowRLa : RowT Try.prog 61 3 := ⟨_, Try.underlying61, rfl, by kernel_rfl⟩
theorem cmpR_drop {X Y : List Int} (i : Nat) (h1 : i < X.length) (h2 : i < Y.length) : cmpR (X.drop i) (Y.drop i) = if cmpI (X.getD i 0) (Y.getD i 0) ≠ 0 then cmpI (X.getD i 0) (Y.getD i 0) else cmpR (X.drop (i + 1)) (Y.drop (i + 1)) := by
  rw [List.drop_eq_getElem_cons h1, List.drop_eq_getElem_cons h2, List.getD_eq_getElem?_getD, List.getD_eq_getElem?_getD, List.getElem?_eq_getElem h1, List.getElem?_eq_getElem h2]
  rfl
set_option maxHeartbeats 1000000 in
theorem compare29_any (g h n c d : Nat) (X Y : List Int) (hX : X.length = n) (hY : Y.length = n) (hn : n ≤ 1000) (w : World) (cX : ∀ i, i < n → w.cell? ⟨g, i, none⟩ = some (.int .i64 (X.getD i 0))) (cY : ∀ i, i < n → w.cell? ⟨h, i, none⟩ = some (.int .i64 (Y.getD i 0))) :
    Calls Try.prog 57 #[.slice (some ⟨g, 0, none⟩) n c, .slice (some ⟨h, 0, none⟩) n d] w fun e w' => e = .returned (.int .i64 (cmpR X Y)) ∧ w = w' := by
  obtain ⟨R, hR⟩ : ∃ R, R = cmpR X Y := ⟨_, rfl⟩
  rw [← hR]
  have HR := Lib.hid hR
  have HX := Lib.hid hX
  have HY := Lib.hid hY
  have CX := Lib.hid cX
  have CY := Lib.hid cY
  clear hR hX hY cX cY
  go_enter Try.func57, Try.ntmps57
  go_wp2_with fail
  go_loopw [11] (fun i wr => ∃ k : Nat, k ≤ n ∧ i = .int .i64 k ∧ R = cmpR (X.drop k) (Y.drop k) ∧ w = wr) (fun i _ => n - (intOf i).toNat)
  case atStart => exact ⟨0, by omega, rfl, HR.out, rfl⟩
  case round =>
    obtain ⟨k, hk, rfl, hr, rfl⟩ := hrel
    by_cases hlt : k < n
    · have hx := CX.out k hlt
      have hy := CY.out k hlt
      rw [cmpR_drop k (by rw [HX.out]; exact hlt) (by rw [HY.out]; exact hlt)] at hr
      generalize X.getD k 0 = x at *
      generalize Y.getD k 0 = y at *
      have hcc := fun w' => cmpI_any x y w'
      generalize hz : cmpI x y = z at *
      have HZ := Lib.hid hz
      have HCC := Lib.hid hcc
      clear hz hcc
      have hk0 : (0 : Int) ≤ (k : Int) := by omega
      have hkn : (k : Int) < (n : Int) := by omega
      have hnk : ¬ ((n : Int) ≤ (k : Int)) := by omega
      by_cases he : z = 0
      · subst he
        have HRR := Lib.hid (show R = cmpR (X.drop (k + 1)) (Y.drop (k + 1)) by rw [hr]; simp)
        clear hr
        go_wp2_with fail
        refine (HCC.out _).mono ?_
        rintro e w1 ⟨rfl, rfl⟩
        go_wp2_with fail
        go_roundw
        case rel => exact ⟨k + 1, by omega, by go_num, HRR.out, (by first | rfl | trivial)⟩
        case measure => simp [intOf]; omega
      · have hrz : R = z := by rw [hr, if_pos he]
        subst hrz
        have hd : (R != 0) = true := by simpa using he
        clear hr he
        go_wp2_with fail
        refine (HCC.out _).mono ?_
        rintro e w1 ⟨rfl, rfl⟩
        go_wp2_with fail
        go_ret
        exact ⟨rfl, rfl⟩
    · have hrz : R = 0 := by
        rw [hr, List.drop_eq_nil_of_le (by rw [HX.out]; omega), List.drop_eq_nil_of_le (by rw [HY.out]; omega)]
        rfl
      obtain rfl : k = n := by omega
      subst hrz
      clear hr
      go_wp2_with fail
      go_ret
      exact ⟨rfl, rfl⟩
set_option maxHeartbeats 1000000 in
theorem newer29_any (a b : La) (w : World) : Calls Try.prog 25 #[v3 a, v3 b] w fun e w' => e = .returned (.bool (newL a b)) ∧ Below w.heap.size w w' := by
  obtain ⟨t, n, v⟩ := a
  obtain ⟨s, m, u⟩ := b
  obtain ⟨R, hR⟩ : ∃ R, R = newL (t, n, v) (s, m, u) := ⟨_, rfl⟩
  rw [← hR]
  rw [← cmpR3] at hR
  have HR := Lib.hid hR
  clear hR
  unfold v3
  simp only
  go_enter Try.func25, Try.ntmps25
  go_wp2_with fail
  refine (compare29_any (w.heap.size + 1 + 1) (w.heap.size + 1 + 1 + 1) 3 3 3 [t, n, v] [s, m, u] rfl rfl (by omega) _ (fun i hi => ?_) (fun i hi => ?_)).mono ?_
  · rcases (show i = 0 ∨ i = 1 ∨ i = 2 by omega) with rfl | rfl | rfl <;> go_simp
  · rcases (show i = 0 ∨ i = 1 ∨ i = 2 by omega) with rfl | rfl | rfl <;> go_simp
  rintro e w1 ⟨rfl, rfl⟩
  go_wp2_with fail
  go_ret
  exact ⟨by rw [HR.out]; rfl, ((((Below.refl _ _).alloc (Nat.le_refl _) _).alloc (by simp) _).alloc (by simp; omega) _).alloc (by simp; omega) _⟩
theorem rnewer29_any (a b : La) (w : World) : Calls Try.prog 26 #[v3 a, v3 b] w fun e w' => e = .returned (.bool (newL a b)) ∧ Below w.heap.size w w' := by
  obtain ⟨t, n, v⟩ := a
  obtain ⟨s, m, u⟩ := b
  have hb : ∀ o p, Below w.heap.size w ((w.alloc o).alloc p) := fun o p => ((Below.refl _ _).alloc (Nat.le_refl _) _).alloc (by simp) _
  unfold v3 newL
  simp only
  by_cases h1 : t = s
  · subst h1
    rw [if_neg (by simp)]
    by_cases h2 : n = m
    · subst h2
      rw [if_neg (by simp)]
      have d1 : decide (¬ t = t) = false := by simp
      have d2 : decide (¬ n = n) = false := by simp
      go_enter Try.func26, Try.ntmps26
      go_wp2_with fail
      go_ret
      exact ⟨rfl, hb _ _⟩
    · rw [if_pos h2]
      have d1 : decide (¬ t = t) = false := by simp
      have d2 : decide (¬ n = m) = true := by simpa using h2
      go_enter Try.func26, Try.ntmps26
      go_wp2_with fail
      go_ret
      exact ⟨rfl, hb _ _⟩
  · rw [if_pos h1]
    have d1 : decide (¬ t = s) = true := by simpa using h1
    go_enter Try.func26, Try.ntmps26
    go_wp2_with fail
    go_ret
    exact ⟨rfl, hb _ _⟩
set_option maxHeartbeats 1000000 in
set_option maxHeartbeats 1000000 in
set_option maxHeartbeats 1000000 in
set_option maxHeartbeats 1000000 in
theorem join29_any (a b : La) (w : World) : Calls Try.prog 27 #[v3 a, v3 b] w fun e w' => e = .returned (v3 (joinL a b)) ∧ Below w.heap.size w w' := by
  unfold joinL
  have hn := fun w' => newer29_any a b w'
  generalize newL a b = N at *
  obtain ⟨t, n, v⟩ := a
  obtain ⟨s, m, u⟩ := b
  unfold v3 at *
  simp only at *
  have HN := Lib.hid hn
  clear hn
  go_enter Try.func27, Try.ntmps27
  go_upto_region 1 with fail
  refine nameW ?_
  intro wv hwv
  obtain ⟨g, hg⟩ : ∃ g, g = w.heap.size := ⟨_, rfl⟩
  rw [← hg]
  have k0 : Blk wv g 62 #[.int .i64 t, .int .i64 n, .int .i64 v] := by rw [hwv, hg]; exact ((Blk.new w _ _).alloc _).alloc _
  have k1 : Blk wv (g + 1) 62 #[.int .i64 s, .int .i64 m, .int .i64 u] := by
    have h := (Blk.new (w.alloc (.cells #[.int .i64 t, .int .i64 n, .int .i64 v] 62)) 62 #[.int .i64 s, .int .i64 m, .int .i64 u]).alloc (.cells #[.int .i64 0, .int .i64 0, .int .i64 0] 62)
    rw [hwv, hg]
    simpa using h
  have k2 : Blk wv (g + 1 + 1) 62 #[.int .i64 0, .int .i64 0, .int .i64 0] := by
    have h := Blk.new ((w.alloc (.cells #[.int .i64 t, .int .i64 n, .int .i64 v] 62)).alloc (.cells #[.int .i64 s, .int .i64 m, .int .i64 u] 62)) 62 #[.int .i64 0, .int .i64 0, .int .i64 0]
    rw [hwv, hg]
    simpa using h
  have hb0 : Below w.heap.size w wv := by rw [hwv]; exact (((Below.refl _ _).alloc (Nat.le_refl _) _).alloc (by simp) _).alloc (by simp; omega) _
  have hgw : w.heap.size ≤ g := by omega
  clear hwv hg
  go_wp2_with first
    | ((with_reducible refine wpList_ld rowLa k0 rfl ?_ ?_); rotate_left; (rfl))
    | ((with_reducible refine wpList_ld rowLa k1 rfl ?_ ?_); rotate_left; (rfl))
  refine (HN.out _).mono ?_
  rintro e w1 ⟨rfl, b1⟩
  have k0 := k0.below b1 k0.lt
  have k1 := k1.below b1 k1.lt
  have k2 := k2.below b1 k2.lt
  have hb1 := hb0.trans (b1.mono hb0.size)
  clear b1 hb0 HN
  cases N
  · go_wp2_with first
      | ((with_reducible refine wpList_ld rowLa k1 rfl ?_ ?_); rotate_left; (rfl))
      | ((with_reducible refine wpList_st (cs := #[.int .i64 s, .int .i64 m, .int .i64 u]) rowLa k2 (th_size _ _ _) (th_size _ _ _) (th_one _ _ _) ?_ ?_ ?_); rotate_left; (rfl); (rfl); intro w2 q2 g2 e2)
    exact bodyPost_ret (results_blk rfl rowLa q2 rfl rfl) rfl ⟨rfl, hb1.grown g2 hb1.size (fun q hq => by injection hq; omega)⟩
  · go_wp2_with first
      | ((with_reducible refine wpList_ld rowLa k0 rfl ?_ ?_); rotate_left; (rfl))
      | ((with_reducible refine wpList_st (cs := #[.int .i64 t, .int .i64 n, .int .i64 v]) rowLa k2 (th_size _ _ _) (th_size _ _ _) (th_one _ _ _) ?_ ?_ ?_); rotate_left; (rfl); (rfl); intro w2 q2 g2 e2)
    exact bodyPost_ret (results_blk rfl rowLa q2 rfl rfl) rfl ⟨rfl, hb1.grown g2 hb1.size (fun q hq => by injection hq; omega)⟩
set_option maxHeartbeats 1000000 in
theorem rjoin29_any (a b : La) (w : World) : Calls Try.prog 28 #[v3 a, v3 b] w fun e w' => e = .returned (v3 (joinL a b)) ∧ Below w.heap.size w w' := by
  unfold joinL
  have hn := fun w' => rnewer29_any a b w'
  generalize newL a b = N at *
  obtain ⟨t, n, v⟩ := a
  obtain ⟨s, m, u⟩ := b
  unfold v3 at *
  simp only at *
  have HN := Lib.hid hn
  clear hn
  go_enter Try.func28, Try.ntmps28
  go_upto_region 1 with fail
  refine nameW ?_
  intro wv hwv
  obtain ⟨g, hg⟩ : ∃ g, g = w.heap.size := ⟨_, rfl⟩
  rw [← hg]
  have k0 : Blk wv g 61 #[.int .i64 t, .int .i64 n, .int .i64 v] := by rw [hwv, hg]; exact ((Blk.new w _ _).alloc _).alloc _
  have k1 : Blk wv (g + 1) 61 #[.int .i64 s, .int .i64 m, .int .i64 u] := by
    have h := (Blk.new (w.alloc (.cells #[.int .i64 t, .int .i64 n, .int .i64 v] 61)) 61 #[.int .i64 s, .int .i64 m, .int .i64 u]).alloc (.cells #[.int .i64 0, .int .i64 0, .int .i64 0] 61)
    rw [hwv, hg]
    simpa using h
  have k2 : Blk wv (g + 1 + 1) 61 #[.int .i64 0, .int .i64 0, .int .i64 0] := by
    have h := Blk.new ((w.alloc (.cells #[.int .i64 t, .int .i64 n, .int .i64 v] 61)).alloc (.cells #[.int .i64 s, .int .i64 m, .int .i64 u] 61)) 61 #[.int .i64 0, .int .i64 0, .int .i64 0]
    rw [hwv, hg]
    simpa using h
  have hb0 : Below w.heap.size w wv := by rw [hwv]; exact (((Below.refl _ _).alloc (Nat.le_refl _) _).alloc (by simp) _).alloc (by simp; omega) _
  have hgw : w.heap.size ≤ g := by omega
  clear hwv hg
  go_wp2_with first
    | ((with_reducible refine wpList_ld rowRLa k0 rfl ?_ ?_); rotate_left; (rfl))
    | ((with_reducible refine wpList_ld rowRLa k1 rfl ?_ ?_); rotate_left; (rfl))
  refine (HN.out _).mono ?_
  rintro e w1 ⟨rfl, b1⟩
  have k0 := k0.below b1 k0.lt
  have k1 := k1.below b1 k1.lt
  have k2 := k2.below b1 k2.lt
  have hb1 := hb0.trans (b1.mono hb0.size)
  clear b1 hb0 HN
  cases N
  · go_wp2_with first
      | ((with_reducible refine wpList_ld rowRLa k1 rfl ?_ ?_); rotate_left; (rfl))
      | ((with_reducible refine wpList_st (cs := #[.int .i64 s, .int .i64 m, .int .i64 u]) rowRLa k2 (th_size _ _ _) (th_size _ _ _) (th_one _ _ _) ?_ ?_ ?_); rotate_left; (rfl); (rfl); intro w2 q2 g2 e2)
    exact bodyPost_ret (results_blk rfl rowRLa q2 rfl rfl) rfl ⟨rfl, hb1.grown g2 hb1.size (fun q hq => by injection hq; omega)⟩
  · go_wp2_with first
      | ((with_reducible refine wpList_ld rowRLa k0 rfl ?_ ?_); rotate_left; (rfl))
      | ((with_reducible refine wpList_st (cs := #[.int .i64 t, .int .i64 n, .int .i64 v]) rowRLa k2 (th_size _ _ _) (th_size _ _ _) (th_one _ _ _) ?_ ?_ ?_); rotate_left; (rfl); (rfl); intro w2 q2 g2 e2)
    exact bodyPost_ret (results_blk rfl rowRLa q2 rfl rfl) rfl ⟨rfl, hb1.grown g2 hb1.size (fun q hq => by injection hq; omega)⟩
set_option maxHeartbeats 1000000 in
theorem write29_any (l : La) (n v : Int) (hl : -9223372036854775808 ≤ l.1) (w : World) : Calls Try.prog 23 #[v3 l, .int .i64 n, .int .i64 v] w fun e w' => e = .returned (.tuple #[v3 (writeL l n v).1, .int .i64 (writeL l n v).2]) ∧ Below w.heap.size w w' := by
  obtain ⟨R, hR⟩ : ∃ R, R = writeL l n v := ⟨_, rfl⟩
  rw [← hR]
  have hm := fun w' => mayN_any n v w'
  obtain ⟨t, m, u⟩ := l
  unfold writeL at hR
  simp only at hR hl
  unfold v3
  generalize mayN n v = M at hm hR
  have HM := Lib.hid hm
  clear hm
  simp only
  go_enter Try.func23, Try.ntmps23
  go_upto_region 1 with fail
  refine nameW ?_
  intro wv hwv
  obtain ⟨g, hg⟩ : ∃ g, g = w.heap.size := ⟨_, rfl⟩
  rw [← hg]
  have k1 : Blk wv g 62 #[.int .i64 t, .int .i64 m, .int .i64 u] := by rw [hwv, hg]; exact (Blk.new w _ _).alloc _
  have k2 : Blk wv (g + 1) 62 #[.int .i64 0, .int .i64 0, .int .i64 0] := by
    have h := Blk.new (w.alloc (.cells #[.int .i64 t, .int .i64 m, .int .i64 u] 62)) 62 #[.int .i64 0, .int .i64 0, .int .i64 0]
    rw [hwv, hg]
    simpa using h
  have hb0 : Below w.heap.size w wv := by rw [hwv]; exact ((Below.refl _ _).alloc (Nat.le_refl _) _).alloc (by simp) _
  have hgw : w.heap.size ≤ g := by omega
  clear hwv hg
  have t0 : wv.cell? ⟨g, 0, none⟩ = some (.int .i64 t) := k1.cell 0
  go_wp2_with fail
  refine (HM.out _).mono ?_
  rintro e w1 ⟨rfl, rfl⟩
  cases M
  · rw [if_pos rfl] at hR
    have HR := Lib.hid hR
    clear hR
    go_wp2_with ((with_reducible refine wpList_st (cs := #[.int .i64 0, .int .i64 0, .int .i64 0]) rowLa k2 (th_size _ _ _) (th_size _ _ _) (th_one _ _ _) ?_ ?_ ?_); rotate_left; (rfl); (rfl); intro w2 q2 g2 e2)
    exact bodyPost_ret (v := .tuple #[.agg #[.int .i64 0, .int .i64 0, .int .i64 0], .int .i64 2]) (results_blk2 rfl rowLa q2 rfl rfl rfl) rfl ⟨by rw [HR.out], hb0.grown g2 hb0.size (fun q hq => by injection hq; omega)⟩
  rw [if_neg (by simp)] at hR
  by_cases ht : 1099511627776 ≤ t
  · rw [if_pos ht] at hR
    have HR := Lib.hid hR
    have hd : decide (1099511627776 ≤ t) = true := decide_eq_true ht
    clear hR
    go_wp2_with ((with_reducible refine wpList_st (cs := #[.int .i64 0, .int .i64 0, .int .i64 0]) rowLa k2 (th_size _ _ _) (th_size _ _ _) (th_one _ _ _) ?_ ?_ ?_); rotate_left; (rfl); (rfl); intro w2 q2 g2 e2)
    exact bodyPost_ret (v := .tuple #[.agg #[.int .i64 0, .int .i64 0, .int .i64 0], .int .i64 7]) (results_blk2 rfl rowLa q2 rfl rfl rfl) rfl ⟨by rw [HR.out], hb0.grown g2 hb0.size (fun q hq => by injection hq; omega)⟩
  · rw [if_neg ht] at hR
    have HR := Lib.hid hR
    have hd : decide (1099511627776 ≤ t) = false := decide_eq_false ht
    have hx : (if t < 0 then (0 : Int) else t) = max t 0 := by split <;> omega
    have hw : IntKind.i64.wrap (max t 0 + 1) = max t 0 + 1 := by rw [IntKind.wrap_i64]; omega
    clear hR
    go_wp2_with ((with_reducible refine wpList_st (cs := #[.int .i64 (max t 0 + 1), .int .i64 n, .int .i64 v]) rowLa k2 (th_size _ _ _) (th_size _ _ _) (th_one _ _ _) ?_ ?_ ?_); rotate_left; (rfl); (rfl); intro w2 q2 g2 e2)
    exact bodyPost_ret (v := .tuple #[.agg #[.int .i64 (max t 0 + 1), .int .i64 n, .int .i64 v], .int .i64 0]) (results_blk2 rfl rowLa q2 rfl rfl rfl) rfl ⟨by rw [HR.out], hb0.grown g2 hb0.size (fun q hq => by injection hq; omega)⟩
set_option maxHeartbeats 1000000 in
theorem rwrite29_any (l : La) (n v : Int) (hl : -9223372036854775808 ≤ l.1) (w : World) : Calls Try.prog 24 #[v3 l, .int .i64 n, .int .i64 v] w fun e w' => e = .returned (.tuple #[v3 (writeL l n v).1, .int .i64 (writeL l n v).2]) ∧ Below w.heap.size w w' := by
  obtain ⟨R, hR⟩ : ∃ R, R = writeL l n v := ⟨_, rfl⟩
  rw [← hR]
  have hm := fun w' => rmay29_any n v w'
  obtain ⟨t, m, u⟩ := l
  unfold writeL at hR
  simp only at hR hl
  unfold v3
  generalize mayN n v = M at hm hR
  have HM := Lib.hid hm
  clear hm
  simp only
  go_enter Try.func24, Try.ntmps24
  go_upto_region 1 with fail
  refine nameW ?_
  intro wv hwv
  obtain ⟨g, hg⟩ : ∃ g, g = w.heap.size := ⟨_, rfl⟩
  rw [← hg]
  have k1 : Blk wv g 61 #[.int .i64 t, .int .i64 m, .int .i64 u] := by rw [hwv, hg]; exact (Blk.new w _ _).alloc _
  have k2 : Blk wv (g + 1) 61 #[.int .i64 0, .int .i64 0, .int .i64 0] := by
    have h := Blk.new (w.alloc (.cells #[.int .i64 t, .int .i64 m, .int .i64 u] 61)) 61 #[.int .i64 0, .int .i64 0, .int .i64 0]
    rw [hwv, hg]
    simpa using h
  have hb0 : Below w.heap.size w wv := by rw [hwv]; exact ((Below.refl _ _).alloc (Nat.le_refl _) _).alloc (by simp) _
  have hgw : w.heap.size ≤ g := by omega
  clear hwv hg
  have t0 : wv.cell? ⟨g, 0, none⟩ = some (.int .i64 t) := k1.cell 0
  go_wp2_with fail
  refine (HM.out _).mono ?_
  rintro e w1 ⟨rfl, rfl⟩
  cases M
  · rw [if_pos rfl] at hR
    have HR := Lib.hid hR
    clear hR
    go_wp2_with ((with_reducible refine wpList_st (cs := #[.int .i64 0, .int .i64 0, .int .i64 0]) rowRLa k2 (th_size _ _ _) (th_size _ _ _) (th_one _ _ _) ?_ ?_ ?_); rotate_left; (rfl); (rfl); intro w2 q2 g2 e2)
    exact bodyPost_ret (v := .tuple #[.agg #[.int .i64 0, .int .i64 0, .int .i64 0], .int .i64 2]) (results_blk2 rfl rowRLa q2 rfl rfl rfl) rfl ⟨by rw [HR.out], hb0.grown g2 hb0.size (fun q hq => by injection hq; omega)⟩
  rw [if_neg (by simp)] at hR
  by_cases ht : 1099511627776 ≤ t
  · rw [if_pos ht] at hR
    have HR := Lib.hid hR
    have hd : decide (1099511627776 ≤ t) = true := decide_eq_true ht
    clear hR
    go_wp2_with ((with_reducible refine wpList_st (cs := #[.int .i64 0, .int .i64 0, .int .i64 0]) rowRLa k2 (th_size _ _ _) (th_size _ _ _) (th_one _ _ _) ?_ ?_ ?_); rotate_left; (rfl); (rfl); intro w2 q2 g2 e2)
    exact bodyPost_ret (v := .tuple #[.agg #[.int .i64 0, .int .i64 0, .int .i64 0], .int .i64 7]) (results_blk2 rfl rowRLa q2 rfl rfl rfl) rfl ⟨by rw [HR.out], hb0.grown g2 hb0.size (fun q hq => by injection hq; omega)⟩
  · rw [if_neg ht] at hR
    have HR := Lib.hid hR
    have hd : decide (1099511627776 ≤ t) = false := decide_eq_false ht
    have hx : (if t < 0 then (0 : Int) else t) = max t 0 := by split <;> omega
    have hw : IntKind.i64.wrap (max t 0 + 1) = max t 0 + 1 := by rw [IntKind.wrap_i64]; omega
    clear hR
    go_wp2_with ((with_reducible refine wpList_st (cs := #[.int .i64 (max t 0 + 1), .int .i64 n, .int .i64 v]) rowRLa k2 (th_size _ _ _) (th_size _ _ _) (th_one _ _ _) ?_ ?_ ?_); rotate_left; (rfl); (rfl); intro w2 q2 g2 e2)
    exact bodyPost_ret (v := .tuple #[.agg #[.int .i64 (max t 0 + 1), .int .i64 n, .int .i64 v], .int .i64 0]) (results_blk2 rfl rowRLa q2 rfl rfl rfl) rfl ⟨by rw [HR.out], hb0.grown g2 hb0.size (fun q hq => by injection hq; omega)⟩
end Go.Proofs.Ytocoohpekpkmkaa

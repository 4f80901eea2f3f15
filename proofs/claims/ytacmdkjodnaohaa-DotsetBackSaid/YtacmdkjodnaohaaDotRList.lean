/- The walk of the document's List. -/
import Derived.Test.YtacmdkjodnaohaaDotRHas
namespace Go.Proofs.Ytacmdkjodnaohaa
open Go.RowKit
open Dot
theorem hasG_zero (U : List Int) (l : List Dt) (n : Nat) : hasG U l n 0 = false := by simp [hasG]
theorem hasG_top (U : List Int) (l : List Dt) (n : Nat) : hasG U l n 97 = false := by simp [hasG]
theorem hasB_grid {U : List Int} {l : List Dt} {y p : Nat} (hy : y < 8) (h1 : 1 ≤ p) (h2 : p ≤ 96) : hasB U l ((y : Int), (p : Int)) = hasG U l y p := by
  have hm : mayB ((y : Int), (p : Int)) = true := (may_iff _).2 (by simp only; omega)
  unfold hasB
  rw [hm]
  simp
set_option maxRecDepth 100000 in
set_option maxHeartbeats 2000000 in
theorem rlist_any (U : List Int) (hU : U.length = 8) (A : Option Addr) (n c : Nat) (l : List Dt) (w : World) (hl : RdD w w.heap.size A n l) :
    Calls Try.prog 14 #[.agg (uc U (.slice A n c))] w (ListEnd w (dotsS (hasG U l))) := by
  unfold ListEnd
  have HS := Lib.hid (uc_size hU (.slice A n c))
  have hrc := fun (x q : Int) w' (hb : Below w.heap.size w w') => rhas_any U hU A n c l x q w' ((hl.below hb).more hb.size)
  obtain ⟨G, hG⟩ : ∃ G, G = hasG U l := ⟨_, rfl⟩
  have hg0 : ∀ n, G n 0 = false := fun n => by rw [hG]; exact hasG_zero U l n
  have hg97 : ∀ n, G n 97 = false := fun n => by rw [hG]; exact hasG_top U l n
  have hrg := fun (y p : Nat) (hy : y < 8) (h1 : 1 ≤ p) (h2 : p ≤ 96) => hasB_grid (U := U) (l := l) hy h1 h2
  rw [← hG] at hrg ⊢
  have HRC := Lib.hid hrc
  have HRG := Lib.hid hrg
  have HG0 := Lib.hid hg0
  have HG97 := Lib.hid hg97
  obtain ⟨sc, hsc⟩ : ∃ sc, sc = uc U (.slice A n c) := ⟨_, rfl⟩
  rw [← hsc] at HS HRC ⊢
  clear hU hrc hrg hg0 hg97 hG hsc
  go_enter Try.func14, Try.ntmps14
  go_upto_region 1 with fail
  refine nameW ?_
  intro wv hwv
  obtain ⟨g, hg⟩ : ∃ g, g = w.heap.size := ⟨_, rfl⟩
  rw [← hg]
  have k0 : Blk wv g 35 sc := by rw [hwv, hg]; exact Blk.new w _ _
  have hb0 : Below w.heap.size w wv := by rw [hwv]; exact (Below.refl _ _).alloc (Nat.le_refl _) _
  have hgw : w.heap.size ≤ g := by omega
  clear hwv hg
  go_wp2_with fail
  go_loopw [3, 4] (fun o i wr => ∃ (k : Nat) (A : Option Addr) (m c : Nat), k ≤ 8 ∧ i = .int .i64 k ∧ o = .slice A m c ∧ OwnD wr w.heap.size A m c (dotsTo G k) ∧ Blk wr g 35 sc ∧ Below w.heap.size w wr) (fun _ i _ => 8 - (intOf i).toNat)
  case atStart => exact ⟨0, none, 0, 0, by omega, rfl, rfl, OwnD.nil _ _, k0, hb0⟩
  case round =>
    clear k0 hb0
    obtain ⟨k, A1, m1, c1, hk, rfl, rfl, oD, k0, hb0⟩ := hrel
    by_cases hlt : k < 8
    · have hkd : decide ((k : Int) < 8) = true := decide_eq_true (by omega)
      have hr1 : rowTo G k 1 = [] := by simp [rowTo, HG0.out]
      have hdl := dotsTo_len G k
      go_upto_region 6 with fail
      go_loopw [3, 5] (fun o i wr => ∃ (p : Nat) (A : Option Addr) (m c : Nat), 1 ≤ p ∧ p ≤ 97 ∧ i = .int .i64 p ∧ o = .slice A m c ∧ OwnD wr w.heap.size A m c (dotsTo G k ++ rowTo G k p) ∧ Blk wr g 35 sc ∧ Below w.heap.size w wr) (fun _ i _ => 97 - (intOf i).toNat)
      case atStart => exact ⟨1, A1, m1, c1, by omega, by omega, rfl, rfl, by rw [hr1, List.append_nil]; exact oD, k0, hb0⟩
      case round =>
        clear k0 hb0 oD hr1
        obtain ⟨p, A2, m2, c2, hp1, hp2, rfl, rfl, oD, k0, hb0⟩ := hrel
        have hrl := rowTo_len G k p
        have hm2 : m2 ≤ 2000 := by have := oD.1; rw [List.length_append] at this; omega
        by_cases hpt : p ≤ 96
        · have hpd : decide ((p : Int) ≤ 96) = true := decide_eq_true (by omega)
          have hgr := HRG.out k p hlt hp1 hpt
          obtain ⟨wn, hwn⟩ : ∃ wn, wn = wr.alloc (.cells #[.int .i64 (k : Nat), .int .i64 (p : Nat)] 27) := ⟨_, rfl⟩
          obtain ⟨gd, hgd⟩ : ∃ gd, gd = wr.heap.size := ⟨_, rfl⟩
          have kn : Blk wn gd 27 #[.int .i64 (k : Nat), .int .i64 (p : Nat)] := by rw [hwn, hgd]; exact Blk.new wr _ _
          have bn : Below wr.heap.size wr wn := by rw [hwn]; exact (Below.refl _ _).alloc (Nat.le_refl _) _
          have k1 := k0.below bn k0.lt
          have oD1 := oD.below bn (Nat.le_refl _)
          have hb1 := hb0.trans (bn.mono hb0.size)
          have HW := Lib.hid hwn
          have HGD := Lib.hid hgd
          have HGR := Lib.hid hgr
          clear hwn hgd bn k0 oD hb0 hgr
          go_upto_region 9 with fail
          rw [← HW.out, ← HGD.out]
          have t0 : wn.cell? ⟨gd, 0, none⟩ = some (.int .i64 (k : Nat)) := kn.cell 0
          have t1 : wn.cell? ⟨gd, 1, none⟩ = some (.int .i64 (p : Nat)) := kn.cell 1
          go_wp2_with ((with_reducible refine wpList_ld rowRS k1 HS.out ?_ ?_); rotate_left; (rfl))
          refine (HRC.out k p wn hb1).mono ?_
          rw [HGR.out]
          rintro e w3 ⟨rfl, h3⟩
          have kn3 := kn.below h3 kn.lt
          have k3 := k1.below h3 k1.lt
          have oD3 := oD1.below h3 (Nat.le_refl _)
          have hb3 := hb1.trans (h3.mono hb1.size)
          clear t0 t1 kn k1 oD1 hb1 h3
          have t0 : w3.cell? ⟨gd, 0, none⟩ = some (.int .i64 (k : Nat)) := kn3.cell 0
          have t1 : w3.cell? ⟨gd, 1, none⟩ = some (.int .i64 (p : Nat)) := kn3.cell 1
          cases hgk : G k p
          · have hrw : rowTo G k (p + 1) = rowTo G k p := by rw [rowTo, if_neg (by rw [hgk]; simp)]
            have HRW := Lib.hid hrw
            clear hrw hgk
            go_wp2_with fail
            go_roundw
            case rel => exact ⟨p + 1, A2, m2, c2, by omega, by omega, by go_num, rfl, by rw [HRW.out]; exact oD3, k3, hb3⟩
            case measure => simp [intOf]; omega
          · have hrw : rowTo G k (p + 1) = rowTo G k p ++ [((k : Int), (p : Int))] := by rw [rowTo, if_pos hgk]
            have HRW := Lib.hid hrw
            clear hrw hgk
            go_wp2_with (at_builtin; refine wpList_appD rfl (.tmp 21) (.tmp 23) rfl rfl (oD3.alloc _) (news := [((k : Int), (p : Int))]) rfl (Rd.made _ _ _ _) rfl ?h1 ?h2 ?h3)
            case h1 => omega
            case h2 => have := hb3.size; simp; omega
            intro A' c' w5 o5 g5 m5 b5
            rw [← HRW.out] at o5
            have k5 : Blk w5 g 35 sc := (k3.alloc (.cells #[.int .i64 (k : Nat), .int .i64 (p : Nat)] 27)).grown g5 (own_ne oD3.2 k3 (by decide))
            have hb5 := (hb3.alloc hb3.size (.cells #[.int .i64 (k : Nat), .int .i64 (p : Nat)] 27)).trans b5
            clear t0 t1 kn3 k3 oD3 hb3 g5 m5 b5
            go_wp2_with fail
            go_roundw
            case rel => exact ⟨p + 1, A', m2 + 1, c', by omega, by omega, by go_num, rfl, o5, k5, hb5⟩
            case measure => simp [intOf]; omega
        · have hp97 : p = 97 := by omega
          subst hp97
          have hrw : rowTo G k 98 = rowTo G k 97 := by rw [show (98 : Nat) = 97 + 1 from rfl, rowTo, if_neg (by rw [HG97.out]; simp)]
          have hdt : dotsTo G (k + 1) = dotsTo G k ++ rowTo G k 97 := by rw [dotsTo, hrw]
          rw [← hdt] at oD
          clear hrw hdt
          go_wp2_with fail
          go_roundw
          case rel => exact ⟨k + 1, A2, m2, c2, by omega, by go_num, rfl, oD, k0, hb0⟩
          case measure => simp [intOf]; omega
    · have hk8 : k = 8 := by omega
      subst hk8
      go_wp2_with fail
      go_ret
      exact ⟨A1, m1, c1, rfl, oD, hb0⟩
end Go.Proofs.Ytacmdkjodnaohaa

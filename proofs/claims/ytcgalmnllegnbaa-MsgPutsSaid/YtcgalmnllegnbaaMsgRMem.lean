/- The walk of the document's Members (printed by wip/gen/msgrmem.py). -/
import Derived.Test.YtcgalmnllegnbaaFactsD
namespace Go.Proofs.Ytcgalmnllegnbaa
set_option linter.unusedVariables false
set_option linter.unusedSimpArgs false
set_option maxRecDepth 100000
open Go.RowKit
open Dot Evt
open Ms (Mem)
theorem th_sizeR (a b c : Int) : (#[Value.int .i64 a, .int .i64 b, .int .i64 c]).size = 3 := rfl
theorem th_oneR (a b c : Int) : (#[Value.int .i64 a, .int .i64 b, .int .i64 c]).all (·.oneCell') = true := by simp [Value.oneCell']
theorem rnode_bel (n : Int) (w : World) : Calls Try.prog 50 #[.int .i64 n] w fun e w' => e = .returned (.bool (Ms.nodeB n)) ∧ Below w.heap.size w w' := (rnode_any n w).mono (by rintro e w' ⟨rfl, rfl⟩; exact ⟨rfl, Below.refl _ _⟩)
theorem lastM_at {l : List Mem} {k : Nat} (h : k < l.length) : Ms.lastM l (k + 1) = (l[k]).1 := lastM_succ h
set_option maxHeartbeats 4000000 in
theorem rmembers_any (A : Option Addr) (n c : Nat) (l : List Mem) (w : World) (hl : RdMb w w.heap.size A n l) :
    Calls Try.prog 51 #[.slice A n c] w fun e w' => e = .returned (.bool (Ms.membersB l)) ∧ Below w.heap.size w w' := by
  obtain ⟨R, hR⟩ : ∃ R, R = Ms.membersB l := ⟨_, rfl⟩
  rw [← hR]
  have HR := Lib.hid hR
  have HN := Lib.hid hl.1
  have HRK := Lib.hid fun (w' : World) (hb : Below w.heap.size w w') => hl.below hb
  clear hR
  by_cases hbig : 8 < n
  · have hr : R = false := by
      rw [HR.out, Bool.eq_false_iff]
      intro h
      have := Ms.members_len h
      have := HN.out
      omega
    subst hr
    have hd : decide ((8 : Int) < (n : Int)) = true := decide_eq_true (by omega)
    clear hl HR
    go_enter Try.func51, Try.ntmps51
    go_wp2_with fail
    go_ret
    exact ⟨rfl, Below.refl _ _⟩
  have hd : decide ((8 : Int) < (n : Int)) = false := decide_eq_false (by omega)
  clear hl
  go_enter Try.func51, Try.ntmps51
  go_wp2_with fail
  go_loopw [10] (fun i wr => ∃ k : Nat, k ≤ n ∧ i = .int .i64 k ∧ (∀ j, j < k → Ms.memAt l j = true) ∧ Below w.heap.size w wr) (fun i _ => n - (intOf i).toNat)
  case atStart => exact ⟨0, by omega, rfl, fun j hj => by omega, Below.refl _ _⟩
  case round =>
    obtain ⟨k, hk, rfl, hall, gb⟩ := hrel
    have HA := Lib.hid hall
    clear hall
    by_cases hlt : k < n
    · have hkl : k < l.length := by rw [← HN.out]; exact hlt
      obtain ⟨aa, hA, q5, q0, q1, q2⟩ := (HRK.out wr gb).2 k _ (List.getElem?_eq_getElem hkl)
      have hme := memAt_eq hkl
      have HB := Lib.hid fun (h : Ms.memAt l k = false) => members_bad hkl h
      have HM := Lib.hid fun (h : Ms.memAt l k = true) (j : Nat) (hj : j < k + 1) => (by
        by_cases e : j = k
        · rw [e]; exact h
        · exact HA.out j (by omega) : Ms.memAt l j = true)
      have hla : ∀ kp, k = kp + 1 → kp < l.length ∧ ∃ la, la = Ms.lastM l k ∧ (aa.add (kp * 3)).block < w.heap.size ∧ w.cell? (aa.add (kp * 3)) = some (.int .i64 la) := fun kp e => by
        have hkp : kp < l.length := by omega
        obtain ⟨a', hA', p5, p0, _⟩ := (HRK.out w (Below.refl _ _)).2 kp _ (List.getElem?_eq_getElem hkp)
        obtain rfl : aa = a' := by rw [hA] at hA'; injection hA'
        exact ⟨hkp, _, rfl, p5, by rw [e, lastM_at hkp]; exact p0⟩
      have hk0 : (0 : Int) ≤ (k : Int) := by omega
      have hkn : (k : Int) < (n : Int) := by omega
      generalize l[k] = d at *
      obtain ⟨a1, a2, a3⟩ := d
      simp only at q0 q1 q2 hme
      subst hA
      have HLA := Lib.hid hla
      have HME := Lib.hid hme
      have hc1 := fun w => rnode_bel a1 w
      clear hla hme
      go_upto_region 6 with ((with_reducible refine wpList_st (cs := #[.int .i64 a1, .int .i64 a2, .int .i64 a3]) rowMb (Blk.new _ _ _) (th_sizeR _ _ _) ?_ (th_oneR _ _ _) ?_ ?_ ?_); (rfl); rotate_left; (rfl); (rfl); intro W kq g7 z7)
      have bq : Below wr.heap.size wr W := new_below g7
      have gb := gb.trans (bq.mono gb.size)
      obtain ⟨g, hg⟩ : ∃ g, g = wr.heap.size := ⟨_, rfl⟩
      rw [← hg] at kq ⊢
      have d0 : W.cell? ⟨g, 0, none⟩ = some (.int .i64 a1) := kq.cell 0
      have d1 : W.cell? ⟨g, 1, none⟩ = some (.int .i64 a2) := kq.cell 1
      have d2 : W.cell? ⟨g, 2, none⟩ = some (.int .i64 a3) := kq.cell 2
      have hgW : g < W.heap.size := kq.lt
      clear g7 z7 bq q5 q0 q1 q2 kq hg
      cases h1 : Ms.nodeB a1
      case false =>
        have hr : R = false := by rw [HR.out]; exact HB.out (by rw [HME.out, h1]; rfl)
        subst hr
        have H1 := Lib.hid hc1
        rw [h1] at H1
        clear hc1 h1 HR
        refine wp_region_facts (fun L v w => v 0 = .slice (some aa) n c ∧ v 3 = .int .i64 k ∧ v 4 = .pointer (some ⟨g, 0, none⟩) ∧ Below W.heap.size W w ∧ (L 0 = true → v 15 = .pointer (some ⟨g, 0, none⟩)) ∧ (L 1 = true → v 16 = .int .i64 a1) ∧ (L 2 = true → v 17 = .bool false) ∧ (L 3 = true → v 18 = .bool true) ∧ (L 4 = true → v 19 = .bool true) ∧ (L 5 = true → v 20 = undef) ∧ (L 6 = true → v 21 = undef) ∧ (L 7 = true → v 22 = undef) ∧ (L 8 = true → v 23 = .bool true) ∧ (L 9 = true → v 24 = .bool true) ∧ (L 10 = true → v 25 = undef) ∧ (L 11 = true → v 26 = undef) ∧ (L 12 = true → v 27 = undef) ∧ (L 13 = true → v 28 = .bool true) ∧ (L 14 = true → v 29 = .bool true) ∧ (L 15 = true → v 30 = undef) ∧ (L 16 = true → v 31 = undef) ∧ (L 17 = true → v 32 = undef) ∧ (L 18 = true → v 33 = .bool true) ∧ (L 19 = true → v 34 = .bool true) ∧ (L 20 = true → v 35 = undef) ∧ (L 21 = true → v 36 = undef) ∧ (L 22 = true → v 37 = undef) ∧ (L 23 = true → v 38 = .bool true) ∧ (L 24 = true → v 39 = .bool true) ∧ (L 25 = true → v 40 = undef) ∧ (L 26 = true → v 41 = undef) ∧ (L 27 = true → v 42 = undef) ∧ (L 28 = true → v 43 = undef) ∧ (L 29 = true → v 44 = undef) ∧ (L 30 = true → v 45 = undef) ∧ (L 31 = true → v 46 = undef) ∧ (L 32 = true → v 47 = undef) ∧ (L 33 = true → v 48 = undef) ∧ (L 34 = true → v 49 = undef) ∧ (L 35 = true → v 50 = undef) ∧ (L 36 = true → v 51 = undef) ∧ (L 37 = true → v 52 = undef) ∧ (L 38 = true → v 53 = .bool true)) [15, 16, 17, 18, 19, 20, 21, 22, 23, 24, 25, 26, 27, 28, 29, 30, 31, 32, 33, 34, 35, 36, 37, 38, 39, 40, 41, 42, 43, 44, 45, 46, 47, 48, 49, 50, 51, 52, 53] (by kernel_rfl) (by kernel_rfl) (by kernel_rfl) (by kernel_rfl) ?h0 ?hst ?hend
        case h0 =>
          intro L h0
          have h0 : ∀ i, i < 39 → L i = false := h0
          exact ⟨rfl, rfl, rfl, (Below.refl _ _).drew,offF h0 (i := 0) (by decide),offF h0 (i := 1) (by decide),offF h0 (i := 2) (by decide),offF h0 (i := 3) (by decide),offF h0 (i := 4) (by decide),offF h0 (i := 5) (by decide),offF h0 (i := 6) (by decide),offF h0 (i := 7) (by decide),offF h0 (i := 8) (by decide),offF h0 (i := 9) (by decide),offF h0 (i := 10) (by decide),offF h0 (i := 11) (by decide),offF h0 (i := 12) (by decide),offF h0 (i := 13) (by decide),offF h0 (i := 14) (by decide),offF h0 (i := 15) (by decide),offF h0 (i := 16) (by decide),offF h0 (i := 17) (by decide),offF h0 (i := 18) (by decide),offF h0 (i := 19) (by decide),offF h0 (i := 20) (by decide),offF h0 (i := 21) (by decide),offF h0 (i := 22) (by decide),offF h0 (i := 23) (by decide),offF h0 (i := 24) (by decide),offF h0 (i := 25) (by decide),offF h0 (i := 26) (by decide),offF h0 (i := 27) (by decide),offF h0 (i := 28) (by decide),offF h0 (i := 29) (by decide),offF h0 (i := 30) (by decide),offF h0 (i := 31) (by decide),offF h0 (i := 32) (by decide),offF h0 (i := 33) (by decide),offF h0 (i := 34) (by decide),offF h0 (i := 35) (by decide),offF h0 (i := 36) (by decide),offF h0 (i := 37) (by decide),offF h0 (i := 38) (by decide)⟩
        case hst =>
          show FactSteps _ _ _ _ [0, 1, 2, 3, 4, 5, 6, 7, 8, 9, 10, 11, 12, 13, 14, 15, 16, 17, 18, 19, 20, 21, 22, 23, 24, 25, 26, 27, 28, 29, 30, 31, 32, 33, 34, 35, 36, 37, 38]
          refine @FactSteps.cons _ _ _ _ 0 _ [] _ rfl (by kernel_rfl) ?s0 ?_
          rotate_left
          refine @FactSteps.cons _ _ _ _ 1 _ [0] _ rfl (by kernel_rfl) ?s1 ?_
          rotate_left
          refine @FactSteps.cons _ _ _ _ 2 _ [1] _ rfl (by kernel_rfl) ?s2 ?_
          rotate_left
          refine @FactSteps.cons _ _ _ _ 3 _ [2] _ rfl (by kernel_rfl) ?s3 ?_
          rotate_left
          refine @FactSteps.cons _ _ _ _ 4 _ [3, 2] _ rfl (by kernel_rfl) ?s4 ?_
          rotate_left
          refine @FactSteps.cons _ _ _ _ 5 _ [4] _ rfl (by kernel_rfl) ?s5 ?_
          rotate_left
          refine @FactSteps.cons _ _ _ _ 6 _ [5, 4] _ rfl (by kernel_rfl) ?s6 ?_
          rotate_left
          refine @FactSteps.cons _ _ _ _ 7 _ [6, 4] _ rfl (by kernel_rfl) ?s7 ?_
          rotate_left
          refine @FactSteps.cons _ _ _ _ 8 _ [4, 7] _ rfl (by kernel_rfl) ?s8 ?_
          rotate_left
          refine @FactSteps.cons _ _ _ _ 9 _ [8, 4] _ rfl (by kernel_rfl) ?s9 ?_
          rotate_left
          refine @FactSteps.cons _ _ _ _ 10 _ [9] _ rfl (by kernel_rfl) ?s10 ?_
          rotate_left
          refine @FactSteps.cons _ _ _ _ 11 _ [10, 9] _ rfl (by kernel_rfl) ?s11 ?_
          rotate_left
          refine @FactSteps.cons _ _ _ _ 12 _ [11, 9] _ rfl (by kernel_rfl) ?s12 ?_
          rotate_left
          refine @FactSteps.cons _ _ _ _ 13 _ [9, 12] _ rfl (by kernel_rfl) ?s13 ?_
          rotate_left
          refine @FactSteps.cons _ _ _ _ 14 _ [13, 9] _ rfl (by kernel_rfl) ?s14 ?_
          rotate_left
          refine @FactSteps.cons _ _ _ _ 15 _ [14] _ rfl (by kernel_rfl) ?s15 ?_
          rotate_left
          refine @FactSteps.cons _ _ _ _ 16 _ [15, 14] _ rfl (by kernel_rfl) ?s16 ?_
          rotate_left
          refine @FactSteps.cons _ _ _ _ 17 _ [16, 14] _ rfl (by kernel_rfl) ?s17 ?_
          rotate_left
          refine @FactSteps.cons _ _ _ _ 18 _ [14, 17] _ rfl (by kernel_rfl) ?s18 ?_
          rotate_left
          refine @FactSteps.cons _ _ _ _ 19 _ [18, 14] _ rfl (by kernel_rfl) ?s19 ?_
          rotate_left
          refine @FactSteps.cons _ _ _ _ 20 _ [19] _ rfl (by kernel_rfl) ?s20 ?_
          rotate_left
          refine @FactSteps.cons _ _ _ _ 21 _ [20, 19] _ rfl (by kernel_rfl) ?s21 ?_
          rotate_left
          refine @FactSteps.cons _ _ _ _ 22 _ [21, 19] _ rfl (by kernel_rfl) ?s22 ?_
          rotate_left
          refine @FactSteps.cons _ _ _ _ 23 _ [19, 22] _ rfl (by kernel_rfl) ?s23 ?_
          rotate_left
          refine @FactSteps.cons _ _ _ _ 24 _ [23, 19] _ rfl (by kernel_rfl) ?s24 ?_
          rotate_left
          refine @FactSteps.cons _ _ _ _ 25 _ [24] _ rfl (by kernel_rfl) ?s25 ?_
          rotate_left
          refine @FactSteps.cons _ _ _ _ 26 _ [25, 24] _ rfl (by kernel_rfl) ?s26 ?_
          rotate_left
          refine @FactSteps.cons _ _ _ _ 27 _ [26, 24, 24] _ rfl (by kernel_rfl) ?s27 ?_
          rotate_left
          refine @FactSteps.cons _ _ _ _ 28 _ [27] _ rfl (by kernel_rfl) ?s28 ?_
          rotate_left
          refine @FactSteps.cons _ _ _ _ 29 _ [27] _ rfl (by kernel_rfl) ?s29 ?_
          rotate_left
          refine @FactSteps.cons _ _ _ _ 30 _ [29, 27] _ rfl (by kernel_rfl) ?s30 ?_
          rotate_left
          refine @FactSteps.cons _ _ _ _ 31 _ [28, 30, 27] _ rfl (by kernel_rfl) ?s31 ?_
          rotate_left
          refine @FactSteps.cons _ _ _ _ 32 _ [31, 27] _ rfl (by kernel_rfl) ?s32 ?_
          rotate_left
          refine @FactSteps.cons _ _ _ _ 33 _ [32, 27] _ rfl (by kernel_rfl) ?s33 ?_
          rotate_left
          refine @FactSteps.cons _ _ _ _ 34 _ [27] _ rfl (by kernel_rfl) ?s34 ?_
          rotate_left
          refine @FactSteps.cons _ _ _ _ 35 _ [34, 27] _ rfl (by kernel_rfl) ?s35 ?_
          rotate_left
          refine @FactSteps.cons _ _ _ _ 36 _ [33, 35, 27] _ rfl (by kernel_rfl) ?s36 ?_
          rotate_left
          refine @FactSteps.cons _ _ _ _ 37 _ [27, 36, 24] _ rfl (by kernel_rfl) ?s37 ?_
          rotate_left
          refine @FactSteps.cons _ _ _ _ 38 _ [24, 37] _ rfl (by kernel_rfl) ?s38 ?_
          rotate_left
          exact FactSteps.nil
          case s0 =>
            rintro L a v w hv hg hL hd hcl ⟨e0,e3,e4,hb,f0,f1,f2,f3,f4,f5,f6,f7,f8,f9,f10,f11,f12,f13,f14,f15,f16,f17,f18,f19,f20,f21,f22,f23,f24,f25,f26,f27,f28,f29,f30,f31,f32,f33,f34,f35,f36,f37,f38⟩ K hK
            refine step_do rfl ?_
            clear hv
            go_simp
            exact hK.out _ _ ⟨e0,e3,e4,hb,fun _ => rfl,f1,f2,f3,f4,f5,f6,f7,f8,f9,f10,f11,f12,f13,f14,f15,f16,f17,f18,f19,f20,f21,f22,f23,f24,f25,f26,f27,f28,f29,f30,f31,f32,f33,f34,f35,f36,f37,f38⟩
          case s1 =>
            rintro L a v w hv hg hL hd hcl ⟨e0,e3,e4,hb,f0,f1,f2,f3,f4,f5,f6,f7,f8,f9,f10,f11,f12,f13,f14,f15,f16,f17,f18,f19,f20,f21,f22,f23,f24,f25,f26,f27,f28,f29,f30,f31,f32,f33,f34,f35,f36,f37,f38⟩ K hK
            have g0 := f0 (hd 0 (by decide))
            have hc := (hb.cell (p := ⟨g, 0, none⟩) hgW).trans d0
            refine step_do rfl ?_
            clear hv
            go_simp
            exact hK.out _ _ ⟨e0,e3,e4,hb,f0,fun _ => rfl,f2,f3,f4,f5,f6,f7,f8,f9,f10,f11,f12,f13,f14,f15,f16,f17,f18,f19,f20,f21,f22,f23,f24,f25,f26,f27,f28,f29,f30,f31,f32,f33,f34,f35,f36,f37,f38⟩
          case s2 =>
            rintro L a v w hv hg hL hd hcl ⟨e0,e3,e4,hb,f0,f1,f2,f3,f4,f5,f6,f7,f8,f9,f10,f11,f12,f13,f14,f15,f16,f17,f18,f19,f20,f21,f22,f23,f24,f25,f26,f27,f28,f29,f30,f31,f32,f33,f34,f35,f36,f37,f38⟩ K hK
            have h1 := f1 (hd 1 (by decide))
            refine step_do rfl ?_
            clear hv
            go_simp
            refine (H1.out w).mono ?_
            rintro e wy ⟨rfl, bb⟩
            exact hK.out _ _ ⟨e0,e3,e4, (hb.trans (bb.mono hb.size)),f0,f1,fun _ => rfl,f3,f4,f5,f6,f7,f8,f9,f10,f11,f12,f13,f14,f15,f16,f17,f18,f19,f20,f21,f22,f23,f24,f25,f26,f27,f28,f29,f30,f31,f32,f33,f34,f35,f36,f37,f38⟩
          case s3 =>
            rintro L a v w hv hg hL hd hcl ⟨e0,e3,e4,hb,f0,f1,f2,f3,f4,f5,f6,f7,f8,f9,f10,f11,f12,f13,f14,f15,f16,f17,f18,f19,f20,f21,f22,f23,f24,f25,f26,f27,f28,f29,f30,f31,f32,f33,f34,f35,f36,f37,f38⟩ K hK
            refine step_do rfl ?_
            clear hv
            go_simp
            exact hK.out _ _ ⟨e0,e3,e4,hb,f0,f1,f2,fun _ => rfl,f4,f5,f6,f7,f8,f9,f10,f11,f12,f13,f14,f15,f16,f17,f18,f19,f20,f21,f22,f23,f24,f25,f26,f27,f28,f29,f30,f31,f32,f33,f34,f35,f36,f37,f38⟩
          case s4 =>
            rintro L a v w hv hg hL hd hcl ⟨e0,e3,e4,hb,f0,f1,f2,f3,f4,f5,f6,f7,f8,f9,f10,f11,f12,f13,f14,f15,f16,f17,f18,f19,f20,f21,f22,f23,f24,f25,f26,f27,f28,f29,f30,f31,f32,f33,f34,f35,f36,f37,f38⟩ K hK
            have g3 := f3 (hd 3 (by decide))
            refine step_do rfl ?_
            clear hv
            go_simp
            exact hK.out _ _ ⟨e0,e3,e4,hb,f0,f1,f2,f3,fun _ => rfl,f5,f6,f7,f8,f9,f10,f11,f12,f13,f14,f15,f16,f17,f18,f19,f20,f21,f22,f23,f24,f25,f26,f27,f28,f29,f30,f31,f32,f33,f34,f35,f36,f37,f38⟩
          case s5 =>
            rintro L a v w hv hg hL hd hcl ⟨e0,e3,e4,hb,f0,f1,f2,f3,f4,f5,f6,f7,f8,f9,f10,f11,f12,f13,f14,f15,f16,f17,f18,f19,f20,f21,f22,f23,f24,f25,f26,f27,f28,f29,f30,f31,f32,f33,f34,f35,f36,f37,f38⟩ K hK
            refine step_skip (j := 4) (s := 19) (b := true) rfl rfl ((hv 19).trans (f4 (hd 4 (by decide)))) (by decide) ?_
            exact hK.out _ _ ⟨e0,e3,e4,hb,f0,f1,f2,f3,f4,fun _ => rfl,f6,f7,f8,f9,f10,f11,f12,f13,f14,f15,f16,f17,f18,f19,f20,f21,f22,f23,f24,f25,f26,f27,f28,f29,f30,f31,f32,f33,f34,f35,f36,f37,f38⟩
          case s6 =>
            rintro L a v w hv hg hL hd hcl ⟨e0,e3,e4,hb,f0,f1,f2,f3,f4,f5,f6,f7,f8,f9,f10,f11,f12,f13,f14,f15,f16,f17,f18,f19,f20,f21,f22,f23,f24,f25,f26,f27,f28,f29,f30,f31,f32,f33,f34,f35,f36,f37,f38⟩ K hK
            refine step_skip (j := 4) (s := 19) (b := true) rfl rfl ((hv 19).trans (f4 (hd 4 (by decide)))) (by decide) ?_
            exact hK.out _ _ ⟨e0,e3,e4,hb,f0,f1,f2,f3,f4,f5,fun _ => rfl,f7,f8,f9,f10,f11,f12,f13,f14,f15,f16,f17,f18,f19,f20,f21,f22,f23,f24,f25,f26,f27,f28,f29,f30,f31,f32,f33,f34,f35,f36,f37,f38⟩
          case s7 =>
            rintro L a v w hv hg hL hd hcl ⟨e0,e3,e4,hb,f0,f1,f2,f3,f4,f5,f6,f7,f8,f9,f10,f11,f12,f13,f14,f15,f16,f17,f18,f19,f20,f21,f22,f23,f24,f25,f26,f27,f28,f29,f30,f31,f32,f33,f34,f35,f36,f37,f38⟩ K hK
            refine step_skip (j := 4) (s := 19) (b := true) rfl rfl ((hv 19).trans (f4 (hd 4 (by decide)))) (by decide) ?_
            exact hK.out _ _ ⟨e0,e3,e4,hb,f0,f1,f2,f3,f4,f5,f6,fun _ => rfl,f8,f9,f10,f11,f12,f13,f14,f15,f16,f17,f18,f19,f20,f21,f22,f23,f24,f25,f26,f27,f28,f29,f30,f31,f32,f33,f34,f35,f36,f37,f38⟩
          case s8 =>
            rintro L a v w hv hg hL hd hcl ⟨e0,e3,e4,hb,f0,f1,f2,f3,f4,f5,f6,f7,f8,f9,f10,f11,f12,f13,f14,f15,f16,f17,f18,f19,f20,f21,f22,f23,f24,f25,f26,f27,f28,f29,f30,f31,f32,f33,f34,f35,f36,f37,f38⟩ K hK
            have g4 := f4 (hd 4 (by decide))
            refine step_do rfl ?_
            clear hv
            go_simp
            exact hK.out _ _ ⟨e0,e3,e4,hb,f0,f1,f2,f3,f4,f5,f6,f7,fun _ => rfl,f9,f10,f11,f12,f13,f14,f15,f16,f17,f18,f19,f20,f21,f22,f23,f24,f25,f26,f27,f28,f29,f30,f31,f32,f33,f34,f35,f36,f37,f38⟩
          case s9 =>
            rintro L a v w hv hg hL hd hcl ⟨e0,e3,e4,hb,f0,f1,f2,f3,f4,f5,f6,f7,f8,f9,f10,f11,f12,f13,f14,f15,f16,f17,f18,f19,f20,f21,f22,f23,f24,f25,f26,f27,f28,f29,f30,f31,f32,f33,f34,f35,f36,f37,f38⟩ K hK
            have g4 := f4 (hd 4 (by decide))
            have g8 := f8 (hd 8 (by decide))
            refine step_do rfl ?_
            clear hv
            go_simp
            exact hK.out _ _ ⟨e0,e3,e4,hb,f0,f1,f2,f3,f4,f5,f6,f7,f8,fun _ => rfl,f10,f11,f12,f13,f14,f15,f16,f17,f18,f19,f20,f21,f22,f23,f24,f25,f26,f27,f28,f29,f30,f31,f32,f33,f34,f35,f36,f37,f38⟩
          case s10 =>
            rintro L a v w hv hg hL hd hcl ⟨e0,e3,e4,hb,f0,f1,f2,f3,f4,f5,f6,f7,f8,f9,f10,f11,f12,f13,f14,f15,f16,f17,f18,f19,f20,f21,f22,f23,f24,f25,f26,f27,f28,f29,f30,f31,f32,f33,f34,f35,f36,f37,f38⟩ K hK
            refine step_skip (j := 9) (s := 24) (b := true) rfl rfl ((hv 24).trans (f9 (hd 9 (by decide)))) (by decide) ?_
            exact hK.out _ _ ⟨e0,e3,e4,hb,f0,f1,f2,f3,f4,f5,f6,f7,f8,f9,fun _ => rfl,f11,f12,f13,f14,f15,f16,f17,f18,f19,f20,f21,f22,f23,f24,f25,f26,f27,f28,f29,f30,f31,f32,f33,f34,f35,f36,f37,f38⟩
          case s11 =>
            rintro L a v w hv hg hL hd hcl ⟨e0,e3,e4,hb,f0,f1,f2,f3,f4,f5,f6,f7,f8,f9,f10,f11,f12,f13,f14,f15,f16,f17,f18,f19,f20,f21,f22,f23,f24,f25,f26,f27,f28,f29,f30,f31,f32,f33,f34,f35,f36,f37,f38⟩ K hK
            refine step_skip (j := 9) (s := 24) (b := true) rfl rfl ((hv 24).trans (f9 (hd 9 (by decide)))) (by decide) ?_
            exact hK.out _ _ ⟨e0,e3,e4,hb,f0,f1,f2,f3,f4,f5,f6,f7,f8,f9,f10,fun _ => rfl,f12,f13,f14,f15,f16,f17,f18,f19,f20,f21,f22,f23,f24,f25,f26,f27,f28,f29,f30,f31,f32,f33,f34,f35,f36,f37,f38⟩
          case s12 =>
            rintro L a v w hv hg hL hd hcl ⟨e0,e3,e4,hb,f0,f1,f2,f3,f4,f5,f6,f7,f8,f9,f10,f11,f12,f13,f14,f15,f16,f17,f18,f19,f20,f21,f22,f23,f24,f25,f26,f27,f28,f29,f30,f31,f32,f33,f34,f35,f36,f37,f38⟩ K hK
            refine step_skip (j := 9) (s := 24) (b := true) rfl rfl ((hv 24).trans (f9 (hd 9 (by decide)))) (by decide) ?_
            exact hK.out _ _ ⟨e0,e3,e4,hb,f0,f1,f2,f3,f4,f5,f6,f7,f8,f9,f10,f11,fun _ => rfl,f13,f14,f15,f16,f17,f18,f19,f20,f21,f22,f23,f24,f25,f26,f27,f28,f29,f30,f31,f32,f33,f34,f35,f36,f37,f38⟩
          case s13 =>
            rintro L a v w hv hg hL hd hcl ⟨e0,e3,e4,hb,f0,f1,f2,f3,f4,f5,f6,f7,f8,f9,f10,f11,f12,f13,f14,f15,f16,f17,f18,f19,f20,f21,f22,f23,f24,f25,f26,f27,f28,f29,f30,f31,f32,f33,f34,f35,f36,f37,f38⟩ K hK
            have g9 := f9 (hd 9 (by decide))
            refine step_do rfl ?_
            clear hv
            go_simp
            exact hK.out _ _ ⟨e0,e3,e4,hb,f0,f1,f2,f3,f4,f5,f6,f7,f8,f9,f10,f11,f12,fun _ => rfl,f14,f15,f16,f17,f18,f19,f20,f21,f22,f23,f24,f25,f26,f27,f28,f29,f30,f31,f32,f33,f34,f35,f36,f37,f38⟩
          case s14 =>
            rintro L a v w hv hg hL hd hcl ⟨e0,e3,e4,hb,f0,f1,f2,f3,f4,f5,f6,f7,f8,f9,f10,f11,f12,f13,f14,f15,f16,f17,f18,f19,f20,f21,f22,f23,f24,f25,f26,f27,f28,f29,f30,f31,f32,f33,f34,f35,f36,f37,f38⟩ K hK
            have g9 := f9 (hd 9 (by decide))
            have g13 := f13 (hd 13 (by decide))
            refine step_do rfl ?_
            clear hv
            go_simp
            exact hK.out _ _ ⟨e0,e3,e4,hb,f0,f1,f2,f3,f4,f5,f6,f7,f8,f9,f10,f11,f12,f13,fun _ => rfl,f15,f16,f17,f18,f19,f20,f21,f22,f23,f24,f25,f26,f27,f28,f29,f30,f31,f32,f33,f34,f35,f36,f37,f38⟩
          case s15 =>
            rintro L a v w hv hg hL hd hcl ⟨e0,e3,e4,hb,f0,f1,f2,f3,f4,f5,f6,f7,f8,f9,f10,f11,f12,f13,f14,f15,f16,f17,f18,f19,f20,f21,f22,f23,f24,f25,f26,f27,f28,f29,f30,f31,f32,f33,f34,f35,f36,f37,f38⟩ K hK
            refine step_skip (j := 14) (s := 29) (b := true) rfl rfl ((hv 29).trans (f14 (hd 14 (by decide)))) (by decide) ?_
            exact hK.out _ _ ⟨e0,e3,e4,hb,f0,f1,f2,f3,f4,f5,f6,f7,f8,f9,f10,f11,f12,f13,f14,fun _ => rfl,f16,f17,f18,f19,f20,f21,f22,f23,f24,f25,f26,f27,f28,f29,f30,f31,f32,f33,f34,f35,f36,f37,f38⟩
          case s16 =>
            rintro L a v w hv hg hL hd hcl ⟨e0,e3,e4,hb,f0,f1,f2,f3,f4,f5,f6,f7,f8,f9,f10,f11,f12,f13,f14,f15,f16,f17,f18,f19,f20,f21,f22,f23,f24,f25,f26,f27,f28,f29,f30,f31,f32,f33,f34,f35,f36,f37,f38⟩ K hK
            refine step_skip (j := 14) (s := 29) (b := true) rfl rfl ((hv 29).trans (f14 (hd 14 (by decide)))) (by decide) ?_
            exact hK.out _ _ ⟨e0,e3,e4,hb,f0,f1,f2,f3,f4,f5,f6,f7,f8,f9,f10,f11,f12,f13,f14,f15,fun _ => rfl,f17,f18,f19,f20,f21,f22,f23,f24,f25,f26,f27,f28,f29,f30,f31,f32,f33,f34,f35,f36,f37,f38⟩
          case s17 =>
            rintro L a v w hv hg hL hd hcl ⟨e0,e3,e4,hb,f0,f1,f2,f3,f4,f5,f6,f7,f8,f9,f10,f11,f12,f13,f14,f15,f16,f17,f18,f19,f20,f21,f22,f23,f24,f25,f26,f27,f28,f29,f30,f31,f32,f33,f34,f35,f36,f37,f38⟩ K hK
            refine step_skip (j := 14) (s := 29) (b := true) rfl rfl ((hv 29).trans (f14 (hd 14 (by decide)))) (by decide) ?_
            exact hK.out _ _ ⟨e0,e3,e4,hb,f0,f1,f2,f3,f4,f5,f6,f7,f8,f9,f10,f11,f12,f13,f14,f15,f16,fun _ => rfl,f18,f19,f20,f21,f22,f23,f24,f25,f26,f27,f28,f29,f30,f31,f32,f33,f34,f35,f36,f37,f38⟩
          case s18 =>
            rintro L a v w hv hg hL hd hcl ⟨e0,e3,e4,hb,f0,f1,f2,f3,f4,f5,f6,f7,f8,f9,f10,f11,f12,f13,f14,f15,f16,f17,f18,f19,f20,f21,f22,f23,f24,f25,f26,f27,f28,f29,f30,f31,f32,f33,f34,f35,f36,f37,f38⟩ K hK
            have g14 := f14 (hd 14 (by decide))
            refine step_do rfl ?_
            clear hv
            go_simp
            exact hK.out _ _ ⟨e0,e3,e4,hb,f0,f1,f2,f3,f4,f5,f6,f7,f8,f9,f10,f11,f12,f13,f14,f15,f16,f17,fun _ => rfl,f19,f20,f21,f22,f23,f24,f25,f26,f27,f28,f29,f30,f31,f32,f33,f34,f35,f36,f37,f38⟩
          case s19 =>
            rintro L a v w hv hg hL hd hcl ⟨e0,e3,e4,hb,f0,f1,f2,f3,f4,f5,f6,f7,f8,f9,f10,f11,f12,f13,f14,f15,f16,f17,f18,f19,f20,f21,f22,f23,f24,f25,f26,f27,f28,f29,f30,f31,f32,f33,f34,f35,f36,f37,f38⟩ K hK
            have g14 := f14 (hd 14 (by decide))
            have g18 := f18 (hd 18 (by decide))
            refine step_do rfl ?_
            clear hv
            go_simp
            exact hK.out _ _ ⟨e0,e3,e4,hb,f0,f1,f2,f3,f4,f5,f6,f7,f8,f9,f10,f11,f12,f13,f14,f15,f16,f17,f18,fun _ => rfl,f20,f21,f22,f23,f24,f25,f26,f27,f28,f29,f30,f31,f32,f33,f34,f35,f36,f37,f38⟩
          case s20 =>
            rintro L a v w hv hg hL hd hcl ⟨e0,e3,e4,hb,f0,f1,f2,f3,f4,f5,f6,f7,f8,f9,f10,f11,f12,f13,f14,f15,f16,f17,f18,f19,f20,f21,f22,f23,f24,f25,f26,f27,f28,f29,f30,f31,f32,f33,f34,f35,f36,f37,f38⟩ K hK
            refine step_skip (j := 19) (s := 34) (b := true) rfl rfl ((hv 34).trans (f19 (hd 19 (by decide)))) (by decide) ?_
            exact hK.out _ _ ⟨e0,e3,e4,hb,f0,f1,f2,f3,f4,f5,f6,f7,f8,f9,f10,f11,f12,f13,f14,f15,f16,f17,f18,f19,fun _ => rfl,f21,f22,f23,f24,f25,f26,f27,f28,f29,f30,f31,f32,f33,f34,f35,f36,f37,f38⟩
          case s21 =>
            rintro L a v w hv hg hL hd hcl ⟨e0,e3,e4,hb,f0,f1,f2,f3,f4,f5,f6,f7,f8,f9,f10,f11,f12,f13,f14,f15,f16,f17,f18,f19,f20,f21,f22,f23,f24,f25,f26,f27,f28,f29,f30,f31,f32,f33,f34,f35,f36,f37,f38⟩ K hK
            refine step_skip (j := 19) (s := 34) (b := true) rfl rfl ((hv 34).trans (f19 (hd 19 (by decide)))) (by decide) ?_
            exact hK.out _ _ ⟨e0,e3,e4,hb,f0,f1,f2,f3,f4,f5,f6,f7,f8,f9,f10,f11,f12,f13,f14,f15,f16,f17,f18,f19,f20,fun _ => rfl,f22,f23,f24,f25,f26,f27,f28,f29,f30,f31,f32,f33,f34,f35,f36,f37,f38⟩
          case s22 =>
            rintro L a v w hv hg hL hd hcl ⟨e0,e3,e4,hb,f0,f1,f2,f3,f4,f5,f6,f7,f8,f9,f10,f11,f12,f13,f14,f15,f16,f17,f18,f19,f20,f21,f22,f23,f24,f25,f26,f27,f28,f29,f30,f31,f32,f33,f34,f35,f36,f37,f38⟩ K hK
            refine step_skip (j := 19) (s := 34) (b := true) rfl rfl ((hv 34).trans (f19 (hd 19 (by decide)))) (by decide) ?_
            exact hK.out _ _ ⟨e0,e3,e4,hb,f0,f1,f2,f3,f4,f5,f6,f7,f8,f9,f10,f11,f12,f13,f14,f15,f16,f17,f18,f19,f20,f21,fun _ => rfl,f23,f24,f25,f26,f27,f28,f29,f30,f31,f32,f33,f34,f35,f36,f37,f38⟩
          case s23 =>
            rintro L a v w hv hg hL hd hcl ⟨e0,e3,e4,hb,f0,f1,f2,f3,f4,f5,f6,f7,f8,f9,f10,f11,f12,f13,f14,f15,f16,f17,f18,f19,f20,f21,f22,f23,f24,f25,f26,f27,f28,f29,f30,f31,f32,f33,f34,f35,f36,f37,f38⟩ K hK
            have g19 := f19 (hd 19 (by decide))
            refine step_do rfl ?_
            clear hv
            go_simp
            exact hK.out _ _ ⟨e0,e3,e4,hb,f0,f1,f2,f3,f4,f5,f6,f7,f8,f9,f10,f11,f12,f13,f14,f15,f16,f17,f18,f19,f20,f21,f22,fun _ => rfl,f24,f25,f26,f27,f28,f29,f30,f31,f32,f33,f34,f35,f36,f37,f38⟩
          case s24 =>
            rintro L a v w hv hg hL hd hcl ⟨e0,e3,e4,hb,f0,f1,f2,f3,f4,f5,f6,f7,f8,f9,f10,f11,f12,f13,f14,f15,f16,f17,f18,f19,f20,f21,f22,f23,f24,f25,f26,f27,f28,f29,f30,f31,f32,f33,f34,f35,f36,f37,f38⟩ K hK
            have g19 := f19 (hd 19 (by decide))
            have g23 := f23 (hd 23 (by decide))
            refine step_do rfl ?_
            clear hv
            go_simp
            exact hK.out _ _ ⟨e0,e3,e4,hb,f0,f1,f2,f3,f4,f5,f6,f7,f8,f9,f10,f11,f12,f13,f14,f15,f16,f17,f18,f19,f20,f21,f22,f23,fun _ => rfl,f25,f26,f27,f28,f29,f30,f31,f32,f33,f34,f35,f36,f37,f38⟩
          case s25 =>
            rintro L a v w hv hg hL hd hcl ⟨e0,e3,e4,hb,f0,f1,f2,f3,f4,f5,f6,f7,f8,f9,f10,f11,f12,f13,f14,f15,f16,f17,f18,f19,f20,f21,f22,f23,f24,f25,f26,f27,f28,f29,f30,f31,f32,f33,f34,f35,f36,f37,f38⟩ K hK
            refine step_skip (j := 24) (s := 39) (b := true) rfl rfl ((hv 39).trans (f24 (hd 24 (by decide)))) (by decide) ?_
            exact hK.out _ _ ⟨e0,e3,e4,hb,f0,f1,f2,f3,f4,f5,f6,f7,f8,f9,f10,f11,f12,f13,f14,f15,f16,f17,f18,f19,f20,f21,f22,f23,f24,fun _ => rfl,f26,f27,f28,f29,f30,f31,f32,f33,f34,f35,f36,f37,f38⟩
          case s26 =>
            rintro L a v w hv hg hL hd hcl ⟨e0,e3,e4,hb,f0,f1,f2,f3,f4,f5,f6,f7,f8,f9,f10,f11,f12,f13,f14,f15,f16,f17,f18,f19,f20,f21,f22,f23,f24,f25,f26,f27,f28,f29,f30,f31,f32,f33,f34,f35,f36,f37,f38⟩ K hK
            refine step_skip (j := 24) (s := 39) (b := true) rfl rfl ((hv 39).trans (f24 (hd 24 (by decide)))) (by decide) ?_
            exact hK.out _ _ ⟨e0,e3,e4,hb,f0,f1,f2,f3,f4,f5,f6,f7,f8,f9,f10,f11,f12,f13,f14,f15,f16,f17,f18,f19,f20,f21,f22,f23,f24,f25,fun _ => rfl,f27,f28,f29,f30,f31,f32,f33,f34,f35,f36,f37,f38⟩
          case s27 =>
            rintro L a v w hv hg hL hd hcl ⟨e0,e3,e4,hb,f0,f1,f2,f3,f4,f5,f6,f7,f8,f9,f10,f11,f12,f13,f14,f15,f16,f17,f18,f19,f20,f21,f22,f23,f24,f25,f26,f27,f28,f29,f30,f31,f32,f33,f34,f35,f36,f37,f38⟩ K hK
            refine step_skip (j := 24) (s := 39) (b := true) rfl rfl ((hv 39).trans (f24 (hd 24 (by decide)))) (by decide) ?_
            exact hK.out _ _ ⟨e0,e3,e4,hb,f0,f1,f2,f3,f4,f5,f6,f7,f8,f9,f10,f11,f12,f13,f14,f15,f16,f17,f18,f19,f20,f21,f22,f23,f24,f25,f26,fun _ => rfl,f28,f29,f30,f31,f32,f33,f34,f35,f36,f37,f38⟩
          case s28 =>
            rintro L a v w hv hg hL hd hcl ⟨e0,e3,e4,hb,f0,f1,f2,f3,f4,f5,f6,f7,f8,f9,f10,f11,f12,f13,f14,f15,f16,f17,f18,f19,f20,f21,f22,f23,f24,f25,f26,f27,f28,f29,f30,f31,f32,f33,f34,f35,f36,f37,f38⟩ K hK
            refine step_skipU (j := 27) (s := 42) rfl rfl ((hv 42).trans (f27 (hd 27 (by decide)))) ?_
            exact hK.out _ _ ⟨e0,e3,e4,hb,f0,f1,f2,f3,f4,f5,f6,f7,f8,f9,f10,f11,f12,f13,f14,f15,f16,f17,f18,f19,f20,f21,f22,f23,f24,f25,f26,f27,fun _ => rfl,f29,f30,f31,f32,f33,f34,f35,f36,f37,f38⟩
          case s29 =>
            rintro L a v w hv hg hL hd hcl ⟨e0,e3,e4,hb,f0,f1,f2,f3,f4,f5,f6,f7,f8,f9,f10,f11,f12,f13,f14,f15,f16,f17,f18,f19,f20,f21,f22,f23,f24,f25,f26,f27,f28,f29,f30,f31,f32,f33,f34,f35,f36,f37,f38⟩ K hK
            refine step_skipU (j := 27) (s := 42) rfl rfl ((hv 42).trans (f27 (hd 27 (by decide)))) ?_
            exact hK.out _ _ ⟨e0,e3,e4,hb,f0,f1,f2,f3,f4,f5,f6,f7,f8,f9,f10,f11,f12,f13,f14,f15,f16,f17,f18,f19,f20,f21,f22,f23,f24,f25,f26,f27,f28,fun _ => rfl,f30,f31,f32,f33,f34,f35,f36,f37,f38⟩
          case s30 =>
            rintro L a v w hv hg hL hd hcl ⟨e0,e3,e4,hb,f0,f1,f2,f3,f4,f5,f6,f7,f8,f9,f10,f11,f12,f13,f14,f15,f16,f17,f18,f19,f20,f21,f22,f23,f24,f25,f26,f27,f28,f29,f30,f31,f32,f33,f34,f35,f36,f37,f38⟩ K hK
            refine step_skipU (j := 27) (s := 42) rfl rfl ((hv 42).trans (f27 (hd 27 (by decide)))) ?_
            exact hK.out _ _ ⟨e0,e3,e4,hb,f0,f1,f2,f3,f4,f5,f6,f7,f8,f9,f10,f11,f12,f13,f14,f15,f16,f17,f18,f19,f20,f21,f22,f23,f24,f25,f26,f27,f28,f29,fun _ => rfl,f31,f32,f33,f34,f35,f36,f37,f38⟩
          case s31 =>
            rintro L a v w hv hg hL hd hcl ⟨e0,e3,e4,hb,f0,f1,f2,f3,f4,f5,f6,f7,f8,f9,f10,f11,f12,f13,f14,f15,f16,f17,f18,f19,f20,f21,f22,f23,f24,f25,f26,f27,f28,f29,f30,f31,f32,f33,f34,f35,f36,f37,f38⟩ K hK
            refine step_skipU (j := 27) (s := 42) rfl rfl ((hv 42).trans (f27 (hd 27 (by decide)))) ?_
            exact hK.out _ _ ⟨e0,e3,e4,hb,f0,f1,f2,f3,f4,f5,f6,f7,f8,f9,f10,f11,f12,f13,f14,f15,f16,f17,f18,f19,f20,f21,f22,f23,f24,f25,f26,f27,f28,f29,f30,fun _ => rfl,f32,f33,f34,f35,f36,f37,f38⟩
          case s32 =>
            rintro L a v w hv hg hL hd hcl ⟨e0,e3,e4,hb,f0,f1,f2,f3,f4,f5,f6,f7,f8,f9,f10,f11,f12,f13,f14,f15,f16,f17,f18,f19,f20,f21,f22,f23,f24,f25,f26,f27,f28,f29,f30,f31,f32,f33,f34,f35,f36,f37,f38⟩ K hK
            refine step_skipU (j := 27) (s := 42) rfl rfl ((hv 42).trans (f27 (hd 27 (by decide)))) ?_
            exact hK.out _ _ ⟨e0,e3,e4,hb,f0,f1,f2,f3,f4,f5,f6,f7,f8,f9,f10,f11,f12,f13,f14,f15,f16,f17,f18,f19,f20,f21,f22,f23,f24,f25,f26,f27,f28,f29,f30,f31,fun _ => rfl,f33,f34,f35,f36,f37,f38⟩
          case s33 =>
            rintro L a v w hv hg hL hd hcl ⟨e0,e3,e4,hb,f0,f1,f2,f3,f4,f5,f6,f7,f8,f9,f10,f11,f12,f13,f14,f15,f16,f17,f18,f19,f20,f21,f22,f23,f24,f25,f26,f27,f28,f29,f30,f31,f32,f33,f34,f35,f36,f37,f38⟩ K hK
            refine step_skipU (j := 27) (s := 42) rfl rfl ((hv 42).trans (f27 (hd 27 (by decide)))) ?_
            exact hK.out _ _ ⟨e0,e3,e4,hb,f0,f1,f2,f3,f4,f5,f6,f7,f8,f9,f10,f11,f12,f13,f14,f15,f16,f17,f18,f19,f20,f21,f22,f23,f24,f25,f26,f27,f28,f29,f30,f31,f32,fun _ => rfl,f34,f35,f36,f37,f38⟩
          case s34 =>
            rintro L a v w hv hg hL hd hcl ⟨e0,e3,e4,hb,f0,f1,f2,f3,f4,f5,f6,f7,f8,f9,f10,f11,f12,f13,f14,f15,f16,f17,f18,f19,f20,f21,f22,f23,f24,f25,f26,f27,f28,f29,f30,f31,f32,f33,f34,f35,f36,f37,f38⟩ K hK
            refine step_skipU (j := 27) (s := 42) rfl rfl ((hv 42).trans (f27 (hd 27 (by decide)))) ?_
            exact hK.out _ _ ⟨e0,e3,e4,hb,f0,f1,f2,f3,f4,f5,f6,f7,f8,f9,f10,f11,f12,f13,f14,f15,f16,f17,f18,f19,f20,f21,f22,f23,f24,f25,f26,f27,f28,f29,f30,f31,f32,f33,fun _ => rfl,f35,f36,f37,f38⟩
          case s35 =>
            rintro L a v w hv hg hL hd hcl ⟨e0,e3,e4,hb,f0,f1,f2,f3,f4,f5,f6,f7,f8,f9,f10,f11,f12,f13,f14,f15,f16,f17,f18,f19,f20,f21,f22,f23,f24,f25,f26,f27,f28,f29,f30,f31,f32,f33,f34,f35,f36,f37,f38⟩ K hK
            refine step_skipU (j := 27) (s := 42) rfl rfl ((hv 42).trans (f27 (hd 27 (by decide)))) ?_
            exact hK.out _ _ ⟨e0,e3,e4,hb,f0,f1,f2,f3,f4,f5,f6,f7,f8,f9,f10,f11,f12,f13,f14,f15,f16,f17,f18,f19,f20,f21,f22,f23,f24,f25,f26,f27,f28,f29,f30,f31,f32,f33,f34,fun _ => rfl,f36,f37,f38⟩
          case s36 =>
            rintro L a v w hv hg hL hd hcl ⟨e0,e3,e4,hb,f0,f1,f2,f3,f4,f5,f6,f7,f8,f9,f10,f11,f12,f13,f14,f15,f16,f17,f18,f19,f20,f21,f22,f23,f24,f25,f26,f27,f28,f29,f30,f31,f32,f33,f34,f35,f36,f37,f38⟩ K hK
            refine step_skipU (j := 27) (s := 42) rfl rfl ((hv 42).trans (f27 (hd 27 (by decide)))) ?_
            exact hK.out _ _ ⟨e0,e3,e4,hb,f0,f1,f2,f3,f4,f5,f6,f7,f8,f9,f10,f11,f12,f13,f14,f15,f16,f17,f18,f19,f20,f21,f22,f23,f24,f25,f26,f27,f28,f29,f30,f31,f32,f33,f34,f35,fun _ => rfl,f37,f38⟩
          case s37 =>
            rintro L a v w hv hg hL hd hcl ⟨e0,e3,e4,hb,f0,f1,f2,f3,f4,f5,f6,f7,f8,f9,f10,f11,f12,f13,f14,f15,f16,f17,f18,f19,f20,f21,f22,f23,f24,f25,f26,f27,f28,f29,f30,f31,f32,f33,f34,f35,f36,f37,f38⟩ K hK
            refine step_skip (j := 24) (s := 39) (b := true) rfl rfl ((hv 39).trans (f24 (hd 24 (by decide)))) (by decide) ?_
            exact hK.out _ _ ⟨e0,e3,e4,hb,f0,f1,f2,f3,f4,f5,f6,f7,f8,f9,f10,f11,f12,f13,f14,f15,f16,f17,f18,f19,f20,f21,f22,f23,f24,f25,f26,f27,f28,f29,f30,f31,f32,f33,f34,f35,f36,fun _ => rfl,f38⟩
          case s38 =>
            rintro L a v w hv hg hL hd hcl ⟨e0,e3,e4,hb,f0,f1,f2,f3,f4,f5,f6,f7,f8,f9,f10,f11,f12,f13,f14,f15,f16,f17,f18,f19,f20,f21,f22,f23,f24,f25,f26,f27,f28,f29,f30,f31,f32,f33,f34,f35,f36,f37,f38⟩ K hK
            have g24 := f24 (hd 24 (by decide))
            refine step_do rfl ?_
            clear hv
            go_simp
            exact hK.out _ _ ⟨e0,e3,e4,hb,f0,f1,f2,f3,f4,f5,f6,f7,f8,f9,f10,f11,f12,f13,f14,f15,f16,f17,f18,f19,f20,f21,f22,f23,f24,f25,f26,f27,f28,f29,f30,f31,f32,f33,f34,f35,f36,f37,fun _ => rfl⟩
        case hend =>
        rintro L v wx hall ⟨e0,e3,e4,hb,f0,f1,f2,f3,f4,f5,f6,f7,f8,f9,f10,f11,f12,f13,f14,f15,f16,f17,f18,f19,f20,f21,f22,f23,f24,f25,f26,f27,f28,f29,f30,f31,f32,f33,f34,f35,f36,f37,f38⟩
        have hL : ∀ i, i < 39 → L i = true := hall
        have f0 := f0 (hL 0 (by decide))
        have f1 := f1 (hL 1 (by decide))
        have f2 := f2 (hL 2 (by decide))
        have f3 := f3 (hL 3 (by decide))
        have f4 := f4 (hL 4 (by decide))
        have f5 := f5 (hL 5 (by decide))
        have f6 := f6 (hL 6 (by decide))
        have f7 := f7 (hL 7 (by decide))
        have f8 := f8 (hL 8 (by decide))
        have f9 := f9 (hL 9 (by decide))
        have f10 := f10 (hL 10 (by decide))
        have f11 := f11 (hL 11 (by decide))
        have f12 := f12 (hL 12 (by decide))
        have f13 := f13 (hL 13 (by decide))
        have f14 := f14 (hL 14 (by decide))
        have f15 := f15 (hL 15 (by decide))
        have f16 := f16 (hL 16 (by decide))
        have f17 := f17 (hL 17 (by decide))
        have f18 := f18 (hL 18 (by decide))
        have f19 := f19 (hL 19 (by decide))
        have f20 := f20 (hL 20 (by decide))
        have f21 := f21 (hL 21 (by decide))
        have f22 := f22 (hL 22 (by decide))
        have f23 := f23 (hL 23 (by decide))
        have f24 := f24 (hL 24 (by decide))
        have f25 := f25 (hL 25 (by decide))
        have f26 := f26 (hL 26 (by decide))
        have f27 := f27 (hL 27 (by decide))
        have f28 := f28 (hL 28 (by decide))
        have f29 := f29 (hL 29 (by decide))
        have f30 := f30 (hL 30 (by decide))
        have f31 := f31 (hL 31 (by decide))
        have f32 := f32 (hL 32 (by decide))
        have f33 := f33 (hL 33 (by decide))
        have f34 := f34 (hL 34 (by decide))
        have f35 := f35 (hL 35 (by decide))
        have f36 := f36 (hL 36 (by decide))
        have f37 := f37 (hL 37 (by decide))
        have f38 := f38 (hL 38 (by decide))
        simp only [finA, List.foldl_cons, List.foldl_nil, Act.put, List.setIfInBounds_toArray, List.set_cons_succ, List.set_cons_zero, f0, f1, f3, f4, f5, f6, f7, f8, f9, f10, f11, f12, f13, f14, f15, f16, f17, f18, f19, f20, f21, f22, f23, f24, f25, f26, f27, f28, f29, f30, f31, f32, f33, f34, f35, f36, f37, f38, f2]
        have gb := gb.trans (hb.mono gb.size)
        clear e0 e3 e4 f0 f1 f2 f3 f4 f5 f6 f7 f8 f9 f10 f11 f12 f13 f14 f15 f16 f17 f18 f19 f20 f21 f22 f23 f24 f25 f26 f27 f28 f29 f30 f31 f32 f33 f34 f35 f36 f37 f38 hL hall
        go_wp2_with fail
        go_ret
        exact ⟨rfl, gb⟩
      have H1 := Lib.hid hc1
      rw [h1] at H1
      have HN1 := Lib.hid h1
      clear hc1 h1
      by_cases hy1 : a2 < 1
      · have hr : R = false := by rw [HR.out]; exact HB.out (by rw [HME.out, show inB a2 1 4 = false by rw [Bool.eq_false_iff]; intro h; have := (inB_iff _ _ _).1 h; omega]; simp)
        subst hr
        clear HR
        refine wp_region_facts (fun L v w => v 0 = .slice (some aa) n c ∧ v 3 = .int .i64 k ∧ v 4 = .pointer (some ⟨g, 0, none⟩) ∧ Below W.heap.size W w ∧ (L 0 = true → v 15 = .pointer (some ⟨g, 0, none⟩)) ∧ (L 1 = true → v 16 = .int .i64 a1) ∧ (L 2 = true → v 17 = .bool true) ∧ (L 3 = true → v 18 = .bool false) ∧ (L 4 = true → v 19 = .bool false) ∧ (L 5 = true → v 20 = .pointer (some ⟨g, 1, none⟩)) ∧ (L 6 = true → v 21 = .int .i64 a2) ∧ (L 7 = true → v 22 = .bool true) ∧ (L 8 = true → v 23 = .bool true) ∧ (L 9 = true → v 24 = .bool true) ∧ (L 10 = true → v 25 = undef) ∧ (L 11 = true → v 26 = undef) ∧ (L 12 = true → v 27 = undef) ∧ (L 13 = true → v 28 = .bool true) ∧ (L 14 = true → v 29 = .bool true) ∧ (L 15 = true → v 30 = undef) ∧ (L 16 = true → v 31 = undef) ∧ (L 17 = true → v 32 = undef) ∧ (L 18 = true → v 33 = .bool true) ∧ (L 19 = true → v 34 = .bool true) ∧ (L 20 = true → v 35 = undef) ∧ (L 21 = true → v 36 = undef) ∧ (L 22 = true → v 37 = undef) ∧ (L 23 = true → v 38 = .bool true) ∧ (L 24 = true → v 39 = .bool true) ∧ (L 25 = true → v 40 = undef) ∧ (L 26 = true → v 41 = undef) ∧ (L 27 = true → v 42 = undef) ∧ (L 28 = true → v 43 = undef) ∧ (L 29 = true → v 44 = undef) ∧ (L 30 = true → v 45 = undef) ∧ (L 31 = true → v 46 = undef) ∧ (L 32 = true → v 47 = undef) ∧ (L 33 = true → v 48 = undef) ∧ (L 34 = true → v 49 = undef) ∧ (L 35 = true → v 50 = undef) ∧ (L 36 = true → v 51 = undef) ∧ (L 37 = true → v 52 = undef) ∧ (L 38 = true → v 53 = .bool true)) [15, 16, 17, 18, 19, 20, 21, 22, 23, 24, 25, 26, 27, 28, 29, 30, 31, 32, 33, 34, 35, 36, 37, 38, 39, 40, 41, 42, 43, 44, 45, 46, 47, 48, 49, 50, 51, 52, 53] (by kernel_rfl) (by kernel_rfl) (by kernel_rfl) (by kernel_rfl) ?h0 ?hst ?hend
        case h0 =>
          intro L h0
          have h0 : ∀ i, i < 39 → L i = false := h0
          exact ⟨rfl, rfl, rfl, (Below.refl _ _).drew,offF h0 (i := 0) (by decide),offF h0 (i := 1) (by decide),offF h0 (i := 2) (by decide),offF h0 (i := 3) (by decide),offF h0 (i := 4) (by decide),offF h0 (i := 5) (by decide),offF h0 (i := 6) (by decide),offF h0 (i := 7) (by decide),offF h0 (i := 8) (by decide),offF h0 (i := 9) (by decide),offF h0 (i := 10) (by decide),offF h0 (i := 11) (by decide),offF h0 (i := 12) (by decide),offF h0 (i := 13) (by decide),offF h0 (i := 14) (by decide),offF h0 (i := 15) (by decide),offF h0 (i := 16) (by decide),offF h0 (i := 17) (by decide),offF h0 (i := 18) (by decide),offF h0 (i := 19) (by decide),offF h0 (i := 20) (by decide),offF h0 (i := 21) (by decide),offF h0 (i := 22) (by decide),offF h0 (i := 23) (by decide),offF h0 (i := 24) (by decide),offF h0 (i := 25) (by decide),offF h0 (i := 26) (by decide),offF h0 (i := 27) (by decide),offF h0 (i := 28) (by decide),offF h0 (i := 29) (by decide),offF h0 (i := 30) (by decide),offF h0 (i := 31) (by decide),offF h0 (i := 32) (by decide),offF h0 (i := 33) (by decide),offF h0 (i := 34) (by decide),offF h0 (i := 35) (by decide),offF h0 (i := 36) (by decide),offF h0 (i := 37) (by decide),offF h0 (i := 38) (by decide)⟩
        case hst =>
          show FactSteps _ _ _ _ [0, 1, 2, 3, 4, 5, 6, 7, 8, 9, 10, 11, 12, 13, 14, 15, 16, 17, 18, 19, 20, 21, 22, 23, 24, 25, 26, 27, 28, 29, 30, 31, 32, 33, 34, 35, 36, 37, 38]
          refine @FactSteps.cons _ _ _ _ 0 _ [] _ rfl (by kernel_rfl) ?s0 ?_
          rotate_left
          refine @FactSteps.cons _ _ _ _ 1 _ [0] _ rfl (by kernel_rfl) ?s1 ?_
          rotate_left
          refine @FactSteps.cons _ _ _ _ 2 _ [1] _ rfl (by kernel_rfl) ?s2 ?_
          rotate_left
          refine @FactSteps.cons _ _ _ _ 3 _ [2] _ rfl (by kernel_rfl) ?s3 ?_
          rotate_left
          refine @FactSteps.cons _ _ _ _ 4 _ [3, 2] _ rfl (by kernel_rfl) ?s4 ?_
          rotate_left
          refine @FactSteps.cons _ _ _ _ 5 _ [4] _ rfl (by kernel_rfl) ?s5 ?_
          rotate_left
          refine @FactSteps.cons _ _ _ _ 6 _ [5, 4] _ rfl (by kernel_rfl) ?s6 ?_
          rotate_left
          refine @FactSteps.cons _ _ _ _ 7 _ [6, 4] _ rfl (by kernel_rfl) ?s7 ?_
          rotate_left
          refine @FactSteps.cons _ _ _ _ 8 _ [4, 7] _ rfl (by kernel_rfl) ?s8 ?_
          rotate_left
          refine @FactSteps.cons _ _ _ _ 9 _ [8, 4] _ rfl (by kernel_rfl) ?s9 ?_
          rotate_left
          refine @FactSteps.cons _ _ _ _ 10 _ [9] _ rfl (by kernel_rfl) ?s10 ?_
          rotate_left
          refine @FactSteps.cons _ _ _ _ 11 _ [10, 9] _ rfl (by kernel_rfl) ?s11 ?_
          rotate_left
          refine @FactSteps.cons _ _ _ _ 12 _ [11, 9] _ rfl (by kernel_rfl) ?s12 ?_
          rotate_left
          refine @FactSteps.cons _ _ _ _ 13 _ [9, 12] _ rfl (by kernel_rfl) ?s13 ?_
          rotate_left
          refine @FactSteps.cons _ _ _ _ 14 _ [13, 9] _ rfl (by kernel_rfl) ?s14 ?_
          rotate_left
          refine @FactSteps.cons _ _ _ _ 15 _ [14] _ rfl (by kernel_rfl) ?s15 ?_
          rotate_left
          refine @FactSteps.cons _ _ _ _ 16 _ [15, 14] _ rfl (by kernel_rfl) ?s16 ?_
          rotate_left
          refine @FactSteps.cons _ _ _ _ 17 _ [16, 14] _ rfl (by kernel_rfl) ?s17 ?_
          rotate_left
          refine @FactSteps.cons _ _ _ _ 18 _ [14, 17] _ rfl (by kernel_rfl) ?s18 ?_
          rotate_left
          refine @FactSteps.cons _ _ _ _ 19 _ [18, 14] _ rfl (by kernel_rfl) ?s19 ?_
          rotate_left
          refine @FactSteps.cons _ _ _ _ 20 _ [19] _ rfl (by kernel_rfl) ?s20 ?_
          rotate_left
          refine @FactSteps.cons _ _ _ _ 21 _ [20, 19] _ rfl (by kernel_rfl) ?s21 ?_
          rotate_left
          refine @FactSteps.cons _ _ _ _ 22 _ [21, 19] _ rfl (by kernel_rfl) ?s22 ?_
          rotate_left
          refine @FactSteps.cons _ _ _ _ 23 _ [19, 22] _ rfl (by kernel_rfl) ?s23 ?_
          rotate_left
          refine @FactSteps.cons _ _ _ _ 24 _ [23, 19] _ rfl (by kernel_rfl) ?s24 ?_
          rotate_left
          refine @FactSteps.cons _ _ _ _ 25 _ [24] _ rfl (by kernel_rfl) ?s25 ?_
          rotate_left
          refine @FactSteps.cons _ _ _ _ 26 _ [25, 24] _ rfl (by kernel_rfl) ?s26 ?_
          rotate_left
          refine @FactSteps.cons _ _ _ _ 27 _ [26, 24, 24] _ rfl (by kernel_rfl) ?s27 ?_
          rotate_left
          refine @FactSteps.cons _ _ _ _ 28 _ [27] _ rfl (by kernel_rfl) ?s28 ?_
          rotate_left
          refine @FactSteps.cons _ _ _ _ 29 _ [27] _ rfl (by kernel_rfl) ?s29 ?_
          rotate_left
          refine @FactSteps.cons _ _ _ _ 30 _ [29, 27] _ rfl (by kernel_rfl) ?s30 ?_
          rotate_left
          refine @FactSteps.cons _ _ _ _ 31 _ [28, 30, 27] _ rfl (by kernel_rfl) ?s31 ?_
          rotate_left
          refine @FactSteps.cons _ _ _ _ 32 _ [31, 27] _ rfl (by kernel_rfl) ?s32 ?_
          rotate_left
          refine @FactSteps.cons _ _ _ _ 33 _ [32, 27] _ rfl (by kernel_rfl) ?s33 ?_
          rotate_left
          refine @FactSteps.cons _ _ _ _ 34 _ [27] _ rfl (by kernel_rfl) ?s34 ?_
          rotate_left
          refine @FactSteps.cons _ _ _ _ 35 _ [34, 27] _ rfl (by kernel_rfl) ?s35 ?_
          rotate_left
          refine @FactSteps.cons _ _ _ _ 36 _ [33, 35, 27] _ rfl (by kernel_rfl) ?s36 ?_
          rotate_left
          refine @FactSteps.cons _ _ _ _ 37 _ [27, 36, 24] _ rfl (by kernel_rfl) ?s37 ?_
          rotate_left
          refine @FactSteps.cons _ _ _ _ 38 _ [24, 37] _ rfl (by kernel_rfl) ?s38 ?_
          rotate_left
          exact FactSteps.nil
          case s0 =>
            rintro L a v w hv hg hL hd hcl ⟨e0,e3,e4,hb,f0,f1,f2,f3,f4,f5,f6,f7,f8,f9,f10,f11,f12,f13,f14,f15,f16,f17,f18,f19,f20,f21,f22,f23,f24,f25,f26,f27,f28,f29,f30,f31,f32,f33,f34,f35,f36,f37,f38⟩ K hK
            refine step_do rfl ?_
            clear hv
            go_simp
            exact hK.out _ _ ⟨e0,e3,e4,hb,fun _ => rfl,f1,f2,f3,f4,f5,f6,f7,f8,f9,f10,f11,f12,f13,f14,f15,f16,f17,f18,f19,f20,f21,f22,f23,f24,f25,f26,f27,f28,f29,f30,f31,f32,f33,f34,f35,f36,f37,f38⟩
          case s1 =>
            rintro L a v w hv hg hL hd hcl ⟨e0,e3,e4,hb,f0,f1,f2,f3,f4,f5,f6,f7,f8,f9,f10,f11,f12,f13,f14,f15,f16,f17,f18,f19,f20,f21,f22,f23,f24,f25,f26,f27,f28,f29,f30,f31,f32,f33,f34,f35,f36,f37,f38⟩ K hK
            have g0 := f0 (hd 0 (by decide))
            have hc := (hb.cell (p := ⟨g, 0, none⟩) hgW).trans d0
            refine step_do rfl ?_
            clear hv
            go_simp
            exact hK.out _ _ ⟨e0,e3,e4,hb,f0,fun _ => rfl,f2,f3,f4,f5,f6,f7,f8,f9,f10,f11,f12,f13,f14,f15,f16,f17,f18,f19,f20,f21,f22,f23,f24,f25,f26,f27,f28,f29,f30,f31,f32,f33,f34,f35,f36,f37,f38⟩
          case s2 =>
            rintro L a v w hv hg hL hd hcl ⟨e0,e3,e4,hb,f0,f1,f2,f3,f4,f5,f6,f7,f8,f9,f10,f11,f12,f13,f14,f15,f16,f17,f18,f19,f20,f21,f22,f23,f24,f25,f26,f27,f28,f29,f30,f31,f32,f33,f34,f35,f36,f37,f38⟩ K hK
            have h1 := f1 (hd 1 (by decide))
            refine step_do rfl ?_
            clear hv
            go_simp
            refine (H1.out w).mono ?_
            rintro e wy ⟨rfl, bb⟩
            exact hK.out _ _ ⟨e0,e3,e4, (hb.trans (bb.mono hb.size)),f0,f1,fun _ => rfl,f3,f4,f5,f6,f7,f8,f9,f10,f11,f12,f13,f14,f15,f16,f17,f18,f19,f20,f21,f22,f23,f24,f25,f26,f27,f28,f29,f30,f31,f32,f33,f34,f35,f36,f37,f38⟩
          case s3 =>
            rintro L a v w hv hg hL hd hcl ⟨e0,e3,e4,hb,f0,f1,f2,f3,f4,f5,f6,f7,f8,f9,f10,f11,f12,f13,f14,f15,f16,f17,f18,f19,f20,f21,f22,f23,f24,f25,f26,f27,f28,f29,f30,f31,f32,f33,f34,f35,f36,f37,f38⟩ K hK
            refine step_do rfl ?_
            clear hv
            go_simp
            exact hK.out _ _ ⟨e0,e3,e4,hb,f0,f1,f2,fun _ => rfl,f4,f5,f6,f7,f8,f9,f10,f11,f12,f13,f14,f15,f16,f17,f18,f19,f20,f21,f22,f23,f24,f25,f26,f27,f28,f29,f30,f31,f32,f33,f34,f35,f36,f37,f38⟩
          case s4 =>
            rintro L a v w hv hg hL hd hcl ⟨e0,e3,e4,hb,f0,f1,f2,f3,f4,f5,f6,f7,f8,f9,f10,f11,f12,f13,f14,f15,f16,f17,f18,f19,f20,f21,f22,f23,f24,f25,f26,f27,f28,f29,f30,f31,f32,f33,f34,f35,f36,f37,f38⟩ K hK
            have g3 := f3 (hd 3 (by decide))
            refine step_do rfl ?_
            clear hv
            go_simp
            exact hK.out _ _ ⟨e0,e3,e4,hb,f0,f1,f2,f3,fun _ => rfl,f5,f6,f7,f8,f9,f10,f11,f12,f13,f14,f15,f16,f17,f18,f19,f20,f21,f22,f23,f24,f25,f26,f27,f28,f29,f30,f31,f32,f33,f34,f35,f36,f37,f38⟩
          case s5 =>
            rintro L a v w hv hg hL hd hcl ⟨e0,e3,e4,hb,f0,f1,f2,f3,f4,f5,f6,f7,f8,f9,f10,f11,f12,f13,f14,f15,f16,f17,f18,f19,f20,f21,f22,f23,f24,f25,f26,f27,f28,f29,f30,f31,f32,f33,f34,f35,f36,f37,f38⟩ K hK
            have g4 := f4 (hd 4 (by decide))
            refine step_want (j := 4) (s := 19) (b := false) rfl rfl ((hv 19).trans (f4 (hd 4 (by decide)))) ?_
            clear hv
            go_simp
            exact hK.out _ _ ⟨e0,e3,e4,hb,f0,f1,f2,f3,f4,fun _ => rfl,f6,f7,f8,f9,f10,f11,f12,f13,f14,f15,f16,f17,f18,f19,f20,f21,f22,f23,f24,f25,f26,f27,f28,f29,f30,f31,f32,f33,f34,f35,f36,f37,f38⟩
          case s6 =>
            rintro L a v w hv hg hL hd hcl ⟨e0,e3,e4,hb,f0,f1,f2,f3,f4,f5,f6,f7,f8,f9,f10,f11,f12,f13,f14,f15,f16,f17,f18,f19,f20,f21,f22,f23,f24,f25,f26,f27,f28,f29,f30,f31,f32,f33,f34,f35,f36,f37,f38⟩ K hK
            have g4 := f4 (hd 4 (by decide))
            have g5 := f5 (hd 5 (by decide))
            have hc := (hb.cell (p := ⟨g, 1, none⟩) hgW).trans d1
            refine step_want (j := 4) (s := 19) (b := false) rfl rfl ((hv 19).trans (f4 (hd 4 (by decide)))) ?_
            clear hv
            go_simp
            exact hK.out _ _ ⟨e0,e3,e4,hb,f0,f1,f2,f3,f4,f5,fun _ => rfl,f7,f8,f9,f10,f11,f12,f13,f14,f15,f16,f17,f18,f19,f20,f21,f22,f23,f24,f25,f26,f27,f28,f29,f30,f31,f32,f33,f34,f35,f36,f37,f38⟩
          case s7 =>
            rintro L a v w hv hg hL hd hcl ⟨e0,e3,e4,hb,f0,f1,f2,f3,f4,f5,f6,f7,f8,f9,f10,f11,f12,f13,f14,f15,f16,f17,f18,f19,f20,f21,f22,f23,f24,f25,f26,f27,f28,f29,f30,f31,f32,f33,f34,f35,f36,f37,f38⟩ K hK
            have g4 := f4 (hd 4 (by decide))
            have g6 := f6 (hd 6 (by decide))
            refine step_want (j := 4) (s := 19) (b := false) rfl rfl ((hv 19).trans (f4 (hd 4 (by decide)))) ?_
            clear hv
            go_simp
            exact hK.out _ _ ⟨e0,e3,e4,hb,f0,f1,f2,f3,f4,f5,f6,fun _ => rfl,f8,f9,f10,f11,f12,f13,f14,f15,f16,f17,f18,f19,f20,f21,f22,f23,f24,f25,f26,f27,f28,f29,f30,f31,f32,f33,f34,f35,f36,f37,f38⟩
          case s8 =>
            rintro L a v w hv hg hL hd hcl ⟨e0,e3,e4,hb,f0,f1,f2,f3,f4,f5,f6,f7,f8,f9,f10,f11,f12,f13,f14,f15,f16,f17,f18,f19,f20,f21,f22,f23,f24,f25,f26,f27,f28,f29,f30,f31,f32,f33,f34,f35,f36,f37,f38⟩ K hK
            have g4 := f4 (hd 4 (by decide))
            have g7 := f7 (hd 7 (by decide))
            refine step_do rfl ?_
            clear hv
            go_simp
            exact hK.out _ _ ⟨e0,e3,e4,hb,f0,f1,f2,f3,f4,f5,f6,f7,fun _ => rfl,f9,f10,f11,f12,f13,f14,f15,f16,f17,f18,f19,f20,f21,f22,f23,f24,f25,f26,f27,f28,f29,f30,f31,f32,f33,f34,f35,f36,f37,f38⟩
          case s9 =>
            rintro L a v w hv hg hL hd hcl ⟨e0,e3,e4,hb,f0,f1,f2,f3,f4,f5,f6,f7,f8,f9,f10,f11,f12,f13,f14,f15,f16,f17,f18,f19,f20,f21,f22,f23,f24,f25,f26,f27,f28,f29,f30,f31,f32,f33,f34,f35,f36,f37,f38⟩ K hK
            have g4 := f4 (hd 4 (by decide))
            have g8 := f8 (hd 8 (by decide))
            refine step_do rfl ?_
            clear hv
            go_simp
            exact hK.out _ _ ⟨e0,e3,e4,hb,f0,f1,f2,f3,f4,f5,f6,f7,f8,fun _ => rfl,f10,f11,f12,f13,f14,f15,f16,f17,f18,f19,f20,f21,f22,f23,f24,f25,f26,f27,f28,f29,f30,f31,f32,f33,f34,f35,f36,f37,f38⟩
          case s10 =>
            rintro L a v w hv hg hL hd hcl ⟨e0,e3,e4,hb,f0,f1,f2,f3,f4,f5,f6,f7,f8,f9,f10,f11,f12,f13,f14,f15,f16,f17,f18,f19,f20,f21,f22,f23,f24,f25,f26,f27,f28,f29,f30,f31,f32,f33,f34,f35,f36,f37,f38⟩ K hK
            refine step_skip (j := 9) (s := 24) (b := true) rfl rfl ((hv 24).trans (f9 (hd 9 (by decide)))) (by decide) ?_
            exact hK.out _ _ ⟨e0,e3,e4,hb,f0,f1,f2,f3,f4,f5,f6,f7,f8,f9,fun _ => rfl,f11,f12,f13,f14,f15,f16,f17,f18,f19,f20,f21,f22,f23,f24,f25,f26,f27,f28,f29,f30,f31,f32,f33,f34,f35,f36,f37,f38⟩
          case s11 =>
            rintro L a v w hv hg hL hd hcl ⟨e0,e3,e4,hb,f0,f1,f2,f3,f4,f5,f6,f7,f8,f9,f10,f11,f12,f13,f14,f15,f16,f17,f18,f19,f20,f21,f22,f23,f24,f25,f26,f27,f28,f29,f30,f31,f32,f33,f34,f35,f36,f37,f38⟩ K hK
            refine step_skip (j := 9) (s := 24) (b := true) rfl rfl ((hv 24).trans (f9 (hd 9 (by decide)))) (by decide) ?_
            exact hK.out _ _ ⟨e0,e3,e4,hb,f0,f1,f2,f3,f4,f5,f6,f7,f8,f9,f10,fun _ => rfl,f12,f13,f14,f15,f16,f17,f18,f19,f20,f21,f22,f23,f24,f25,f26,f27,f28,f29,f30,f31,f32,f33,f34,f35,f36,f37,f38⟩
          case s12 =>
            rintro L a v w hv hg hL hd hcl ⟨e0,e3,e4,hb,f0,f1,f2,f3,f4,f5,f6,f7,f8,f9,f10,f11,f12,f13,f14,f15,f16,f17,f18,f19,f20,f21,f22,f23,f24,f25,f26,f27,f28,f29,f30,f31,f32,f33,f34,f35,f36,f37,f38⟩ K hK
            refine step_skip (j := 9) (s := 24) (b := true) rfl rfl ((hv 24).trans (f9 (hd 9 (by decide)))) (by decide) ?_
            exact hK.out _ _ ⟨e0,e3,e4,hb,f0,f1,f2,f3,f4,f5,f6,f7,f8,f9,f10,f11,fun _ => rfl,f13,f14,f15,f16,f17,f18,f19,f20,f21,f22,f23,f24,f25,f26,f27,f28,f29,f30,f31,f32,f33,f34,f35,f36,f37,f38⟩
          case s13 =>
            rintro L a v w hv hg hL hd hcl ⟨e0,e3,e4,hb,f0,f1,f2,f3,f4,f5,f6,f7,f8,f9,f10,f11,f12,f13,f14,f15,f16,f17,f18,f19,f20,f21,f22,f23,f24,f25,f26,f27,f28,f29,f30,f31,f32,f33,f34,f35,f36,f37,f38⟩ K hK
            have g9 := f9 (hd 9 (by decide))
            refine step_do rfl ?_
            clear hv
            go_simp
            exact hK.out _ _ ⟨e0,e3,e4,hb,f0,f1,f2,f3,f4,f5,f6,f7,f8,f9,f10,f11,f12,fun _ => rfl,f14,f15,f16,f17,f18,f19,f20,f21,f22,f23,f24,f25,f26,f27,f28,f29,f30,f31,f32,f33,f34,f35,f36,f37,f38⟩
          case s14 =>
            rintro L a v w hv hg hL hd hcl ⟨e0,e3,e4,hb,f0,f1,f2,f3,f4,f5,f6,f7,f8,f9,f10,f11,f12,f13,f14,f15,f16,f17,f18,f19,f20,f21,f22,f23,f24,f25,f26,f27,f28,f29,f30,f31,f32,f33,f34,f35,f36,f37,f38⟩ K hK
            have g9 := f9 (hd 9 (by decide))
            have g13 := f13 (hd 13 (by decide))
            refine step_do rfl ?_
            clear hv
            go_simp
            exact hK.out _ _ ⟨e0,e3,e4,hb,f0,f1,f2,f3,f4,f5,f6,f7,f8,f9,f10,f11,f12,f13,fun _ => rfl,f15,f16,f17,f18,f19,f20,f21,f22,f23,f24,f25,f26,f27,f28,f29,f30,f31,f32,f33,f34,f35,f36,f37,f38⟩
          case s15 =>
            rintro L a v w hv hg hL hd hcl ⟨e0,e3,e4,hb,f0,f1,f2,f3,f4,f5,f6,f7,f8,f9,f10,f11,f12,f13,f14,f15,f16,f17,f18,f19,f20,f21,f22,f23,f24,f25,f26,f27,f28,f29,f30,f31,f32,f33,f34,f35,f36,f37,f38⟩ K hK
            refine step_skip (j := 14) (s := 29) (b := true) rfl rfl ((hv 29).trans (f14 (hd 14 (by decide)))) (by decide) ?_
            exact hK.out _ _ ⟨e0,e3,e4,hb,f0,f1,f2,f3,f4,f5,f6,f7,f8,f9,f10,f11,f12,f13,f14,fun _ => rfl,f16,f17,f18,f19,f20,f21,f22,f23,f24,f25,f26,f27,f28,f29,f30,f31,f32,f33,f34,f35,f36,f37,f38⟩
          case s16 =>
            rintro L a v w hv hg hL hd hcl ⟨e0,e3,e4,hb,f0,f1,f2,f3,f4,f5,f6,f7,f8,f9,f10,f11,f12,f13,f14,f15,f16,f17,f18,f19,f20,f21,f22,f23,f24,f25,f26,f27,f28,f29,f30,f31,f32,f33,f34,f35,f36,f37,f38⟩ K hK
            refine step_skip (j := 14) (s := 29) (b := true) rfl rfl ((hv 29).trans (f14 (hd 14 (by decide)))) (by decide) ?_
            exact hK.out _ _ ⟨e0,e3,e4,hb,f0,f1,f2,f3,f4,f5,f6,f7,f8,f9,f10,f11,f12,f13,f14,f15,fun _ => rfl,f17,f18,f19,f20,f21,f22,f23,f24,f25,f26,f27,f28,f29,f30,f31,f32,f33,f34,f35,f36,f37,f38⟩
          case s17 =>
            rintro L a v w hv hg hL hd hcl ⟨e0,e3,e4,hb,f0,f1,f2,f3,f4,f5,f6,f7,f8,f9,f10,f11,f12,f13,f14,f15,f16,f17,f18,f19,f20,f21,f22,f23,f24,f25,f26,f27,f28,f29,f30,f31,f32,f33,f34,f35,f36,f37,f38⟩ K hK
            refine step_skip (j := 14) (s := 29) (b := true) rfl rfl ((hv 29).trans (f14 (hd 14 (by decide)))) (by decide) ?_
            exact hK.out _ _ ⟨e0,e3,e4,hb,f0,f1,f2,f3,f4,f5,f6,f7,f8,f9,f10,f11,f12,f13,f14,f15,f16,fun _ => rfl,f18,f19,f20,f21,f22,f23,f24,f25,f26,f27,f28,f29,f30,f31,f32,f33,f34,f35,f36,f37,f38⟩
          case s18 =>
            rintro L a v w hv hg hL hd hcl ⟨e0,e3,e4,hb,f0,f1,f2,f3,f4,f5,f6,f7,f8,f9,f10,f11,f12,f13,f14,f15,f16,f17,f18,f19,f20,f21,f22,f23,f24,f25,f26,f27,f28,f29,f30,f31,f32,f33,f34,f35,f36,f37,f38⟩ K hK
            have g14 := f14 (hd 14 (by decide))
            refine step_do rfl ?_
            clear hv
            go_simp
            exact hK.out _ _ ⟨e0,e3,e4,hb,f0,f1,f2,f3,f4,f5,f6,f7,f8,f9,f10,f11,f12,f13,f14,f15,f16,f17,fun _ => rfl,f19,f20,f21,f22,f23,f24,f25,f26,f27,f28,f29,f30,f31,f32,f33,f34,f35,f36,f37,f38⟩
          case s19 =>
            rintro L a v w hv hg hL hd hcl ⟨e0,e3,e4,hb,f0,f1,f2,f3,f4,f5,f6,f7,f8,f9,f10,f11,f12,f13,f14,f15,f16,f17,f18,f19,f20,f21,f22,f23,f24,f25,f26,f27,f28,f29,f30,f31,f32,f33,f34,f35,f36,f37,f38⟩ K hK
            have g14 := f14 (hd 14 (by decide))
            have g18 := f18 (hd 18 (by decide))
            refine step_do rfl ?_
            clear hv
            go_simp
            exact hK.out _ _ ⟨e0,e3,e4,hb,f0,f1,f2,f3,f4,f5,f6,f7,f8,f9,f10,f11,f12,f13,f14,f15,f16,f17,f18,fun _ => rfl,f20,f21,f22,f23,f24,f25,f26,f27,f28,f29,f30,f31,f32,f33,f34,f35,f36,f37,f38⟩
          case s20 =>
            rintro L a v w hv hg hL hd hcl ⟨e0,e3,e4,hb,f0,f1,f2,f3,f4,f5,f6,f7,f8,f9,f10,f11,f12,f13,f14,f15,f16,f17,f18,f19,f20,f21,f22,f23,f24,f25,f26,f27,f28,f29,f30,f31,f32,f33,f34,f35,f36,f37,f38⟩ K hK
            refine step_skip (j := 19) (s := 34) (b := true) rfl rfl ((hv 34).trans (f19 (hd 19 (by decide)))) (by decide) ?_
            exact hK.out _ _ ⟨e0,e3,e4,hb,f0,f1,f2,f3,f4,f5,f6,f7,f8,f9,f10,f11,f12,f13,f14,f15,f16,f17,f18,f19,fun _ => rfl,f21,f22,f23,f24,f25,f26,f27,f28,f29,f30,f31,f32,f33,f34,f35,f36,f37,f38⟩
          case s21 =>
            rintro L a v w hv hg hL hd hcl ⟨e0,e3,e4,hb,f0,f1,f2,f3,f4,f5,f6,f7,f8,f9,f10,f11,f12,f13,f14,f15,f16,f17,f18,f19,f20,f21,f22,f23,f24,f25,f26,f27,f28,f29,f30,f31,f32,f33,f34,f35,f36,f37,f38⟩ K hK
            refine step_skip (j := 19) (s := 34) (b := true) rfl rfl ((hv 34).trans (f19 (hd 19 (by decide)))) (by decide) ?_
            exact hK.out _ _ ⟨e0,e3,e4,hb,f0,f1,f2,f3,f4,f5,f6,f7,f8,f9,f10,f11,f12,f13,f14,f15,f16,f17,f18,f19,f20,fun _ => rfl,f22,f23,f24,f25,f26,f27,f28,f29,f30,f31,f32,f33,f34,f35,f36,f37,f38⟩
          case s22 =>
            rintro L a v w hv hg hL hd hcl ⟨e0,e3,e4,hb,f0,f1,f2,f3,f4,f5,f6,f7,f8,f9,f10,f11,f12,f13,f14,f15,f16,f17,f18,f19,f20,f21,f22,f23,f24,f25,f26,f27,f28,f29,f30,f31,f32,f33,f34,f35,f36,f37,f38⟩ K hK
            refine step_skip (j := 19) (s := 34) (b := true) rfl rfl ((hv 34).trans (f19 (hd 19 (by decide)))) (by decide) ?_
            exact hK.out _ _ ⟨e0,e3,e4,hb,f0,f1,f2,f3,f4,f5,f6,f7,f8,f9,f10,f11,f12,f13,f14,f15,f16,f17,f18,f19,f20,f21,fun _ => rfl,f23,f24,f25,f26,f27,f28,f29,f30,f31,f32,f33,f34,f35,f36,f37,f38⟩
          case s23 =>
            rintro L a v w hv hg hL hd hcl ⟨e0,e3,e4,hb,f0,f1,f2,f3,f4,f5,f6,f7,f8,f9,f10,f11,f12,f13,f14,f15,f16,f17,f18,f19,f20,f21,f22,f23,f24,f25,f26,f27,f28,f29,f30,f31,f32,f33,f34,f35,f36,f37,f38⟩ K hK
            have g19 := f19 (hd 19 (by decide))
            refine step_do rfl ?_
            clear hv
            go_simp
            exact hK.out _ _ ⟨e0,e3,e4,hb,f0,f1,f2,f3,f4,f5,f6,f7,f8,f9,f10,f11,f12,f13,f14,f15,f16,f17,f18,f19,f20,f21,f22,fun _ => rfl,f24,f25,f26,f27,f28,f29,f30,f31,f32,f33,f34,f35,f36,f37,f38⟩
          case s24 =>
            rintro L a v w hv hg hL hd hcl ⟨e0,e3,e4,hb,f0,f1,f2,f3,f4,f5,f6,f7,f8,f9,f10,f11,f12,f13,f14,f15,f16,f17,f18,f19,f20,f21,f22,f23,f24,f25,f26,f27,f28,f29,f30,f31,f32,f33,f34,f35,f36,f37,f38⟩ K hK
            have g19 := f19 (hd 19 (by decide))
            have g23 := f23 (hd 23 (by decide))
            refine step_do rfl ?_
            clear hv
            go_simp
            exact hK.out _ _ ⟨e0,e3,e4,hb,f0,f1,f2,f3,f4,f5,f6,f7,f8,f9,f10,f11,f12,f13,f14,f15,f16,f17,f18,f19,f20,f21,f22,f23,fun _ => rfl,f25,f26,f27,f28,f29,f30,f31,f32,f33,f34,f35,f36,f37,f38⟩
          case s25 =>
            rintro L a v w hv hg hL hd hcl ⟨e0,e3,e4,hb,f0,f1,f2,f3,f4,f5,f6,f7,f8,f9,f10,f11,f12,f13,f14,f15,f16,f17,f18,f19,f20,f21,f22,f23,f24,f25,f26,f27,f28,f29,f30,f31,f32,f33,f34,f35,f36,f37,f38⟩ K hK
            refine step_skip (j := 24) (s := 39) (b := true) rfl rfl ((hv 39).trans (f24 (hd 24 (by decide)))) (by decide) ?_
            exact hK.out _ _ ⟨e0,e3,e4,hb,f0,f1,f2,f3,f4,f5,f6,f7,f8,f9,f10,f11,f12,f13,f14,f15,f16,f17,f18,f19,f20,f21,f22,f23,f24,fun _ => rfl,f26,f27,f28,f29,f30,f31,f32,f33,f34,f35,f36,f37,f38⟩
          case s26 =>
            rintro L a v w hv hg hL hd hcl ⟨e0,e3,e4,hb,f0,f1,f2,f3,f4,f5,f6,f7,f8,f9,f10,f11,f12,f13,f14,f15,f16,f17,f18,f19,f20,f21,f22,f23,f24,f25,f26,f27,f28,f29,f30,f31,f32,f33,f34,f35,f36,f37,f38⟩ K hK
            refine step_skip (j := 24) (s := 39) (b := true) rfl rfl ((hv 39).trans (f24 (hd 24 (by decide)))) (by decide) ?_
            exact hK.out _ _ ⟨e0,e3,e4,hb,f0,f1,f2,f3,f4,f5,f6,f7,f8,f9,f10,f11,f12,f13,f14,f15,f16,f17,f18,f19,f20,f21,f22,f23,f24,f25,fun _ => rfl,f27,f28,f29,f30,f31,f32,f33,f34,f35,f36,f37,f38⟩
          case s27 =>
            rintro L a v w hv hg hL hd hcl ⟨e0,e3,e4,hb,f0,f1,f2,f3,f4,f5,f6,f7,f8,f9,f10,f11,f12,f13,f14,f15,f16,f17,f18,f19,f20,f21,f22,f23,f24,f25,f26,f27,f28,f29,f30,f31,f32,f33,f34,f35,f36,f37,f38⟩ K hK
            refine step_skip (j := 24) (s := 39) (b := true) rfl rfl ((hv 39).trans (f24 (hd 24 (by decide)))) (by decide) ?_
            exact hK.out _ _ ⟨e0,e3,e4,hb,f0,f1,f2,f3,f4,f5,f6,f7,f8,f9,f10,f11,f12,f13,f14,f15,f16,f17,f18,f19,f20,f21,f22,f23,f24,f25,f26,fun _ => rfl,f28,f29,f30,f31,f32,f33,f34,f35,f36,f37,f38⟩
          case s28 =>
            rintro L a v w hv hg hL hd hcl ⟨e0,e3,e4,hb,f0,f1,f2,f3,f4,f5,f6,f7,f8,f9,f10,f11,f12,f13,f14,f15,f16,f17,f18,f19,f20,f21,f22,f23,f24,f25,f26,f27,f28,f29,f30,f31,f32,f33,f34,f35,f36,f37,f38⟩ K hK
            refine step_skipU (j := 27) (s := 42) rfl rfl ((hv 42).trans (f27 (hd 27 (by decide)))) ?_
            exact hK.out _ _ ⟨e0,e3,e4,hb,f0,f1,f2,f3,f4,f5,f6,f7,f8,f9,f10,f11,f12,f13,f14,f15,f16,f17,f18,f19,f20,f21,f22,f23,f24,f25,f26,f27,fun _ => rfl,f29,f30,f31,f32,f33,f34,f35,f36,f37,f38⟩
          case s29 =>
            rintro L a v w hv hg hL hd hcl ⟨e0,e3,e4,hb,f0,f1,f2,f3,f4,f5,f6,f7,f8,f9,f10,f11,f12,f13,f14,f15,f16,f17,f18,f19,f20,f21,f22,f23,f24,f25,f26,f27,f28,f29,f30,f31,f32,f33,f34,f35,f36,f37,f38⟩ K hK
            refine step_skipU (j := 27) (s := 42) rfl rfl ((hv 42).trans (f27 (hd 27 (by decide)))) ?_
            exact hK.out _ _ ⟨e0,e3,e4,hb,f0,f1,f2,f3,f4,f5,f6,f7,f8,f9,f10,f11,f12,f13,f14,f15,f16,f17,f18,f19,f20,f21,f22,f23,f24,f25,f26,f27,f28,fun _ => rfl,f30,f31,f32,f33,f34,f35,f36,f37,f38⟩
          case s30 =>
            rintro L a v w hv hg hL hd hcl ⟨e0,e3,e4,hb,f0,f1,f2,f3,f4,f5,f6,f7,f8,f9,f10,f11,f12,f13,f14,f15,f16,f17,f18,f19,f20,f21,f22,f23,f24,f25,f26,f27,f28,f29,f30,f31,f32,f33,f34,f35,f36,f37,f38⟩ K hK
            refine step_skipU (j := 27) (s := 42) rfl rfl ((hv 42).trans (f27 (hd 27 (by decide)))) ?_
            exact hK.out _ _ ⟨e0,e3,e4,hb,f0,f1,f2,f3,f4,f5,f6,f7,f8,f9,f10,f11,f12,f13,f14,f15,f16,f17,f18,f19,f20,f21,f22,f23,f24,f25,f26,f27,f28,f29,fun _ => rfl,f31,f32,f33,f34,f35,f36,f37,f38⟩
          case s31 =>
            rintro L a v w hv hg hL hd hcl ⟨e0,e3,e4,hb,f0,f1,f2,f3,f4,f5,f6,f7,f8,f9,f10,f11,f12,f13,f14,f15,f16,f17,f18,f19,f20,f21,f22,f23,f24,f25,f26,f27,f28,f29,f30,f31,f32,f33,f34,f35,f36,f37,f38⟩ K hK
            refine step_skipU (j := 27) (s := 42) rfl rfl ((hv 42).trans (f27 (hd 27 (by decide)))) ?_
            exact hK.out _ _ ⟨e0,e3,e4,hb,f0,f1,f2,f3,f4,f5,f6,f7,f8,f9,f10,f11,f12,f13,f14,f15,f16,f17,f18,f19,f20,f21,f22,f23,f24,f25,f26,f27,f28,f29,f30,fun _ => rfl,f32,f33,f34,f35,f36,f37,f38⟩
          case s32 =>
            rintro L a v w hv hg hL hd hcl ⟨e0,e3,e4,hb,f0,f1,f2,f3,f4,f5,f6,f7,f8,f9,f10,f11,f12,f13,f14,f15,f16,f17,f18,f19,f20,f21,f22,f23,f24,f25,f26,f27,f28,f29,f30,f31,f32,f33,f34,f35,f36,f37,f38⟩ K hK
            refine step_skipU (j := 27) (s := 42) rfl rfl ((hv 42).trans (f27 (hd 27 (by decide)))) ?_
            exact hK.out _ _ ⟨e0,e3,e4,hb,f0,f1,f2,f3,f4,f5,f6,f7,f8,f9,f10,f11,f12,f13,f14,f15,f16,f17,f18,f19,f20,f21,f22,f23,f24,f25,f26,f27,f28,f29,f30,f31,fun _ => rfl,f33,f34,f35,f36,f37,f38⟩
          case s33 =>
            rintro L a v w hv hg hL hd hcl ⟨e0,e3,e4,hb,f0,f1,f2,f3,f4,f5,f6,f7,f8,f9,f10,f11,f12,f13,f14,f15,f16,f17,f18,f19,f20,f21,f22,f23,f24,f25,f26,f27,f28,f29,f30,f31,f32,f33,f34,f35,f36,f37,f38⟩ K hK
            refine step_skipU (j := 27) (s := 42) rfl rfl ((hv 42).trans (f27 (hd 27 (by decide)))) ?_
            exact hK.out _ _ ⟨e0,e3,e4,hb,f0,f1,f2,f3,f4,f5,f6,f7,f8,f9,f10,f11,f12,f13,f14,f15,f16,f17,f18,f19,f20,f21,f22,f23,f24,f25,f26,f27,f28,f29,f30,f31,f32,fun _ => rfl,f34,f35,f36,f37,f38⟩
          case s34 =>
            rintro L a v w hv hg hL hd hcl ⟨e0,e3,e4,hb,f0,f1,f2,f3,f4,f5,f6,f7,f8,f9,f10,f11,f12,f13,f14,f15,f16,f17,f18,f19,f20,f21,f22,f23,f24,f25,f26,f27,f28,f29,f30,f31,f32,f33,f34,f35,f36,f37,f38⟩ K hK
            refine step_skipU (j := 27) (s := 42) rfl rfl ((hv 42).trans (f27 (hd 27 (by decide)))) ?_
            exact hK.out _ _ ⟨e0,e3,e4,hb,f0,f1,f2,f3,f4,f5,f6,f7,f8,f9,f10,f11,f12,f13,f14,f15,f16,f17,f18,f19,f20,f21,f22,f23,f24,f25,f26,f27,f28,f29,f30,f31,f32,f33,fun _ => rfl,f35,f36,f37,f38⟩
          case s35 =>
            rintro L a v w hv hg hL hd hcl ⟨e0,e3,e4,hb,f0,f1,f2,f3,f4,f5,f6,f7,f8,f9,f10,f11,f12,f13,f14,f15,f16,f17,f18,f19,f20,f21,f22,f23,f24,f25,f26,f27,f28,f29,f30,f31,f32,f33,f34,f35,f36,f37,f38⟩ K hK
            refine step_skipU (j := 27) (s := 42) rfl rfl ((hv 42).trans (f27 (hd 27 (by decide)))) ?_
            exact hK.out _ _ ⟨e0,e3,e4,hb,f0,f1,f2,f3,f4,f5,f6,f7,f8,f9,f10,f11,f12,f13,f14,f15,f16,f17,f18,f19,f20,f21,f22,f23,f24,f25,f26,f27,f28,f29,f30,f31,f32,f33,f34,fun _ => rfl,f36,f37,f38⟩
          case s36 =>
            rintro L a v w hv hg hL hd hcl ⟨e0,e3,e4,hb,f0,f1,f2,f3,f4,f5,f6,f7,f8,f9,f10,f11,f12,f13,f14,f15,f16,f17,f18,f19,f20,f21,f22,f23,f24,f25,f26,f27,f28,f29,f30,f31,f32,f33,f34,f35,f36,f37,f38⟩ K hK
            refine step_skipU (j := 27) (s := 42) rfl rfl ((hv 42).trans (f27 (hd 27 (by decide)))) ?_
            exact hK.out _ _ ⟨e0,e3,e4,hb,f0,f1,f2,f3,f4,f5,f6,f7,f8,f9,f10,f11,f12,f13,f14,f15,f16,f17,f18,f19,f20,f21,f22,f23,f24,f25,f26,f27,f28,f29,f30,f31,f32,f33,f34,f35,fun _ => rfl,f37,f38⟩
          case s37 =>
            rintro L a v w hv hg hL hd hcl ⟨e0,e3,e4,hb,f0,f1,f2,f3,f4,f5,f6,f7,f8,f9,f10,f11,f12,f13,f14,f15,f16,f17,f18,f19,f20,f21,f22,f23,f24,f25,f26,f27,f28,f29,f30,f31,f32,f33,f34,f35,f36,f37,f38⟩ K hK
            refine step_skip (j := 24) (s := 39) (b := true) rfl rfl ((hv 39).trans (f24 (hd 24 (by decide)))) (by decide) ?_
            exact hK.out _ _ ⟨e0,e3,e4,hb,f0,f1,f2,f3,f4,f5,f6,f7,f8,f9,f10,f11,f12,f13,f14,f15,f16,f17,f18,f19,f20,f21,f22,f23,f24,f25,f26,f27,f28,f29,f30,f31,f32,f33,f34,f35,f36,fun _ => rfl,f38⟩
          case s38 =>
            rintro L a v w hv hg hL hd hcl ⟨e0,e3,e4,hb,f0,f1,f2,f3,f4,f5,f6,f7,f8,f9,f10,f11,f12,f13,f14,f15,f16,f17,f18,f19,f20,f21,f22,f23,f24,f25,f26,f27,f28,f29,f30,f31,f32,f33,f34,f35,f36,f37,f38⟩ K hK
            have g24 := f24 (hd 24 (by decide))
            refine step_do rfl ?_
            clear hv
            go_simp
            exact hK.out _ _ ⟨e0,e3,e4,hb,f0,f1,f2,f3,f4,f5,f6,f7,f8,f9,f10,f11,f12,f13,f14,f15,f16,f17,f18,f19,f20,f21,f22,f23,f24,f25,f26,f27,f28,f29,f30,f31,f32,f33,f34,f35,f36,f37,fun _ => rfl⟩
        case hend =>
        rintro L v wx hall ⟨e0,e3,e4,hb,f0,f1,f2,f3,f4,f5,f6,f7,f8,f9,f10,f11,f12,f13,f14,f15,f16,f17,f18,f19,f20,f21,f22,f23,f24,f25,f26,f27,f28,f29,f30,f31,f32,f33,f34,f35,f36,f37,f38⟩
        have hL : ∀ i, i < 39 → L i = true := hall
        have f0 := f0 (hL 0 (by decide))
        have f1 := f1 (hL 1 (by decide))
        have f2 := f2 (hL 2 (by decide))
        have f3 := f3 (hL 3 (by decide))
        have f4 := f4 (hL 4 (by decide))
        have f5 := f5 (hL 5 (by decide))
        have f6 := f6 (hL 6 (by decide))
        have f7 := f7 (hL 7 (by decide))
        have f8 := f8 (hL 8 (by decide))
        have f9 := f9 (hL 9 (by decide))
        have f10 := f10 (hL 10 (by decide))
        have f11 := f11 (hL 11 (by decide))
        have f12 := f12 (hL 12 (by decide))
        have f13 := f13 (hL 13 (by decide))
        have f14 := f14 (hL 14 (by decide))
        have f15 := f15 (hL 15 (by decide))
        have f16 := f16 (hL 16 (by decide))
        have f17 := f17 (hL 17 (by decide))
        have f18 := f18 (hL 18 (by decide))
        have f19 := f19 (hL 19 (by decide))
        have f20 := f20 (hL 20 (by decide))
        have f21 := f21 (hL 21 (by decide))
        have f22 := f22 (hL 22 (by decide))
        have f23 := f23 (hL 23 (by decide))
        have f24 := f24 (hL 24 (by decide))
        have f25 := f25 (hL 25 (by decide))
        have f26 := f26 (hL 26 (by decide))
        have f27 := f27 (hL 27 (by decide))
        have f28 := f28 (hL 28 (by decide))
        have f29 := f29 (hL 29 (by decide))
        have f30 := f30 (hL 30 (by decide))
        have f31 := f31 (hL 31 (by decide))
        have f32 := f32 (hL 32 (by decide))
        have f33 := f33 (hL 33 (by decide))
        have f34 := f34 (hL 34 (by decide))
        have f35 := f35 (hL 35 (by decide))
        have f36 := f36 (hL 36 (by decide))
        have f37 := f37 (hL 37 (by decide))
        have f38 := f38 (hL 38 (by decide))
        simp only [finA, List.foldl_cons, List.foldl_nil, Act.put, List.setIfInBounds_toArray, List.set_cons_succ, List.set_cons_zero, f0, f1, f3, f4, f5, f6, f7, f8, f9, f10, f11, f12, f13, f14, f15, f16, f17, f18, f19, f20, f21, f22, f23, f24, f25, f26, f27, f28, f29, f30, f31, f32, f33, f34, f35, f36, f37, f38, f2]
        have gb := gb.trans (hb.mono gb.size)
        clear e0 e3 e4 f0 f1 f2 f3 f4 f5 f6 f7 f8 f9 f10 f11 f12 f13 f14 f15 f16 f17 f18 f19 f20 f21 f22 f23 f24 f25 f26 f27 f28 f29 f30 f31 f32 f33 f34 f35 f36 f37 f38 hL hall
        go_wp2_with fail
        go_ret
        exact ⟨rfl, gb⟩
      by_cases hy4 : (4 : Int) < a2
      · have hr : R = false := by rw [HR.out]; exact HB.out (by rw [HME.out, show inB a2 1 4 = false by rw [Bool.eq_false_iff]; intro h; have := (inB_iff _ _ _).1 h; omega]; simp)
        subst hr
        clear HR
        refine wp_region_facts (fun L v w => v 0 = .slice (some aa) n c ∧ v 3 = .int .i64 k ∧ v 4 = .pointer (some ⟨g, 0, none⟩) ∧ Below W.heap.size W w ∧ (L 0 = true → v 15 = .pointer (some ⟨g, 0, none⟩)) ∧ (L 1 = true → v 16 = .int .i64 a1) ∧ (L 2 = true → v 17 = .bool true) ∧ (L 3 = true → v 18 = .bool false) ∧ (L 4 = true → v 19 = .bool false) ∧ (L 5 = true → v 20 = .pointer (some ⟨g, 1, none⟩)) ∧ (L 6 = true → v 21 = .int .i64 a2) ∧ (L 7 = true → v 22 = .bool false) ∧ (L 8 = true → v 23 = .bool false) ∧ (L 9 = true → v 24 = .bool false) ∧ (L 10 = true → v 25 = .pointer (some ⟨g, 1, none⟩)) ∧ (L 11 = true → v 26 = .int .i64 a2) ∧ (L 12 = true → v 27 = .bool true) ∧ (L 13 = true → v 28 = .bool true) ∧ (L 14 = true → v 29 = .bool true) ∧ (L 15 = true → v 30 = undef) ∧ (L 16 = true → v 31 = undef) ∧ (L 17 = true → v 32 = undef) ∧ (L 18 = true → v 33 = .bool true) ∧ (L 19 = true → v 34 = .bool true) ∧ (L 20 = true → v 35 = undef) ∧ (L 21 = true → v 36 = undef) ∧ (L 22 = true → v 37 = undef) ∧ (L 23 = true → v 38 = .bool true) ∧ (L 24 = true → v 39 = .bool true) ∧ (L 25 = true → v 40 = undef) ∧ (L 26 = true → v 41 = undef) ∧ (L 27 = true → v 42 = undef) ∧ (L 28 = true → v 43 = undef) ∧ (L 29 = true → v 44 = undef) ∧ (L 30 = true → v 45 = undef) ∧ (L 31 = true → v 46 = undef) ∧ (L 32 = true → v 47 = undef) ∧ (L 33 = true → v 48 = undef) ∧ (L 34 = true → v 49 = undef) ∧ (L 35 = true → v 50 = undef) ∧ (L 36 = true → v 51 = undef) ∧ (L 37 = true → v 52 = undef) ∧ (L 38 = true → v 53 = .bool true)) [15, 16, 17, 18, 19, 20, 21, 22, 23, 24, 25, 26, 27, 28, 29, 30, 31, 32, 33, 34, 35, 36, 37, 38, 39, 40, 41, 42, 43, 44, 45, 46, 47, 48, 49, 50, 51, 52, 53] (by kernel_rfl) (by kernel_rfl) (by kernel_rfl) (by kernel_rfl) ?h0 ?hst ?hend
        case h0 =>
          intro L h0
          have h0 : ∀ i, i < 39 → L i = false := h0
          exact ⟨rfl, rfl, rfl, (Below.refl _ _).drew,offF h0 (i := 0) (by decide),offF h0 (i := 1) (by decide),offF h0 (i := 2) (by decide),offF h0 (i := 3) (by decide),offF h0 (i := 4) (by decide),offF h0 (i := 5) (by decide),offF h0 (i := 6) (by decide),offF h0 (i := 7) (by decide),offF h0 (i := 8) (by decide),offF h0 (i := 9) (by decide),offF h0 (i := 10) (by decide),offF h0 (i := 11) (by decide),offF h0 (i := 12) (by decide),offF h0 (i := 13) (by decide),offF h0 (i := 14) (by decide),offF h0 (i := 15) (by decide),offF h0 (i := 16) (by decide),offF h0 (i := 17) (by decide),offF h0 (i := 18) (by decide),offF h0 (i := 19) (by decide),offF h0 (i := 20) (by decide),offF h0 (i := 21) (by decide),offF h0 (i := 22) (by decide),offF h0 (i := 23) (by decide),offF h0 (i := 24) (by decide),offF h0 (i := 25) (by decide),offF h0 (i := 26) (by decide),offF h0 (i := 27) (by decide),offF h0 (i := 28) (by decide),offF h0 (i := 29) (by decide),offF h0 (i := 30) (by decide),offF h0 (i := 31) (by decide),offF h0 (i := 32) (by decide),offF h0 (i := 33) (by decide),offF h0 (i := 34) (by decide),offF h0 (i := 35) (by decide),offF h0 (i := 36) (by decide),offF h0 (i := 37) (by decide),offF h0 (i := 38) (by decide)⟩
        case hst =>
          show FactSteps _ _ _ _ [0, 1, 2, 3, 4, 5, 6, 7, 8, 9, 10, 11, 12, 13, 14, 15, 16, 17, 18, 19, 20, 21, 22, 23, 24, 25, 26, 27, 28, 29, 30, 31, 32, 33, 34, 35, 36, 37, 38]
          refine @FactSteps.cons _ _ _ _ 0 _ [] _ rfl (by kernel_rfl) ?s0 ?_
          rotate_left
          refine @FactSteps.cons _ _ _ _ 1 _ [0] _ rfl (by kernel_rfl) ?s1 ?_
          rotate_left
          refine @FactSteps.cons _ _ _ _ 2 _ [1] _ rfl (by kernel_rfl) ?s2 ?_
          rotate_left
          refine @FactSteps.cons _ _ _ _ 3 _ [2] _ rfl (by kernel_rfl) ?s3 ?_
          rotate_left
          refine @FactSteps.cons _ _ _ _ 4 _ [3, 2] _ rfl (by kernel_rfl) ?s4 ?_
          rotate_left
          refine @FactSteps.cons _ _ _ _ 5 _ [4] _ rfl (by kernel_rfl) ?s5 ?_
          rotate_left
          refine @FactSteps.cons _ _ _ _ 6 _ [5, 4] _ rfl (by kernel_rfl) ?s6 ?_
          rotate_left
          refine @FactSteps.cons _ _ _ _ 7 _ [6, 4] _ rfl (by kernel_rfl) ?s7 ?_
          rotate_left
          refine @FactSteps.cons _ _ _ _ 8 _ [4, 7] _ rfl (by kernel_rfl) ?s8 ?_
          rotate_left
          refine @FactSteps.cons _ _ _ _ 9 _ [8, 4] _ rfl (by kernel_rfl) ?s9 ?_
          rotate_left
          refine @FactSteps.cons _ _ _ _ 10 _ [9] _ rfl (by kernel_rfl) ?s10 ?_
          rotate_left
          refine @FactSteps.cons _ _ _ _ 11 _ [10, 9] _ rfl (by kernel_rfl) ?s11 ?_
          rotate_left
          refine @FactSteps.cons _ _ _ _ 12 _ [11, 9] _ rfl (by kernel_rfl) ?s12 ?_
          rotate_left
          refine @FactSteps.cons _ _ _ _ 13 _ [9, 12] _ rfl (by kernel_rfl) ?s13 ?_
          rotate_left
          refine @FactSteps.cons _ _ _ _ 14 _ [13, 9] _ rfl (by kernel_rfl) ?s14 ?_
          rotate_left
          refine @FactSteps.cons _ _ _ _ 15 _ [14] _ rfl (by kernel_rfl) ?s15 ?_
          rotate_left
          refine @FactSteps.cons _ _ _ _ 16 _ [15, 14] _ rfl (by kernel_rfl) ?s16 ?_
          rotate_left
          refine @FactSteps.cons _ _ _ _ 17 _ [16, 14] _ rfl (by kernel_rfl) ?s17 ?_
          rotate_left
          refine @FactSteps.cons _ _ _ _ 18 _ [14, 17] _ rfl (by kernel_rfl) ?s18 ?_
          rotate_left
          refine @FactSteps.cons _ _ _ _ 19 _ [18, 14] _ rfl (by kernel_rfl) ?s19 ?_
          rotate_left
          refine @FactSteps.cons _ _ _ _ 20 _ [19] _ rfl (by kernel_rfl) ?s20 ?_
          rotate_left
          refine @FactSteps.cons _ _ _ _ 21 _ [20, 19] _ rfl (by kernel_rfl) ?s21 ?_
          rotate_left
          refine @FactSteps.cons _ _ _ _ 22 _ [21, 19] _ rfl (by kernel_rfl) ?s22 ?_
          rotate_left
          refine @FactSteps.cons _ _ _ _ 23 _ [19, 22] _ rfl (by kernel_rfl) ?s23 ?_
          rotate_left
          refine @FactSteps.cons _ _ _ _ 24 _ [23, 19] _ rfl (by kernel_rfl) ?s24 ?_
          rotate_left
          refine @FactSteps.cons _ _ _ _ 25 _ [24] _ rfl (by kernel_rfl) ?s25 ?_
          rotate_left
          refine @FactSteps.cons _ _ _ _ 26 _ [25, 24] _ rfl (by kernel_rfl) ?s26 ?_
          rotate_left
          refine @FactSteps.cons _ _ _ _ 27 _ [26, 24, 24] _ rfl (by kernel_rfl) ?s27 ?_
          rotate_left
          refine @FactSteps.cons _ _ _ _ 28 _ [27] _ rfl (by kernel_rfl) ?s28 ?_
          rotate_left
          refine @FactSteps.cons _ _ _ _ 29 _ [27] _ rfl (by kernel_rfl) ?s29 ?_
          rotate_left
          refine @FactSteps.cons _ _ _ _ 30 _ [29, 27] _ rfl (by kernel_rfl) ?s30 ?_
          rotate_left
          refine @FactSteps.cons _ _ _ _ 31 _ [28, 30, 27] _ rfl (by kernel_rfl) ?s31 ?_
          rotate_left
          refine @FactSteps.cons _ _ _ _ 32 _ [31, 27] _ rfl (by kernel_rfl) ?s32 ?_
          rotate_left
          refine @FactSteps.cons _ _ _ _ 33 _ [32, 27] _ rfl (by kernel_rfl) ?s33 ?_
          rotate_left
          refine @FactSteps.cons _ _ _ _ 34 _ [27] _ rfl (by kernel_rfl) ?s34 ?_
          rotate_left
          refine @FactSteps.cons _ _ _ _ 35 _ [34, 27] _ rfl (by kernel_rfl) ?s35 ?_
          rotate_left
          refine @FactSteps.cons _ _ _ _ 36 _ [33, 35, 27] _ rfl (by kernel_rfl) ?s36 ?_
          rotate_left
          refine @FactSteps.cons _ _ _ _ 37 _ [27, 36, 24] _ rfl (by kernel_rfl) ?s37 ?_
          rotate_left
          refine @FactSteps.cons _ _ _ _ 38 _ [24, 37] _ rfl (by kernel_rfl) ?s38 ?_
          rotate_left
          exact FactSteps.nil
          case s0 =>
            rintro L a v w hv hg hL hd hcl ⟨e0,e3,e4,hb,f0,f1,f2,f3,f4,f5,f6,f7,f8,f9,f10,f11,f12,f13,f14,f15,f16,f17,f18,f19,f20,f21,f22,f23,f24,f25,f26,f27,f28,f29,f30,f31,f32,f33,f34,f35,f36,f37,f38⟩ K hK
            refine step_do rfl ?_
            clear hv
            go_simp
            exact hK.out _ _ ⟨e0,e3,e4,hb,fun _ => rfl,f1,f2,f3,f4,f5,f6,f7,f8,f9,f10,f11,f12,f13,f14,f15,f16,f17,f18,f19,f20,f21,f22,f23,f24,f25,f26,f27,f28,f29,f30,f31,f32,f33,f34,f35,f36,f37,f38⟩
          case s1 =>
            rintro L a v w hv hg hL hd hcl ⟨e0,e3,e4,hb,f0,f1,f2,f3,f4,f5,f6,f7,f8,f9,f10,f11,f12,f13,f14,f15,f16,f17,f18,f19,f20,f21,f22,f23,f24,f25,f26,f27,f28,f29,f30,f31,f32,f33,f34,f35,f36,f37,f38⟩ K hK
            have g0 := f0 (hd 0 (by decide))
            have hc := (hb.cell (p := ⟨g, 0, none⟩) hgW).trans d0
            refine step_do rfl ?_
            clear hv
            go_simp
            exact hK.out _ _ ⟨e0,e3,e4,hb,f0,fun _ => rfl,f2,f3,f4,f5,f6,f7,f8,f9,f10,f11,f12,f13,f14,f15,f16,f17,f18,f19,f20,f21,f22,f23,f24,f25,f26,f27,f28,f29,f30,f31,f32,f33,f34,f35,f36,f37,f38⟩
          case s2 =>
            rintro L a v w hv hg hL hd hcl ⟨e0,e3,e4,hb,f0,f1,f2,f3,f4,f5,f6,f7,f8,f9,f10,f11,f12,f13,f14,f15,f16,f17,f18,f19,f20,f21,f22,f23,f24,f25,f26,f27,f28,f29,f30,f31,f32,f33,f34,f35,f36,f37,f38⟩ K hK
            have h1 := f1 (hd 1 (by decide))
            refine step_do rfl ?_
            clear hv
            go_simp
            refine (H1.out w).mono ?_
            rintro e wy ⟨rfl, bb⟩
            exact hK.out _ _ ⟨e0,e3,e4, (hb.trans (bb.mono hb.size)),f0,f1,fun _ => rfl,f3,f4,f5,f6,f7,f8,f9,f10,f11,f12,f13,f14,f15,f16,f17,f18,f19,f20,f21,f22,f23,f24,f25,f26,f27,f28,f29,f30,f31,f32,f33,f34,f35,f36,f37,f38⟩
          case s3 =>
            rintro L a v w hv hg hL hd hcl ⟨e0,e3,e4,hb,f0,f1,f2,f3,f4,f5,f6,f7,f8,f9,f10,f11,f12,f13,f14,f15,f16,f17,f18,f19,f20,f21,f22,f23,f24,f25,f26,f27,f28,f29,f30,f31,f32,f33,f34,f35,f36,f37,f38⟩ K hK
            refine step_do rfl ?_
            clear hv
            go_simp
            exact hK.out _ _ ⟨e0,e3,e4,hb,f0,f1,f2,fun _ => rfl,f4,f5,f6,f7,f8,f9,f10,f11,f12,f13,f14,f15,f16,f17,f18,f19,f20,f21,f22,f23,f24,f25,f26,f27,f28,f29,f30,f31,f32,f33,f34,f35,f36,f37,f38⟩
          case s4 =>
            rintro L a v w hv hg hL hd hcl ⟨e0,e3,e4,hb,f0,f1,f2,f3,f4,f5,f6,f7,f8,f9,f10,f11,f12,f13,f14,f15,f16,f17,f18,f19,f20,f21,f22,f23,f24,f25,f26,f27,f28,f29,f30,f31,f32,f33,f34,f35,f36,f37,f38⟩ K hK
            have g3 := f3 (hd 3 (by decide))
            refine step_do rfl ?_
            clear hv
            go_simp
            exact hK.out _ _ ⟨e0,e3,e4,hb,f0,f1,f2,f3,fun _ => rfl,f5,f6,f7,f8,f9,f10,f11,f12,f13,f14,f15,f16,f17,f18,f19,f20,f21,f22,f23,f24,f25,f26,f27,f28,f29,f30,f31,f32,f33,f34,f35,f36,f37,f38⟩
          case s5 =>
            rintro L a v w hv hg hL hd hcl ⟨e0,e3,e4,hb,f0,f1,f2,f3,f4,f5,f6,f7,f8,f9,f10,f11,f12,f13,f14,f15,f16,f17,f18,f19,f20,f21,f22,f23,f24,f25,f26,f27,f28,f29,f30,f31,f32,f33,f34,f35,f36,f37,f38⟩ K hK
            have g4 := f4 (hd 4 (by decide))
            refine step_want (j := 4) (s := 19) (b := false) rfl rfl ((hv 19).trans (f4 (hd 4 (by decide)))) ?_
            clear hv
            go_simp
            exact hK.out _ _ ⟨e0,e3,e4,hb,f0,f1,f2,f3,f4,fun _ => rfl,f6,f7,f8,f9,f10,f11,f12,f13,f14,f15,f16,f17,f18,f19,f20,f21,f22,f23,f24,f25,f26,f27,f28,f29,f30,f31,f32,f33,f34,f35,f36,f37,f38⟩
          case s6 =>
            rintro L a v w hv hg hL hd hcl ⟨e0,e3,e4,hb,f0,f1,f2,f3,f4,f5,f6,f7,f8,f9,f10,f11,f12,f13,f14,f15,f16,f17,f18,f19,f20,f21,f22,f23,f24,f25,f26,f27,f28,f29,f30,f31,f32,f33,f34,f35,f36,f37,f38⟩ K hK
            have g4 := f4 (hd 4 (by decide))
            have g5 := f5 (hd 5 (by decide))
            have hc := (hb.cell (p := ⟨g, 1, none⟩) hgW).trans d1
            refine step_want (j := 4) (s := 19) (b := false) rfl rfl ((hv 19).trans (f4 (hd 4 (by decide)))) ?_
            clear hv
            go_simp
            exact hK.out _ _ ⟨e0,e3,e4,hb,f0,f1,f2,f3,f4,f5,fun _ => rfl,f7,f8,f9,f10,f11,f12,f13,f14,f15,f16,f17,f18,f19,f20,f21,f22,f23,f24,f25,f26,f27,f28,f29,f30,f31,f32,f33,f34,f35,f36,f37,f38⟩
          case s7 =>
            rintro L a v w hv hg hL hd hcl ⟨e0,e3,e4,hb,f0,f1,f2,f3,f4,f5,f6,f7,f8,f9,f10,f11,f12,f13,f14,f15,f16,f17,f18,f19,f20,f21,f22,f23,f24,f25,f26,f27,f28,f29,f30,f31,f32,f33,f34,f35,f36,f37,f38⟩ K hK
            have g4 := f4 (hd 4 (by decide))
            have g6 := f6 (hd 6 (by decide))
            refine step_want (j := 4) (s := 19) (b := false) rfl rfl ((hv 19).trans (f4 (hd 4 (by decide)))) ?_
            clear hv
            go_simp
            exact hK.out _ _ ⟨e0,e3,e4,hb,f0,f1,f2,f3,f4,f5,f6,fun _ => rfl,f8,f9,f10,f11,f12,f13,f14,f15,f16,f17,f18,f19,f20,f21,f22,f23,f24,f25,f26,f27,f28,f29,f30,f31,f32,f33,f34,f35,f36,f37,f38⟩
          case s8 =>
            rintro L a v w hv hg hL hd hcl ⟨e0,e3,e4,hb,f0,f1,f2,f3,f4,f5,f6,f7,f8,f9,f10,f11,f12,f13,f14,f15,f16,f17,f18,f19,f20,f21,f22,f23,f24,f25,f26,f27,f28,f29,f30,f31,f32,f33,f34,f35,f36,f37,f38⟩ K hK
            have g4 := f4 (hd 4 (by decide))
            have g7 := f7 (hd 7 (by decide))
            refine step_do rfl ?_
            clear hv
            go_simp
            exact hK.out _ _ ⟨e0,e3,e4,hb,f0,f1,f2,f3,f4,f5,f6,f7,fun _ => rfl,f9,f10,f11,f12,f13,f14,f15,f16,f17,f18,f19,f20,f21,f22,f23,f24,f25,f26,f27,f28,f29,f30,f31,f32,f33,f34,f35,f36,f37,f38⟩
          case s9 =>
            rintro L a v w hv hg hL hd hcl ⟨e0,e3,e4,hb,f0,f1,f2,f3,f4,f5,f6,f7,f8,f9,f10,f11,f12,f13,f14,f15,f16,f17,f18,f19,f20,f21,f22,f23,f24,f25,f26,f27,f28,f29,f30,f31,f32,f33,f34,f35,f36,f37,f38⟩ K hK
            have g4 := f4 (hd 4 (by decide))
            have g8 := f8 (hd 8 (by decide))
            refine step_do rfl ?_
            clear hv
            go_simp
            exact hK.out _ _ ⟨e0,e3,e4,hb,f0,f1,f2,f3,f4,f5,f6,f7,f8,fun _ => rfl,f10,f11,f12,f13,f14,f15,f16,f17,f18,f19,f20,f21,f22,f23,f24,f25,f26,f27,f28,f29,f30,f31,f32,f33,f34,f35,f36,f37,f38⟩
          case s10 =>
            rintro L a v w hv hg hL hd hcl ⟨e0,e3,e4,hb,f0,f1,f2,f3,f4,f5,f6,f7,f8,f9,f10,f11,f12,f13,f14,f15,f16,f17,f18,f19,f20,f21,f22,f23,f24,f25,f26,f27,f28,f29,f30,f31,f32,f33,f34,f35,f36,f37,f38⟩ K hK
            have g9 := f9 (hd 9 (by decide))
            refine step_want (j := 9) (s := 24) (b := false) rfl rfl ((hv 24).trans (f9 (hd 9 (by decide)))) ?_
            clear hv
            go_simp
            exact hK.out _ _ ⟨e0,e3,e4,hb,f0,f1,f2,f3,f4,f5,f6,f7,f8,f9,fun _ => rfl,f11,f12,f13,f14,f15,f16,f17,f18,f19,f20,f21,f22,f23,f24,f25,f26,f27,f28,f29,f30,f31,f32,f33,f34,f35,f36,f37,f38⟩
          case s11 =>
            rintro L a v w hv hg hL hd hcl ⟨e0,e3,e4,hb,f0,f1,f2,f3,f4,f5,f6,f7,f8,f9,f10,f11,f12,f13,f14,f15,f16,f17,f18,f19,f20,f21,f22,f23,f24,f25,f26,f27,f28,f29,f30,f31,f32,f33,f34,f35,f36,f37,f38⟩ K hK
            have g9 := f9 (hd 9 (by decide))
            have g10 := f10 (hd 10 (by decide))
            have hc := (hb.cell (p := ⟨g, 1, none⟩) hgW).trans d1
            refine step_want (j := 9) (s := 24) (b := false) rfl rfl ((hv 24).trans (f9 (hd 9 (by decide)))) ?_
            clear hv
            go_simp
            exact hK.out _ _ ⟨e0,e3,e4,hb,f0,f1,f2,f3,f4,f5,f6,f7,f8,f9,f10,fun _ => rfl,f12,f13,f14,f15,f16,f17,f18,f19,f20,f21,f22,f23,f24,f25,f26,f27,f28,f29,f30,f31,f32,f33,f34,f35,f36,f37,f38⟩
          case s12 =>
            rintro L a v w hv hg hL hd hcl ⟨e0,e3,e4,hb,f0,f1,f2,f3,f4,f5,f6,f7,f8,f9,f10,f11,f12,f13,f14,f15,f16,f17,f18,f19,f20,f21,f22,f23,f24,f25,f26,f27,f28,f29,f30,f31,f32,f33,f34,f35,f36,f37,f38⟩ K hK
            have g9 := f9 (hd 9 (by decide))
            have g11 := f11 (hd 11 (by decide))
            refine step_want (j := 9) (s := 24) (b := false) rfl rfl ((hv 24).trans (f9 (hd 9 (by decide)))) ?_
            clear hv
            go_simp
            exact hK.out _ _ ⟨e0,e3,e4,hb,f0,f1,f2,f3,f4,f5,f6,f7,f8,f9,f10,f11,fun _ => rfl,f13,f14,f15,f16,f17,f18,f19,f20,f21,f22,f23,f24,f25,f26,f27,f28,f29,f30,f31,f32,f33,f34,f35,f36,f37,f38⟩
          case s13 =>
            rintro L a v w hv hg hL hd hcl ⟨e0,e3,e4,hb,f0,f1,f2,f3,f4,f5,f6,f7,f8,f9,f10,f11,f12,f13,f14,f15,f16,f17,f18,f19,f20,f21,f22,f23,f24,f25,f26,f27,f28,f29,f30,f31,f32,f33,f34,f35,f36,f37,f38⟩ K hK
            have g9 := f9 (hd 9 (by decide))
            have g12 := f12 (hd 12 (by decide))
            refine step_do rfl ?_
            clear hv
            go_simp
            exact hK.out _ _ ⟨e0,e3,e4,hb,f0,f1,f2,f3,f4,f5,f6,f7,f8,f9,f10,f11,f12,fun _ => rfl,f14,f15,f16,f17,f18,f19,f20,f21,f22,f23,f24,f25,f26,f27,f28,f29,f30,f31,f32,f33,f34,f35,f36,f37,f38⟩
          case s14 =>
            rintro L a v w hv hg hL hd hcl ⟨e0,e3,e4,hb,f0,f1,f2,f3,f4,f5,f6,f7,f8,f9,f10,f11,f12,f13,f14,f15,f16,f17,f18,f19,f20,f21,f22,f23,f24,f25,f26,f27,f28,f29,f30,f31,f32,f33,f34,f35,f36,f37,f38⟩ K hK
            have g9 := f9 (hd 9 (by decide))
            have g13 := f13 (hd 13 (by decide))
            refine step_do rfl ?_
            clear hv
            go_simp
            exact hK.out _ _ ⟨e0,e3,e4,hb,f0,f1,f2,f3,f4,f5,f6,f7,f8,f9,f10,f11,f12,f13,fun _ => rfl,f15,f16,f17,f18,f19,f20,f21,f22,f23,f24,f25,f26,f27,f28,f29,f30,f31,f32,f33,f34,f35,f36,f37,f38⟩
          case s15 =>
            rintro L a v w hv hg hL hd hcl ⟨e0,e3,e4,hb,f0,f1,f2,f3,f4,f5,f6,f7,f8,f9,f10,f11,f12,f13,f14,f15,f16,f17,f18,f19,f20,f21,f22,f23,f24,f25,f26,f27,f28,f29,f30,f31,f32,f33,f34,f35,f36,f37,f38⟩ K hK
            refine step_skip (j := 14) (s := 29) (b := true) rfl rfl ((hv 29).trans (f14 (hd 14 (by decide)))) (by decide) ?_
            exact hK.out _ _ ⟨e0,e3,e4,hb,f0,f1,f2,f3,f4,f5,f6,f7,f8,f9,f10,f11,f12,f13,f14,fun _ => rfl,f16,f17,f18,f19,f20,f21,f22,f23,f24,f25,f26,f27,f28,f29,f30,f31,f32,f33,f34,f35,f36,f37,f38⟩
          case s16 =>
            rintro L a v w hv hg hL hd hcl ⟨e0,e3,e4,hb,f0,f1,f2,f3,f4,f5,f6,f7,f8,f9,f10,f11,f12,f13,f14,f15,f16,f17,f18,f19,f20,f21,f22,f23,f24,f25,f26,f27,f28,f29,f30,f31,f32,f33,f34,f35,f36,f37,f38⟩ K hK
            refine step_skip (j := 14) (s := 29) (b := true) rfl rfl ((hv 29).trans (f14 (hd 14 (by decide)))) (by decide) ?_
            exact hK.out _ _ ⟨e0,e3,e4,hb,f0,f1,f2,f3,f4,f5,f6,f7,f8,f9,f10,f11,f12,f13,f14,f15,fun _ => rfl,f17,f18,f19,f20,f21,f22,f23,f24,f25,f26,f27,f28,f29,f30,f31,f32,f33,f34,f35,f36,f37,f38⟩
          case s17 =>
            rintro L a v w hv hg hL hd hcl ⟨e0,e3,e4,hb,f0,f1,f2,f3,f4,f5,f6,f7,f8,f9,f10,f11,f12,f13,f14,f15,f16,f17,f18,f19,f20,f21,f22,f23,f24,f25,f26,f27,f28,f29,f30,f31,f32,f33,f34,f35,f36,f37,f38⟩ K hK
            refine step_skip (j := 14) (s := 29) (b := true) rfl rfl ((hv 29).trans (f14 (hd 14 (by decide)))) (by decide) ?_
            exact hK.out _ _ ⟨e0,e3,e4,hb,f0,f1,f2,f3,f4,f5,f6,f7,f8,f9,f10,f11,f12,f13,f14,f15,f16,fun _ => rfl,f18,f19,f20,f21,f22,f23,f24,f25,f26,f27,f28,f29,f30,f31,f32,f33,f34,f35,f36,f37,f38⟩
          case s18 =>
            rintro L a v w hv hg hL hd hcl ⟨e0,e3,e4,hb,f0,f1,f2,f3,f4,f5,f6,f7,f8,f9,f10,f11,f12,f13,f14,f15,f16,f17,f18,f19,f20,f21,f22,f23,f24,f25,f26,f27,f28,f29,f30,f31,f32,f33,f34,f35,f36,f37,f38⟩ K hK
            have g14 := f14 (hd 14 (by decide))
            refine step_do rfl ?_
            clear hv
            go_simp
            exact hK.out _ _ ⟨e0,e3,e4,hb,f0,f1,f2,f3,f4,f5,f6,f7,f8,f9,f10,f11,f12,f13,f14,f15,f16,f17,fun _ => rfl,f19,f20,f21,f22,f23,f24,f25,f26,f27,f28,f29,f30,f31,f32,f33,f34,f35,f36,f37,f38⟩
          case s19 =>
            rintro L a v w hv hg hL hd hcl ⟨e0,e3,e4,hb,f0,f1,f2,f3,f4,f5,f6,f7,f8,f9,f10,f11,f12,f13,f14,f15,f16,f17,f18,f19,f20,f21,f22,f23,f24,f25,f26,f27,f28,f29,f30,f31,f32,f33,f34,f35,f36,f37,f38⟩ K hK
            have g14 := f14 (hd 14 (by decide))
            have g18 := f18 (hd 18 (by decide))
            refine step_do rfl ?_
            clear hv
            go_simp
            exact hK.out _ _ ⟨e0,e3,e4,hb,f0,f1,f2,f3,f4,f5,f6,f7,f8,f9,f10,f11,f12,f13,f14,f15,f16,f17,f18,fun _ => rfl,f20,f21,f22,f23,f24,f25,f26,f27,f28,f29,f30,f31,f32,f33,f34,f35,f36,f37,f38⟩
          case s20 =>
            rintro L a v w hv hg hL hd hcl ⟨e0,e3,e4,hb,f0,f1,f2,f3,f4,f5,f6,f7,f8,f9,f10,f11,f12,f13,f14,f15,f16,f17,f18,f19,f20,f21,f22,f23,f24,f25,f26,f27,f28,f29,f30,f31,f32,f33,f34,f35,f36,f37,f38⟩ K hK
            refine step_skip (j := 19) (s := 34) (b := true) rfl rfl ((hv 34).trans (f19 (hd 19 (by decide)))) (by decide) ?_
            exact hK.out _ _ ⟨e0,e3,e4,hb,f0,f1,f2,f3,f4,f5,f6,f7,f8,f9,f10,f11,f12,f13,f14,f15,f16,f17,f18,f19,fun _ => rfl,f21,f22,f23,f24,f25,f26,f27,f28,f29,f30,f31,f32,f33,f34,f35,f36,f37,f38⟩
          case s21 =>
            rintro L a v w hv hg hL hd hcl ⟨e0,e3,e4,hb,f0,f1,f2,f3,f4,f5,f6,f7,f8,f9,f10,f11,f12,f13,f14,f15,f16,f17,f18,f19,f20,f21,f22,f23,f24,f25,f26,f27,f28,f29,f30,f31,f32,f33,f34,f35,f36,f37,f38⟩ K hK
            refine step_skip (j := 19) (s := 34) (b := true) rfl rfl ((hv 34).trans (f19 (hd 19 (by decide)))) (by decide) ?_
            exact hK.out _ _ ⟨e0,e3,e4,hb,f0,f1,f2,f3,f4,f5,f6,f7,f8,f9,f10,f11,f12,f13,f14,f15,f16,f17,f18,f19,f20,fun _ => rfl,f22,f23,f24,f25,f26,f27,f28,f29,f30,f31,f32,f33,f34,f35,f36,f37,f38⟩
          case s22 =>
            rintro L a v w hv hg hL hd hcl ⟨e0,e3,e4,hb,f0,f1,f2,f3,f4,f5,f6,f7,f8,f9,f10,f11,f12,f13,f14,f15,f16,f17,f18,f19,f20,f21,f22,f23,f24,f25,f26,f27,f28,f29,f30,f31,f32,f33,f34,f35,f36,f37,f38⟩ K hK
            refine step_skip (j := 19) (s := 34) (b := true) rfl rfl ((hv 34).trans (f19 (hd 19 (by decide)))) (by decide) ?_
            exact hK.out _ _ ⟨e0,e3,e4,hb,f0,f1,f2,f3,f4,f5,f6,f7,f8,f9,f10,f11,f12,f13,f14,f15,f16,f17,f18,f19,f20,f21,fun _ => rfl,f23,f24,f25,f26,f27,f28,f29,f30,f31,f32,f33,f34,f35,f36,f37,f38⟩
          case s23 =>
            rintro L a v w hv hg hL hd hcl ⟨e0,e3,e4,hb,f0,f1,f2,f3,f4,f5,f6,f7,f8,f9,f10,f11,f12,f13,f14,f15,f16,f17,f18,f19,f20,f21,f22,f23,f24,f25,f26,f27,f28,f29,f30,f31,f32,f33,f34,f35,f36,f37,f38⟩ K hK
            have g19 := f19 (hd 19 (by decide))
            refine step_do rfl ?_
            clear hv
            go_simp
            exact hK.out _ _ ⟨e0,e3,e4,hb,f0,f1,f2,f3,f4,f5,f6,f7,f8,f9,f10,f11,f12,f13,f14,f15,f16,f17,f18,f19,f20,f21,f22,fun _ => rfl,f24,f25,f26,f27,f28,f29,f30,f31,f32,f33,f34,f35,f36,f37,f38⟩
          case s24 =>
            rintro L a v w hv hg hL hd hcl ⟨e0,e3,e4,hb,f0,f1,f2,f3,f4,f5,f6,f7,f8,f9,f10,f11,f12,f13,f14,f15,f16,f17,f18,f19,f20,f21,f22,f23,f24,f25,f26,f27,f28,f29,f30,f31,f32,f33,f34,f35,f36,f37,f38⟩ K hK
            have g19 := f19 (hd 19 (by decide))
            have g23 := f23 (hd 23 (by decide))
            refine step_do rfl ?_
            clear hv
            go_simp
            exact hK.out _ _ ⟨e0,e3,e4,hb,f0,f1,f2,f3,f4,f5,f6,f7,f8,f9,f10,f11,f12,f13,f14,f15,f16,f17,f18,f19,f20,f21,f22,f23,fun _ => rfl,f25,f26,f27,f28,f29,f30,f31,f32,f33,f34,f35,f36,f37,f38⟩
          case s25 =>
            rintro L a v w hv hg hL hd hcl ⟨e0,e3,e4,hb,f0,f1,f2,f3,f4,f5,f6,f7,f8,f9,f10,f11,f12,f13,f14,f15,f16,f17,f18,f19,f20,f21,f22,f23,f24,f25,f26,f27,f28,f29,f30,f31,f32,f33,f34,f35,f36,f37,f38⟩ K hK
            refine step_skip (j := 24) (s := 39) (b := true) rfl rfl ((hv 39).trans (f24 (hd 24 (by decide)))) (by decide) ?_
            exact hK.out _ _ ⟨e0,e3,e4,hb,f0,f1,f2,f3,f4,f5,f6,f7,f8,f9,f10,f11,f12,f13,f14,f15,f16,f17,f18,f19,f20,f21,f22,f23,f24,fun _ => rfl,f26,f27,f28,f29,f30,f31,f32,f33,f34,f35,f36,f37,f38⟩
          case s26 =>
            rintro L a v w hv hg hL hd hcl ⟨e0,e3,e4,hb,f0,f1,f2,f3,f4,f5,f6,f7,f8,f9,f10,f11,f12,f13,f14,f15,f16,f17,f18,f19,f20,f21,f22,f23,f24,f25,f26,f27,f28,f29,f30,f31,f32,f33,f34,f35,f36,f37,f38⟩ K hK
            refine step_skip (j := 24) (s := 39) (b := true) rfl rfl ((hv 39).trans (f24 (hd 24 (by decide)))) (by decide) ?_
            exact hK.out _ _ ⟨e0,e3,e4,hb,f0,f1,f2,f3,f4,f5,f6,f7,f8,f9,f10,f11,f12,f13,f14,f15,f16,f17,f18,f19,f20,f21,f22,f23,f24,f25,fun _ => rfl,f27,f28,f29,f30,f31,f32,f33,f34,f35,f36,f37,f38⟩
          case s27 =>
            rintro L a v w hv hg hL hd hcl ⟨e0,e3,e4,hb,f0,f1,f2,f3,f4,f5,f6,f7,f8,f9,f10,f11,f12,f13,f14,f15,f16,f17,f18,f19,f20,f21,f22,f23,f24,f25,f26,f27,f28,f29,f30,f31,f32,f33,f34,f35,f36,f37,f38⟩ K hK
            refine step_skip (j := 24) (s := 39) (b := true) rfl rfl ((hv 39).trans (f24 (hd 24 (by decide)))) (by decide) ?_
            exact hK.out _ _ ⟨e0,e3,e4,hb,f0,f1,f2,f3,f4,f5,f6,f7,f8,f9,f10,f11,f12,f13,f14,f15,f16,f17,f18,f19,f20,f21,f22,f23,f24,f25,f26,fun _ => rfl,f28,f29,f30,f31,f32,f33,f34,f35,f36,f37,f38⟩
          case s28 =>
            rintro L a v w hv hg hL hd hcl ⟨e0,e3,e4,hb,f0,f1,f2,f3,f4,f5,f6,f7,f8,f9,f10,f11,f12,f13,f14,f15,f16,f17,f18,f19,f20,f21,f22,f23,f24,f25,f26,f27,f28,f29,f30,f31,f32,f33,f34,f35,f36,f37,f38⟩ K hK
            refine step_skipU (j := 27) (s := 42) rfl rfl ((hv 42).trans (f27 (hd 27 (by decide)))) ?_
            exact hK.out _ _ ⟨e0,e3,e4,hb,f0,f1,f2,f3,f4,f5,f6,f7,f8,f9,f10,f11,f12,f13,f14,f15,f16,f17,f18,f19,f20,f21,f22,f23,f24,f25,f26,f27,fun _ => rfl,f29,f30,f31,f32,f33,f34,f35,f36,f37,f38⟩
          case s29 =>
            rintro L a v w hv hg hL hd hcl ⟨e0,e3,e4,hb,f0,f1,f2,f3,f4,f5,f6,f7,f8,f9,f10,f11,f12,f13,f14,f15,f16,f17,f18,f19,f20,f21,f22,f23,f24,f25,f26,f27,f28,f29,f30,f31,f32,f33,f34,f35,f36,f37,f38⟩ K hK
            refine step_skipU (j := 27) (s := 42) rfl rfl ((hv 42).trans (f27 (hd 27 (by decide)))) ?_
            exact hK.out _ _ ⟨e0,e3,e4,hb,f0,f1,f2,f3,f4,f5,f6,f7,f8,f9,f10,f11,f12,f13,f14,f15,f16,f17,f18,f19,f20,f21,f22,f23,f24,f25,f26,f27,f28,fun _ => rfl,f30,f31,f32,f33,f34,f35,f36,f37,f38⟩
          case s30 =>
            rintro L a v w hv hg hL hd hcl ⟨e0,e3,e4,hb,f0,f1,f2,f3,f4,f5,f6,f7,f8,f9,f10,f11,f12,f13,f14,f15,f16,f17,f18,f19,f20,f21,f22,f23,f24,f25,f26,f27,f28,f29,f30,f31,f32,f33,f34,f35,f36,f37,f38⟩ K hK
            refine step_skipU (j := 27) (s := 42) rfl rfl ((hv 42).trans (f27 (hd 27 (by decide)))) ?_
            exact hK.out _ _ ⟨e0,e3,e4,hb,f0,f1,f2,f3,f4,f5,f6,f7,f8,f9,f10,f11,f12,f13,f14,f15,f16,f17,f18,f19,f20,f21,f22,f23,f24,f25,f26,f27,f28,f29,fun _ => rfl,f31,f32,f33,f34,f35,f36,f37,f38⟩
          case s31 =>
            rintro L a v w hv hg hL hd hcl ⟨e0,e3,e4,hb,f0,f1,f2,f3,f4,f5,f6,f7,f8,f9,f10,f11,f12,f13,f14,f15,f16,f17,f18,f19,f20,f21,f22,f23,f24,f25,f26,f27,f28,f29,f30,f31,f32,f33,f34,f35,f36,f37,f38⟩ K hK
            refine step_skipU (j := 27) (s := 42) rfl rfl ((hv 42).trans (f27 (hd 27 (by decide)))) ?_
            exact hK.out _ _ ⟨e0,e3,e4,hb,f0,f1,f2,f3,f4,f5,f6,f7,f8,f9,f10,f11,f12,f13,f14,f15,f16,f17,f18,f19,f20,f21,f22,f23,f24,f25,f26,f27,f28,f29,f30,fun _ => rfl,f32,f33,f34,f35,f36,f37,f38⟩
          case s32 =>
            rintro L a v w hv hg hL hd hcl ⟨e0,e3,e4,hb,f0,f1,f2,f3,f4,f5,f6,f7,f8,f9,f10,f11,f12,f13,f14,f15,f16,f17,f18,f19,f20,f21,f22,f23,f24,f25,f26,f27,f28,f29,f30,f31,f32,f33,f34,f35,f36,f37,f38⟩ K hK
            refine step_skipU (j := 27) (s := 42) rfl rfl ((hv 42).trans (f27 (hd 27 (by decide)))) ?_
            exact hK.out _ _ ⟨e0,e3,e4,hb,f0,f1,f2,f3,f4,f5,f6,f7,f8,f9,f10,f11,f12,f13,f14,f15,f16,f17,f18,f19,f20,f21,f22,f23,f24,f25,f26,f27,f28,f29,f30,f31,fun _ => rfl,f33,f34,f35,f36,f37,f38⟩
          case s33 =>
            rintro L a v w hv hg hL hd hcl ⟨e0,e3,e4,hb,f0,f1,f2,f3,f4,f5,f6,f7,f8,f9,f10,f11,f12,f13,f14,f15,f16,f17,f18,f19,f20,f21,f22,f23,f24,f25,f26,f27,f28,f29,f30,f31,f32,f33,f34,f35,f36,f37,f38⟩ K hK
            refine step_skipU (j := 27) (s := 42) rfl rfl ((hv 42).trans (f27 (hd 27 (by decide)))) ?_
            exact hK.out _ _ ⟨e0,e3,e4,hb,f0,f1,f2,f3,f4,f5,f6,f7,f8,f9,f10,f11,f12,f13,f14,f15,f16,f17,f18,f19,f20,f21,f22,f23,f24,f25,f26,f27,f28,f29,f30,f31,f32,fun _ => rfl,f34,f35,f36,f37,f38⟩
          case s34 =>
            rintro L a v w hv hg hL hd hcl ⟨e0,e3,e4,hb,f0,f1,f2,f3,f4,f5,f6,f7,f8,f9,f10,f11,f12,f13,f14,f15,f16,f17,f18,f19,f20,f21,f22,f23,f24,f25,f26,f27,f28,f29,f30,f31,f32,f33,f34,f35,f36,f37,f38⟩ K hK
            refine step_skipU (j := 27) (s := 42) rfl rfl ((hv 42).trans (f27 (hd 27 (by decide)))) ?_
            exact hK.out _ _ ⟨e0,e3,e4,hb,f0,f1,f2,f3,f4,f5,f6,f7,f8,f9,f10,f11,f12,f13,f14,f15,f16,f17,f18,f19,f20,f21,f22,f23,f24,f25,f26,f27,f28,f29,f30,f31,f32,f33,fun _ => rfl,f35,f36,f37,f38⟩
          case s35 =>
            rintro L a v w hv hg hL hd hcl ⟨e0,e3,e4,hb,f0,f1,f2,f3,f4,f5,f6,f7,f8,f9,f10,f11,f12,f13,f14,f15,f16,f17,f18,f19,f20,f21,f22,f23,f24,f25,f26,f27,f28,f29,f30,f31,f32,f33,f34,f35,f36,f37,f38⟩ K hK
            refine step_skipU (j := 27) (s := 42) rfl rfl ((hv 42).trans (f27 (hd 27 (by decide)))) ?_
            exact hK.out _ _ ⟨e0,e3,e4,hb,f0,f1,f2,f3,f4,f5,f6,f7,f8,f9,f10,f11,f12,f13,f14,f15,f16,f17,f18,f19,f20,f21,f22,f23,f24,f25,f26,f27,f28,f29,f30,f31,f32,f33,f34,fun _ => rfl,f36,f37,f38⟩
          case s36 =>
            rintro L a v w hv hg hL hd hcl ⟨e0,e3,e4,hb,f0,f1,f2,f3,f4,f5,f6,f7,f8,f9,f10,f11,f12,f13,f14,f15,f16,f17,f18,f19,f20,f21,f22,f23,f24,f25,f26,f27,f28,f29,f30,f31,f32,f33,f34,f35,f36,f37,f38⟩ K hK
            refine step_skipU (j := 27) (s := 42) rfl rfl ((hv 42).trans (f27 (hd 27 (by decide)))) ?_
            exact hK.out _ _ ⟨e0,e3,e4,hb,f0,f1,f2,f3,f4,f5,f6,f7,f8,f9,f10,f11,f12,f13,f14,f15,f16,f17,f18,f19,f20,f21,f22,f23,f24,f25,f26,f27,f28,f29,f30,f31,f32,f33,f34,f35,fun _ => rfl,f37,f38⟩
          case s37 =>
            rintro L a v w hv hg hL hd hcl ⟨e0,e3,e4,hb,f0,f1,f2,f3,f4,f5,f6,f7,f8,f9,f10,f11,f12,f13,f14,f15,f16,f17,f18,f19,f20,f21,f22,f23,f24,f25,f26,f27,f28,f29,f30,f31,f32,f33,f34,f35,f36,f37,f38⟩ K hK
            refine step_skip (j := 24) (s := 39) (b := true) rfl rfl ((hv 39).trans (f24 (hd 24 (by decide)))) (by decide) ?_
            exact hK.out _ _ ⟨e0,e3,e4,hb,f0,f1,f2,f3,f4,f5,f6,f7,f8,f9,f10,f11,f12,f13,f14,f15,f16,f17,f18,f19,f20,f21,f22,f23,f24,f25,f26,f27,f28,f29,f30,f31,f32,f33,f34,f35,f36,fun _ => rfl,f38⟩
          case s38 =>
            rintro L a v w hv hg hL hd hcl ⟨e0,e3,e4,hb,f0,f1,f2,f3,f4,f5,f6,f7,f8,f9,f10,f11,f12,f13,f14,f15,f16,f17,f18,f19,f20,f21,f22,f23,f24,f25,f26,f27,f28,f29,f30,f31,f32,f33,f34,f35,f36,f37,f38⟩ K hK
            have g24 := f24 (hd 24 (by decide))
            refine step_do rfl ?_
            clear hv
            go_simp
            exact hK.out _ _ ⟨e0,e3,e4,hb,f0,f1,f2,f3,f4,f5,f6,f7,f8,f9,f10,f11,f12,f13,f14,f15,f16,f17,f18,f19,f20,f21,f22,f23,f24,f25,f26,f27,f28,f29,f30,f31,f32,f33,f34,f35,f36,f37,fun _ => rfl⟩
        case hend =>
        rintro L v wx hall ⟨e0,e3,e4,hb,f0,f1,f2,f3,f4,f5,f6,f7,f8,f9,f10,f11,f12,f13,f14,f15,f16,f17,f18,f19,f20,f21,f22,f23,f24,f25,f26,f27,f28,f29,f30,f31,f32,f33,f34,f35,f36,f37,f38⟩
        have hL : ∀ i, i < 39 → L i = true := hall
        have f0 := f0 (hL 0 (by decide))
        have f1 := f1 (hL 1 (by decide))
        have f2 := f2 (hL 2 (by decide))
        have f3 := f3 (hL 3 (by decide))
        have f4 := f4 (hL 4 (by decide))
        have f5 := f5 (hL 5 (by decide))
        have f6 := f6 (hL 6 (by decide))
        have f7 := f7 (hL 7 (by decide))
        have f8 := f8 (hL 8 (by decide))
        have f9 := f9 (hL 9 (by decide))
        have f10 := f10 (hL 10 (by decide))
        have f11 := f11 (hL 11 (by decide))
        have f12 := f12 (hL 12 (by decide))
        have f13 := f13 (hL 13 (by decide))
        have f14 := f14 (hL 14 (by decide))
        have f15 := f15 (hL 15 (by decide))
        have f16 := f16 (hL 16 (by decide))
        have f17 := f17 (hL 17 (by decide))
        have f18 := f18 (hL 18 (by decide))
        have f19 := f19 (hL 19 (by decide))
        have f20 := f20 (hL 20 (by decide))
        have f21 := f21 (hL 21 (by decide))
        have f22 := f22 (hL 22 (by decide))
        have f23 := f23 (hL 23 (by decide))
        have f24 := f24 (hL 24 (by decide))
        have f25 := f25 (hL 25 (by decide))
        have f26 := f26 (hL 26 (by decide))
        have f27 := f27 (hL 27 (by decide))
        have f28 := f28 (hL 28 (by decide))
        have f29 := f29 (hL 29 (by decide))
        have f30 := f30 (hL 30 (by decide))
        have f31 := f31 (hL 31 (by decide))
        have f32 := f32 (hL 32 (by decide))
        have f33 := f33 (hL 33 (by decide))
        have f34 := f34 (hL 34 (by decide))
        have f35 := f35 (hL 35 (by decide))
        have f36 := f36 (hL 36 (by decide))
        have f37 := f37 (hL 37 (by decide))
        have f38 := f38 (hL 38 (by decide))
        simp only [finA, List.foldl_cons, List.foldl_nil, Act.put, List.setIfInBounds_toArray, List.set_cons_succ, List.set_cons_zero, f0, f1, f3, f4, f5, f6, f7, f8, f9, f10, f11, f12, f13, f14, f15, f16, f17, f18, f19, f20, f21, f22, f23, f24, f25, f26, f27, f28, f29, f30, f31, f32, f33, f34, f35, f36, f37, f38, f2]
        have gb := gb.trans (hb.mono gb.size)
        clear e0 e3 e4 f0 f1 f2 f3 f4 f5 f6 f7 f8 f9 f10 f11 f12 f13 f14 f15 f16 f17 f18 f19 f20 f21 f22 f23 f24 f25 f26 f27 f28 f29 f30 f31 f32 f33 f34 f35 f36 f37 f38 hL hall
        go_wp2_with fail
        go_ret
        exact ⟨rfl, gb⟩
      by_cases hz0 : a3 < 0
      · have hr : R = false := by rw [HR.out]; exact HB.out (by rw [HME.out, show inB a3 0 1099511627776 = false by rw [Bool.eq_false_iff]; intro h; have := (inB_iff _ _ _).1 h; omega]; simp)
        subst hr
        clear HR
        refine wp_region_facts (fun L v w => v 0 = .slice (some aa) n c ∧ v 3 = .int .i64 k ∧ v 4 = .pointer (some ⟨g, 0, none⟩) ∧ Below W.heap.size W w ∧ (L 0 = true → v 15 = .pointer (some ⟨g, 0, none⟩)) ∧ (L 1 = true → v 16 = .int .i64 a1) ∧ (L 2 = true → v 17 = .bool true) ∧ (L 3 = true → v 18 = .bool false) ∧ (L 4 = true → v 19 = .bool false) ∧ (L 5 = true → v 20 = .pointer (some ⟨g, 1, none⟩)) ∧ (L 6 = true → v 21 = .int .i64 a2) ∧ (L 7 = true → v 22 = .bool false) ∧ (L 8 = true → v 23 = .bool false) ∧ (L 9 = true → v 24 = .bool false) ∧ (L 10 = true → v 25 = .pointer (some ⟨g, 1, none⟩)) ∧ (L 11 = true → v 26 = .int .i64 a2) ∧ (L 12 = true → v 27 = .bool false) ∧ (L 13 = true → v 28 = .bool false) ∧ (L 14 = true → v 29 = .bool false) ∧ (L 15 = true → v 30 = .pointer (some ⟨g, 2, none⟩)) ∧ (L 16 = true → v 31 = .int .i64 a3) ∧ (L 17 = true → v 32 = .bool true) ∧ (L 18 = true → v 33 = .bool true) ∧ (L 19 = true → v 34 = .bool true) ∧ (L 20 = true → v 35 = undef) ∧ (L 21 = true → v 36 = undef) ∧ (L 22 = true → v 37 = undef) ∧ (L 23 = true → v 38 = .bool true) ∧ (L 24 = true → v 39 = .bool true) ∧ (L 25 = true → v 40 = undef) ∧ (L 26 = true → v 41 = undef) ∧ (L 27 = true → v 42 = undef) ∧ (L 28 = true → v 43 = undef) ∧ (L 29 = true → v 44 = undef) ∧ (L 30 = true → v 45 = undef) ∧ (L 31 = true → v 46 = undef) ∧ (L 32 = true → v 47 = undef) ∧ (L 33 = true → v 48 = undef) ∧ (L 34 = true → v 49 = undef) ∧ (L 35 = true → v 50 = undef) ∧ (L 36 = true → v 51 = undef) ∧ (L 37 = true → v 52 = undef) ∧ (L 38 = true → v 53 = .bool true)) [15, 16, 17, 18, 19, 20, 21, 22, 23, 24, 25, 26, 27, 28, 29, 30, 31, 32, 33, 34, 35, 36, 37, 38, 39, 40, 41, 42, 43, 44, 45, 46, 47, 48, 49, 50, 51, 52, 53] (by kernel_rfl) (by kernel_rfl) (by kernel_rfl) (by kernel_rfl) ?h0 ?hst ?hend
        case h0 =>
          intro L h0
          have h0 : ∀ i, i < 39 → L i = false := h0
          exact ⟨rfl, rfl, rfl, (Below.refl _ _).drew,offF h0 (i := 0) (by decide),offF h0 (i := 1) (by decide),offF h0 (i := 2) (by decide),offF h0 (i := 3) (by decide),offF h0 (i := 4) (by decide),offF h0 (i := 5) (by decide),offF h0 (i := 6) (by decide),offF h0 (i := 7) (by decide),offF h0 (i := 8) (by decide),offF h0 (i := 9) (by decide),offF h0 (i := 10) (by decide),offF h0 (i := 11) (by decide),offF h0 (i := 12) (by decide),offF h0 (i := 13) (by decide),offF h0 (i := 14) (by decide),offF h0 (i := 15) (by decide),offF h0 (i := 16) (by decide),offF h0 (i := 17) (by decide),offF h0 (i := 18) (by decide),offF h0 (i := 19) (by decide),offF h0 (i := 20) (by decide),offF h0 (i := 21) (by decide),offF h0 (i := 22) (by decide),offF h0 (i := 23) (by decide),offF h0 (i := 24) (by decide),offF h0 (i := 25) (by decide),offF h0 (i := 26) (by decide),offF h0 (i := 27) (by decide),offF h0 (i := 28) (by decide),offF h0 (i := 29) (by decide),offF h0 (i := 30) (by decide),offF h0 (i := 31) (by decide),offF h0 (i := 32) (by decide),offF h0 (i := 33) (by decide),offF h0 (i := 34) (by decide),offF h0 (i := 35) (by decide),offF h0 (i := 36) (by decide),offF h0 (i := 37) (by decide),offF h0 (i := 38) (by decide)⟩
        case hst =>
          show FactSteps _ _ _ _ [0, 1, 2, 3, 4, 5, 6, 7, 8, 9, 10, 11, 12, 13, 14, 15, 16, 17, 18, 19, 20, 21, 22, 23, 24, 25, 26, 27, 28, 29, 30, 31, 32, 33, 34, 35, 36, 37, 38]
          refine @FactSteps.cons _ _ _ _ 0 _ [] _ rfl (by kernel_rfl) ?s0 ?_
          rotate_left
          refine @FactSteps.cons _ _ _ _ 1 _ [0] _ rfl (by kernel_rfl) ?s1 ?_
          rotate_left
          refine @FactSteps.cons _ _ _ _ 2 _ [1] _ rfl (by kernel_rfl) ?s2 ?_
          rotate_left
          refine @FactSteps.cons _ _ _ _ 3 _ [2] _ rfl (by kernel_rfl) ?s3 ?_
          rotate_left
          refine @FactSteps.cons _ _ _ _ 4 _ [3, 2] _ rfl (by kernel_rfl) ?s4 ?_
          rotate_left
          refine @FactSteps.cons _ _ _ _ 5 _ [4] _ rfl (by kernel_rfl) ?s5 ?_
          rotate_left
          refine @FactSteps.cons _ _ _ _ 6 _ [5, 4] _ rfl (by kernel_rfl) ?s6 ?_
          rotate_left
          refine @FactSteps.cons _ _ _ _ 7 _ [6, 4] _ rfl (by kernel_rfl) ?s7 ?_
          rotate_left
          refine @FactSteps.cons _ _ _ _ 8 _ [4, 7] _ rfl (by kernel_rfl) ?s8 ?_
          rotate_left
          refine @FactSteps.cons _ _ _ _ 9 _ [8, 4] _ rfl (by kernel_rfl) ?s9 ?_
          rotate_left
          refine @FactSteps.cons _ _ _ _ 10 _ [9] _ rfl (by kernel_rfl) ?s10 ?_
          rotate_left
          refine @FactSteps.cons _ _ _ _ 11 _ [10, 9] _ rfl (by kernel_rfl) ?s11 ?_
          rotate_left
          refine @FactSteps.cons _ _ _ _ 12 _ [11, 9] _ rfl (by kernel_rfl) ?s12 ?_
          rotate_left
          refine @FactSteps.cons _ _ _ _ 13 _ [9, 12] _ rfl (by kernel_rfl) ?s13 ?_
          rotate_left
          refine @FactSteps.cons _ _ _ _ 14 _ [13, 9] _ rfl (by kernel_rfl) ?s14 ?_
          rotate_left
          refine @FactSteps.cons _ _ _ _ 15 _ [14] _ rfl (by kernel_rfl) ?s15 ?_
          rotate_left
          refine @FactSteps.cons _ _ _ _ 16 _ [15, 14] _ rfl (by kernel_rfl) ?s16 ?_
          rotate_left
          refine @FactSteps.cons _ _ _ _ 17 _ [16, 14] _ rfl (by kernel_rfl) ?s17 ?_
          rotate_left
          refine @FactSteps.cons _ _ _ _ 18 _ [14, 17] _ rfl (by kernel_rfl) ?s18 ?_
          rotate_left
          refine @FactSteps.cons _ _ _ _ 19 _ [18, 14] _ rfl (by kernel_rfl) ?s19 ?_
          rotate_left
          refine @FactSteps.cons _ _ _ _ 20 _ [19] _ rfl (by kernel_rfl) ?s20 ?_
          rotate_left
          refine @FactSteps.cons _ _ _ _ 21 _ [20, 19] _ rfl (by kernel_rfl) ?s21 ?_
          rotate_left
          refine @FactSteps.cons _ _ _ _ 22 _ [21, 19] _ rfl (by kernel_rfl) ?s22 ?_
          rotate_left
          refine @FactSteps.cons _ _ _ _ 23 _ [19, 22] _ rfl (by kernel_rfl) ?s23 ?_
          rotate_left
          refine @FactSteps.cons _ _ _ _ 24 _ [23, 19] _ rfl (by kernel_rfl) ?s24 ?_
          rotate_left
          refine @FactSteps.cons _ _ _ _ 25 _ [24] _ rfl (by kernel_rfl) ?s25 ?_
          rotate_left
          refine @FactSteps.cons _ _ _ _ 26 _ [25, 24] _ rfl (by kernel_rfl) ?s26 ?_
          rotate_left
          refine @FactSteps.cons _ _ _ _ 27 _ [26, 24, 24] _ rfl (by kernel_rfl) ?s27 ?_
          rotate_left
          refine @FactSteps.cons _ _ _ _ 28 _ [27] _ rfl (by kernel_rfl) ?s28 ?_
          rotate_left
          refine @FactSteps.cons _ _ _ _ 29 _ [27] _ rfl (by kernel_rfl) ?s29 ?_
          rotate_left
          refine @FactSteps.cons _ _ _ _ 30 _ [29, 27] _ rfl (by kernel_rfl) ?s30 ?_
          rotate_left
          refine @FactSteps.cons _ _ _ _ 31 _ [28, 30, 27] _ rfl (by kernel_rfl) ?s31 ?_
          rotate_left
          refine @FactSteps.cons _ _ _ _ 32 _ [31, 27] _ rfl (by kernel_rfl) ?s32 ?_
          rotate_left
          refine @FactSteps.cons _ _ _ _ 33 _ [32, 27] _ rfl (by kernel_rfl) ?s33 ?_
          rotate_left
          refine @FactSteps.cons _ _ _ _ 34 _ [27] _ rfl (by kernel_rfl) ?s34 ?_
          rotate_left
          refine @FactSteps.cons _ _ _ _ 35 _ [34, 27] _ rfl (by kernel_rfl) ?s35 ?_
          rotate_left
          refine @FactSteps.cons _ _ _ _ 36 _ [33, 35, 27] _ rfl (by kernel_rfl) ?s36 ?_
          rotate_left
          refine @FactSteps.cons _ _ _ _ 37 _ [27, 36, 24] _ rfl (by kernel_rfl) ?s37 ?_
          rotate_left
          refine @FactSteps.cons _ _ _ _ 38 _ [24, 37] _ rfl (by kernel_rfl) ?s38 ?_
          rotate_left
          exact FactSteps.nil
          case s0 =>
            rintro L a v w hv hg hL hd hcl ⟨e0,e3,e4,hb,f0,f1,f2,f3,f4,f5,f6,f7,f8,f9,f10,f11,f12,f13,f14,f15,f16,f17,f18,f19,f20,f21,f22,f23,f24,f25,f26,f27,f28,f29,f30,f31,f32,f33,f34,f35,f36,f37,f38⟩ K hK
            refine step_do rfl ?_
            clear hv
            go_simp
            exact hK.out _ _ ⟨e0,e3,e4,hb,fun _ => rfl,f1,f2,f3,f4,f5,f6,f7,f8,f9,f10,f11,f12,f13,f14,f15,f16,f17,f18,f19,f20,f21,f22,f23,f24,f25,f26,f27,f28,f29,f30,f31,f32,f33,f34,f35,f36,f37,f38⟩
          case s1 =>
            rintro L a v w hv hg hL hd hcl ⟨e0,e3,e4,hb,f0,f1,f2,f3,f4,f5,f6,f7,f8,f9,f10,f11,f12,f13,f14,f15,f16,f17,f18,f19,f20,f21,f22,f23,f24,f25,f26,f27,f28,f29,f30,f31,f32,f33,f34,f35,f36,f37,f38⟩ K hK
            have g0 := f0 (hd 0 (by decide))
            have hc := (hb.cell (p := ⟨g, 0, none⟩) hgW).trans d0
            refine step_do rfl ?_
            clear hv
            go_simp
            exact hK.out _ _ ⟨e0,e3,e4,hb,f0,fun _ => rfl,f2,f3,f4,f5,f6,f7,f8,f9,f10,f11,f12,f13,f14,f15,f16,f17,f18,f19,f20,f21,f22,f23,f24,f25,f26,f27,f28,f29,f30,f31,f32,f33,f34,f35,f36,f37,f38⟩
          case s2 =>
            rintro L a v w hv hg hL hd hcl ⟨e0,e3,e4,hb,f0,f1,f2,f3,f4,f5,f6,f7,f8,f9,f10,f11,f12,f13,f14,f15,f16,f17,f18,f19,f20,f21,f22,f23,f24,f25,f26,f27,f28,f29,f30,f31,f32,f33,f34,f35,f36,f37,f38⟩ K hK
            have h1 := f1 (hd 1 (by decide))
            refine step_do rfl ?_
            clear hv
            go_simp
            refine (H1.out w).mono ?_
            rintro e wy ⟨rfl, bb⟩
            exact hK.out _ _ ⟨e0,e3,e4, (hb.trans (bb.mono hb.size)),f0,f1,fun _ => rfl,f3,f4,f5,f6,f7,f8,f9,f10,f11,f12,f13,f14,f15,f16,f17,f18,f19,f20,f21,f22,f23,f24,f25,f26,f27,f28,f29,f30,f31,f32,f33,f34,f35,f36,f37,f38⟩
          case s3 =>
            rintro L a v w hv hg hL hd hcl ⟨e0,e3,e4,hb,f0,f1,f2,f3,f4,f5,f6,f7,f8,f9,f10,f11,f12,f13,f14,f15,f16,f17,f18,f19,f20,f21,f22,f23,f24,f25,f26,f27,f28,f29,f30,f31,f32,f33,f34,f35,f36,f37,f38⟩ K hK
            refine step_do rfl ?_
            clear hv
            go_simp
            exact hK.out _ _ ⟨e0,e3,e4,hb,f0,f1,f2,fun _ => rfl,f4,f5,f6,f7,f8,f9,f10,f11,f12,f13,f14,f15,f16,f17,f18,f19,f20,f21,f22,f23,f24,f25,f26,f27,f28,f29,f30,f31,f32,f33,f34,f35,f36,f37,f38⟩
          case s4 =>
            rintro L a v w hv hg hL hd hcl ⟨e0,e3,e4,hb,f0,f1,f2,f3,f4,f5,f6,f7,f8,f9,f10,f11,f12,f13,f14,f15,f16,f17,f18,f19,f20,f21,f22,f23,f24,f25,f26,f27,f28,f29,f30,f31,f32,f33,f34,f35,f36,f37,f38⟩ K hK
            have g3 := f3 (hd 3 (by decide))
            refine step_do rfl ?_
            clear hv
            go_simp
            exact hK.out _ _ ⟨e0,e3,e4,hb,f0,f1,f2,f3,fun _ => rfl,f5,f6,f7,f8,f9,f10,f11,f12,f13,f14,f15,f16,f17,f18,f19,f20,f21,f22,f23,f24,f25,f26,f27,f28,f29,f30,f31,f32,f33,f34,f35,f36,f37,f38⟩
          case s5 =>
            rintro L a v w hv hg hL hd hcl ⟨e0,e3,e4,hb,f0,f1,f2,f3,f4,f5,f6,f7,f8,f9,f10,f11,f12,f13,f14,f15,f16,f17,f18,f19,f20,f21,f22,f23,f24,f25,f26,f27,f28,f29,f30,f31,f32,f33,f34,f35,f36,f37,f38⟩ K hK
            have g4 := f4 (hd 4 (by decide))
            refine step_want (j := 4) (s := 19) (b := false) rfl rfl ((hv 19).trans (f4 (hd 4 (by decide)))) ?_
            clear hv
            go_simp
            exact hK.out _ _ ⟨e0,e3,e4,hb,f0,f1,f2,f3,f4,fun _ => rfl,f6,f7,f8,f9,f10,f11,f12,f13,f14,f15,f16,f17,f18,f19,f20,f21,f22,f23,f24,f25,f26,f27,f28,f29,f30,f31,f32,f33,f34,f35,f36,f37,f38⟩
          case s6 =>
            rintro L a v w hv hg hL hd hcl ⟨e0,e3,e4,hb,f0,f1,f2,f3,f4,f5,f6,f7,f8,f9,f10,f11,f12,f13,f14,f15,f16,f17,f18,f19,f20,f21,f22,f23,f24,f25,f26,f27,f28,f29,f30,f31,f32,f33,f34,f35,f36,f37,f38⟩ K hK
            have g4 := f4 (hd 4 (by decide))
            have g5 := f5 (hd 5 (by decide))
            have hc := (hb.cell (p := ⟨g, 1, none⟩) hgW).trans d1
            refine step_want (j := 4) (s := 19) (b := false) rfl rfl ((hv 19).trans (f4 (hd 4 (by decide)))) ?_
            clear hv
            go_simp
            exact hK.out _ _ ⟨e0,e3,e4,hb,f0,f1,f2,f3,f4,f5,fun _ => rfl,f7,f8,f9,f10,f11,f12,f13,f14,f15,f16,f17,f18,f19,f20,f21,f22,f23,f24,f25,f26,f27,f28,f29,f30,f31,f32,f33,f34,f35,f36,f37,f38⟩
          case s7 =>
            rintro L a v w hv hg hL hd hcl ⟨e0,e3,e4,hb,f0,f1,f2,f3,f4,f5,f6,f7,f8,f9,f10,f11,f12,f13,f14,f15,f16,f17,f18,f19,f20,f21,f22,f23,f24,f25,f26,f27,f28,f29,f30,f31,f32,f33,f34,f35,f36,f37,f38⟩ K hK
            have g4 := f4 (hd 4 (by decide))
            have g6 := f6 (hd 6 (by decide))
            refine step_want (j := 4) (s := 19) (b := false) rfl rfl ((hv 19).trans (f4 (hd 4 (by decide)))) ?_
            clear hv
            go_simp
            exact hK.out _ _ ⟨e0,e3,e4,hb,f0,f1,f2,f3,f4,f5,f6,fun _ => rfl,f8,f9,f10,f11,f12,f13,f14,f15,f16,f17,f18,f19,f20,f21,f22,f23,f24,f25,f26,f27,f28,f29,f30,f31,f32,f33,f34,f35,f36,f37,f38⟩
          case s8 =>
            rintro L a v w hv hg hL hd hcl ⟨e0,e3,e4,hb,f0,f1,f2,f3,f4,f5,f6,f7,f8,f9,f10,f11,f12,f13,f14,f15,f16,f17,f18,f19,f20,f21,f22,f23,f24,f25,f26,f27,f28,f29,f30,f31,f32,f33,f34,f35,f36,f37,f38⟩ K hK
            have g4 := f4 (hd 4 (by decide))
            have g7 := f7 (hd 7 (by decide))
            refine step_do rfl ?_
            clear hv
            go_simp
            exact hK.out _ _ ⟨e0,e3,e4,hb,f0,f1,f2,f3,f4,f5,f6,f7,fun _ => rfl,f9,f10,f11,f12,f13,f14,f15,f16,f17,f18,f19,f20,f21,f22,f23,f24,f25,f26,f27,f28,f29,f30,f31,f32,f33,f34,f35,f36,f37,f38⟩
          case s9 =>
            rintro L a v w hv hg hL hd hcl ⟨e0,e3,e4,hb,f0,f1,f2,f3,f4,f5,f6,f7,f8,f9,f10,f11,f12,f13,f14,f15,f16,f17,f18,f19,f20,f21,f22,f23,f24,f25,f26,f27,f28,f29,f30,f31,f32,f33,f34,f35,f36,f37,f38⟩ K hK
            have g4 := f4 (hd 4 (by decide))
            have g8 := f8 (hd 8 (by decide))
            refine step_do rfl ?_
            clear hv
            go_simp
            exact hK.out _ _ ⟨e0,e3,e4,hb,f0,f1,f2,f3,f4,f5,f6,f7,f8,fun _ => rfl,f10,f11,f12,f13,f14,f15,f16,f17,f18,f19,f20,f21,f22,f23,f24,f25,f26,f27,f28,f29,f30,f31,f32,f33,f34,f35,f36,f37,f38⟩
          case s10 =>
            rintro L a v w hv hg hL hd hcl ⟨e0,e3,e4,hb,f0,f1,f2,f3,f4,f5,f6,f7,f8,f9,f10,f11,f12,f13,f14,f15,f16,f17,f18,f19,f20,f21,f22,f23,f24,f25,f26,f27,f28,f29,f30,f31,f32,f33,f34,f35,f36,f37,f38⟩ K hK
            have g9 := f9 (hd 9 (by decide))
            refine step_want (j := 9) (s := 24) (b := false) rfl rfl ((hv 24).trans (f9 (hd 9 (by decide)))) ?_
            clear hv
            go_simp
            exact hK.out _ _ ⟨e0,e3,e4,hb,f0,f1,f2,f3,f4,f5,f6,f7,f8,f9,fun _ => rfl,f11,f12,f13,f14,f15,f16,f17,f18,f19,f20,f21,f22,f23,f24,f25,f26,f27,f28,f29,f30,f31,f32,f33,f34,f35,f36,f37,f38⟩
          case s11 =>
            rintro L a v w hv hg hL hd hcl ⟨e0,e3,e4,hb,f0,f1,f2,f3,f4,f5,f6,f7,f8,f9,f10,f11,f12,f13,f14,f15,f16,f17,f18,f19,f20,f21,f22,f23,f24,f25,f26,f27,f28,f29,f30,f31,f32,f33,f34,f35,f36,f37,f38⟩ K hK
            have g9 := f9 (hd 9 (by decide))
            have g10 := f10 (hd 10 (by decide))
            have hc := (hb.cell (p := ⟨g, 1, none⟩) hgW).trans d1
            refine step_want (j := 9) (s := 24) (b := false) rfl rfl ((hv 24).trans (f9 (hd 9 (by decide)))) ?_
            clear hv
            go_simp
            exact hK.out _ _ ⟨e0,e3,e4,hb,f0,f1,f2,f3,f4,f5,f6,f7,f8,f9,f10,fun _ => rfl,f12,f13,f14,f15,f16,f17,f18,f19,f20,f21,f22,f23,f24,f25,f26,f27,f28,f29,f30,f31,f32,f33,f34,f35,f36,f37,f38⟩
          case s12 =>
            rintro L a v w hv hg hL hd hcl ⟨e0,e3,e4,hb,f0,f1,f2,f3,f4,f5,f6,f7,f8,f9,f10,f11,f12,f13,f14,f15,f16,f17,f18,f19,f20,f21,f22,f23,f24,f25,f26,f27,f28,f29,f30,f31,f32,f33,f34,f35,f36,f37,f38⟩ K hK
            have g9 := f9 (hd 9 (by decide))
            have g11 := f11 (hd 11 (by decide))
            refine step_want (j := 9) (s := 24) (b := false) rfl rfl ((hv 24).trans (f9 (hd 9 (by decide)))) ?_
            clear hv
            go_simp
            exact hK.out _ _ ⟨e0,e3,e4,hb,f0,f1,f2,f3,f4,f5,f6,f7,f8,f9,f10,f11,fun _ => rfl,f13,f14,f15,f16,f17,f18,f19,f20,f21,f22,f23,f24,f25,f26,f27,f28,f29,f30,f31,f32,f33,f34,f35,f36,f37,f38⟩
          case s13 =>
            rintro L a v w hv hg hL hd hcl ⟨e0,e3,e4,hb,f0,f1,f2,f3,f4,f5,f6,f7,f8,f9,f10,f11,f12,f13,f14,f15,f16,f17,f18,f19,f20,f21,f22,f23,f24,f25,f26,f27,f28,f29,f30,f31,f32,f33,f34,f35,f36,f37,f38⟩ K hK
            have g9 := f9 (hd 9 (by decide))
            have g12 := f12 (hd 12 (by decide))
            refine step_do rfl ?_
            clear hv
            go_simp
            exact hK.out _ _ ⟨e0,e3,e4,hb,f0,f1,f2,f3,f4,f5,f6,f7,f8,f9,f10,f11,f12,fun _ => rfl,f14,f15,f16,f17,f18,f19,f20,f21,f22,f23,f24,f25,f26,f27,f28,f29,f30,f31,f32,f33,f34,f35,f36,f37,f38⟩
          case s14 =>
            rintro L a v w hv hg hL hd hcl ⟨e0,e3,e4,hb,f0,f1,f2,f3,f4,f5,f6,f7,f8,f9,f10,f11,f12,f13,f14,f15,f16,f17,f18,f19,f20,f21,f22,f23,f24,f25,f26,f27,f28,f29,f30,f31,f32,f33,f34,f35,f36,f37,f38⟩ K hK
            have g9 := f9 (hd 9 (by decide))
            have g13 := f13 (hd 13 (by decide))
            refine step_do rfl ?_
            clear hv
            go_simp
            exact hK.out _ _ ⟨e0,e3,e4,hb,f0,f1,f2,f3,f4,f5,f6,f7,f8,f9,f10,f11,f12,f13,fun _ => rfl,f15,f16,f17,f18,f19,f20,f21,f22,f23,f24,f25,f26,f27,f28,f29,f30,f31,f32,f33,f34,f35,f36,f37,f38⟩
          case s15 =>
            rintro L a v w hv hg hL hd hcl ⟨e0,e3,e4,hb,f0,f1,f2,f3,f4,f5,f6,f7,f8,f9,f10,f11,f12,f13,f14,f15,f16,f17,f18,f19,f20,f21,f22,f23,f24,f25,f26,f27,f28,f29,f30,f31,f32,f33,f34,f35,f36,f37,f38⟩ K hK
            have g14 := f14 (hd 14 (by decide))
            refine step_want (j := 14) (s := 29) (b := false) rfl rfl ((hv 29).trans (f14 (hd 14 (by decide)))) ?_
            clear hv
            go_simp
            exact hK.out _ _ ⟨e0,e3,e4,hb,f0,f1,f2,f3,f4,f5,f6,f7,f8,f9,f10,f11,f12,f13,f14,fun _ => rfl,f16,f17,f18,f19,f20,f21,f22,f23,f24,f25,f26,f27,f28,f29,f30,f31,f32,f33,f34,f35,f36,f37,f38⟩
          case s16 =>
            rintro L a v w hv hg hL hd hcl ⟨e0,e3,e4,hb,f0,f1,f2,f3,f4,f5,f6,f7,f8,f9,f10,f11,f12,f13,f14,f15,f16,f17,f18,f19,f20,f21,f22,f23,f24,f25,f26,f27,f28,f29,f30,f31,f32,f33,f34,f35,f36,f37,f38⟩ K hK
            have g14 := f14 (hd 14 (by decide))
            have g15 := f15 (hd 15 (by decide))
            have hc := (hb.cell (p := ⟨g, 2, none⟩) hgW).trans d2
            refine step_want (j := 14) (s := 29) (b := false) rfl rfl ((hv 29).trans (f14 (hd 14 (by decide)))) ?_
            clear hv
            go_simp
            exact hK.out _ _ ⟨e0,e3,e4,hb,f0,f1,f2,f3,f4,f5,f6,f7,f8,f9,f10,f11,f12,f13,f14,f15,fun _ => rfl,f17,f18,f19,f20,f21,f22,f23,f24,f25,f26,f27,f28,f29,f30,f31,f32,f33,f34,f35,f36,f37,f38⟩
          case s17 =>
            rintro L a v w hv hg hL hd hcl ⟨e0,e3,e4,hb,f0,f1,f2,f3,f4,f5,f6,f7,f8,f9,f10,f11,f12,f13,f14,f15,f16,f17,f18,f19,f20,f21,f22,f23,f24,f25,f26,f27,f28,f29,f30,f31,f32,f33,f34,f35,f36,f37,f38⟩ K hK
            have g14 := f14 (hd 14 (by decide))
            have g16 := f16 (hd 16 (by decide))
            refine step_want (j := 14) (s := 29) (b := false) rfl rfl ((hv 29).trans (f14 (hd 14 (by decide)))) ?_
            clear hv
            go_simp
            exact hK.out _ _ ⟨e0,e3,e4,hb,f0,f1,f2,f3,f4,f5,f6,f7,f8,f9,f10,f11,f12,f13,f14,f15,f16,fun _ => rfl,f18,f19,f20,f21,f22,f23,f24,f25,f26,f27,f28,f29,f30,f31,f32,f33,f34,f35,f36,f37,f38⟩
          case s18 =>
            rintro L a v w hv hg hL hd hcl ⟨e0,e3,e4,hb,f0,f1,f2,f3,f4,f5,f6,f7,f8,f9,f10,f11,f12,f13,f14,f15,f16,f17,f18,f19,f20,f21,f22,f23,f24,f25,f26,f27,f28,f29,f30,f31,f32,f33,f34,f35,f36,f37,f38⟩ K hK
            have g14 := f14 (hd 14 (by decide))
            have g17 := f17 (hd 17 (by decide))
            refine step_do rfl ?_
            clear hv
            go_simp
            exact hK.out _ _ ⟨e0,e3,e4,hb,f0,f1,f2,f3,f4,f5,f6,f7,f8,f9,f10,f11,f12,f13,f14,f15,f16,f17,fun _ => rfl,f19,f20,f21,f22,f23,f24,f25,f26,f27,f28,f29,f30,f31,f32,f33,f34,f35,f36,f37,f38⟩
          case s19 =>
            rintro L a v w hv hg hL hd hcl ⟨e0,e3,e4,hb,f0,f1,f2,f3,f4,f5,f6,f7,f8,f9,f10,f11,f12,f13,f14,f15,f16,f17,f18,f19,f20,f21,f22,f23,f24,f25,f26,f27,f28,f29,f30,f31,f32,f33,f34,f35,f36,f37,f38⟩ K hK
            have g14 := f14 (hd 14 (by decide))
            have g18 := f18 (hd 18 (by decide))
            refine step_do rfl ?_
            clear hv
            go_simp
            exact hK.out _ _ ⟨e0,e3,e4,hb,f0,f1,f2,f3,f4,f5,f6,f7,f8,f9,f10,f11,f12,f13,f14,f15,f16,f17,f18,fun _ => rfl,f20,f21,f22,f23,f24,f25,f26,f27,f28,f29,f30,f31,f32,f33,f34,f35,f36,f37,f38⟩
          case s20 =>
            rintro L a v w hv hg hL hd hcl ⟨e0,e3,e4,hb,f0,f1,f2,f3,f4,f5,f6,f7,f8,f9,f10,f11,f12,f13,f14,f15,f16,f17,f18,f19,f20,f21,f22,f23,f24,f25,f26,f27,f28,f29,f30,f31,f32,f33,f34,f35,f36,f37,f38⟩ K hK
            refine step_skip (j := 19) (s := 34) (b := true) rfl rfl ((hv 34).trans (f19 (hd 19 (by decide)))) (by decide) ?_
            exact hK.out _ _ ⟨e0,e3,e4,hb,f0,f1,f2,f3,f4,f5,f6,f7,f8,f9,f10,f11,f12,f13,f14,f15,f16,f17,f18,f19,fun _ => rfl,f21,f22,f23,f24,f25,f26,f27,f28,f29,f30,f31,f32,f33,f34,f35,f36,f37,f38⟩
          case s21 =>
            rintro L a v w hv hg hL hd hcl ⟨e0,e3,e4,hb,f0,f1,f2,f3,f4,f5,f6,f7,f8,f9,f10,f11,f12,f13,f14,f15,f16,f17,f18,f19,f20,f21,f22,f23,f24,f25,f26,f27,f28,f29,f30,f31,f32,f33,f34,f35,f36,f37,f38⟩ K hK
            refine step_skip (j := 19) (s := 34) (b := true) rfl rfl ((hv 34).trans (f19 (hd 19 (by decide)))) (by decide) ?_
            exact hK.out _ _ ⟨e0,e3,e4,hb,f0,f1,f2,f3,f4,f5,f6,f7,f8,f9,f10,f11,f12,f13,f14,f15,f16,f17,f18,f19,f20,fun _ => rfl,f22,f23,f24,f25,f26,f27,f28,f29,f30,f31,f32,f33,f34,f35,f36,f37,f38⟩
          case s22 =>
            rintro L a v w hv hg hL hd hcl ⟨e0,e3,e4,hb,f0,f1,f2,f3,f4,f5,f6,f7,f8,f9,f10,f11,f12,f13,f14,f15,f16,f17,f18,f19,f20,f21,f22,f23,f24,f25,f26,f27,f28,f29,f30,f31,f32,f33,f34,f35,f36,f37,f38⟩ K hK
            refine step_skip (j := 19) (s := 34) (b := true) rfl rfl ((hv 34).trans (f19 (hd 19 (by decide)))) (by decide) ?_
            exact hK.out _ _ ⟨e0,e3,e4,hb,f0,f1,f2,f3,f4,f5,f6,f7,f8,f9,f10,f11,f12,f13,f14,f15,f16,f17,f18,f19,f20,f21,fun _ => rfl,f23,f24,f25,f26,f27,f28,f29,f30,f31,f32,f33,f34,f35,f36,f37,f38⟩
          case s23 =>
            rintro L a v w hv hg hL hd hcl ⟨e0,e3,e4,hb,f0,f1,f2,f3,f4,f5,f6,f7,f8,f9,f10,f11,f12,f13,f14,f15,f16,f17,f18,f19,f20,f21,f22,f23,f24,f25,f26,f27,f28,f29,f30,f31,f32,f33,f34,f35,f36,f37,f38⟩ K hK
            have g19 := f19 (hd 19 (by decide))
            refine step_do rfl ?_
            clear hv
            go_simp
            exact hK.out _ _ ⟨e0,e3,e4,hb,f0,f1,f2,f3,f4,f5,f6,f7,f8,f9,f10,f11,f12,f13,f14,f15,f16,f17,f18,f19,f20,f21,f22,fun _ => rfl,f24,f25,f26,f27,f28,f29,f30,f31,f32,f33,f34,f35,f36,f37,f38⟩
          case s24 =>
            rintro L a v w hv hg hL hd hcl ⟨e0,e3,e4,hb,f0,f1,f2,f3,f4,f5,f6,f7,f8,f9,f10,f11,f12,f13,f14,f15,f16,f17,f18,f19,f20,f21,f22,f23,f24,f25,f26,f27,f28,f29,f30,f31,f32,f33,f34,f35,f36,f37,f38⟩ K hK
            have g19 := f19 (hd 19 (by decide))
            have g23 := f23 (hd 23 (by decide))
            refine step_do rfl ?_
            clear hv
            go_simp
            exact hK.out _ _ ⟨e0,e3,e4,hb,f0,f1,f2,f3,f4,f5,f6,f7,f8,f9,f10,f11,f12,f13,f14,f15,f16,f17,f18,f19,f20,f21,f22,f23,fun _ => rfl,f25,f26,f27,f28,f29,f30,f31,f32,f33,f34,f35,f36,f37,f38⟩
          case s25 =>
            rintro L a v w hv hg hL hd hcl ⟨e0,e3,e4,hb,f0,f1,f2,f3,f4,f5,f6,f7,f8,f9,f10,f11,f12,f13,f14,f15,f16,f17,f18,f19,f20,f21,f22,f23,f24,f25,f26,f27,f28,f29,f30,f31,f32,f33,f34,f35,f36,f37,f38⟩ K hK
            refine step_skip (j := 24) (s := 39) (b := true) rfl rfl ((hv 39).trans (f24 (hd 24 (by decide)))) (by decide) ?_
            exact hK.out _ _ ⟨e0,e3,e4,hb,f0,f1,f2,f3,f4,f5,f6,f7,f8,f9,f10,f11,f12,f13,f14,f15,f16,f17,f18,f19,f20,f21,f22,f23,f24,fun _ => rfl,f26,f27,f28,f29,f30,f31,f32,f33,f34,f35,f36,f37,f38⟩
          case s26 =>
            rintro L a v w hv hg hL hd hcl ⟨e0,e3,e4,hb,f0,f1,f2,f3,f4,f5,f6,f7,f8,f9,f10,f11,f12,f13,f14,f15,f16,f17,f18,f19,f20,f21,f22,f23,f24,f25,f26,f27,f28,f29,f30,f31,f32,f33,f34,f35,f36,f37,f38⟩ K hK
            refine step_skip (j := 24) (s := 39) (b := true) rfl rfl ((hv 39).trans (f24 (hd 24 (by decide)))) (by decide) ?_
            exact hK.out _ _ ⟨e0,e3,e4,hb,f0,f1,f2,f3,f4,f5,f6,f7,f8,f9,f10,f11,f12,f13,f14,f15,f16,f17,f18,f19,f20,f21,f22,f23,f24,f25,fun _ => rfl,f27,f28,f29,f30,f31,f32,f33,f34,f35,f36,f37,f38⟩
          case s27 =>
            rintro L a v w hv hg hL hd hcl ⟨e0,e3,e4,hb,f0,f1,f2,f3,f4,f5,f6,f7,f8,f9,f10,f11,f12,f13,f14,f15,f16,f17,f18,f19,f20,f21,f22,f23,f24,f25,f26,f27,f28,f29,f30,f31,f32,f33,f34,f35,f36,f37,f38⟩ K hK
            refine step_skip (j := 24) (s := 39) (b := true) rfl rfl ((hv 39).trans (f24 (hd 24 (by decide)))) (by decide) ?_
            exact hK.out _ _ ⟨e0,e3,e4,hb,f0,f1,f2,f3,f4,f5,f6,f7,f8,f9,f10,f11,f12,f13,f14,f15,f16,f17,f18,f19,f20,f21,f22,f23,f24,f25,f26,fun _ => rfl,f28,f29,f30,f31,f32,f33,f34,f35,f36,f37,f38⟩
          case s28 =>
            rintro L a v w hv hg hL hd hcl ⟨e0,e3,e4,hb,f0,f1,f2,f3,f4,f5,f6,f7,f8,f9,f10,f11,f12,f13,f14,f15,f16,f17,f18,f19,f20,f21,f22,f23,f24,f25,f26,f27,f28,f29,f30,f31,f32,f33,f34,f35,f36,f37,f38⟩ K hK
            refine step_skipU (j := 27) (s := 42) rfl rfl ((hv 42).trans (f27 (hd 27 (by decide)))) ?_
            exact hK.out _ _ ⟨e0,e3,e4,hb,f0,f1,f2,f3,f4,f5,f6,f7,f8,f9,f10,f11,f12,f13,f14,f15,f16,f17,f18,f19,f20,f21,f22,f23,f24,f25,f26,f27,fun _ => rfl,f29,f30,f31,f32,f33,f34,f35,f36,f37,f38⟩
          case s29 =>
            rintro L a v w hv hg hL hd hcl ⟨e0,e3,e4,hb,f0,f1,f2,f3,f4,f5,f6,f7,f8,f9,f10,f11,f12,f13,f14,f15,f16,f17,f18,f19,f20,f21,f22,f23,f24,f25,f26,f27,f28,f29,f30,f31,f32,f33,f34,f35,f36,f37,f38⟩ K hK
            refine step_skipU (j := 27) (s := 42) rfl rfl ((hv 42).trans (f27 (hd 27 (by decide)))) ?_
            exact hK.out _ _ ⟨e0,e3,e4,hb,f0,f1,f2,f3,f4,f5,f6,f7,f8,f9,f10,f11,f12,f13,f14,f15,f16,f17,f18,f19,f20,f21,f22,f23,f24,f25,f26,f27,f28,fun _ => rfl,f30,f31,f32,f33,f34,f35,f36,f37,f38⟩
          case s30 =>
            rintro L a v w hv hg hL hd hcl ⟨e0,e3,e4,hb,f0,f1,f2,f3,f4,f5,f6,f7,f8,f9,f10,f11,f12,f13,f14,f15,f16,f17,f18,f19,f20,f21,f22,f23,f24,f25,f26,f27,f28,f29,f30,f31,f32,f33,f34,f35,f36,f37,f38⟩ K hK
            refine step_skipU (j := 27) (s := 42) rfl rfl ((hv 42).trans (f27 (hd 27 (by decide)))) ?_
            exact hK.out _ _ ⟨e0,e3,e4,hb,f0,f1,f2,f3,f4,f5,f6,f7,f8,f9,f10,f11,f12,f13,f14,f15,f16,f17,f18,f19,f20,f21,f22,f23,f24,f25,f26,f27,f28,f29,fun _ => rfl,f31,f32,f33,f34,f35,f36,f37,f38⟩
          case s31 =>
            rintro L a v w hv hg hL hd hcl ⟨e0,e3,e4,hb,f0,f1,f2,f3,f4,f5,f6,f7,f8,f9,f10,f11,f12,f13,f14,f15,f16,f17,f18,f19,f20,f21,f22,f23,f24,f25,f26,f27,f28,f29,f30,f31,f32,f33,f34,f35,f36,f37,f38⟩ K hK
            refine step_skipU (j := 27) (s := 42) rfl rfl ((hv 42).trans (f27 (hd 27 (by decide)))) ?_
            exact hK.out _ _ ⟨e0,e3,e4,hb,f0,f1,f2,f3,f4,f5,f6,f7,f8,f9,f10,f11,f12,f13,f14,f15,f16,f17,f18,f19,f20,f21,f22,f23,f24,f25,f26,f27,f28,f29,f30,fun _ => rfl,f32,f33,f34,f35,f36,f37,f38⟩
          case s32 =>
            rintro L a v w hv hg hL hd hcl ⟨e0,e3,e4,hb,f0,f1,f2,f3,f4,f5,f6,f7,f8,f9,f10,f11,f12,f13,f14,f15,f16,f17,f18,f19,f20,f21,f22,f23,f24,f25,f26,f27,f28,f29,f30,f31,f32,f33,f34,f35,f36,f37,f38⟩ K hK
            refine step_skipU (j := 27) (s := 42) rfl rfl ((hv 42).trans (f27 (hd 27 (by decide)))) ?_
            exact hK.out _ _ ⟨e0,e3,e4,hb,f0,f1,f2,f3,f4,f5,f6,f7,f8,f9,f10,f11,f12,f13,f14,f15,f16,f17,f18,f19,f20,f21,f22,f23,f24,f25,f26,f27,f28,f29,f30,f31,fun _ => rfl,f33,f34,f35,f36,f37,f38⟩
          case s33 =>
            rintro L a v w hv hg hL hd hcl ⟨e0,e3,e4,hb,f0,f1,f2,f3,f4,f5,f6,f7,f8,f9,f10,f11,f12,f13,f14,f15,f16,f17,f18,f19,f20,f21,f22,f23,f24,f25,f26,f27,f28,f29,f30,f31,f32,f33,f34,f35,f36,f37,f38⟩ K hK
            refine step_skipU (j := 27) (s := 42) rfl rfl ((hv 42).trans (f27 (hd 27 (by decide)))) ?_
            exact hK.out _ _ ⟨e0,e3,e4,hb,f0,f1,f2,f3,f4,f5,f6,f7,f8,f9,f10,f11,f12,f13,f14,f15,f16,f17,f18,f19,f20,f21,f22,f23,f24,f25,f26,f27,f28,f29,f30,f31,f32,fun _ => rfl,f34,f35,f36,f37,f38⟩
          case s34 =>
            rintro L a v w hv hg hL hd hcl ⟨e0,e3,e4,hb,f0,f1,f2,f3,f4,f5,f6,f7,f8,f9,f10,f11,f12,f13,f14,f15,f16,f17,f18,f19,f20,f21,f22,f23,f24,f25,f26,f27,f28,f29,f30,f31,f32,f33,f34,f35,f36,f37,f38⟩ K hK
            refine step_skipU (j := 27) (s := 42) rfl rfl ((hv 42).trans (f27 (hd 27 (by decide)))) ?_
            exact hK.out _ _ ⟨e0,e3,e4,hb,f0,f1,f2,f3,f4,f5,f6,f7,f8,f9,f10,f11,f12,f13,f14,f15,f16,f17,f18,f19,f20,f21,f22,f23,f24,f25,f26,f27,f28,f29,f30,f31,f32,f33,fun _ => rfl,f35,f36,f37,f38⟩
          case s35 =>
            rintro L a v w hv hg hL hd hcl ⟨e0,e3,e4,hb,f0,f1,f2,f3,f4,f5,f6,f7,f8,f9,f10,f11,f12,f13,f14,f15,f16,f17,f18,f19,f20,f21,f22,f23,f24,f25,f26,f27,f28,f29,f30,f31,f32,f33,f34,f35,f36,f37,f38⟩ K hK
            refine step_skipU (j := 27) (s := 42) rfl rfl ((hv 42).trans (f27 (hd 27 (by decide)))) ?_
            exact hK.out _ _ ⟨e0,e3,e4,hb,f0,f1,f2,f3,f4,f5,f6,f7,f8,f9,f10,f11,f12,f13,f14,f15,f16,f17,f18,f19,f20,f21,f22,f23,f24,f25,f26,f27,f28,f29,f30,f31,f32,f33,f34,fun _ => rfl,f36,f37,f38⟩
          case s36 =>
            rintro L a v w hv hg hL hd hcl ⟨e0,e3,e4,hb,f0,f1,f2,f3,f4,f5,f6,f7,f8,f9,f10,f11,f12,f13,f14,f15,f16,f17,f18,f19,f20,f21,f22,f23,f24,f25,f26,f27,f28,f29,f30,f31,f32,f33,f34,f35,f36,f37,f38⟩ K hK
            refine step_skipU (j := 27) (s := 42) rfl rfl ((hv 42).trans (f27 (hd 27 (by decide)))) ?_
            exact hK.out _ _ ⟨e0,e3,e4,hb,f0,f1,f2,f3,f4,f5,f6,f7,f8,f9,f10,f11,f12,f13,f14,f15,f16,f17,f18,f19,f20,f21,f22,f23,f24,f25,f26,f27,f28,f29,f30,f31,f32,f33,f34,f35,fun _ => rfl,f37,f38⟩
          case s37 =>
            rintro L a v w hv hg hL hd hcl ⟨e0,e3,e4,hb,f0,f1,f2,f3,f4,f5,f6,f7,f8,f9,f10,f11,f12,f13,f14,f15,f16,f17,f18,f19,f20,f21,f22,f23,f24,f25,f26,f27,f28,f29,f30,f31,f32,f33,f34,f35,f36,f37,f38⟩ K hK
            refine step_skip (j := 24) (s := 39) (b := true) rfl rfl ((hv 39).trans (f24 (hd 24 (by decide)))) (by decide) ?_
            exact hK.out _ _ ⟨e0,e3,e4,hb,f0,f1,f2,f3,f4,f5,f6,f7,f8,f9,f10,f11,f12,f13,f14,f15,f16,f17,f18,f19,f20,f21,f22,f23,f24,f25,f26,f27,f28,f29,f30,f31,f32,f33,f34,f35,f36,fun _ => rfl,f38⟩
          case s38 =>
            rintro L a v w hv hg hL hd hcl ⟨e0,e3,e4,hb,f0,f1,f2,f3,f4,f5,f6,f7,f8,f9,f10,f11,f12,f13,f14,f15,f16,f17,f18,f19,f20,f21,f22,f23,f24,f25,f26,f27,f28,f29,f30,f31,f32,f33,f34,f35,f36,f37,f38⟩ K hK
            have g24 := f24 (hd 24 (by decide))
            refine step_do rfl ?_
            clear hv
            go_simp
            exact hK.out _ _ ⟨e0,e3,e4,hb,f0,f1,f2,f3,f4,f5,f6,f7,f8,f9,f10,f11,f12,f13,f14,f15,f16,f17,f18,f19,f20,f21,f22,f23,f24,f25,f26,f27,f28,f29,f30,f31,f32,f33,f34,f35,f36,f37,fun _ => rfl⟩
        case hend =>
        rintro L v wx hall ⟨e0,e3,e4,hb,f0,f1,f2,f3,f4,f5,f6,f7,f8,f9,f10,f11,f12,f13,f14,f15,f16,f17,f18,f19,f20,f21,f22,f23,f24,f25,f26,f27,f28,f29,f30,f31,f32,f33,f34,f35,f36,f37,f38⟩
        have hL : ∀ i, i < 39 → L i = true := hall
        have f0 := f0 (hL 0 (by decide))
        have f1 := f1 (hL 1 (by decide))
        have f2 := f2 (hL 2 (by decide))
        have f3 := f3 (hL 3 (by decide))
        have f4 := f4 (hL 4 (by decide))
        have f5 := f5 (hL 5 (by decide))
        have f6 := f6 (hL 6 (by decide))
        have f7 := f7 (hL 7 (by decide))
        have f8 := f8 (hL 8 (by decide))
        have f9 := f9 (hL 9 (by decide))
        have f10 := f10 (hL 10 (by decide))
        have f11 := f11 (hL 11 (by decide))
        have f12 := f12 (hL 12 (by decide))
        have f13 := f13 (hL 13 (by decide))
        have f14 := f14 (hL 14 (by decide))
        have f15 := f15 (hL 15 (by decide))
        have f16 := f16 (hL 16 (by decide))
        have f17 := f17 (hL 17 (by decide))
        have f18 := f18 (hL 18 (by decide))
        have f19 := f19 (hL 19 (by decide))
        have f20 := f20 (hL 20 (by decide))
        have f21 := f21 (hL 21 (by decide))
        have f22 := f22 (hL 22 (by decide))
        have f23 := f23 (hL 23 (by decide))
        have f24 := f24 (hL 24 (by decide))
        have f25 := f25 (hL 25 (by decide))
        have f26 := f26 (hL 26 (by decide))
        have f27 := f27 (hL 27 (by decide))
        have f28 := f28 (hL 28 (by decide))
        have f29 := f29 (hL 29 (by decide))
        have f30 := f30 (hL 30 (by decide))
        have f31 := f31 (hL 31 (by decide))
        have f32 := f32 (hL 32 (by decide))
        have f33 := f33 (hL 33 (by decide))
        have f34 := f34 (hL 34 (by decide))
        have f35 := f35 (hL 35 (by decide))
        have f36 := f36 (hL 36 (by decide))
        have f37 := f37 (hL 37 (by decide))
        have f38 := f38 (hL 38 (by decide))
        simp only [finA, List.foldl_cons, List.foldl_nil, Act.put, List.setIfInBounds_toArray, List.set_cons_succ, List.set_cons_zero, f0, f1, f3, f4, f5, f6, f7, f8, f9, f10, f11, f12, f13, f14, f15, f16, f17, f18, f19, f20, f21, f22, f23, f24, f25, f26, f27, f28, f29, f30, f31, f32, f33, f34, f35, f36, f37, f38, f2]
        have gb := gb.trans (hb.mono gb.size)
        clear e0 e3 e4 f0 f1 f2 f3 f4 f5 f6 f7 f8 f9 f10 f11 f12 f13 f14 f15 f16 f17 f18 f19 f20 f21 f22 f23 f24 f25 f26 f27 f28 f29 f30 f31 f32 f33 f34 f35 f36 f37 f38 hL hall
        go_wp2_with fail
        go_ret
        exact ⟨rfl, gb⟩
      by_cases hz1 : (1099511627776 : Int) < a3
      · have hr : R = false := by rw [HR.out]; exact HB.out (by rw [HME.out, show inB a3 0 1099511627776 = false by rw [Bool.eq_false_iff]; intro h; have := (inB_iff _ _ _).1 h; omega]; simp)
        subst hr
        clear HR
        refine wp_region_facts (fun L v w => v 0 = .slice (some aa) n c ∧ v 3 = .int .i64 k ∧ v 4 = .pointer (some ⟨g, 0, none⟩) ∧ Below W.heap.size W w ∧ (L 0 = true → v 15 = .pointer (some ⟨g, 0, none⟩)) ∧ (L 1 = true → v 16 = .int .i64 a1) ∧ (L 2 = true → v 17 = .bool true) ∧ (L 3 = true → v 18 = .bool false) ∧ (L 4 = true → v 19 = .bool false) ∧ (L 5 = true → v 20 = .pointer (some ⟨g, 1, none⟩)) ∧ (L 6 = true → v 21 = .int .i64 a2) ∧ (L 7 = true → v 22 = .bool false) ∧ (L 8 = true → v 23 = .bool false) ∧ (L 9 = true → v 24 = .bool false) ∧ (L 10 = true → v 25 = .pointer (some ⟨g, 1, none⟩)) ∧ (L 11 = true → v 26 = .int .i64 a2) ∧ (L 12 = true → v 27 = .bool false) ∧ (L 13 = true → v 28 = .bool false) ∧ (L 14 = true → v 29 = .bool false) ∧ (L 15 = true → v 30 = .pointer (some ⟨g, 2, none⟩)) ∧ (L 16 = true → v 31 = .int .i64 a3) ∧ (L 17 = true → v 32 = .bool false) ∧ (L 18 = true → v 33 = .bool false) ∧ (L 19 = true → v 34 = .bool false) ∧ (L 20 = true → v 35 = .pointer (some ⟨g, 2, none⟩)) ∧ (L 21 = true → v 36 = .int .i64 a3) ∧ (L 22 = true → v 37 = .bool true) ∧ (L 23 = true → v 38 = .bool true) ∧ (L 24 = true → v 39 = .bool true) ∧ (L 25 = true → v 40 = undef) ∧ (L 26 = true → v 41 = undef) ∧ (L 27 = true → v 42 = undef) ∧ (L 28 = true → v 43 = undef) ∧ (L 29 = true → v 44 = undef) ∧ (L 30 = true → v 45 = undef) ∧ (L 31 = true → v 46 = undef) ∧ (L 32 = true → v 47 = undef) ∧ (L 33 = true → v 48 = undef) ∧ (L 34 = true → v 49 = undef) ∧ (L 35 = true → v 50 = undef) ∧ (L 36 = true → v 51 = undef) ∧ (L 37 = true → v 52 = undef) ∧ (L 38 = true → v 53 = .bool true)) [15, 16, 17, 18, 19, 20, 21, 22, 23, 24, 25, 26, 27, 28, 29, 30, 31, 32, 33, 34, 35, 36, 37, 38, 39, 40, 41, 42, 43, 44, 45, 46, 47, 48, 49, 50, 51, 52, 53] (by kernel_rfl) (by kernel_rfl) (by kernel_rfl) (by kernel_rfl) ?h0 ?hst ?hend
        case h0 =>
          intro L h0
          have h0 : ∀ i, i < 39 → L i = false := h0
          exact ⟨rfl, rfl, rfl, (Below.refl _ _).drew,offF h0 (i := 0) (by decide),offF h0 (i := 1) (by decide),offF h0 (i := 2) (by decide),offF h0 (i := 3) (by decide),offF h0 (i := 4) (by decide),offF h0 (i := 5) (by decide),offF h0 (i := 6) (by decide),offF h0 (i := 7) (by decide),offF h0 (i := 8) (by decide),offF h0 (i := 9) (by decide),offF h0 (i := 10) (by decide),offF h0 (i := 11) (by decide),offF h0 (i := 12) (by decide),offF h0 (i := 13) (by decide),offF h0 (i := 14) (by decide),offF h0 (i := 15) (by decide),offF h0 (i := 16) (by decide),offF h0 (i := 17) (by decide),offF h0 (i := 18) (by decide),offF h0 (i := 19) (by decide),offF h0 (i := 20) (by decide),offF h0 (i := 21) (by decide),offF h0 (i := 22) (by decide),offF h0 (i := 23) (by decide),offF h0 (i := 24) (by decide),offF h0 (i := 25) (by decide),offF h0 (i := 26) (by decide),offF h0 (i := 27) (by decide),offF h0 (i := 28) (by decide),offF h0 (i := 29) (by decide),offF h0 (i := 30) (by decide),offF h0 (i := 31) (by decide),offF h0 (i := 32) (by decide),offF h0 (i := 33) (by decide),offF h0 (i := 34) (by decide),offF h0 (i := 35) (by decide),offF h0 (i := 36) (by decide),offF h0 (i := 37) (by decide),offF h0 (i := 38) (by decide)⟩
        case hst =>
          show FactSteps _ _ _ _ [0, 1, 2, 3, 4, 5, 6, 7, 8, 9, 10, 11, 12, 13, 14, 15, 16, 17, 18, 19, 20, 21, 22, 23, 24, 25, 26, 27, 28, 29, 30, 31, 32, 33, 34, 35, 36, 37, 38]
          refine @FactSteps.cons _ _ _ _ 0 _ [] _ rfl (by kernel_rfl) ?s0 ?_
          rotate_left
          refine @FactSteps.cons _ _ _ _ 1 _ [0] _ rfl (by kernel_rfl) ?s1 ?_
          rotate_left
          refine @FactSteps.cons _ _ _ _ 2 _ [1] _ rfl (by kernel_rfl) ?s2 ?_
          rotate_left
          refine @FactSteps.cons _ _ _ _ 3 _ [2] _ rfl (by kernel_rfl) ?s3 ?_
          rotate_left
          refine @FactSteps.cons _ _ _ _ 4 _ [3, 2] _ rfl (by kernel_rfl) ?s4 ?_
          rotate_left
          refine @FactSteps.cons _ _ _ _ 5 _ [4] _ rfl (by kernel_rfl) ?s5 ?_
          rotate_left
          refine @FactSteps.cons _ _ _ _ 6 _ [5, 4] _ rfl (by kernel_rfl) ?s6 ?_
          rotate_left
          refine @FactSteps.cons _ _ _ _ 7 _ [6, 4] _ rfl (by kernel_rfl) ?s7 ?_
          rotate_left
          refine @FactSteps.cons _ _ _ _ 8 _ [4, 7] _ rfl (by kernel_rfl) ?s8 ?_
          rotate_left
          refine @FactSteps.cons _ _ _ _ 9 _ [8, 4] _ rfl (by kernel_rfl) ?s9 ?_
          rotate_left
          refine @FactSteps.cons _ _ _ _ 10 _ [9] _ rfl (by kernel_rfl) ?s10 ?_
          rotate_left
          refine @FactSteps.cons _ _ _ _ 11 _ [10, 9] _ rfl (by kernel_rfl) ?s11 ?_
          rotate_left
          refine @FactSteps.cons _ _ _ _ 12 _ [11, 9] _ rfl (by kernel_rfl) ?s12 ?_
          rotate_left
          refine @FactSteps.cons _ _ _ _ 13 _ [9, 12] _ rfl (by kernel_rfl) ?s13 ?_
          rotate_left
          refine @FactSteps.cons _ _ _ _ 14 _ [13, 9] _ rfl (by kernel_rfl) ?s14 ?_
          rotate_left
          refine @FactSteps.cons _ _ _ _ 15 _ [14] _ rfl (by kernel_rfl) ?s15 ?_
          rotate_left
          refine @FactSteps.cons _ _ _ _ 16 _ [15, 14] _ rfl (by kernel_rfl) ?s16 ?_
          rotate_left
          refine @FactSteps.cons _ _ _ _ 17 _ [16, 14] _ rfl (by kernel_rfl) ?s17 ?_
          rotate_left
          refine @FactSteps.cons _ _ _ _ 18 _ [14, 17] _ rfl (by kernel_rfl) ?s18 ?_
          rotate_left
          refine @FactSteps.cons _ _ _ _ 19 _ [18, 14] _ rfl (by kernel_rfl) ?s19 ?_
          rotate_left
          refine @FactSteps.cons _ _ _ _ 20 _ [19] _ rfl (by kernel_rfl) ?s20 ?_
          rotate_left
          refine @FactSteps.cons _ _ _ _ 21 _ [20, 19] _ rfl (by kernel_rfl) ?s21 ?_
          rotate_left
          refine @FactSteps.cons _ _ _ _ 22 _ [21, 19] _ rfl (by kernel_rfl) ?s22 ?_
          rotate_left
          refine @FactSteps.cons _ _ _ _ 23 _ [19, 22] _ rfl (by kernel_rfl) ?s23 ?_
          rotate_left
          refine @FactSteps.cons _ _ _ _ 24 _ [23, 19] _ rfl (by kernel_rfl) ?s24 ?_
          rotate_left
          refine @FactSteps.cons _ _ _ _ 25 _ [24] _ rfl (by kernel_rfl) ?s25 ?_
          rotate_left
          refine @FactSteps.cons _ _ _ _ 26 _ [25, 24] _ rfl (by kernel_rfl) ?s26 ?_
          rotate_left
          refine @FactSteps.cons _ _ _ _ 27 _ [26, 24, 24] _ rfl (by kernel_rfl) ?s27 ?_
          rotate_left
          refine @FactSteps.cons _ _ _ _ 28 _ [27] _ rfl (by kernel_rfl) ?s28 ?_
          rotate_left
          refine @FactSteps.cons _ _ _ _ 29 _ [27] _ rfl (by kernel_rfl) ?s29 ?_
          rotate_left
          refine @FactSteps.cons _ _ _ _ 30 _ [29, 27] _ rfl (by kernel_rfl) ?s30 ?_
          rotate_left
          refine @FactSteps.cons _ _ _ _ 31 _ [28, 30, 27] _ rfl (by kernel_rfl) ?s31 ?_
          rotate_left
          refine @FactSteps.cons _ _ _ _ 32 _ [31, 27] _ rfl (by kernel_rfl) ?s32 ?_
          rotate_left
          refine @FactSteps.cons _ _ _ _ 33 _ [32, 27] _ rfl (by kernel_rfl) ?s33 ?_
          rotate_left
          refine @FactSteps.cons _ _ _ _ 34 _ [27] _ rfl (by kernel_rfl) ?s34 ?_
          rotate_left
          refine @FactSteps.cons _ _ _ _ 35 _ [34, 27] _ rfl (by kernel_rfl) ?s35 ?_
          rotate_left
          refine @FactSteps.cons _ _ _ _ 36 _ [33, 35, 27] _ rfl (by kernel_rfl) ?s36 ?_
          rotate_left
          refine @FactSteps.cons _ _ _ _ 37 _ [27, 36, 24] _ rfl (by kernel_rfl) ?s37 ?_
          rotate_left
          refine @FactSteps.cons _ _ _ _ 38 _ [24, 37] _ rfl (by kernel_rfl) ?s38 ?_
          rotate_left
          exact FactSteps.nil
          case s0 =>
            rintro L a v w hv hg hL hd hcl ⟨e0,e3,e4,hb,f0,f1,f2,f3,f4,f5,f6,f7,f8,f9,f10,f11,f12,f13,f14,f15,f16,f17,f18,f19,f20,f21,f22,f23,f24,f25,f26,f27,f28,f29,f30,f31,f32,f33,f34,f35,f36,f37,f38⟩ K hK
            refine step_do rfl ?_
            clear hv
            go_simp
            exact hK.out _ _ ⟨e0,e3,e4,hb,fun _ => rfl,f1,f2,f3,f4,f5,f6,f7,f8,f9,f10,f11,f12,f13,f14,f15,f16,f17,f18,f19,f20,f21,f22,f23,f24,f25,f26,f27,f28,f29,f30,f31,f32,f33,f34,f35,f36,f37,f38⟩
          case s1 =>
            rintro L a v w hv hg hL hd hcl ⟨e0,e3,e4,hb,f0,f1,f2,f3,f4,f5,f6,f7,f8,f9,f10,f11,f12,f13,f14,f15,f16,f17,f18,f19,f20,f21,f22,f23,f24,f25,f26,f27,f28,f29,f30,f31,f32,f33,f34,f35,f36,f37,f38⟩ K hK
            have g0 := f0 (hd 0 (by decide))
            have hc := (hb.cell (p := ⟨g, 0, none⟩) hgW).trans d0
            refine step_do rfl ?_
            clear hv
            go_simp
            exact hK.out _ _ ⟨e0,e3,e4,hb,f0,fun _ => rfl,f2,f3,f4,f5,f6,f7,f8,f9,f10,f11,f12,f13,f14,f15,f16,f17,f18,f19,f20,f21,f22,f23,f24,f25,f26,f27,f28,f29,f30,f31,f32,f33,f34,f35,f36,f37,f38⟩
          case s2 =>
            rintro L a v w hv hg hL hd hcl ⟨e0,e3,e4,hb,f0,f1,f2,f3,f4,f5,f6,f7,f8,f9,f10,f11,f12,f13,f14,f15,f16,f17,f18,f19,f20,f21,f22,f23,f24,f25,f26,f27,f28,f29,f30,f31,f32,f33,f34,f35,f36,f37,f38⟩ K hK
            have h1 := f1 (hd 1 (by decide))
            refine step_do rfl ?_
            clear hv
            go_simp
            refine (H1.out w).mono ?_
            rintro e wy ⟨rfl, bb⟩
            exact hK.out _ _ ⟨e0,e3,e4, (hb.trans (bb.mono hb.size)),f0,f1,fun _ => rfl,f3,f4,f5,f6,f7,f8,f9,f10,f11,f12,f13,f14,f15,f16,f17,f18,f19,f20,f21,f22,f23,f24,f25,f26,f27,f28,f29,f30,f31,f32,f33,f34,f35,f36,f37,f38⟩
          case s3 =>
            rintro L a v w hv hg hL hd hcl ⟨e0,e3,e4,hb,f0,f1,f2,f3,f4,f5,f6,f7,f8,f9,f10,f11,f12,f13,f14,f15,f16,f17,f18,f19,f20,f21,f22,f23,f24,f25,f26,f27,f28,f29,f30,f31,f32,f33,f34,f35,f36,f37,f38⟩ K hK
            refine step_do rfl ?_
            clear hv
            go_simp
            exact hK.out _ _ ⟨e0,e3,e4,hb,f0,f1,f2,fun _ => rfl,f4,f5,f6,f7,f8,f9,f10,f11,f12,f13,f14,f15,f16,f17,f18,f19,f20,f21,f22,f23,f24,f25,f26,f27,f28,f29,f30,f31,f32,f33,f34,f35,f36,f37,f38⟩
          case s4 =>
            rintro L a v w hv hg hL hd hcl ⟨e0,e3,e4,hb,f0,f1,f2,f3,f4,f5,f6,f7,f8,f9,f10,f11,f12,f13,f14,f15,f16,f17,f18,f19,f20,f21,f22,f23,f24,f25,f26,f27,f28,f29,f30,f31,f32,f33,f34,f35,f36,f37,f38⟩ K hK
            have g3 := f3 (hd 3 (by decide))
            refine step_do rfl ?_
            clear hv
            go_simp
            exact hK.out _ _ ⟨e0,e3,e4,hb,f0,f1,f2,f3,fun _ => rfl,f5,f6,f7,f8,f9,f10,f11,f12,f13,f14,f15,f16,f17,f18,f19,f20,f21,f22,f23,f24,f25,f26,f27,f28,f29,f30,f31,f32,f33,f34,f35,f36,f37,f38⟩
          case s5 =>
            rintro L a v w hv hg hL hd hcl ⟨e0,e3,e4,hb,f0,f1,f2,f3,f4,f5,f6,f7,f8,f9,f10,f11,f12,f13,f14,f15,f16,f17,f18,f19,f20,f21,f22,f23,f24,f25,f26,f27,f28,f29,f30,f31,f32,f33,f34,f35,f36,f37,f38⟩ K hK
            have g4 := f4 (hd 4 (by decide))
            refine step_want (j := 4) (s := 19) (b := false) rfl rfl ((hv 19).trans (f4 (hd 4 (by decide)))) ?_
            clear hv
            go_simp
            exact hK.out _ _ ⟨e0,e3,e4,hb,f0,f1,f2,f3,f4,fun _ => rfl,f6,f7,f8,f9,f10,f11,f12,f13,f14,f15,f16,f17,f18,f19,f20,f21,f22,f23,f24,f25,f26,f27,f28,f29,f30,f31,f32,f33,f34,f35,f36,f37,f38⟩
          case s6 =>
            rintro L a v w hv hg hL hd hcl ⟨e0,e3,e4,hb,f0,f1,f2,f3,f4,f5,f6,f7,f8,f9,f10,f11,f12,f13,f14,f15,f16,f17,f18,f19,f20,f21,f22,f23,f24,f25,f26,f27,f28,f29,f30,f31,f32,f33,f34,f35,f36,f37,f38⟩ K hK
            have g4 := f4 (hd 4 (by decide))
            have g5 := f5 (hd 5 (by decide))
            have hc := (hb.cell (p := ⟨g, 1, none⟩) hgW).trans d1
            refine step_want (j := 4) (s := 19) (b := false) rfl rfl ((hv 19).trans (f4 (hd 4 (by decide)))) ?_
            clear hv
            go_simp
            exact hK.out _ _ ⟨e0,e3,e4,hb,f0,f1,f2,f3,f4,f5,fun _ => rfl,f7,f8,f9,f10,f11,f12,f13,f14,f15,f16,f17,f18,f19,f20,f21,f22,f23,f24,f25,f26,f27,f28,f29,f30,f31,f32,f33,f34,f35,f36,f37,f38⟩
          case s7 =>
            rintro L a v w hv hg hL hd hcl ⟨e0,e3,e4,hb,f0,f1,f2,f3,f4,f5,f6,f7,f8,f9,f10,f11,f12,f13,f14,f15,f16,f17,f18,f19,f20,f21,f22,f23,f24,f25,f26,f27,f28,f29,f30,f31,f32,f33,f34,f35,f36,f37,f38⟩ K hK
            have g4 := f4 (hd 4 (by decide))
            have g6 := f6 (hd 6 (by decide))
            refine step_want (j := 4) (s := 19) (b := false) rfl rfl ((hv 19).trans (f4 (hd 4 (by decide)))) ?_
            clear hv
            go_simp
            exact hK.out _ _ ⟨e0,e3,e4,hb,f0,f1,f2,f3,f4,f5,f6,fun _ => rfl,f8,f9,f10,f11,f12,f13,f14,f15,f16,f17,f18,f19,f20,f21,f22,f23,f24,f25,f26,f27,f28,f29,f30,f31,f32,f33,f34,f35,f36,f37,f38⟩
          case s8 =>
            rintro L a v w hv hg hL hd hcl ⟨e0,e3,e4,hb,f0,f1,f2,f3,f4,f5,f6,f7,f8,f9,f10,f11,f12,f13,f14,f15,f16,f17,f18,f19,f20,f21,f22,f23,f24,f25,f26,f27,f28,f29,f30,f31,f32,f33,f34,f35,f36,f37,f38⟩ K hK
            have g4 := f4 (hd 4 (by decide))
            have g7 := f7 (hd 7 (by decide))
            refine step_do rfl ?_
            clear hv
            go_simp
            exact hK.out _ _ ⟨e0,e3,e4,hb,f0,f1,f2,f3,f4,f5,f6,f7,fun _ => rfl,f9,f10,f11,f12,f13,f14,f15,f16,f17,f18,f19,f20,f21,f22,f23,f24,f25,f26,f27,f28,f29,f30,f31,f32,f33,f34,f35,f36,f37,f38⟩
          case s9 =>
            rintro L a v w hv hg hL hd hcl ⟨e0,e3,e4,hb,f0,f1,f2,f3,f4,f5,f6,f7,f8,f9,f10,f11,f12,f13,f14,f15,f16,f17,f18,f19,f20,f21,f22,f23,f24,f25,f26,f27,f28,f29,f30,f31,f32,f33,f34,f35,f36,f37,f38⟩ K hK
            have g4 := f4 (hd 4 (by decide))
            have g8 := f8 (hd 8 (by decide))
            refine step_do rfl ?_
            clear hv
            go_simp
            exact hK.out _ _ ⟨e0,e3,e4,hb,f0,f1,f2,f3,f4,f5,f6,f7,f8,fun _ => rfl,f10,f11,f12,f13,f14,f15,f16,f17,f18,f19,f20,f21,f22,f23,f24,f25,f26,f27,f28,f29,f30,f31,f32,f33,f34,f35,f36,f37,f38⟩
          case s10 =>
            rintro L a v w hv hg hL hd hcl ⟨e0,e3,e4,hb,f0,f1,f2,f3,f4,f5,f6,f7,f8,f9,f10,f11,f12,f13,f14,f15,f16,f17,f18,f19,f20,f21,f22,f23,f24,f25,f26,f27,f28,f29,f30,f31,f32,f33,f34,f35,f36,f37,f38⟩ K hK
            have g9 := f9 (hd 9 (by decide))
            refine step_want (j := 9) (s := 24) (b := false) rfl rfl ((hv 24).trans (f9 (hd 9 (by decide)))) ?_
            clear hv
            go_simp
            exact hK.out _ _ ⟨e0,e3,e4,hb,f0,f1,f2,f3,f4,f5,f6,f7,f8,f9,fun _ => rfl,f11,f12,f13,f14,f15,f16,f17,f18,f19,f20,f21,f22,f23,f24,f25,f26,f27,f28,f29,f30,f31,f32,f33,f34,f35,f36,f37,f38⟩
          case s11 =>
            rintro L a v w hv hg hL hd hcl ⟨e0,e3,e4,hb,f0,f1,f2,f3,f4,f5,f6,f7,f8,f9,f10,f11,f12,f13,f14,f15,f16,f17,f18,f19,f20,f21,f22,f23,f24,f25,f26,f27,f28,f29,f30,f31,f32,f33,f34,f35,f36,f37,f38⟩ K hK
            have g9 := f9 (hd 9 (by decide))
            have g10 := f10 (hd 10 (by decide))
            have hc := (hb.cell (p := ⟨g, 1, none⟩) hgW).trans d1
            refine step_want (j := 9) (s := 24) (b := false) rfl rfl ((hv 24).trans (f9 (hd 9 (by decide)))) ?_
            clear hv
            go_simp
            exact hK.out _ _ ⟨e0,e3,e4,hb,f0,f1,f2,f3,f4,f5,f6,f7,f8,f9,f10,fun _ => rfl,f12,f13,f14,f15,f16,f17,f18,f19,f20,f21,f22,f23,f24,f25,f26,f27,f28,f29,f30,f31,f32,f33,f34,f35,f36,f37,f38⟩
          case s12 =>
            rintro L a v w hv hg hL hd hcl ⟨e0,e3,e4,hb,f0,f1,f2,f3,f4,f5,f6,f7,f8,f9,f10,f11,f12,f13,f14,f15,f16,f17,f18,f19,f20,f21,f22,f23,f24,f25,f26,f27,f28,f29,f30,f31,f32,f33,f34,f35,f36,f37,f38⟩ K hK
            have g9 := f9 (hd 9 (by decide))
            have g11 := f11 (hd 11 (by decide))
            refine step_want (j := 9) (s := 24) (b := false) rfl rfl ((hv 24).trans (f9 (hd 9 (by decide)))) ?_
            clear hv
            go_simp
            exact hK.out _ _ ⟨e0,e3,e4,hb,f0,f1,f2,f3,f4,f5,f6,f7,f8,f9,f10,f11,fun _ => rfl,f13,f14,f15,f16,f17,f18,f19,f20,f21,f22,f23,f24,f25,f26,f27,f28,f29,f30,f31,f32,f33,f34,f35,f36,f37,f38⟩
          case s13 =>
            rintro L a v w hv hg hL hd hcl ⟨e0,e3,e4,hb,f0,f1,f2,f3,f4,f5,f6,f7,f8,f9,f10,f11,f12,f13,f14,f15,f16,f17,f18,f19,f20,f21,f22,f23,f24,f25,f26,f27,f28,f29,f30,f31,f32,f33,f34,f35,f36,f37,f38⟩ K hK
            have g9 := f9 (hd 9 (by decide))
            have g12 := f12 (hd 12 (by decide))
            refine step_do rfl ?_
            clear hv
            go_simp
            exact hK.out _ _ ⟨e0,e3,e4,hb,f0,f1,f2,f3,f4,f5,f6,f7,f8,f9,f10,f11,f12,fun _ => rfl,f14,f15,f16,f17,f18,f19,f20,f21,f22,f23,f24,f25,f26,f27,f28,f29,f30,f31,f32,f33,f34,f35,f36,f37,f38⟩
          case s14 =>
            rintro L a v w hv hg hL hd hcl ⟨e0,e3,e4,hb,f0,f1,f2,f3,f4,f5,f6,f7,f8,f9,f10,f11,f12,f13,f14,f15,f16,f17,f18,f19,f20,f21,f22,f23,f24,f25,f26,f27,f28,f29,f30,f31,f32,f33,f34,f35,f36,f37,f38⟩ K hK
            have g9 := f9 (hd 9 (by decide))
            have g13 := f13 (hd 13 (by decide))
            refine step_do rfl ?_
            clear hv
            go_simp
            exact hK.out _ _ ⟨e0,e3,e4,hb,f0,f1,f2,f3,f4,f5,f6,f7,f8,f9,f10,f11,f12,f13,fun _ => rfl,f15,f16,f17,f18,f19,f20,f21,f22,f23,f24,f25,f26,f27,f28,f29,f30,f31,f32,f33,f34,f35,f36,f37,f38⟩
          case s15 =>
            rintro L a v w hv hg hL hd hcl ⟨e0,e3,e4,hb,f0,f1,f2,f3,f4,f5,f6,f7,f8,f9,f10,f11,f12,f13,f14,f15,f16,f17,f18,f19,f20,f21,f22,f23,f24,f25,f26,f27,f28,f29,f30,f31,f32,f33,f34,f35,f36,f37,f38⟩ K hK
            have g14 := f14 (hd 14 (by decide))
            refine step_want (j := 14) (s := 29) (b := false) rfl rfl ((hv 29).trans (f14 (hd 14 (by decide)))) ?_
            clear hv
            go_simp
            exact hK.out _ _ ⟨e0,e3,e4,hb,f0,f1,f2,f3,f4,f5,f6,f7,f8,f9,f10,f11,f12,f13,f14,fun _ => rfl,f16,f17,f18,f19,f20,f21,f22,f23,f24,f25,f26,f27,f28,f29,f30,f31,f32,f33,f34,f35,f36,f37,f38⟩
          case s16 =>
            rintro L a v w hv hg hL hd hcl ⟨e0,e3,e4,hb,f0,f1,f2,f3,f4,f5,f6,f7,f8,f9,f10,f11,f12,f13,f14,f15,f16,f17,f18,f19,f20,f21,f22,f23,f24,f25,f26,f27,f28,f29,f30,f31,f32,f33,f34,f35,f36,f37,f38⟩ K hK
            have g14 := f14 (hd 14 (by decide))
            have g15 := f15 (hd 15 (by decide))
            have hc := (hb.cell (p := ⟨g, 2, none⟩) hgW).trans d2
            refine step_want (j := 14) (s := 29) (b := false) rfl rfl ((hv 29).trans (f14 (hd 14 (by decide)))) ?_
            clear hv
            go_simp
            exact hK.out _ _ ⟨e0,e3,e4,hb,f0,f1,f2,f3,f4,f5,f6,f7,f8,f9,f10,f11,f12,f13,f14,f15,fun _ => rfl,f17,f18,f19,f20,f21,f22,f23,f24,f25,f26,f27,f28,f29,f30,f31,f32,f33,f34,f35,f36,f37,f38⟩
          case s17 =>
            rintro L a v w hv hg hL hd hcl ⟨e0,e3,e4,hb,f0,f1,f2,f3,f4,f5,f6,f7,f8,f9,f10,f11,f12,f13,f14,f15,f16,f17,f18,f19,f20,f21,f22,f23,f24,f25,f26,f27,f28,f29,f30,f31,f32,f33,f34,f35,f36,f37,f38⟩ K hK
            have g14 := f14 (hd 14 (by decide))
            have g16 := f16 (hd 16 (by decide))
            refine step_want (j := 14) (s := 29) (b := false) rfl rfl ((hv 29).trans (f14 (hd 14 (by decide)))) ?_
            clear hv
            go_simp
            exact hK.out _ _ ⟨e0,e3,e4,hb,f0,f1,f2,f3,f4,f5,f6,f7,f8,f9,f10,f11,f12,f13,f14,f15,f16,fun _ => rfl,f18,f19,f20,f21,f22,f23,f24,f25,f26,f27,f28,f29,f30,f31,f32,f33,f34,f35,f36,f37,f38⟩
          case s18 =>
            rintro L a v w hv hg hL hd hcl ⟨e0,e3,e4,hb,f0,f1,f2,f3,f4,f5,f6,f7,f8,f9,f10,f11,f12,f13,f14,f15,f16,f17,f18,f19,f20,f21,f22,f23,f24,f25,f26,f27,f28,f29,f30,f31,f32,f33,f34,f35,f36,f37,f38⟩ K hK
            have g14 := f14 (hd 14 (by decide))
            have g17 := f17 (hd 17 (by decide))
            refine step_do rfl ?_
            clear hv
            go_simp
            exact hK.out _ _ ⟨e0,e3,e4,hb,f0,f1,f2,f3,f4,f5,f6,f7,f8,f9,f10,f11,f12,f13,f14,f15,f16,f17,fun _ => rfl,f19,f20,f21,f22,f23,f24,f25,f26,f27,f28,f29,f30,f31,f32,f33,f34,f35,f36,f37,f38⟩
          case s19 =>
            rintro L a v w hv hg hL hd hcl ⟨e0,e3,e4,hb,f0,f1,f2,f3,f4,f5,f6,f7,f8,f9,f10,f11,f12,f13,f14,f15,f16,f17,f18,f19,f20,f21,f22,f23,f24,f25,f26,f27,f28,f29,f30,f31,f32,f33,f34,f35,f36,f37,f38⟩ K hK
            have g14 := f14 (hd 14 (by decide))
            have g18 := f18 (hd 18 (by decide))
            refine step_do rfl ?_
            clear hv
            go_simp
            exact hK.out _ _ ⟨e0,e3,e4,hb,f0,f1,f2,f3,f4,f5,f6,f7,f8,f9,f10,f11,f12,f13,f14,f15,f16,f17,f18,fun _ => rfl,f20,f21,f22,f23,f24,f25,f26,f27,f28,f29,f30,f31,f32,f33,f34,f35,f36,f37,f38⟩
          case s20 =>
            rintro L a v w hv hg hL hd hcl ⟨e0,e3,e4,hb,f0,f1,f2,f3,f4,f5,f6,f7,f8,f9,f10,f11,f12,f13,f14,f15,f16,f17,f18,f19,f20,f21,f22,f23,f24,f25,f26,f27,f28,f29,f30,f31,f32,f33,f34,f35,f36,f37,f38⟩ K hK
            have g19 := f19 (hd 19 (by decide))
            refine step_want (j := 19) (s := 34) (b := false) rfl rfl ((hv 34).trans (f19 (hd 19 (by decide)))) ?_
            clear hv
            go_simp
            exact hK.out _ _ ⟨e0,e3,e4,hb,f0,f1,f2,f3,f4,f5,f6,f7,f8,f9,f10,f11,f12,f13,f14,f15,f16,f17,f18,f19,fun _ => rfl,f21,f22,f23,f24,f25,f26,f27,f28,f29,f30,f31,f32,f33,f34,f35,f36,f37,f38⟩
          case s21 =>
            rintro L a v w hv hg hL hd hcl ⟨e0,e3,e4,hb,f0,f1,f2,f3,f4,f5,f6,f7,f8,f9,f10,f11,f12,f13,f14,f15,f16,f17,f18,f19,f20,f21,f22,f23,f24,f25,f26,f27,f28,f29,f30,f31,f32,f33,f34,f35,f36,f37,f38⟩ K hK
            have g19 := f19 (hd 19 (by decide))
            have g20 := f20 (hd 20 (by decide))
            have hc := (hb.cell (p := ⟨g, 2, none⟩) hgW).trans d2
            refine step_want (j := 19) (s := 34) (b := false) rfl rfl ((hv 34).trans (f19 (hd 19 (by decide)))) ?_
            clear hv
            go_simp
            exact hK.out _ _ ⟨e0,e3,e4,hb,f0,f1,f2,f3,f4,f5,f6,f7,f8,f9,f10,f11,f12,f13,f14,f15,f16,f17,f18,f19,f20,fun _ => rfl,f22,f23,f24,f25,f26,f27,f28,f29,f30,f31,f32,f33,f34,f35,f36,f37,f38⟩
          case s22 =>
            rintro L a v w hv hg hL hd hcl ⟨e0,e3,e4,hb,f0,f1,f2,f3,f4,f5,f6,f7,f8,f9,f10,f11,f12,f13,f14,f15,f16,f17,f18,f19,f20,f21,f22,f23,f24,f25,f26,f27,f28,f29,f30,f31,f32,f33,f34,f35,f36,f37,f38⟩ K hK
            have g19 := f19 (hd 19 (by decide))
            have g21 := f21 (hd 21 (by decide))
            refine step_want (j := 19) (s := 34) (b := false) rfl rfl ((hv 34).trans (f19 (hd 19 (by decide)))) ?_
            clear hv
            go_simp
            exact hK.out _ _ ⟨e0,e3,e4,hb,f0,f1,f2,f3,f4,f5,f6,f7,f8,f9,f10,f11,f12,f13,f14,f15,f16,f17,f18,f19,f20,f21,fun _ => rfl,f23,f24,f25,f26,f27,f28,f29,f30,f31,f32,f33,f34,f35,f36,f37,f38⟩
          case s23 =>
            rintro L a v w hv hg hL hd hcl ⟨e0,e3,e4,hb,f0,f1,f2,f3,f4,f5,f6,f7,f8,f9,f10,f11,f12,f13,f14,f15,f16,f17,f18,f19,f20,f21,f22,f23,f24,f25,f26,f27,f28,f29,f30,f31,f32,f33,f34,f35,f36,f37,f38⟩ K hK
            have g19 := f19 (hd 19 (by decide))
            have g22 := f22 (hd 22 (by decide))
            refine step_do rfl ?_
            clear hv
            go_simp
            exact hK.out _ _ ⟨e0,e3,e4,hb,f0,f1,f2,f3,f4,f5,f6,f7,f8,f9,f10,f11,f12,f13,f14,f15,f16,f17,f18,f19,f20,f21,f22,fun _ => rfl,f24,f25,f26,f27,f28,f29,f30,f31,f32,f33,f34,f35,f36,f37,f38⟩
          case s24 =>
            rintro L a v w hv hg hL hd hcl ⟨e0,e3,e4,hb,f0,f1,f2,f3,f4,f5,f6,f7,f8,f9,f10,f11,f12,f13,f14,f15,f16,f17,f18,f19,f20,f21,f22,f23,f24,f25,f26,f27,f28,f29,f30,f31,f32,f33,f34,f35,f36,f37,f38⟩ K hK
            have g19 := f19 (hd 19 (by decide))
            have g23 := f23 (hd 23 (by decide))
            refine step_do rfl ?_
            clear hv
            go_simp
            exact hK.out _ _ ⟨e0,e3,e4,hb,f0,f1,f2,f3,f4,f5,f6,f7,f8,f9,f10,f11,f12,f13,f14,f15,f16,f17,f18,f19,f20,f21,f22,f23,fun _ => rfl,f25,f26,f27,f28,f29,f30,f31,f32,f33,f34,f35,f36,f37,f38⟩
          case s25 =>
            rintro L a v w hv hg hL hd hcl ⟨e0,e3,e4,hb,f0,f1,f2,f3,f4,f5,f6,f7,f8,f9,f10,f11,f12,f13,f14,f15,f16,f17,f18,f19,f20,f21,f22,f23,f24,f25,f26,f27,f28,f29,f30,f31,f32,f33,f34,f35,f36,f37,f38⟩ K hK
            refine step_skip (j := 24) (s := 39) (b := true) rfl rfl ((hv 39).trans (f24 (hd 24 (by decide)))) (by decide) ?_
            exact hK.out _ _ ⟨e0,e3,e4,hb,f0,f1,f2,f3,f4,f5,f6,f7,f8,f9,f10,f11,f12,f13,f14,f15,f16,f17,f18,f19,f20,f21,f22,f23,f24,fun _ => rfl,f26,f27,f28,f29,f30,f31,f32,f33,f34,f35,f36,f37,f38⟩
          case s26 =>
            rintro L a v w hv hg hL hd hcl ⟨e0,e3,e4,hb,f0,f1,f2,f3,f4,f5,f6,f7,f8,f9,f10,f11,f12,f13,f14,f15,f16,f17,f18,f19,f20,f21,f22,f23,f24,f25,f26,f27,f28,f29,f30,f31,f32,f33,f34,f35,f36,f37,f38⟩ K hK
            refine step_skip (j := 24) (s := 39) (b := true) rfl rfl ((hv 39).trans (f24 (hd 24 (by decide)))) (by decide) ?_
            exact hK.out _ _ ⟨e0,e3,e4,hb,f0,f1,f2,f3,f4,f5,f6,f7,f8,f9,f10,f11,f12,f13,f14,f15,f16,f17,f18,f19,f20,f21,f22,f23,f24,f25,fun _ => rfl,f27,f28,f29,f30,f31,f32,f33,f34,f35,f36,f37,f38⟩
          case s27 =>
            rintro L a v w hv hg hL hd hcl ⟨e0,e3,e4,hb,f0,f1,f2,f3,f4,f5,f6,f7,f8,f9,f10,f11,f12,f13,f14,f15,f16,f17,f18,f19,f20,f21,f22,f23,f24,f25,f26,f27,f28,f29,f30,f31,f32,f33,f34,f35,f36,f37,f38⟩ K hK
            refine step_skip (j := 24) (s := 39) (b := true) rfl rfl ((hv 39).trans (f24 (hd 24 (by decide)))) (by decide) ?_
            exact hK.out _ _ ⟨e0,e3,e4,hb,f0,f1,f2,f3,f4,f5,f6,f7,f8,f9,f10,f11,f12,f13,f14,f15,f16,f17,f18,f19,f20,f21,f22,f23,f24,f25,f26,fun _ => rfl,f28,f29,f30,f31,f32,f33,f34,f35,f36,f37,f38⟩
          case s28 =>
            rintro L a v w hv hg hL hd hcl ⟨e0,e3,e4,hb,f0,f1,f2,f3,f4,f5,f6,f7,f8,f9,f10,f11,f12,f13,f14,f15,f16,f17,f18,f19,f20,f21,f22,f23,f24,f25,f26,f27,f28,f29,f30,f31,f32,f33,f34,f35,f36,f37,f38⟩ K hK
            refine step_skipU (j := 27) (s := 42) rfl rfl ((hv 42).trans (f27 (hd 27 (by decide)))) ?_
            exact hK.out _ _ ⟨e0,e3,e4,hb,f0,f1,f2,f3,f4,f5,f6,f7,f8,f9,f10,f11,f12,f13,f14,f15,f16,f17,f18,f19,f20,f21,f22,f23,f24,f25,f26,f27,fun _ => rfl,f29,f30,f31,f32,f33,f34,f35,f36,f37,f38⟩
          case s29 =>
            rintro L a v w hv hg hL hd hcl ⟨e0,e3,e4,hb,f0,f1,f2,f3,f4,f5,f6,f7,f8,f9,f10,f11,f12,f13,f14,f15,f16,f17,f18,f19,f20,f21,f22,f23,f24,f25,f26,f27,f28,f29,f30,f31,f32,f33,f34,f35,f36,f37,f38⟩ K hK
            refine step_skipU (j := 27) (s := 42) rfl rfl ((hv 42).trans (f27 (hd 27 (by decide)))) ?_
            exact hK.out _ _ ⟨e0,e3,e4,hb,f0,f1,f2,f3,f4,f5,f6,f7,f8,f9,f10,f11,f12,f13,f14,f15,f16,f17,f18,f19,f20,f21,f22,f23,f24,f25,f26,f27,f28,fun _ => rfl,f30,f31,f32,f33,f34,f35,f36,f37,f38⟩
          case s30 =>
            rintro L a v w hv hg hL hd hcl ⟨e0,e3,e4,hb,f0,f1,f2,f3,f4,f5,f6,f7,f8,f9,f10,f11,f12,f13,f14,f15,f16,f17,f18,f19,f20,f21,f22,f23,f24,f25,f26,f27,f28,f29,f30,f31,f32,f33,f34,f35,f36,f37,f38⟩ K hK
            refine step_skipU (j := 27) (s := 42) rfl rfl ((hv 42).trans (f27 (hd 27 (by decide)))) ?_
            exact hK.out _ _ ⟨e0,e3,e4,hb,f0,f1,f2,f3,f4,f5,f6,f7,f8,f9,f10,f11,f12,f13,f14,f15,f16,f17,f18,f19,f20,f21,f22,f23,f24,f25,f26,f27,f28,f29,fun _ => rfl,f31,f32,f33,f34,f35,f36,f37,f38⟩
          case s31 =>
            rintro L a v w hv hg hL hd hcl ⟨e0,e3,e4,hb,f0,f1,f2,f3,f4,f5,f6,f7,f8,f9,f10,f11,f12,f13,f14,f15,f16,f17,f18,f19,f20,f21,f22,f23,f24,f25,f26,f27,f28,f29,f30,f31,f32,f33,f34,f35,f36,f37,f38⟩ K hK
            refine step_skipU (j := 27) (s := 42) rfl rfl ((hv 42).trans (f27 (hd 27 (by decide)))) ?_
            exact hK.out _ _ ⟨e0,e3,e4,hb,f0,f1,f2,f3,f4,f5,f6,f7,f8,f9,f10,f11,f12,f13,f14,f15,f16,f17,f18,f19,f20,f21,f22,f23,f24,f25,f26,f27,f28,f29,f30,fun _ => rfl,f32,f33,f34,f35,f36,f37,f38⟩
          case s32 =>
            rintro L a v w hv hg hL hd hcl ⟨e0,e3,e4,hb,f0,f1,f2,f3,f4,f5,f6,f7,f8,f9,f10,f11,f12,f13,f14,f15,f16,f17,f18,f19,f20,f21,f22,f23,f24,f25,f26,f27,f28,f29,f30,f31,f32,f33,f34,f35,f36,f37,f38⟩ K hK
            refine step_skipU (j := 27) (s := 42) rfl rfl ((hv 42).trans (f27 (hd 27 (by decide)))) ?_
            exact hK.out _ _ ⟨e0,e3,e4,hb,f0,f1,f2,f3,f4,f5,f6,f7,f8,f9,f10,f11,f12,f13,f14,f15,f16,f17,f18,f19,f20,f21,f22,f23,f24,f25,f26,f27,f28,f29,f30,f31,fun _ => rfl,f33,f34,f35,f36,f37,f38⟩
          case s33 =>
            rintro L a v w hv hg hL hd hcl ⟨e0,e3,e4,hb,f0,f1,f2,f3,f4,f5,f6,f7,f8,f9,f10,f11,f12,f13,f14,f15,f16,f17,f18,f19,f20,f21,f22,f23,f24,f25,f26,f27,f28,f29,f30,f31,f32,f33,f34,f35,f36,f37,f38⟩ K hK
            refine step_skipU (j := 27) (s := 42) rfl rfl ((hv 42).trans (f27 (hd 27 (by decide)))) ?_
            exact hK.out _ _ ⟨e0,e3,e4,hb,f0,f1,f2,f3,f4,f5,f6,f7,f8,f9,f10,f11,f12,f13,f14,f15,f16,f17,f18,f19,f20,f21,f22,f23,f24,f25,f26,f27,f28,f29,f30,f31,f32,fun _ => rfl,f34,f35,f36,f37,f38⟩
          case s34 =>
            rintro L a v w hv hg hL hd hcl ⟨e0,e3,e4,hb,f0,f1,f2,f3,f4,f5,f6,f7,f8,f9,f10,f11,f12,f13,f14,f15,f16,f17,f18,f19,f20,f21,f22,f23,f24,f25,f26,f27,f28,f29,f30,f31,f32,f33,f34,f35,f36,f37,f38⟩ K hK
            refine step_skipU (j := 27) (s := 42) rfl rfl ((hv 42).trans (f27 (hd 27 (by decide)))) ?_
            exact hK.out _ _ ⟨e0,e3,e4,hb,f0,f1,f2,f3,f4,f5,f6,f7,f8,f9,f10,f11,f12,f13,f14,f15,f16,f17,f18,f19,f20,f21,f22,f23,f24,f25,f26,f27,f28,f29,f30,f31,f32,f33,fun _ => rfl,f35,f36,f37,f38⟩
          case s35 =>
            rintro L a v w hv hg hL hd hcl ⟨e0,e3,e4,hb,f0,f1,f2,f3,f4,f5,f6,f7,f8,f9,f10,f11,f12,f13,f14,f15,f16,f17,f18,f19,f20,f21,f22,f23,f24,f25,f26,f27,f28,f29,f30,f31,f32,f33,f34,f35,f36,f37,f38⟩ K hK
            refine step_skipU (j := 27) (s := 42) rfl rfl ((hv 42).trans (f27 (hd 27 (by decide)))) ?_
            exact hK.out _ _ ⟨e0,e3,e4,hb,f0,f1,f2,f3,f4,f5,f6,f7,f8,f9,f10,f11,f12,f13,f14,f15,f16,f17,f18,f19,f20,f21,f22,f23,f24,f25,f26,f27,f28,f29,f30,f31,f32,f33,f34,fun _ => rfl,f36,f37,f38⟩
          case s36 =>
            rintro L a v w hv hg hL hd hcl ⟨e0,e3,e4,hb,f0,f1,f2,f3,f4,f5,f6,f7,f8,f9,f10,f11,f12,f13,f14,f15,f16,f17,f18,f19,f20,f21,f22,f23,f24,f25,f26,f27,f28,f29,f30,f31,f32,f33,f34,f35,f36,f37,f38⟩ K hK
            refine step_skipU (j := 27) (s := 42) rfl rfl ((hv 42).trans (f27 (hd 27 (by decide)))) ?_
            exact hK.out _ _ ⟨e0,e3,e4,hb,f0,f1,f2,f3,f4,f5,f6,f7,f8,f9,f10,f11,f12,f13,f14,f15,f16,f17,f18,f19,f20,f21,f22,f23,f24,f25,f26,f27,f28,f29,f30,f31,f32,f33,f34,f35,fun _ => rfl,f37,f38⟩
          case s37 =>
            rintro L a v w hv hg hL hd hcl ⟨e0,e3,e4,hb,f0,f1,f2,f3,f4,f5,f6,f7,f8,f9,f10,f11,f12,f13,f14,f15,f16,f17,f18,f19,f20,f21,f22,f23,f24,f25,f26,f27,f28,f29,f30,f31,f32,f33,f34,f35,f36,f37,f38⟩ K hK
            refine step_skip (j := 24) (s := 39) (b := true) rfl rfl ((hv 39).trans (f24 (hd 24 (by decide)))) (by decide) ?_
            exact hK.out _ _ ⟨e0,e3,e4,hb,f0,f1,f2,f3,f4,f5,f6,f7,f8,f9,f10,f11,f12,f13,f14,f15,f16,f17,f18,f19,f20,f21,f22,f23,f24,f25,f26,f27,f28,f29,f30,f31,f32,f33,f34,f35,f36,fun _ => rfl,f38⟩
          case s38 =>
            rintro L a v w hv hg hL hd hcl ⟨e0,e3,e4,hb,f0,f1,f2,f3,f4,f5,f6,f7,f8,f9,f10,f11,f12,f13,f14,f15,f16,f17,f18,f19,f20,f21,f22,f23,f24,f25,f26,f27,f28,f29,f30,f31,f32,f33,f34,f35,f36,f37,f38⟩ K hK
            have g24 := f24 (hd 24 (by decide))
            refine step_do rfl ?_
            clear hv
            go_simp
            exact hK.out _ _ ⟨e0,e3,e4,hb,f0,f1,f2,f3,f4,f5,f6,f7,f8,f9,f10,f11,f12,f13,f14,f15,f16,f17,f18,f19,f20,f21,f22,f23,f24,f25,f26,f27,f28,f29,f30,f31,f32,f33,f34,f35,f36,f37,fun _ => rfl⟩
        case hend =>
        rintro L v wx hall ⟨e0,e3,e4,hb,f0,f1,f2,f3,f4,f5,f6,f7,f8,f9,f10,f11,f12,f13,f14,f15,f16,f17,f18,f19,f20,f21,f22,f23,f24,f25,f26,f27,f28,f29,f30,f31,f32,f33,f34,f35,f36,f37,f38⟩
        have hL : ∀ i, i < 39 → L i = true := hall
        have f0 := f0 (hL 0 (by decide))
        have f1 := f1 (hL 1 (by decide))
        have f2 := f2 (hL 2 (by decide))
        have f3 := f3 (hL 3 (by decide))
        have f4 := f4 (hL 4 (by decide))
        have f5 := f5 (hL 5 (by decide))
        have f6 := f6 (hL 6 (by decide))
        have f7 := f7 (hL 7 (by decide))
        have f8 := f8 (hL 8 (by decide))
        have f9 := f9 (hL 9 (by decide))
        have f10 := f10 (hL 10 (by decide))
        have f11 := f11 (hL 11 (by decide))
        have f12 := f12 (hL 12 (by decide))
        have f13 := f13 (hL 13 (by decide))
        have f14 := f14 (hL 14 (by decide))
        have f15 := f15 (hL 15 (by decide))
        have f16 := f16 (hL 16 (by decide))
        have f17 := f17 (hL 17 (by decide))
        have f18 := f18 (hL 18 (by decide))
        have f19 := f19 (hL 19 (by decide))
        have f20 := f20 (hL 20 (by decide))
        have f21 := f21 (hL 21 (by decide))
        have f22 := f22 (hL 22 (by decide))
        have f23 := f23 (hL 23 (by decide))
        have f24 := f24 (hL 24 (by decide))
        have f25 := f25 (hL 25 (by decide))
        have f26 := f26 (hL 26 (by decide))
        have f27 := f27 (hL 27 (by decide))
        have f28 := f28 (hL 28 (by decide))
        have f29 := f29 (hL 29 (by decide))
        have f30 := f30 (hL 30 (by decide))
        have f31 := f31 (hL 31 (by decide))
        have f32 := f32 (hL 32 (by decide))
        have f33 := f33 (hL 33 (by decide))
        have f34 := f34 (hL 34 (by decide))
        have f35 := f35 (hL 35 (by decide))
        have f36 := f36 (hL 36 (by decide))
        have f37 := f37 (hL 37 (by decide))
        have f38 := f38 (hL 38 (by decide))
        simp only [finA, List.foldl_cons, List.foldl_nil, Act.put, List.setIfInBounds_toArray, List.set_cons_succ, List.set_cons_zero, f0, f1, f3, f4, f5, f6, f7, f8, f9, f10, f11, f12, f13, f14, f15, f16, f17, f18, f19, f20, f21, f22, f23, f24, f25, f26, f27, f28, f29, f30, f31, f32, f33, f34, f35, f36, f37, f38, f2]
        have gb := gb.trans (hb.mono gb.size)
        clear e0 e3 e4 f0 f1 f2 f3 f4 f5 f6 f7 f8 f9 f10 f11 f12 f13 f14 f15 f16 f17 f18 f19 f20 f21 f22 f23 f24 f25 f26 f27 f28 f29 f30 f31 f32 f33 f34 f35 f36 f37 f38 hL hall
        go_wp2_with fail
        go_ret
        exact ⟨rfl, gb⟩
      have hmm : Ms.memAt l k = decide (Ms.lastM l k < a1) := by rw [HME.out, HN1.out, show inB a2 1 4 = true from (inB_iff _ _ _).2 (by omega), show inB a3 0 1099511627776 = true from (inB_iff _ _ _).2 (by omega)]; simp
      have HMM := Lib.hid hmm
      clear hmm
      rcases Nat.eq_zero_or_pos k with hkz | hkp
      · have h0 : 0 ≤ a1 := ((Ms.nodeB_iff a1).1 HN1.out).1
        have hok := HM.out (by rw [HMM.out, hkz]; exact decide_eq_true (by show (-1 : Int) < a1; omega))
        have HOK := Lib.hid hok
        subst hkz
        clear hok h0
        refine wp_region_facts (fun L v w => v 0 = .slice (some aa) n c ∧ v 3 = .int .i64 0 ∧ v 4 = .pointer (some ⟨g, 0, none⟩) ∧ Below W.heap.size W w ∧ (L 0 = true → v 15 = .pointer (some ⟨g, 0, none⟩)) ∧ (L 1 = true → v 16 = .int .i64 a1) ∧ (L 2 = true → v 17 = .bool true) ∧ (L 3 = true → v 18 = .bool false) ∧ (L 4 = true → v 19 = .bool false) ∧ (L 5 = true → v 20 = .pointer (some ⟨g, 1, none⟩)) ∧ (L 6 = true → v 21 = .int .i64 a2) ∧ (L 7 = true → v 22 = .bool false) ∧ (L 8 = true → v 23 = .bool false) ∧ (L 9 = true → v 24 = .bool false) ∧ (L 10 = true → v 25 = .pointer (some ⟨g, 1, none⟩)) ∧ (L 11 = true → v 26 = .int .i64 a2) ∧ (L 12 = true → v 27 = .bool false) ∧ (L 13 = true → v 28 = .bool false) ∧ (L 14 = true → v 29 = .bool false) ∧ (L 15 = true → v 30 = .pointer (some ⟨g, 2, none⟩)) ∧ (L 16 = true → v 31 = .int .i64 a3) ∧ (L 17 = true → v 32 = .bool false) ∧ (L 18 = true → v 33 = .bool false) ∧ (L 19 = true → v 34 = .bool false) ∧ (L 20 = true → v 35 = .pointer (some ⟨g, 2, none⟩)) ∧ (L 21 = true → v 36 = .int .i64 a3) ∧ (L 22 = true → v 37 = .bool false) ∧ (L 23 = true → v 38 = .bool false) ∧ (L 24 = true → v 39 = .bool false) ∧ (L 25 = true → v 40 = .int .i64 0) ∧ (L 26 = true → v 41 = .bool false) ∧ (L 27 = true → v 42 = .bool false) ∧ (L 28 = true → v 43 = undef) ∧ (L 29 = true → v 44 = undef) ∧ (L 30 = true → v 45 = undef) ∧ (L 31 = true → v 46 = undef) ∧ (L 32 = true → v 47 = undef) ∧ (L 33 = true → v 48 = undef) ∧ (L 34 = true → v 49 = undef) ∧ (L 35 = true → v 50 = undef) ∧ (L 36 = true → v 51 = undef) ∧ (L 37 = true → v 52 = .bool false) ∧ (L 38 = true → v 53 = .bool false)) [15, 16, 17, 18, 19, 20, 21, 22, 23, 24, 25, 26, 27, 28, 29, 30, 31, 32, 33, 34, 35, 36, 37, 38, 39, 40, 41, 42, 43, 44, 45, 46, 47, 48, 49, 50, 51, 52, 53] (by kernel_rfl) (by kernel_rfl) (by kernel_rfl) (by kernel_rfl) ?h0 ?hst ?hend
        case h0 =>
          intro L h0
          have h0 : ∀ i, i < 39 → L i = false := h0
          exact ⟨rfl, rfl, rfl, (Below.refl _ _).drew,offF h0 (i := 0) (by decide),offF h0 (i := 1) (by decide),offF h0 (i := 2) (by decide),offF h0 (i := 3) (by decide),offF h0 (i := 4) (by decide),offF h0 (i := 5) (by decide),offF h0 (i := 6) (by decide),offF h0 (i := 7) (by decide),offF h0 (i := 8) (by decide),offF h0 (i := 9) (by decide),offF h0 (i := 10) (by decide),offF h0 (i := 11) (by decide),offF h0 (i := 12) (by decide),offF h0 (i := 13) (by decide),offF h0 (i := 14) (by decide),offF h0 (i := 15) (by decide),offF h0 (i := 16) (by decide),offF h0 (i := 17) (by decide),offF h0 (i := 18) (by decide),offF h0 (i := 19) (by decide),offF h0 (i := 20) (by decide),offF h0 (i := 21) (by decide),offF h0 (i := 22) (by decide),offF h0 (i := 23) (by decide),offF h0 (i := 24) (by decide),offF h0 (i := 25) (by decide),offF h0 (i := 26) (by decide),offF h0 (i := 27) (by decide),offF h0 (i := 28) (by decide),offF h0 (i := 29) (by decide),offF h0 (i := 30) (by decide),offF h0 (i := 31) (by decide),offF h0 (i := 32) (by decide),offF h0 (i := 33) (by decide),offF h0 (i := 34) (by decide),offF h0 (i := 35) (by decide),offF h0 (i := 36) (by decide),offF h0 (i := 37) (by decide),offF h0 (i := 38) (by decide)⟩
        case hst =>
          show FactSteps _ _ _ _ [0, 1, 2, 3, 4, 5, 6, 7, 8, 9, 10, 11, 12, 13, 14, 15, 16, 17, 18, 19, 20, 21, 22, 23, 24, 25, 26, 27, 28, 29, 30, 31, 32, 33, 34, 35, 36, 37, 38]
          refine @FactSteps.cons _ _ _ _ 0 _ [] _ rfl (by kernel_rfl) ?s0 ?_
          rotate_left
          refine @FactSteps.cons _ _ _ _ 1 _ [0] _ rfl (by kernel_rfl) ?s1 ?_
          rotate_left
          refine @FactSteps.cons _ _ _ _ 2 _ [1] _ rfl (by kernel_rfl) ?s2 ?_
          rotate_left
          refine @FactSteps.cons _ _ _ _ 3 _ [2] _ rfl (by kernel_rfl) ?s3 ?_
          rotate_left
          refine @FactSteps.cons _ _ _ _ 4 _ [3, 2] _ rfl (by kernel_rfl) ?s4 ?_
          rotate_left
          refine @FactSteps.cons _ _ _ _ 5 _ [4] _ rfl (by kernel_rfl) ?s5 ?_
          rotate_left
          refine @FactSteps.cons _ _ _ _ 6 _ [5, 4] _ rfl (by kernel_rfl) ?s6 ?_
          rotate_left
          refine @FactSteps.cons _ _ _ _ 7 _ [6, 4] _ rfl (by kernel_rfl) ?s7 ?_
          rotate_left
          refine @FactSteps.cons _ _ _ _ 8 _ [4, 7] _ rfl (by kernel_rfl) ?s8 ?_
          rotate_left
          refine @FactSteps.cons _ _ _ _ 9 _ [8, 4] _ rfl (by kernel_rfl) ?s9 ?_
          rotate_left
          refine @FactSteps.cons _ _ _ _ 10 _ [9] _ rfl (by kernel_rfl) ?s10 ?_
          rotate_left
          refine @FactSteps.cons _ _ _ _ 11 _ [10, 9] _ rfl (by kernel_rfl) ?s11 ?_
          rotate_left
          refine @FactSteps.cons _ _ _ _ 12 _ [11, 9] _ rfl (by kernel_rfl) ?s12 ?_
          rotate_left
          refine @FactSteps.cons _ _ _ _ 13 _ [9, 12] _ rfl (by kernel_rfl) ?s13 ?_
          rotate_left
          refine @FactSteps.cons _ _ _ _ 14 _ [13, 9] _ rfl (by kernel_rfl) ?s14 ?_
          rotate_left
          refine @FactSteps.cons _ _ _ _ 15 _ [14] _ rfl (by kernel_rfl) ?s15 ?_
          rotate_left
          refine @FactSteps.cons _ _ _ _ 16 _ [15, 14] _ rfl (by kernel_rfl) ?s16 ?_
          rotate_left
          refine @FactSteps.cons _ _ _ _ 17 _ [16, 14] _ rfl (by kernel_rfl) ?s17 ?_
          rotate_left
          refine @FactSteps.cons _ _ _ _ 18 _ [14, 17] _ rfl (by kernel_rfl) ?s18 ?_
          rotate_left
          refine @FactSteps.cons _ _ _ _ 19 _ [18, 14] _ rfl (by kernel_rfl) ?s19 ?_
          rotate_left
          refine @FactSteps.cons _ _ _ _ 20 _ [19] _ rfl (by kernel_rfl) ?s20 ?_
          rotate_left
          refine @FactSteps.cons _ _ _ _ 21 _ [20, 19] _ rfl (by kernel_rfl) ?s21 ?_
          rotate_left
          refine @FactSteps.cons _ _ _ _ 22 _ [21, 19] _ rfl (by kernel_rfl) ?s22 ?_
          rotate_left
          refine @FactSteps.cons _ _ _ _ 23 _ [19, 22] _ rfl (by kernel_rfl) ?s23 ?_
          rotate_left
          refine @FactSteps.cons _ _ _ _ 24 _ [23, 19] _ rfl (by kernel_rfl) ?s24 ?_
          rotate_left
          refine @FactSteps.cons _ _ _ _ 25 _ [24] _ rfl (by kernel_rfl) ?s25 ?_
          rotate_left
          refine @FactSteps.cons _ _ _ _ 26 _ [25, 24] _ rfl (by kernel_rfl) ?s26 ?_
          rotate_left
          refine @FactSteps.cons _ _ _ _ 27 _ [26, 24, 24] _ rfl (by kernel_rfl) ?s27 ?_
          rotate_left
          refine @FactSteps.cons _ _ _ _ 28 _ [27] _ rfl (by kernel_rfl) ?s28 ?_
          rotate_left
          refine @FactSteps.cons _ _ _ _ 29 _ [27] _ rfl (by kernel_rfl) ?s29 ?_
          rotate_left
          refine @FactSteps.cons _ _ _ _ 30 _ [29, 27] _ rfl (by kernel_rfl) ?s30 ?_
          rotate_left
          refine @FactSteps.cons _ _ _ _ 31 _ [28, 30, 27] _ rfl (by kernel_rfl) ?s31 ?_
          rotate_left
          refine @FactSteps.cons _ _ _ _ 32 _ [31, 27] _ rfl (by kernel_rfl) ?s32 ?_
          rotate_left
          refine @FactSteps.cons _ _ _ _ 33 _ [32, 27] _ rfl (by kernel_rfl) ?s33 ?_
          rotate_left
          refine @FactSteps.cons _ _ _ _ 34 _ [27] _ rfl (by kernel_rfl) ?s34 ?_
          rotate_left
          refine @FactSteps.cons _ _ _ _ 35 _ [34, 27] _ rfl (by kernel_rfl) ?s35 ?_
          rotate_left
          refine @FactSteps.cons _ _ _ _ 36 _ [33, 35, 27] _ rfl (by kernel_rfl) ?s36 ?_
          rotate_left
          refine @FactSteps.cons _ _ _ _ 37 _ [27, 36, 24] _ rfl (by kernel_rfl) ?s37 ?_
          rotate_left
          refine @FactSteps.cons _ _ _ _ 38 _ [24, 37] _ rfl (by kernel_rfl) ?s38 ?_
          rotate_left
          exact FactSteps.nil
          case s0 =>
            rintro L a v w hv hg hL hd hcl ⟨e0,e3,e4,hb,f0,f1,f2,f3,f4,f5,f6,f7,f8,f9,f10,f11,f12,f13,f14,f15,f16,f17,f18,f19,f20,f21,f22,f23,f24,f25,f26,f27,f28,f29,f30,f31,f32,f33,f34,f35,f36,f37,f38⟩ K hK
            refine step_do rfl ?_
            clear hv
            go_simp
            exact hK.out _ _ ⟨e0,e3,e4,hb,fun _ => rfl,f1,f2,f3,f4,f5,f6,f7,f8,f9,f10,f11,f12,f13,f14,f15,f16,f17,f18,f19,f20,f21,f22,f23,f24,f25,f26,f27,f28,f29,f30,f31,f32,f33,f34,f35,f36,f37,f38⟩
          case s1 =>
            rintro L a v w hv hg hL hd hcl ⟨e0,e3,e4,hb,f0,f1,f2,f3,f4,f5,f6,f7,f8,f9,f10,f11,f12,f13,f14,f15,f16,f17,f18,f19,f20,f21,f22,f23,f24,f25,f26,f27,f28,f29,f30,f31,f32,f33,f34,f35,f36,f37,f38⟩ K hK
            have g0 := f0 (hd 0 (by decide))
            have hc := (hb.cell (p := ⟨g, 0, none⟩) hgW).trans d0
            refine step_do rfl ?_
            clear hv
            go_simp
            exact hK.out _ _ ⟨e0,e3,e4,hb,f0,fun _ => rfl,f2,f3,f4,f5,f6,f7,f8,f9,f10,f11,f12,f13,f14,f15,f16,f17,f18,f19,f20,f21,f22,f23,f24,f25,f26,f27,f28,f29,f30,f31,f32,f33,f34,f35,f36,f37,f38⟩
          case s2 =>
            rintro L a v w hv hg hL hd hcl ⟨e0,e3,e4,hb,f0,f1,f2,f3,f4,f5,f6,f7,f8,f9,f10,f11,f12,f13,f14,f15,f16,f17,f18,f19,f20,f21,f22,f23,f24,f25,f26,f27,f28,f29,f30,f31,f32,f33,f34,f35,f36,f37,f38⟩ K hK
            have h1 := f1 (hd 1 (by decide))
            refine step_do rfl ?_
            clear hv
            go_simp
            refine (H1.out w).mono ?_
            rintro e wy ⟨rfl, bb⟩
            exact hK.out _ _ ⟨e0,e3,e4, (hb.trans (bb.mono hb.size)),f0,f1,fun _ => rfl,f3,f4,f5,f6,f7,f8,f9,f10,f11,f12,f13,f14,f15,f16,f17,f18,f19,f20,f21,f22,f23,f24,f25,f26,f27,f28,f29,f30,f31,f32,f33,f34,f35,f36,f37,f38⟩
          case s3 =>
            rintro L a v w hv hg hL hd hcl ⟨e0,e3,e4,hb,f0,f1,f2,f3,f4,f5,f6,f7,f8,f9,f10,f11,f12,f13,f14,f15,f16,f17,f18,f19,f20,f21,f22,f23,f24,f25,f26,f27,f28,f29,f30,f31,f32,f33,f34,f35,f36,f37,f38⟩ K hK
            refine step_do rfl ?_
            clear hv
            go_simp
            exact hK.out _ _ ⟨e0,e3,e4,hb,f0,f1,f2,fun _ => rfl,f4,f5,f6,f7,f8,f9,f10,f11,f12,f13,f14,f15,f16,f17,f18,f19,f20,f21,f22,f23,f24,f25,f26,f27,f28,f29,f30,f31,f32,f33,f34,f35,f36,f37,f38⟩
          case s4 =>
            rintro L a v w hv hg hL hd hcl ⟨e0,e3,e4,hb,f0,f1,f2,f3,f4,f5,f6,f7,f8,f9,f10,f11,f12,f13,f14,f15,f16,f17,f18,f19,f20,f21,f22,f23,f24,f25,f26,f27,f28,f29,f30,f31,f32,f33,f34,f35,f36,f37,f38⟩ K hK
            have g3 := f3 (hd 3 (by decide))
            refine step_do rfl ?_
            clear hv
            go_simp
            exact hK.out _ _ ⟨e0,e3,e4,hb,f0,f1,f2,f3,fun _ => rfl,f5,f6,f7,f8,f9,f10,f11,f12,f13,f14,f15,f16,f17,f18,f19,f20,f21,f22,f23,f24,f25,f26,f27,f28,f29,f30,f31,f32,f33,f34,f35,f36,f37,f38⟩
          case s5 =>
            rintro L a v w hv hg hL hd hcl ⟨e0,e3,e4,hb,f0,f1,f2,f3,f4,f5,f6,f7,f8,f9,f10,f11,f12,f13,f14,f15,f16,f17,f18,f19,f20,f21,f22,f23,f24,f25,f26,f27,f28,f29,f30,f31,f32,f33,f34,f35,f36,f37,f38⟩ K hK
            have g4 := f4 (hd 4 (by decide))
            refine step_want (j := 4) (s := 19) (b := false) rfl rfl ((hv 19).trans (f4 (hd 4 (by decide)))) ?_
            clear hv
            go_simp
            exact hK.out _ _ ⟨e0,e3,e4,hb,f0,f1,f2,f3,f4,fun _ => rfl,f6,f7,f8,f9,f10,f11,f12,f13,f14,f15,f16,f17,f18,f19,f20,f21,f22,f23,f24,f25,f26,f27,f28,f29,f30,f31,f32,f33,f34,f35,f36,f37,f38⟩
          case s6 =>
            rintro L a v w hv hg hL hd hcl ⟨e0,e3,e4,hb,f0,f1,f2,f3,f4,f5,f6,f7,f8,f9,f10,f11,f12,f13,f14,f15,f16,f17,f18,f19,f20,f21,f22,f23,f24,f25,f26,f27,f28,f29,f30,f31,f32,f33,f34,f35,f36,f37,f38⟩ K hK
            have g4 := f4 (hd 4 (by decide))
            have g5 := f5 (hd 5 (by decide))
            have hc := (hb.cell (p := ⟨g, 1, none⟩) hgW).trans d1
            refine step_want (j := 4) (s := 19) (b := false) rfl rfl ((hv 19).trans (f4 (hd 4 (by decide)))) ?_
            clear hv
            go_simp
            exact hK.out _ _ ⟨e0,e3,e4,hb,f0,f1,f2,f3,f4,f5,fun _ => rfl,f7,f8,f9,f10,f11,f12,f13,f14,f15,f16,f17,f18,f19,f20,f21,f22,f23,f24,f25,f26,f27,f28,f29,f30,f31,f32,f33,f34,f35,f36,f37,f38⟩
          case s7 =>
            rintro L a v w hv hg hL hd hcl ⟨e0,e3,e4,hb,f0,f1,f2,f3,f4,f5,f6,f7,f8,f9,f10,f11,f12,f13,f14,f15,f16,f17,f18,f19,f20,f21,f22,f23,f24,f25,f26,f27,f28,f29,f30,f31,f32,f33,f34,f35,f36,f37,f38⟩ K hK
            have g4 := f4 (hd 4 (by decide))
            have g6 := f6 (hd 6 (by decide))
            refine step_want (j := 4) (s := 19) (b := false) rfl rfl ((hv 19).trans (f4 (hd 4 (by decide)))) ?_
            clear hv
            go_simp
            exact hK.out _ _ ⟨e0,e3,e4,hb,f0,f1,f2,f3,f4,f5,f6,fun _ => rfl,f8,f9,f10,f11,f12,f13,f14,f15,f16,f17,f18,f19,f20,f21,f22,f23,f24,f25,f26,f27,f28,f29,f30,f31,f32,f33,f34,f35,f36,f37,f38⟩
          case s8 =>
            rintro L a v w hv hg hL hd hcl ⟨e0,e3,e4,hb,f0,f1,f2,f3,f4,f5,f6,f7,f8,f9,f10,f11,f12,f13,f14,f15,f16,f17,f18,f19,f20,f21,f22,f23,f24,f25,f26,f27,f28,f29,f30,f31,f32,f33,f34,f35,f36,f37,f38⟩ K hK
            have g4 := f4 (hd 4 (by decide))
            have g7 := f7 (hd 7 (by decide))
            refine step_do rfl ?_
            clear hv
            go_simp
            exact hK.out _ _ ⟨e0,e3,e4,hb,f0,f1,f2,f3,f4,f5,f6,f7,fun _ => rfl,f9,f10,f11,f12,f13,f14,f15,f16,f17,f18,f19,f20,f21,f22,f23,f24,f25,f26,f27,f28,f29,f30,f31,f32,f33,f34,f35,f36,f37,f38⟩
          case s9 =>
            rintro L a v w hv hg hL hd hcl ⟨e0,e3,e4,hb,f0,f1,f2,f3,f4,f5,f6,f7,f8,f9,f10,f11,f12,f13,f14,f15,f16,f17,f18,f19,f20,f21,f22,f23,f24,f25,f26,f27,f28,f29,f30,f31,f32,f33,f34,f35,f36,f37,f38⟩ K hK
            have g4 := f4 (hd 4 (by decide))
            have g8 := f8 (hd 8 (by decide))
            refine step_do rfl ?_
            clear hv
            go_simp
            exact hK.out _ _ ⟨e0,e3,e4,hb,f0,f1,f2,f3,f4,f5,f6,f7,f8,fun _ => rfl,f10,f11,f12,f13,f14,f15,f16,f17,f18,f19,f20,f21,f22,f23,f24,f25,f26,f27,f28,f29,f30,f31,f32,f33,f34,f35,f36,f37,f38⟩
          case s10 =>
            rintro L a v w hv hg hL hd hcl ⟨e0,e3,e4,hb,f0,f1,f2,f3,f4,f5,f6,f7,f8,f9,f10,f11,f12,f13,f14,f15,f16,f17,f18,f19,f20,f21,f22,f23,f24,f25,f26,f27,f28,f29,f30,f31,f32,f33,f34,f35,f36,f37,f38⟩ K hK
            have g9 := f9 (hd 9 (by decide))
            refine step_want (j := 9) (s := 24) (b := false) rfl rfl ((hv 24).trans (f9 (hd 9 (by decide)))) ?_
            clear hv
            go_simp
            exact hK.out _ _ ⟨e0,e3,e4,hb,f0,f1,f2,f3,f4,f5,f6,f7,f8,f9,fun _ => rfl,f11,f12,f13,f14,f15,f16,f17,f18,f19,f20,f21,f22,f23,f24,f25,f26,f27,f28,f29,f30,f31,f32,f33,f34,f35,f36,f37,f38⟩
          case s11 =>
            rintro L a v w hv hg hL hd hcl ⟨e0,e3,e4,hb,f0,f1,f2,f3,f4,f5,f6,f7,f8,f9,f10,f11,f12,f13,f14,f15,f16,f17,f18,f19,f20,f21,f22,f23,f24,f25,f26,f27,f28,f29,f30,f31,f32,f33,f34,f35,f36,f37,f38⟩ K hK
            have g9 := f9 (hd 9 (by decide))
            have g10 := f10 (hd 10 (by decide))
            have hc := (hb.cell (p := ⟨g, 1, none⟩) hgW).trans d1
            refine step_want (j := 9) (s := 24) (b := false) rfl rfl ((hv 24).trans (f9 (hd 9 (by decide)))) ?_
            clear hv
            go_simp
            exact hK.out _ _ ⟨e0,e3,e4,hb,f0,f1,f2,f3,f4,f5,f6,f7,f8,f9,f10,fun _ => rfl,f12,f13,f14,f15,f16,f17,f18,f19,f20,f21,f22,f23,f24,f25,f26,f27,f28,f29,f30,f31,f32,f33,f34,f35,f36,f37,f38⟩
          case s12 =>
            rintro L a v w hv hg hL hd hcl ⟨e0,e3,e4,hb,f0,f1,f2,f3,f4,f5,f6,f7,f8,f9,f10,f11,f12,f13,f14,f15,f16,f17,f18,f19,f20,f21,f22,f23,f24,f25,f26,f27,f28,f29,f30,f31,f32,f33,f34,f35,f36,f37,f38⟩ K hK
            have g9 := f9 (hd 9 (by decide))
            have g11 := f11 (hd 11 (by decide))
            refine step_want (j := 9) (s := 24) (b := false) rfl rfl ((hv 24).trans (f9 (hd 9 (by decide)))) ?_
            clear hv
            go_simp
            exact hK.out _ _ ⟨e0,e3,e4,hb,f0,f1,f2,f3,f4,f5,f6,f7,f8,f9,f10,f11,fun _ => rfl,f13,f14,f15,f16,f17,f18,f19,f20,f21,f22,f23,f24,f25,f26,f27,f28,f29,f30,f31,f32,f33,f34,f35,f36,f37,f38⟩
          case s13 =>
            rintro L a v w hv hg hL hd hcl ⟨e0,e3,e4,hb,f0,f1,f2,f3,f4,f5,f6,f7,f8,f9,f10,f11,f12,f13,f14,f15,f16,f17,f18,f19,f20,f21,f22,f23,f24,f25,f26,f27,f28,f29,f30,f31,f32,f33,f34,f35,f36,f37,f38⟩ K hK
            have g9 := f9 (hd 9 (by decide))
            have g12 := f12 (hd 12 (by decide))
            refine step_do rfl ?_
            clear hv
            go_simp
            exact hK.out _ _ ⟨e0,e3,e4,hb,f0,f1,f2,f3,f4,f5,f6,f7,f8,f9,f10,f11,f12,fun _ => rfl,f14,f15,f16,f17,f18,f19,f20,f21,f22,f23,f24,f25,f26,f27,f28,f29,f30,f31,f32,f33,f34,f35,f36,f37,f38⟩
          case s14 =>
            rintro L a v w hv hg hL hd hcl ⟨e0,e3,e4,hb,f0,f1,f2,f3,f4,f5,f6,f7,f8,f9,f10,f11,f12,f13,f14,f15,f16,f17,f18,f19,f20,f21,f22,f23,f24,f25,f26,f27,f28,f29,f30,f31,f32,f33,f34,f35,f36,f37,f38⟩ K hK
            have g9 := f9 (hd 9 (by decide))
            have g13 := f13 (hd 13 (by decide))
            refine step_do rfl ?_
            clear hv
            go_simp
            exact hK.out _ _ ⟨e0,e3,e4,hb,f0,f1,f2,f3,f4,f5,f6,f7,f8,f9,f10,f11,f12,f13,fun _ => rfl,f15,f16,f17,f18,f19,f20,f21,f22,f23,f24,f25,f26,f27,f28,f29,f30,f31,f32,f33,f34,f35,f36,f37,f38⟩
          case s15 =>
            rintro L a v w hv hg hL hd hcl ⟨e0,e3,e4,hb,f0,f1,f2,f3,f4,f5,f6,f7,f8,f9,f10,f11,f12,f13,f14,f15,f16,f17,f18,f19,f20,f21,f22,f23,f24,f25,f26,f27,f28,f29,f30,f31,f32,f33,f34,f35,f36,f37,f38⟩ K hK
            have g14 := f14 (hd 14 (by decide))
            refine step_want (j := 14) (s := 29) (b := false) rfl rfl ((hv 29).trans (f14 (hd 14 (by decide)))) ?_
            clear hv
            go_simp
            exact hK.out _ _ ⟨e0,e3,e4,hb,f0,f1,f2,f3,f4,f5,f6,f7,f8,f9,f10,f11,f12,f13,f14,fun _ => rfl,f16,f17,f18,f19,f20,f21,f22,f23,f24,f25,f26,f27,f28,f29,f30,f31,f32,f33,f34,f35,f36,f37,f38⟩
          case s16 =>
            rintro L a v w hv hg hL hd hcl ⟨e0,e3,e4,hb,f0,f1,f2,f3,f4,f5,f6,f7,f8,f9,f10,f11,f12,f13,f14,f15,f16,f17,f18,f19,f20,f21,f22,f23,f24,f25,f26,f27,f28,f29,f30,f31,f32,f33,f34,f35,f36,f37,f38⟩ K hK
            have g14 := f14 (hd 14 (by decide))
            have g15 := f15 (hd 15 (by decide))
            have hc := (hb.cell (p := ⟨g, 2, none⟩) hgW).trans d2
            refine step_want (j := 14) (s := 29) (b := false) rfl rfl ((hv 29).trans (f14 (hd 14 (by decide)))) ?_
            clear hv
            go_simp
            exact hK.out _ _ ⟨e0,e3,e4,hb,f0,f1,f2,f3,f4,f5,f6,f7,f8,f9,f10,f11,f12,f13,f14,f15,fun _ => rfl,f17,f18,f19,f20,f21,f22,f23,f24,f25,f26,f27,f28,f29,f30,f31,f32,f33,f34,f35,f36,f37,f38⟩
          case s17 =>
            rintro L a v w hv hg hL hd hcl ⟨e0,e3,e4,hb,f0,f1,f2,f3,f4,f5,f6,f7,f8,f9,f10,f11,f12,f13,f14,f15,f16,f17,f18,f19,f20,f21,f22,f23,f24,f25,f26,f27,f28,f29,f30,f31,f32,f33,f34,f35,f36,f37,f38⟩ K hK
            have g14 := f14 (hd 14 (by decide))
            have g16 := f16 (hd 16 (by decide))
            refine step_want (j := 14) (s := 29) (b := false) rfl rfl ((hv 29).trans (f14 (hd 14 (by decide)))) ?_
            clear hv
            go_simp
            exact hK.out _ _ ⟨e0,e3,e4,hb,f0,f1,f2,f3,f4,f5,f6,f7,f8,f9,f10,f11,f12,f13,f14,f15,f16,fun _ => rfl,f18,f19,f20,f21,f22,f23,f24,f25,f26,f27,f28,f29,f30,f31,f32,f33,f34,f35,f36,f37,f38⟩
          case s18 =>
            rintro L a v w hv hg hL hd hcl ⟨e0,e3,e4,hb,f0,f1,f2,f3,f4,f5,f6,f7,f8,f9,f10,f11,f12,f13,f14,f15,f16,f17,f18,f19,f20,f21,f22,f23,f24,f25,f26,f27,f28,f29,f30,f31,f32,f33,f34,f35,f36,f37,f38⟩ K hK
            have g14 := f14 (hd 14 (by decide))
            have g17 := f17 (hd 17 (by decide))
            refine step_do rfl ?_
            clear hv
            go_simp
            exact hK.out _ _ ⟨e0,e3,e4,hb,f0,f1,f2,f3,f4,f5,f6,f7,f8,f9,f10,f11,f12,f13,f14,f15,f16,f17,fun _ => rfl,f19,f20,f21,f22,f23,f24,f25,f26,f27,f28,f29,f30,f31,f32,f33,f34,f35,f36,f37,f38⟩
          case s19 =>
            rintro L a v w hv hg hL hd hcl ⟨e0,e3,e4,hb,f0,f1,f2,f3,f4,f5,f6,f7,f8,f9,f10,f11,f12,f13,f14,f15,f16,f17,f18,f19,f20,f21,f22,f23,f24,f25,f26,f27,f28,f29,f30,f31,f32,f33,f34,f35,f36,f37,f38⟩ K hK
            have g14 := f14 (hd 14 (by decide))
            have g18 := f18 (hd 18 (by decide))
            refine step_do rfl ?_
            clear hv
            go_simp
            exact hK.out _ _ ⟨e0,e3,e4,hb,f0,f1,f2,f3,f4,f5,f6,f7,f8,f9,f10,f11,f12,f13,f14,f15,f16,f17,f18,fun _ => rfl,f20,f21,f22,f23,f24,f25,f26,f27,f28,f29,f30,f31,f32,f33,f34,f35,f36,f37,f38⟩
          case s20 =>
            rintro L a v w hv hg hL hd hcl ⟨e0,e3,e4,hb,f0,f1,f2,f3,f4,f5,f6,f7,f8,f9,f10,f11,f12,f13,f14,f15,f16,f17,f18,f19,f20,f21,f22,f23,f24,f25,f26,f27,f28,f29,f30,f31,f32,f33,f34,f35,f36,f37,f38⟩ K hK
            have g19 := f19 (hd 19 (by decide))
            refine step_want (j := 19) (s := 34) (b := false) rfl rfl ((hv 34).trans (f19 (hd 19 (by decide)))) ?_
            clear hv
            go_simp
            exact hK.out _ _ ⟨e0,e3,e4,hb,f0,f1,f2,f3,f4,f5,f6,f7,f8,f9,f10,f11,f12,f13,f14,f15,f16,f17,f18,f19,fun _ => rfl,f21,f22,f23,f24,f25,f26,f27,f28,f29,f30,f31,f32,f33,f34,f35,f36,f37,f38⟩
          case s21 =>
            rintro L a v w hv hg hL hd hcl ⟨e0,e3,e4,hb,f0,f1,f2,f3,f4,f5,f6,f7,f8,f9,f10,f11,f12,f13,f14,f15,f16,f17,f18,f19,f20,f21,f22,f23,f24,f25,f26,f27,f28,f29,f30,f31,f32,f33,f34,f35,f36,f37,f38⟩ K hK
            have g19 := f19 (hd 19 (by decide))
            have g20 := f20 (hd 20 (by decide))
            have hc := (hb.cell (p := ⟨g, 2, none⟩) hgW).trans d2
            refine step_want (j := 19) (s := 34) (b := false) rfl rfl ((hv 34).trans (f19 (hd 19 (by decide)))) ?_
            clear hv
            go_simp
            exact hK.out _ _ ⟨e0,e3,e4,hb,f0,f1,f2,f3,f4,f5,f6,f7,f8,f9,f10,f11,f12,f13,f14,f15,f16,f17,f18,f19,f20,fun _ => rfl,f22,f23,f24,f25,f26,f27,f28,f29,f30,f31,f32,f33,f34,f35,f36,f37,f38⟩
          case s22 =>
            rintro L a v w hv hg hL hd hcl ⟨e0,e3,e4,hb,f0,f1,f2,f3,f4,f5,f6,f7,f8,f9,f10,f11,f12,f13,f14,f15,f16,f17,f18,f19,f20,f21,f22,f23,f24,f25,f26,f27,f28,f29,f30,f31,f32,f33,f34,f35,f36,f37,f38⟩ K hK
            have g19 := f19 (hd 19 (by decide))
            have g21 := f21 (hd 21 (by decide))
            refine step_want (j := 19) (s := 34) (b := false) rfl rfl ((hv 34).trans (f19 (hd 19 (by decide)))) ?_
            clear hv
            go_simp
            exact hK.out _ _ ⟨e0,e3,e4,hb,f0,f1,f2,f3,f4,f5,f6,f7,f8,f9,f10,f11,f12,f13,f14,f15,f16,f17,f18,f19,f20,f21,fun _ => rfl,f23,f24,f25,f26,f27,f28,f29,f30,f31,f32,f33,f34,f35,f36,f37,f38⟩
          case s23 =>
            rintro L a v w hv hg hL hd hcl ⟨e0,e3,e4,hb,f0,f1,f2,f3,f4,f5,f6,f7,f8,f9,f10,f11,f12,f13,f14,f15,f16,f17,f18,f19,f20,f21,f22,f23,f24,f25,f26,f27,f28,f29,f30,f31,f32,f33,f34,f35,f36,f37,f38⟩ K hK
            have g19 := f19 (hd 19 (by decide))
            have g22 := f22 (hd 22 (by decide))
            refine step_do rfl ?_
            clear hv
            go_simp
            exact hK.out _ _ ⟨e0,e3,e4,hb,f0,f1,f2,f3,f4,f5,f6,f7,f8,f9,f10,f11,f12,f13,f14,f15,f16,f17,f18,f19,f20,f21,f22,fun _ => rfl,f24,f25,f26,f27,f28,f29,f30,f31,f32,f33,f34,f35,f36,f37,f38⟩
          case s24 =>
            rintro L a v w hv hg hL hd hcl ⟨e0,e3,e4,hb,f0,f1,f2,f3,f4,f5,f6,f7,f8,f9,f10,f11,f12,f13,f14,f15,f16,f17,f18,f19,f20,f21,f22,f23,f24,f25,f26,f27,f28,f29,f30,f31,f32,f33,f34,f35,f36,f37,f38⟩ K hK
            have g19 := f19 (hd 19 (by decide))
            have g23 := f23 (hd 23 (by decide))
            refine step_do rfl ?_
            clear hv
            go_simp
            exact hK.out _ _ ⟨e0,e3,e4,hb,f0,f1,f2,f3,f4,f5,f6,f7,f8,f9,f10,f11,f12,f13,f14,f15,f16,f17,f18,f19,f20,f21,f22,f23,fun _ => rfl,f25,f26,f27,f28,f29,f30,f31,f32,f33,f34,f35,f36,f37,f38⟩
          case s25 =>
            rintro L a v w hv hg hL hd hcl ⟨e0,e3,e4,hb,f0,f1,f2,f3,f4,f5,f6,f7,f8,f9,f10,f11,f12,f13,f14,f15,f16,f17,f18,f19,f20,f21,f22,f23,f24,f25,f26,f27,f28,f29,f30,f31,f32,f33,f34,f35,f36,f37,f38⟩ K hK
            have g24 := f24 (hd 24 (by decide))
            refine step_want (j := 24) (s := 39) (b := false) rfl rfl ((hv 39).trans (f24 (hd 24 (by decide)))) ?_
            clear hv
            go_simp
            exact hK.out _ _ ⟨e0,e3,e4,hb,f0,f1,f2,f3,f4,f5,f6,f7,f8,f9,f10,f11,f12,f13,f14,f15,f16,f17,f18,f19,f20,f21,f22,f23,f24,fun _ => rfl,f26,f27,f28,f29,f30,f31,f32,f33,f34,f35,f36,f37,f38⟩
          case s26 =>
            rintro L a v w hv hg hL hd hcl ⟨e0,e3,e4,hb,f0,f1,f2,f3,f4,f5,f6,f7,f8,f9,f10,f11,f12,f13,f14,f15,f16,f17,f18,f19,f20,f21,f22,f23,f24,f25,f26,f27,f28,f29,f30,f31,f32,f33,f34,f35,f36,f37,f38⟩ K hK
            have g24 := f24 (hd 24 (by decide))
            have g25 := f25 (hd 25 (by decide))
            refine step_want (j := 24) (s := 39) (b := false) rfl rfl ((hv 39).trans (f24 (hd 24 (by decide)))) ?_
            clear hv
            go_simp
            exact hK.out _ _ ⟨e0,e3,e4,hb,f0,f1,f2,f3,f4,f5,f6,f7,f8,f9,f10,f11,f12,f13,f14,f15,f16,f17,f18,f19,f20,f21,f22,f23,f24,f25,fun _ => rfl,f27,f28,f29,f30,f31,f32,f33,f34,f35,f36,f37,f38⟩
          case s27 =>
            rintro L a v w hv hg hL hd hcl ⟨e0,e3,e4,hb,f0,f1,f2,f3,f4,f5,f6,f7,f8,f9,f10,f11,f12,f13,f14,f15,f16,f17,f18,f19,f20,f21,f22,f23,f24,f25,f26,f27,f28,f29,f30,f31,f32,f33,f34,f35,f36,f37,f38⟩ K hK
            have g24 := f24 (hd 24 (by decide))
            have g26 := f26 (hd 26 (by decide))
            refine step_want (j := 24) (s := 39) (b := false) rfl rfl ((hv 39).trans (f24 (hd 24 (by decide)))) ?_
            clear hv
            go_simp
            exact hK.out _ _ ⟨e0,e3,e4,hb,f0,f1,f2,f3,f4,f5,f6,f7,f8,f9,f10,f11,f12,f13,f14,f15,f16,f17,f18,f19,f20,f21,f22,f23,f24,f25,f26,fun _ => rfl,f28,f29,f30,f31,f32,f33,f34,f35,f36,f37,f38⟩
          case s28 =>
            rintro L a v w hv hg hL hd hcl ⟨e0,e3,e4,hb,f0,f1,f2,f3,f4,f5,f6,f7,f8,f9,f10,f11,f12,f13,f14,f15,f16,f17,f18,f19,f20,f21,f22,f23,f24,f25,f26,f27,f28,f29,f30,f31,f32,f33,f34,f35,f36,f37,f38⟩ K hK
            refine step_skip (j := 27) (s := 42) (b := false) rfl rfl ((hv 42).trans (f27 (hd 27 (by decide)))) (by decide) ?_
            exact hK.out _ _ ⟨e0,e3,e4,hb,f0,f1,f2,f3,f4,f5,f6,f7,f8,f9,f10,f11,f12,f13,f14,f15,f16,f17,f18,f19,f20,f21,f22,f23,f24,f25,f26,f27,fun _ => rfl,f29,f30,f31,f32,f33,f34,f35,f36,f37,f38⟩
          case s29 =>
            rintro L a v w hv hg hL hd hcl ⟨e0,e3,e4,hb,f0,f1,f2,f3,f4,f5,f6,f7,f8,f9,f10,f11,f12,f13,f14,f15,f16,f17,f18,f19,f20,f21,f22,f23,f24,f25,f26,f27,f28,f29,f30,f31,f32,f33,f34,f35,f36,f37,f38⟩ K hK
            refine step_skip (j := 27) (s := 42) (b := false) rfl rfl ((hv 42).trans (f27 (hd 27 (by decide)))) (by decide) ?_
            exact hK.out _ _ ⟨e0,e3,e4,hb,f0,f1,f2,f3,f4,f5,f6,f7,f8,f9,f10,f11,f12,f13,f14,f15,f16,f17,f18,f19,f20,f21,f22,f23,f24,f25,f26,f27,f28,fun _ => rfl,f30,f31,f32,f33,f34,f35,f36,f37,f38⟩
          case s30 =>
            rintro L a v w hv hg hL hd hcl ⟨e0,e3,e4,hb,f0,f1,f2,f3,f4,f5,f6,f7,f8,f9,f10,f11,f12,f13,f14,f15,f16,f17,f18,f19,f20,f21,f22,f23,f24,f25,f26,f27,f28,f29,f30,f31,f32,f33,f34,f35,f36,f37,f38⟩ K hK
            refine step_skip (j := 27) (s := 42) (b := false) rfl rfl ((hv 42).trans (f27 (hd 27 (by decide)))) (by decide) ?_
            exact hK.out _ _ ⟨e0,e3,e4,hb,f0,f1,f2,f3,f4,f5,f6,f7,f8,f9,f10,f11,f12,f13,f14,f15,f16,f17,f18,f19,f20,f21,f22,f23,f24,f25,f26,f27,f28,f29,fun _ => rfl,f31,f32,f33,f34,f35,f36,f37,f38⟩
          case s31 =>
            rintro L a v w hv hg hL hd hcl ⟨e0,e3,e4,hb,f0,f1,f2,f3,f4,f5,f6,f7,f8,f9,f10,f11,f12,f13,f14,f15,f16,f17,f18,f19,f20,f21,f22,f23,f24,f25,f26,f27,f28,f29,f30,f31,f32,f33,f34,f35,f36,f37,f38⟩ K hK
            refine step_skip (j := 27) (s := 42) (b := false) rfl rfl ((hv 42).trans (f27 (hd 27 (by decide)))) (by decide) ?_
            exact hK.out _ _ ⟨e0,e3,e4,hb,f0,f1,f2,f3,f4,f5,f6,f7,f8,f9,f10,f11,f12,f13,f14,f15,f16,f17,f18,f19,f20,f21,f22,f23,f24,f25,f26,f27,f28,f29,f30,fun _ => rfl,f32,f33,f34,f35,f36,f37,f38⟩
          case s32 =>
            rintro L a v w hv hg hL hd hcl ⟨e0,e3,e4,hb,f0,f1,f2,f3,f4,f5,f6,f7,f8,f9,f10,f11,f12,f13,f14,f15,f16,f17,f18,f19,f20,f21,f22,f23,f24,f25,f26,f27,f28,f29,f30,f31,f32,f33,f34,f35,f36,f37,f38⟩ K hK
            refine step_skip (j := 27) (s := 42) (b := false) rfl rfl ((hv 42).trans (f27 (hd 27 (by decide)))) (by decide) ?_
            exact hK.out _ _ ⟨e0,e3,e4,hb,f0,f1,f2,f3,f4,f5,f6,f7,f8,f9,f10,f11,f12,f13,f14,f15,f16,f17,f18,f19,f20,f21,f22,f23,f24,f25,f26,f27,f28,f29,f30,f31,fun _ => rfl,f33,f34,f35,f36,f37,f38⟩
          case s33 =>
            rintro L a v w hv hg hL hd hcl ⟨e0,e3,e4,hb,f0,f1,f2,f3,f4,f5,f6,f7,f8,f9,f10,f11,f12,f13,f14,f15,f16,f17,f18,f19,f20,f21,f22,f23,f24,f25,f26,f27,f28,f29,f30,f31,f32,f33,f34,f35,f36,f37,f38⟩ K hK
            refine step_skip (j := 27) (s := 42) (b := false) rfl rfl ((hv 42).trans (f27 (hd 27 (by decide)))) (by decide) ?_
            exact hK.out _ _ ⟨e0,e3,e4,hb,f0,f1,f2,f3,f4,f5,f6,f7,f8,f9,f10,f11,f12,f13,f14,f15,f16,f17,f18,f19,f20,f21,f22,f23,f24,f25,f26,f27,f28,f29,f30,f31,f32,fun _ => rfl,f34,f35,f36,f37,f38⟩
          case s34 =>
            rintro L a v w hv hg hL hd hcl ⟨e0,e3,e4,hb,f0,f1,f2,f3,f4,f5,f6,f7,f8,f9,f10,f11,f12,f13,f14,f15,f16,f17,f18,f19,f20,f21,f22,f23,f24,f25,f26,f27,f28,f29,f30,f31,f32,f33,f34,f35,f36,f37,f38⟩ K hK
            refine step_skip (j := 27) (s := 42) (b := false) rfl rfl ((hv 42).trans (f27 (hd 27 (by decide)))) (by decide) ?_
            exact hK.out _ _ ⟨e0,e3,e4,hb,f0,f1,f2,f3,f4,f5,f6,f7,f8,f9,f10,f11,f12,f13,f14,f15,f16,f17,f18,f19,f20,f21,f22,f23,f24,f25,f26,f27,f28,f29,f30,f31,f32,f33,fun _ => rfl,f35,f36,f37,f38⟩
          case s35 =>
            rintro L a v w hv hg hL hd hcl ⟨e0,e3,e4,hb,f0,f1,f2,f3,f4,f5,f6,f7,f8,f9,f10,f11,f12,f13,f14,f15,f16,f17,f18,f19,f20,f21,f22,f23,f24,f25,f26,f27,f28,f29,f30,f31,f32,f33,f34,f35,f36,f37,f38⟩ K hK
            refine step_skip (j := 27) (s := 42) (b := false) rfl rfl ((hv 42).trans (f27 (hd 27 (by decide)))) (by decide) ?_
            exact hK.out _ _ ⟨e0,e3,e4,hb,f0,f1,f2,f3,f4,f5,f6,f7,f8,f9,f10,f11,f12,f13,f14,f15,f16,f17,f18,f19,f20,f21,f22,f23,f24,f25,f26,f27,f28,f29,f30,f31,f32,f33,f34,fun _ => rfl,f36,f37,f38⟩
          case s36 =>
            rintro L a v w hv hg hL hd hcl ⟨e0,e3,e4,hb,f0,f1,f2,f3,f4,f5,f6,f7,f8,f9,f10,f11,f12,f13,f14,f15,f16,f17,f18,f19,f20,f21,f22,f23,f24,f25,f26,f27,f28,f29,f30,f31,f32,f33,f34,f35,f36,f37,f38⟩ K hK
            refine step_skip (j := 27) (s := 42) (b := false) rfl rfl ((hv 42).trans (f27 (hd 27 (by decide)))) (by decide) ?_
            exact hK.out _ _ ⟨e0,e3,e4,hb,f0,f1,f2,f3,f4,f5,f6,f7,f8,f9,f10,f11,f12,f13,f14,f15,f16,f17,f18,f19,f20,f21,f22,f23,f24,f25,f26,f27,f28,f29,f30,f31,f32,f33,f34,f35,fun _ => rfl,f37,f38⟩
          case s37 =>
            rintro L a v w hv hg hL hd hcl ⟨e0,e3,e4,hb,f0,f1,f2,f3,f4,f5,f6,f7,f8,f9,f10,f11,f12,f13,f14,f15,f16,f17,f18,f19,f20,f21,f22,f23,f24,f25,f26,f27,f28,f29,f30,f31,f32,f33,f34,f35,f36,f37,f38⟩ K hK
            have g24 := f24 (hd 24 (by decide))
            have g27 := f27 (hd 27 (by decide))
            refine step_want (j := 24) (s := 39) (b := false) rfl rfl ((hv 39).trans (f24 (hd 24 (by decide)))) ?_
            clear hv
            go_simp
            exact hK.out _ _ ⟨e0,e3,e4,hb,f0,f1,f2,f3,f4,f5,f6,f7,f8,f9,f10,f11,f12,f13,f14,f15,f16,f17,f18,f19,f20,f21,f22,f23,f24,f25,f26,f27,f28,f29,f30,f31,f32,f33,f34,f35,f36,fun _ => rfl,f38⟩
          case s38 =>
            rintro L a v w hv hg hL hd hcl ⟨e0,e3,e4,hb,f0,f1,f2,f3,f4,f5,f6,f7,f8,f9,f10,f11,f12,f13,f14,f15,f16,f17,f18,f19,f20,f21,f22,f23,f24,f25,f26,f27,f28,f29,f30,f31,f32,f33,f34,f35,f36,f37,f38⟩ K hK
            have g24 := f24 (hd 24 (by decide))
            have g37 := f37 (hd 37 (by decide))
            refine step_do rfl ?_
            clear hv
            go_simp
            exact hK.out _ _ ⟨e0,e3,e4,hb,f0,f1,f2,f3,f4,f5,f6,f7,f8,f9,f10,f11,f12,f13,f14,f15,f16,f17,f18,f19,f20,f21,f22,f23,f24,f25,f26,f27,f28,f29,f30,f31,f32,f33,f34,f35,f36,f37,fun _ => rfl⟩
        case hend =>
        rintro L v wx hall ⟨e0,e3,e4,hb,f0,f1,f2,f3,f4,f5,f6,f7,f8,f9,f10,f11,f12,f13,f14,f15,f16,f17,f18,f19,f20,f21,f22,f23,f24,f25,f26,f27,f28,f29,f30,f31,f32,f33,f34,f35,f36,f37,f38⟩
        have hL : ∀ i, i < 39 → L i = true := hall
        have f0 := f0 (hL 0 (by decide))
        have f1 := f1 (hL 1 (by decide))
        have f2 := f2 (hL 2 (by decide))
        have f3 := f3 (hL 3 (by decide))
        have f4 := f4 (hL 4 (by decide))
        have f5 := f5 (hL 5 (by decide))
        have f6 := f6 (hL 6 (by decide))
        have f7 := f7 (hL 7 (by decide))
        have f8 := f8 (hL 8 (by decide))
        have f9 := f9 (hL 9 (by decide))
        have f10 := f10 (hL 10 (by decide))
        have f11 := f11 (hL 11 (by decide))
        have f12 := f12 (hL 12 (by decide))
        have f13 := f13 (hL 13 (by decide))
        have f14 := f14 (hL 14 (by decide))
        have f15 := f15 (hL 15 (by decide))
        have f16 := f16 (hL 16 (by decide))
        have f17 := f17 (hL 17 (by decide))
        have f18 := f18 (hL 18 (by decide))
        have f19 := f19 (hL 19 (by decide))
        have f20 := f20 (hL 20 (by decide))
        have f21 := f21 (hL 21 (by decide))
        have f22 := f22 (hL 22 (by decide))
        have f23 := f23 (hL 23 (by decide))
        have f24 := f24 (hL 24 (by decide))
        have f25 := f25 (hL 25 (by decide))
        have f26 := f26 (hL 26 (by decide))
        have f27 := f27 (hL 27 (by decide))
        have f28 := f28 (hL 28 (by decide))
        have f29 := f29 (hL 29 (by decide))
        have f30 := f30 (hL 30 (by decide))
        have f31 := f31 (hL 31 (by decide))
        have f32 := f32 (hL 32 (by decide))
        have f33 := f33 (hL 33 (by decide))
        have f34 := f34 (hL 34 (by decide))
        have f35 := f35 (hL 35 (by decide))
        have f36 := f36 (hL 36 (by decide))
        have f37 := f37 (hL 37 (by decide))
        have f38 := f38 (hL 38 (by decide))
        simp only [finA, List.foldl_cons, List.foldl_nil, Act.put, List.setIfInBounds_toArray, List.set_cons_succ, List.set_cons_zero, f0, f1, f3, f4, f5, f6, f7, f8, f9, f10, f11, f12, f13, f14, f15, f16, f17, f18, f19, f20, f21, f22, f23, f24, f25, f26, f27, f28, f29, f30, f31, f32, f33, f34, f35, f36, f37, f38, f2]
        have gb := gb.trans (hb.mono gb.size)
        clear e0 e3 e4 f0 f1 f2 f3 f4 f5 f6 f7 f8 f9 f10 f11 f12 f13 f14 f15 f16 f17 f18 f19 f20 f21 f22 f23 f24 f25 f26 f27 f28 f29 f30 f31 f32 f33 f34 f35 f36 f37 f38 hL hall
        go_wp2_with fail
        go_roundw
        case rel => exact ⟨1, by omega, by go_num, HOK.out, gb⟩
        case measure => simp [intOf]; omega
      · obtain ⟨kp, hkp2⟩ : ∃ kp, k = kp + 1 := ⟨k - 1, by omega⟩
        obtain ⟨hkl2, la, hlq, hab, hla⟩ := HLA.out kp hkp2
        have hla : W.cell? (aa.add (kp * 3)) = some (.int .i64 la) := (gb.cell hab).trans hla
        have haW : (aa.add (kp * 3)).block < W.heap.size := by have := gb.size; omega
        rw [← hlq] at HMM
        subst hkp2
        have hkn2 : (kp : Int) < (n : Int) := by omega
        have hkp0 : (0 : Int) ≤ (kp : Int) := by omega
        have hpos : (0 : Int) < (kp : Int) + 1 := by omega
        have ew8 : IntKind.i64.wrap (kp : Int) = (kp : Int) := IntWalk.i64_in _ (by omega)
        have HM2 := Lib.hid HM.out
        clear hlq hab hkl2 HM HLA HME
        by_cases hge : a1 ≤ la
        · have hr : R = false := by rw [HR.out]; exact HB.out (by rw [HMM.out]; exact decide_eq_false (by omega))
          subst hr
          clear HR
          refine wp_region_facts (fun L v w => v 0 = .slice (some aa) n c ∧ v 3 = .int .i64 ((kp : Int) + 1) ∧ v 4 = .pointer (some ⟨g, 0, none⟩) ∧ Below W.heap.size W w ∧ (L 0 = true → v 15 = .pointer (some ⟨g, 0, none⟩)) ∧ (L 1 = true → v 16 = .int .i64 a1) ∧ (L 2 = true → v 17 = .bool true) ∧ (L 3 = true → v 18 = .bool false) ∧ (L 4 = true → v 19 = .bool false) ∧ (L 5 = true → v 20 = .pointer (some ⟨g, 1, none⟩)) ∧ (L 6 = true → v 21 = .int .i64 a2) ∧ (L 7 = true → v 22 = .bool false) ∧ (L 8 = true → v 23 = .bool false) ∧ (L 9 = true → v 24 = .bool false) ∧ (L 10 = true → v 25 = .pointer (some ⟨g, 1, none⟩)) ∧ (L 11 = true → v 26 = .int .i64 a2) ∧ (L 12 = true → v 27 = .bool false) ∧ (L 13 = true → v 28 = .bool false) ∧ (L 14 = true → v 29 = .bool false) ∧ (L 15 = true → v 30 = .pointer (some ⟨g, 2, none⟩)) ∧ (L 16 = true → v 31 = .int .i64 a3) ∧ (L 17 = true → v 32 = .bool false) ∧ (L 18 = true → v 33 = .bool false) ∧ (L 19 = true → v 34 = .bool false) ∧ (L 20 = true → v 35 = .pointer (some ⟨g, 2, none⟩)) ∧ (L 21 = true → v 36 = .int .i64 a3) ∧ (L 22 = true → v 37 = .bool false) ∧ (L 23 = true → v 38 = .bool false) ∧ (L 24 = true → v 39 = .bool false) ∧ (L 25 = true → v 40 = .int .i64 ((kp : Int) + 1)) ∧ (L 26 = true → v 41 = .bool true) ∧ (L 27 = true → v 42 = .bool true) ∧ (L 28 = true → v 43 = .slice (some aa) n c) ∧ (L 29 = true → v 44 = .int .i64 ((kp : Int) + 1)) ∧ (L 30 = true → v 45 = .int .i64 kp) ∧ (L 31 = true → v 46 = .pointer (some (aa.add (kp * 3)))) ∧ (L 32 = true → v 47 = .pointer (some (aa.add (kp * 3)))) ∧ (L 33 = true → v 48 = .int .i64 la) ∧ (L 34 = true → v 49 = .pointer (some ⟨g, 0, none⟩)) ∧ (L 35 = true → v 50 = .int .i64 a1) ∧ (L 36 = true → v 51 = .bool true) ∧ (L 37 = true → v 52 = .bool true) ∧ (L 38 = true → v 53 = .bool true)) [15, 16, 17, 18, 19, 20, 21, 22, 23, 24, 25, 26, 27, 28, 29, 30, 31, 32, 33, 34, 35, 36, 37, 38, 39, 40, 41, 42, 43, 44, 45, 46, 47, 48, 49, 50, 51, 52, 53] (by kernel_rfl) (by kernel_rfl) (by kernel_rfl) (by kernel_rfl) ?h0 ?hst ?hend
          case h0 =>
            intro L h0
            have h0 : ∀ i, i < 39 → L i = false := h0
            exact ⟨rfl, rfl, rfl, (Below.refl _ _).drew,offF h0 (i := 0) (by decide),offF h0 (i := 1) (by decide),offF h0 (i := 2) (by decide),offF h0 (i := 3) (by decide),offF h0 (i := 4) (by decide),offF h0 (i := 5) (by decide),offF h0 (i := 6) (by decide),offF h0 (i := 7) (by decide),offF h0 (i := 8) (by decide),offF h0 (i := 9) (by decide),offF h0 (i := 10) (by decide),offF h0 (i := 11) (by decide),offF h0 (i := 12) (by decide),offF h0 (i := 13) (by decide),offF h0 (i := 14) (by decide),offF h0 (i := 15) (by decide),offF h0 (i := 16) (by decide),offF h0 (i := 17) (by decide),offF h0 (i := 18) (by decide),offF h0 (i := 19) (by decide),offF h0 (i := 20) (by decide),offF h0 (i := 21) (by decide),offF h0 (i := 22) (by decide),offF h0 (i := 23) (by decide),offF h0 (i := 24) (by decide),offF h0 (i := 25) (by decide),offF h0 (i := 26) (by decide),offF h0 (i := 27) (by decide),offF h0 (i := 28) (by decide),offF h0 (i := 29) (by decide),offF h0 (i := 30) (by decide),offF h0 (i := 31) (by decide),offF h0 (i := 32) (by decide),offF h0 (i := 33) (by decide),offF h0 (i := 34) (by decide),offF h0 (i := 35) (by decide),offF h0 (i := 36) (by decide),offF h0 (i := 37) (by decide),offF h0 (i := 38) (by decide)⟩
          case hst =>
            show FactSteps _ _ _ _ [0, 1, 2, 3, 4, 5, 6, 7, 8, 9, 10, 11, 12, 13, 14, 15, 16, 17, 18, 19, 20, 21, 22, 23, 24, 25, 26, 27, 28, 29, 30, 31, 32, 33, 34, 35, 36, 37, 38]
            refine @FactSteps.cons _ _ _ _ 0 _ [] _ rfl (by kernel_rfl) ?s0 ?_
            rotate_left
            refine @FactSteps.cons _ _ _ _ 1 _ [0] _ rfl (by kernel_rfl) ?s1 ?_
            rotate_left
            refine @FactSteps.cons _ _ _ _ 2 _ [1] _ rfl (by kernel_rfl) ?s2 ?_
            rotate_left
            refine @FactSteps.cons _ _ _ _ 3 _ [2] _ rfl (by kernel_rfl) ?s3 ?_
            rotate_left
            refine @FactSteps.cons _ _ _ _ 4 _ [3, 2] _ rfl (by kernel_rfl) ?s4 ?_
            rotate_left
            refine @FactSteps.cons _ _ _ _ 5 _ [4] _ rfl (by kernel_rfl) ?s5 ?_
            rotate_left
            refine @FactSteps.cons _ _ _ _ 6 _ [5, 4] _ rfl (by kernel_rfl) ?s6 ?_
            rotate_left
            refine @FactSteps.cons _ _ _ _ 7 _ [6, 4] _ rfl (by kernel_rfl) ?s7 ?_
            rotate_left
            refine @FactSteps.cons _ _ _ _ 8 _ [4, 7] _ rfl (by kernel_rfl) ?s8 ?_
            rotate_left
            refine @FactSteps.cons _ _ _ _ 9 _ [8, 4] _ rfl (by kernel_rfl) ?s9 ?_
            rotate_left
            refine @FactSteps.cons _ _ _ _ 10 _ [9] _ rfl (by kernel_rfl) ?s10 ?_
            rotate_left
            refine @FactSteps.cons _ _ _ _ 11 _ [10, 9] _ rfl (by kernel_rfl) ?s11 ?_
            rotate_left
            refine @FactSteps.cons _ _ _ _ 12 _ [11, 9] _ rfl (by kernel_rfl) ?s12 ?_
            rotate_left
            refine @FactSteps.cons _ _ _ _ 13 _ [9, 12] _ rfl (by kernel_rfl) ?s13 ?_
            rotate_left
            refine @FactSteps.cons _ _ _ _ 14 _ [13, 9] _ rfl (by kernel_rfl) ?s14 ?_
            rotate_left
            refine @FactSteps.cons _ _ _ _ 15 _ [14] _ rfl (by kernel_rfl) ?s15 ?_
            rotate_left
            refine @FactSteps.cons _ _ _ _ 16 _ [15, 14] _ rfl (by kernel_rfl) ?s16 ?_
            rotate_left
            refine @FactSteps.cons _ _ _ _ 17 _ [16, 14] _ rfl (by kernel_rfl) ?s17 ?_
            rotate_left
            refine @FactSteps.cons _ _ _ _ 18 _ [14, 17] _ rfl (by kernel_rfl) ?s18 ?_
            rotate_left
            refine @FactSteps.cons _ _ _ _ 19 _ [18, 14] _ rfl (by kernel_rfl) ?s19 ?_
            rotate_left
            refine @FactSteps.cons _ _ _ _ 20 _ [19] _ rfl (by kernel_rfl) ?s20 ?_
            rotate_left
            refine @FactSteps.cons _ _ _ _ 21 _ [20, 19] _ rfl (by kernel_rfl) ?s21 ?_
            rotate_left
            refine @FactSteps.cons _ _ _ _ 22 _ [21, 19] _ rfl (by kernel_rfl) ?s22 ?_
            rotate_left
            refine @FactSteps.cons _ _ _ _ 23 _ [19, 22] _ rfl (by kernel_rfl) ?s23 ?_
            rotate_left
            refine @FactSteps.cons _ _ _ _ 24 _ [23, 19] _ rfl (by kernel_rfl) ?s24 ?_
            rotate_left
            refine @FactSteps.cons _ _ _ _ 25 _ [24] _ rfl (by kernel_rfl) ?s25 ?_
            rotate_left
            refine @FactSteps.cons _ _ _ _ 26 _ [25, 24] _ rfl (by kernel_rfl) ?s26 ?_
            rotate_left
            refine @FactSteps.cons _ _ _ _ 27 _ [26, 24, 24] _ rfl (by kernel_rfl) ?s27 ?_
            rotate_left
            refine @FactSteps.cons _ _ _ _ 28 _ [27] _ rfl (by kernel_rfl) ?s28 ?_
            rotate_left
            refine @FactSteps.cons _ _ _ _ 29 _ [27] _ rfl (by kernel_rfl) ?s29 ?_
            rotate_left
            refine @FactSteps.cons _ _ _ _ 30 _ [29, 27] _ rfl (by kernel_rfl) ?s30 ?_
            rotate_left
            refine @FactSteps.cons _ _ _ _ 31 _ [28, 30, 27] _ rfl (by kernel_rfl) ?s31 ?_
            rotate_left
            refine @FactSteps.cons _ _ _ _ 32 _ [31, 27] _ rfl (by kernel_rfl) ?s32 ?_
            rotate_left
            refine @FactSteps.cons _ _ _ _ 33 _ [32, 27] _ rfl (by kernel_rfl) ?s33 ?_
            rotate_left
            refine @FactSteps.cons _ _ _ _ 34 _ [27] _ rfl (by kernel_rfl) ?s34 ?_
            rotate_left
            refine @FactSteps.cons _ _ _ _ 35 _ [34, 27] _ rfl (by kernel_rfl) ?s35 ?_
            rotate_left
            refine @FactSteps.cons _ _ _ _ 36 _ [33, 35, 27] _ rfl (by kernel_rfl) ?s36 ?_
            rotate_left
            refine @FactSteps.cons _ _ _ _ 37 _ [27, 36, 24] _ rfl (by kernel_rfl) ?s37 ?_
            rotate_left
            refine @FactSteps.cons _ _ _ _ 38 _ [24, 37] _ rfl (by kernel_rfl) ?s38 ?_
            rotate_left
            exact FactSteps.nil
            case s0 =>
              rintro L a v w hv hg hL hd hcl ⟨e0,e3,e4,hb,f0,f1,f2,f3,f4,f5,f6,f7,f8,f9,f10,f11,f12,f13,f14,f15,f16,f17,f18,f19,f20,f21,f22,f23,f24,f25,f26,f27,f28,f29,f30,f31,f32,f33,f34,f35,f36,f37,f38⟩ K hK
              refine step_do rfl ?_
              clear hv
              go_simp
              exact hK.out _ _ ⟨e0,e3,e4,hb,fun _ => rfl,f1,f2,f3,f4,f5,f6,f7,f8,f9,f10,f11,f12,f13,f14,f15,f16,f17,f18,f19,f20,f21,f22,f23,f24,f25,f26,f27,f28,f29,f30,f31,f32,f33,f34,f35,f36,f37,f38⟩
            case s1 =>
              rintro L a v w hv hg hL hd hcl ⟨e0,e3,e4,hb,f0,f1,f2,f3,f4,f5,f6,f7,f8,f9,f10,f11,f12,f13,f14,f15,f16,f17,f18,f19,f20,f21,f22,f23,f24,f25,f26,f27,f28,f29,f30,f31,f32,f33,f34,f35,f36,f37,f38⟩ K hK
              have g0 := f0 (hd 0 (by decide))
              have hc := (hb.cell (p := ⟨g, 0, none⟩) hgW).trans d0
              refine step_do rfl ?_
              clear hv
              go_simp
              exact hK.out _ _ ⟨e0,e3,e4,hb,f0,fun _ => rfl,f2,f3,f4,f5,f6,f7,f8,f9,f10,f11,f12,f13,f14,f15,f16,f17,f18,f19,f20,f21,f22,f23,f24,f25,f26,f27,f28,f29,f30,f31,f32,f33,f34,f35,f36,f37,f38⟩
            case s2 =>
              rintro L a v w hv hg hL hd hcl ⟨e0,e3,e4,hb,f0,f1,f2,f3,f4,f5,f6,f7,f8,f9,f10,f11,f12,f13,f14,f15,f16,f17,f18,f19,f20,f21,f22,f23,f24,f25,f26,f27,f28,f29,f30,f31,f32,f33,f34,f35,f36,f37,f38⟩ K hK
              have h1 := f1 (hd 1 (by decide))
              refine step_do rfl ?_
              clear hv
              go_simp
              refine (H1.out w).mono ?_
              rintro e wy ⟨rfl, bb⟩
              exact hK.out _ _ ⟨e0,e3,e4, (hb.trans (bb.mono hb.size)),f0,f1,fun _ => rfl,f3,f4,f5,f6,f7,f8,f9,f10,f11,f12,f13,f14,f15,f16,f17,f18,f19,f20,f21,f22,f23,f24,f25,f26,f27,f28,f29,f30,f31,f32,f33,f34,f35,f36,f37,f38⟩
            case s3 =>
              rintro L a v w hv hg hL hd hcl ⟨e0,e3,e4,hb,f0,f1,f2,f3,f4,f5,f6,f7,f8,f9,f10,f11,f12,f13,f14,f15,f16,f17,f18,f19,f20,f21,f22,f23,f24,f25,f26,f27,f28,f29,f30,f31,f32,f33,f34,f35,f36,f37,f38⟩ K hK
              refine step_do rfl ?_
              clear hv
              go_simp
              exact hK.out _ _ ⟨e0,e3,e4,hb,f0,f1,f2,fun _ => rfl,f4,f5,f6,f7,f8,f9,f10,f11,f12,f13,f14,f15,f16,f17,f18,f19,f20,f21,f22,f23,f24,f25,f26,f27,f28,f29,f30,f31,f32,f33,f34,f35,f36,f37,f38⟩
            case s4 =>
              rintro L a v w hv hg hL hd hcl ⟨e0,e3,e4,hb,f0,f1,f2,f3,f4,f5,f6,f7,f8,f9,f10,f11,f12,f13,f14,f15,f16,f17,f18,f19,f20,f21,f22,f23,f24,f25,f26,f27,f28,f29,f30,f31,f32,f33,f34,f35,f36,f37,f38⟩ K hK
              have g3 := f3 (hd 3 (by decide))
              refine step_do rfl ?_
              clear hv
              go_simp
              exact hK.out _ _ ⟨e0,e3,e4,hb,f0,f1,f2,f3,fun _ => rfl,f5,f6,f7,f8,f9,f10,f11,f12,f13,f14,f15,f16,f17,f18,f19,f20,f21,f22,f23,f24,f25,f26,f27,f28,f29,f30,f31,f32,f33,f34,f35,f36,f37,f38⟩
            case s5 =>
              rintro L a v w hv hg hL hd hcl ⟨e0,e3,e4,hb,f0,f1,f2,f3,f4,f5,f6,f7,f8,f9,f10,f11,f12,f13,f14,f15,f16,f17,f18,f19,f20,f21,f22,f23,f24,f25,f26,f27,f28,f29,f30,f31,f32,f33,f34,f35,f36,f37,f38⟩ K hK
              have g4 := f4 (hd 4 (by decide))
              refine step_want (j := 4) (s := 19) (b := false) rfl rfl ((hv 19).trans (f4 (hd 4 (by decide)))) ?_
              clear hv
              go_simp
              exact hK.out _ _ ⟨e0,e3,e4,hb,f0,f1,f2,f3,f4,fun _ => rfl,f6,f7,f8,f9,f10,f11,f12,f13,f14,f15,f16,f17,f18,f19,f20,f21,f22,f23,f24,f25,f26,f27,f28,f29,f30,f31,f32,f33,f34,f35,f36,f37,f38⟩
            case s6 =>
              rintro L a v w hv hg hL hd hcl ⟨e0,e3,e4,hb,f0,f1,f2,f3,f4,f5,f6,f7,f8,f9,f10,f11,f12,f13,f14,f15,f16,f17,f18,f19,f20,f21,f22,f23,f24,f25,f26,f27,f28,f29,f30,f31,f32,f33,f34,f35,f36,f37,f38⟩ K hK
              have g4 := f4 (hd 4 (by decide))
              have g5 := f5 (hd 5 (by decide))
              have hc := (hb.cell (p := ⟨g, 1, none⟩) hgW).trans d1
              refine step_want (j := 4) (s := 19) (b := false) rfl rfl ((hv 19).trans (f4 (hd 4 (by decide)))) ?_
              clear hv
              go_simp
              exact hK.out _ _ ⟨e0,e3,e4,hb,f0,f1,f2,f3,f4,f5,fun _ => rfl,f7,f8,f9,f10,f11,f12,f13,f14,f15,f16,f17,f18,f19,f20,f21,f22,f23,f24,f25,f26,f27,f28,f29,f30,f31,f32,f33,f34,f35,f36,f37,f38⟩
            case s7 =>
              rintro L a v w hv hg hL hd hcl ⟨e0,e3,e4,hb,f0,f1,f2,f3,f4,f5,f6,f7,f8,f9,f10,f11,f12,f13,f14,f15,f16,f17,f18,f19,f20,f21,f22,f23,f24,f25,f26,f27,f28,f29,f30,f31,f32,f33,f34,f35,f36,f37,f38⟩ K hK
              have g4 := f4 (hd 4 (by decide))
              have g6 := f6 (hd 6 (by decide))
              refine step_want (j := 4) (s := 19) (b := false) rfl rfl ((hv 19).trans (f4 (hd 4 (by decide)))) ?_
              clear hv
              go_simp
              exact hK.out _ _ ⟨e0,e3,e4,hb,f0,f1,f2,f3,f4,f5,f6,fun _ => rfl,f8,f9,f10,f11,f12,f13,f14,f15,f16,f17,f18,f19,f20,f21,f22,f23,f24,f25,f26,f27,f28,f29,f30,f31,f32,f33,f34,f35,f36,f37,f38⟩
            case s8 =>
              rintro L a v w hv hg hL hd hcl ⟨e0,e3,e4,hb,f0,f1,f2,f3,f4,f5,f6,f7,f8,f9,f10,f11,f12,f13,f14,f15,f16,f17,f18,f19,f20,f21,f22,f23,f24,f25,f26,f27,f28,f29,f30,f31,f32,f33,f34,f35,f36,f37,f38⟩ K hK
              have g4 := f4 (hd 4 (by decide))
              have g7 := f7 (hd 7 (by decide))
              refine step_do rfl ?_
              clear hv
              go_simp
              exact hK.out _ _ ⟨e0,e3,e4,hb,f0,f1,f2,f3,f4,f5,f6,f7,fun _ => rfl,f9,f10,f11,f12,f13,f14,f15,f16,f17,f18,f19,f20,f21,f22,f23,f24,f25,f26,f27,f28,f29,f30,f31,f32,f33,f34,f35,f36,f37,f38⟩
            case s9 =>
              rintro L a v w hv hg hL hd hcl ⟨e0,e3,e4,hb,f0,f1,f2,f3,f4,f5,f6,f7,f8,f9,f10,f11,f12,f13,f14,f15,f16,f17,f18,f19,f20,f21,f22,f23,f24,f25,f26,f27,f28,f29,f30,f31,f32,f33,f34,f35,f36,f37,f38⟩ K hK
              have g4 := f4 (hd 4 (by decide))
              have g8 := f8 (hd 8 (by decide))
              refine step_do rfl ?_
              clear hv
              go_simp
              exact hK.out _ _ ⟨e0,e3,e4,hb,f0,f1,f2,f3,f4,f5,f6,f7,f8,fun _ => rfl,f10,f11,f12,f13,f14,f15,f16,f17,f18,f19,f20,f21,f22,f23,f24,f25,f26,f27,f28,f29,f30,f31,f32,f33,f34,f35,f36,f37,f38⟩
            case s10 =>
              rintro L a v w hv hg hL hd hcl ⟨e0,e3,e4,hb,f0,f1,f2,f3,f4,f5,f6,f7,f8,f9,f10,f11,f12,f13,f14,f15,f16,f17,f18,f19,f20,f21,f22,f23,f24,f25,f26,f27,f28,f29,f30,f31,f32,f33,f34,f35,f36,f37,f38⟩ K hK
              have g9 := f9 (hd 9 (by decide))
              refine step_want (j := 9) (s := 24) (b := false) rfl rfl ((hv 24).trans (f9 (hd 9 (by decide)))) ?_
              clear hv
              go_simp
              exact hK.out _ _ ⟨e0,e3,e4,hb,f0,f1,f2,f3,f4,f5,f6,f7,f8,f9,fun _ => rfl,f11,f12,f13,f14,f15,f16,f17,f18,f19,f20,f21,f22,f23,f24,f25,f26,f27,f28,f29,f30,f31,f32,f33,f34,f35,f36,f37,f38⟩
            case s11 =>
              rintro L a v w hv hg hL hd hcl ⟨e0,e3,e4,hb,f0,f1,f2,f3,f4,f5,f6,f7,f8,f9,f10,f11,f12,f13,f14,f15,f16,f17,f18,f19,f20,f21,f22,f23,f24,f25,f26,f27,f28,f29,f30,f31,f32,f33,f34,f35,f36,f37,f38⟩ K hK
              have g9 := f9 (hd 9 (by decide))
              have g10 := f10 (hd 10 (by decide))
              have hc := (hb.cell (p := ⟨g, 1, none⟩) hgW).trans d1
              refine step_want (j := 9) (s := 24) (b := false) rfl rfl ((hv 24).trans (f9 (hd 9 (by decide)))) ?_
              clear hv
              go_simp
              exact hK.out _ _ ⟨e0,e3,e4,hb,f0,f1,f2,f3,f4,f5,f6,f7,f8,f9,f10,fun _ => rfl,f12,f13,f14,f15,f16,f17,f18,f19,f20,f21,f22,f23,f24,f25,f26,f27,f28,f29,f30,f31,f32,f33,f34,f35,f36,f37,f38⟩
            case s12 =>
              rintro L a v w hv hg hL hd hcl ⟨e0,e3,e4,hb,f0,f1,f2,f3,f4,f5,f6,f7,f8,f9,f10,f11,f12,f13,f14,f15,f16,f17,f18,f19,f20,f21,f22,f23,f24,f25,f26,f27,f28,f29,f30,f31,f32,f33,f34,f35,f36,f37,f38⟩ K hK
              have g9 := f9 (hd 9 (by decide))
              have g11 := f11 (hd 11 (by decide))
              refine step_want (j := 9) (s := 24) (b := false) rfl rfl ((hv 24).trans (f9 (hd 9 (by decide)))) ?_
              clear hv
              go_simp
              exact hK.out _ _ ⟨e0,e3,e4,hb,f0,f1,f2,f3,f4,f5,f6,f7,f8,f9,f10,f11,fun _ => rfl,f13,f14,f15,f16,f17,f18,f19,f20,f21,f22,f23,f24,f25,f26,f27,f28,f29,f30,f31,f32,f33,f34,f35,f36,f37,f38⟩
            case s13 =>
              rintro L a v w hv hg hL hd hcl ⟨e0,e3,e4,hb,f0,f1,f2,f3,f4,f5,f6,f7,f8,f9,f10,f11,f12,f13,f14,f15,f16,f17,f18,f19,f20,f21,f22,f23,f24,f25,f26,f27,f28,f29,f30,f31,f32,f33,f34,f35,f36,f37,f38⟩ K hK
              have g9 := f9 (hd 9 (by decide))
              have g12 := f12 (hd 12 (by decide))
              refine step_do rfl ?_
              clear hv
              go_simp
              exact hK.out _ _ ⟨e0,e3,e4,hb,f0,f1,f2,f3,f4,f5,f6,f7,f8,f9,f10,f11,f12,fun _ => rfl,f14,f15,f16,f17,f18,f19,f20,f21,f22,f23,f24,f25,f26,f27,f28,f29,f30,f31,f32,f33,f34,f35,f36,f37,f38⟩
            case s14 =>
              rintro L a v w hv hg hL hd hcl ⟨e0,e3,e4,hb,f0,f1,f2,f3,f4,f5,f6,f7,f8,f9,f10,f11,f12,f13,f14,f15,f16,f17,f18,f19,f20,f21,f22,f23,f24,f25,f26,f27,f28,f29,f30,f31,f32,f33,f34,f35,f36,f37,f38⟩ K hK
              have g9 := f9 (hd 9 (by decide))
              have g13 := f13 (hd 13 (by decide))
              refine step_do rfl ?_
              clear hv
              go_simp
              exact hK.out _ _ ⟨e0,e3,e4,hb,f0,f1,f2,f3,f4,f5,f6,f7,f8,f9,f10,f11,f12,f13,fun _ => rfl,f15,f16,f17,f18,f19,f20,f21,f22,f23,f24,f25,f26,f27,f28,f29,f30,f31,f32,f33,f34,f35,f36,f37,f38⟩
            case s15 =>
              rintro L a v w hv hg hL hd hcl ⟨e0,e3,e4,hb,f0,f1,f2,f3,f4,f5,f6,f7,f8,f9,f10,f11,f12,f13,f14,f15,f16,f17,f18,f19,f20,f21,f22,f23,f24,f25,f26,f27,f28,f29,f30,f31,f32,f33,f34,f35,f36,f37,f38⟩ K hK
              have g14 := f14 (hd 14 (by decide))
              refine step_want (j := 14) (s := 29) (b := false) rfl rfl ((hv 29).trans (f14 (hd 14 (by decide)))) ?_
              clear hv
              go_simp
              exact hK.out _ _ ⟨e0,e3,e4,hb,f0,f1,f2,f3,f4,f5,f6,f7,f8,f9,f10,f11,f12,f13,f14,fun _ => rfl,f16,f17,f18,f19,f20,f21,f22,f23,f24,f25,f26,f27,f28,f29,f30,f31,f32,f33,f34,f35,f36,f37,f38⟩
            case s16 =>
              rintro L a v w hv hg hL hd hcl ⟨e0,e3,e4,hb,f0,f1,f2,f3,f4,f5,f6,f7,f8,f9,f10,f11,f12,f13,f14,f15,f16,f17,f18,f19,f20,f21,f22,f23,f24,f25,f26,f27,f28,f29,f30,f31,f32,f33,f34,f35,f36,f37,f38⟩ K hK
              have g14 := f14 (hd 14 (by decide))
              have g15 := f15 (hd 15 (by decide))
              have hc := (hb.cell (p := ⟨g, 2, none⟩) hgW).trans d2
              refine step_want (j := 14) (s := 29) (b := false) rfl rfl ((hv 29).trans (f14 (hd 14 (by decide)))) ?_
              clear hv
              go_simp
              exact hK.out _ _ ⟨e0,e3,e4,hb,f0,f1,f2,f3,f4,f5,f6,f7,f8,f9,f10,f11,f12,f13,f14,f15,fun _ => rfl,f17,f18,f19,f20,f21,f22,f23,f24,f25,f26,f27,f28,f29,f30,f31,f32,f33,f34,f35,f36,f37,f38⟩
            case s17 =>
              rintro L a v w hv hg hL hd hcl ⟨e0,e3,e4,hb,f0,f1,f2,f3,f4,f5,f6,f7,f8,f9,f10,f11,f12,f13,f14,f15,f16,f17,f18,f19,f20,f21,f22,f23,f24,f25,f26,f27,f28,f29,f30,f31,f32,f33,f34,f35,f36,f37,f38⟩ K hK
              have g14 := f14 (hd 14 (by decide))
              have g16 := f16 (hd 16 (by decide))
              refine step_want (j := 14) (s := 29) (b := false) rfl rfl ((hv 29).trans (f14 (hd 14 (by decide)))) ?_
              clear hv
              go_simp
              exact hK.out _ _ ⟨e0,e3,e4,hb,f0,f1,f2,f3,f4,f5,f6,f7,f8,f9,f10,f11,f12,f13,f14,f15,f16,fun _ => rfl,f18,f19,f20,f21,f22,f23,f24,f25,f26,f27,f28,f29,f30,f31,f32,f33,f34,f35,f36,f37,f38⟩
            case s18 =>
              rintro L a v w hv hg hL hd hcl ⟨e0,e3,e4,hb,f0,f1,f2,f3,f4,f5,f6,f7,f8,f9,f10,f11,f12,f13,f14,f15,f16,f17,f18,f19,f20,f21,f22,f23,f24,f25,f26,f27,f28,f29,f30,f31,f32,f33,f34,f35,f36,f37,f38⟩ K hK
              have g14 := f14 (hd 14 (by decide))
              have g17 := f17 (hd 17 (by decide))
              refine step_do rfl ?_
              clear hv
              go_simp
              exact hK.out _ _ ⟨e0,e3,e4,hb,f0,f1,f2,f3,f4,f5,f6,f7,f8,f9,f10,f11,f12,f13,f14,f15,f16,f17,fun _ => rfl,f19,f20,f21,f22,f23,f24,f25,f26,f27,f28,f29,f30,f31,f32,f33,f34,f35,f36,f37,f38⟩
            case s19 =>
              rintro L a v w hv hg hL hd hcl ⟨e0,e3,e4,hb,f0,f1,f2,f3,f4,f5,f6,f7,f8,f9,f10,f11,f12,f13,f14,f15,f16,f17,f18,f19,f20,f21,f22,f23,f24,f25,f26,f27,f28,f29,f30,f31,f32,f33,f34,f35,f36,f37,f38⟩ K hK
              have g14 := f14 (hd 14 (by decide))
              have g18 := f18 (hd 18 (by decide))
              refine step_do rfl ?_
              clear hv
              go_simp
              exact hK.out _ _ ⟨e0,e3,e4,hb,f0,f1,f2,f3,f4,f5,f6,f7,f8,f9,f10,f11,f12,f13,f14,f15,f16,f17,f18,fun _ => rfl,f20,f21,f22,f23,f24,f25,f26,f27,f28,f29,f30,f31,f32,f33,f34,f35,f36,f37,f38⟩
            case s20 =>
              rintro L a v w hv hg hL hd hcl ⟨e0,e3,e4,hb,f0,f1,f2,f3,f4,f5,f6,f7,f8,f9,f10,f11,f12,f13,f14,f15,f16,f17,f18,f19,f20,f21,f22,f23,f24,f25,f26,f27,f28,f29,f30,f31,f32,f33,f34,f35,f36,f37,f38⟩ K hK
              have g19 := f19 (hd 19 (by decide))
              refine step_want (j := 19) (s := 34) (b := false) rfl rfl ((hv 34).trans (f19 (hd 19 (by decide)))) ?_
              clear hv
              go_simp
              exact hK.out _ _ ⟨e0,e3,e4,hb,f0,f1,f2,f3,f4,f5,f6,f7,f8,f9,f10,f11,f12,f13,f14,f15,f16,f17,f18,f19,fun _ => rfl,f21,f22,f23,f24,f25,f26,f27,f28,f29,f30,f31,f32,f33,f34,f35,f36,f37,f38⟩
            case s21 =>
              rintro L a v w hv hg hL hd hcl ⟨e0,e3,e4,hb,f0,f1,f2,f3,f4,f5,f6,f7,f8,f9,f10,f11,f12,f13,f14,f15,f16,f17,f18,f19,f20,f21,f22,f23,f24,f25,f26,f27,f28,f29,f30,f31,f32,f33,f34,f35,f36,f37,f38⟩ K hK
              have g19 := f19 (hd 19 (by decide))
              have g20 := f20 (hd 20 (by decide))
              have hc := (hb.cell (p := ⟨g, 2, none⟩) hgW).trans d2
              refine step_want (j := 19) (s := 34) (b := false) rfl rfl ((hv 34).trans (f19 (hd 19 (by decide)))) ?_
              clear hv
              go_simp
              exact hK.out _ _ ⟨e0,e3,e4,hb,f0,f1,f2,f3,f4,f5,f6,f7,f8,f9,f10,f11,f12,f13,f14,f15,f16,f17,f18,f19,f20,fun _ => rfl,f22,f23,f24,f25,f26,f27,f28,f29,f30,f31,f32,f33,f34,f35,f36,f37,f38⟩
            case s22 =>
              rintro L a v w hv hg hL hd hcl ⟨e0,e3,e4,hb,f0,f1,f2,f3,f4,f5,f6,f7,f8,f9,f10,f11,f12,f13,f14,f15,f16,f17,f18,f19,f20,f21,f22,f23,f24,f25,f26,f27,f28,f29,f30,f31,f32,f33,f34,f35,f36,f37,f38⟩ K hK
              have g19 := f19 (hd 19 (by decide))
              have g21 := f21 (hd 21 (by decide))
              refine step_want (j := 19) (s := 34) (b := false) rfl rfl ((hv 34).trans (f19 (hd 19 (by decide)))) ?_
              clear hv
              go_simp
              exact hK.out _ _ ⟨e0,e3,e4,hb,f0,f1,f2,f3,f4,f5,f6,f7,f8,f9,f10,f11,f12,f13,f14,f15,f16,f17,f18,f19,f20,f21,fun _ => rfl,f23,f24,f25,f26,f27,f28,f29,f30,f31,f32,f33,f34,f35,f36,f37,f38⟩
            case s23 =>
              rintro L a v w hv hg hL hd hcl ⟨e0,e3,e4,hb,f0,f1,f2,f3,f4,f5,f6,f7,f8,f9,f10,f11,f12,f13,f14,f15,f16,f17,f18,f19,f20,f21,f22,f23,f24,f25,f26,f27,f28,f29,f30,f31,f32,f33,f34,f35,f36,f37,f38⟩ K hK
              have g19 := f19 (hd 19 (by decide))
              have g22 := f22 (hd 22 (by decide))
              refine step_do rfl ?_
              clear hv
              go_simp
              exact hK.out _ _ ⟨e0,e3,e4,hb,f0,f1,f2,f3,f4,f5,f6,f7,f8,f9,f10,f11,f12,f13,f14,f15,f16,f17,f18,f19,f20,f21,f22,fun _ => rfl,f24,f25,f26,f27,f28,f29,f30,f31,f32,f33,f34,f35,f36,f37,f38⟩
            case s24 =>
              rintro L a v w hv hg hL hd hcl ⟨e0,e3,e4,hb,f0,f1,f2,f3,f4,f5,f6,f7,f8,f9,f10,f11,f12,f13,f14,f15,f16,f17,f18,f19,f20,f21,f22,f23,f24,f25,f26,f27,f28,f29,f30,f31,f32,f33,f34,f35,f36,f37,f38⟩ K hK
              have g19 := f19 (hd 19 (by decide))
              have g23 := f23 (hd 23 (by decide))
              refine step_do rfl ?_
              clear hv
              go_simp
              exact hK.out _ _ ⟨e0,e3,e4,hb,f0,f1,f2,f3,f4,f5,f6,f7,f8,f9,f10,f11,f12,f13,f14,f15,f16,f17,f18,f19,f20,f21,f22,f23,fun _ => rfl,f25,f26,f27,f28,f29,f30,f31,f32,f33,f34,f35,f36,f37,f38⟩
            case s25 =>
              rintro L a v w hv hg hL hd hcl ⟨e0,e3,e4,hb,f0,f1,f2,f3,f4,f5,f6,f7,f8,f9,f10,f11,f12,f13,f14,f15,f16,f17,f18,f19,f20,f21,f22,f23,f24,f25,f26,f27,f28,f29,f30,f31,f32,f33,f34,f35,f36,f37,f38⟩ K hK
              have g24 := f24 (hd 24 (by decide))
              refine step_want (j := 24) (s := 39) (b := false) rfl rfl ((hv 39).trans (f24 (hd 24 (by decide)))) ?_
              clear hv
              go_simp
              exact hK.out _ _ ⟨e0,e3,e4,hb,f0,f1,f2,f3,f4,f5,f6,f7,f8,f9,f10,f11,f12,f13,f14,f15,f16,f17,f18,f19,f20,f21,f22,f23,f24,fun _ => rfl,f26,f27,f28,f29,f30,f31,f32,f33,f34,f35,f36,f37,f38⟩
            case s26 =>
              rintro L a v w hv hg hL hd hcl ⟨e0,e3,e4,hb,f0,f1,f2,f3,f4,f5,f6,f7,f8,f9,f10,f11,f12,f13,f14,f15,f16,f17,f18,f19,f20,f21,f22,f23,f24,f25,f26,f27,f28,f29,f30,f31,f32,f33,f34,f35,f36,f37,f38⟩ K hK
              have g24 := f24 (hd 24 (by decide))
              have g25 := f25 (hd 25 (by decide))
              refine step_want (j := 24) (s := 39) (b := false) rfl rfl ((hv 39).trans (f24 (hd 24 (by decide)))) ?_
              clear hv
              go_simp
              exact hK.out _ _ ⟨e0,e3,e4,hb,f0,f1,f2,f3,f4,f5,f6,f7,f8,f9,f10,f11,f12,f13,f14,f15,f16,f17,f18,f19,f20,f21,f22,f23,f24,f25,fun _ => rfl,f27,f28,f29,f30,f31,f32,f33,f34,f35,f36,f37,f38⟩
            case s27 =>
              rintro L a v w hv hg hL hd hcl ⟨e0,e3,e4,hb,f0,f1,f2,f3,f4,f5,f6,f7,f8,f9,f10,f11,f12,f13,f14,f15,f16,f17,f18,f19,f20,f21,f22,f23,f24,f25,f26,f27,f28,f29,f30,f31,f32,f33,f34,f35,f36,f37,f38⟩ K hK
              have g24 := f24 (hd 24 (by decide))
              have g26 := f26 (hd 26 (by decide))
              refine step_want (j := 24) (s := 39) (b := false) rfl rfl ((hv 39).trans (f24 (hd 24 (by decide)))) ?_
              clear hv
              go_simp
              exact hK.out _ _ ⟨e0,e3,e4,hb,f0,f1,f2,f3,f4,f5,f6,f7,f8,f9,f10,f11,f12,f13,f14,f15,f16,f17,f18,f19,f20,f21,f22,f23,f24,f25,f26,fun _ => rfl,f28,f29,f30,f31,f32,f33,f34,f35,f36,f37,f38⟩
            case s28 =>
              rintro L a v w hv hg hL hd hcl ⟨e0,e3,e4,hb,f0,f1,f2,f3,f4,f5,f6,f7,f8,f9,f10,f11,f12,f13,f14,f15,f16,f17,f18,f19,f20,f21,f22,f23,f24,f25,f26,f27,f28,f29,f30,f31,f32,f33,f34,f35,f36,f37,f38⟩ K hK
              have g27 := f27 (hd 27 (by decide))
              refine step_want (j := 27) (s := 42) (b := true) rfl rfl ((hv 42).trans (f27 (hd 27 (by decide)))) ?_
              clear hv
              go_simp
              exact hK.out _ _ ⟨e0,e3,e4,hb,f0,f1,f2,f3,f4,f5,f6,f7,f8,f9,f10,f11,f12,f13,f14,f15,f16,f17,f18,f19,f20,f21,f22,f23,f24,f25,f26,f27,fun _ => rfl,f29,f30,f31,f32,f33,f34,f35,f36,f37,f38⟩
            case s29 =>
              rintro L a v w hv hg hL hd hcl ⟨e0,e3,e4,hb,f0,f1,f2,f3,f4,f5,f6,f7,f8,f9,f10,f11,f12,f13,f14,f15,f16,f17,f18,f19,f20,f21,f22,f23,f24,f25,f26,f27,f28,f29,f30,f31,f32,f33,f34,f35,f36,f37,f38⟩ K hK
              have g27 := f27 (hd 27 (by decide))
              refine step_want (j := 27) (s := 42) (b := true) rfl rfl ((hv 42).trans (f27 (hd 27 (by decide)))) ?_
              clear hv
              go_simp
              exact hK.out _ _ ⟨e0,e3,e4,hb,f0,f1,f2,f3,f4,f5,f6,f7,f8,f9,f10,f11,f12,f13,f14,f15,f16,f17,f18,f19,f20,f21,f22,f23,f24,f25,f26,f27,f28,fun _ => rfl,f30,f31,f32,f33,f34,f35,f36,f37,f38⟩
            case s30 =>
              rintro L a v w hv hg hL hd hcl ⟨e0,e3,e4,hb,f0,f1,f2,f3,f4,f5,f6,f7,f8,f9,f10,f11,f12,f13,f14,f15,f16,f17,f18,f19,f20,f21,f22,f23,f24,f25,f26,f27,f28,f29,f30,f31,f32,f33,f34,f35,f36,f37,f38⟩ K hK
              have g27 := f27 (hd 27 (by decide))
              have g29 := f29 (hd 29 (by decide))
              refine step_want (j := 27) (s := 42) (b := true) rfl rfl ((hv 42).trans (f27 (hd 27 (by decide)))) ?_
              clear hv
              go_simp
              exact hK.out _ _ ⟨e0,e3,e4,hb,f0,f1,f2,f3,f4,f5,f6,f7,f8,f9,f10,f11,f12,f13,f14,f15,f16,f17,f18,f19,f20,f21,f22,f23,f24,f25,f26,f27,f28,f29,fun _ => rfl,f31,f32,f33,f34,f35,f36,f37,f38⟩
            case s31 =>
              rintro L a v w hv hg hL hd hcl ⟨e0,e3,e4,hb,f0,f1,f2,f3,f4,f5,f6,f7,f8,f9,f10,f11,f12,f13,f14,f15,f16,f17,f18,f19,f20,f21,f22,f23,f24,f25,f26,f27,f28,f29,f30,f31,f32,f33,f34,f35,f36,f37,f38⟩ K hK
              have g27 := f27 (hd 27 (by decide))
              have g28 := f28 (hd 28 (by decide))
              have g30 := f30 (hd 30 (by decide))
              refine step_want (j := 27) (s := 42) (b := true) rfl rfl ((hv 42).trans (f27 (hd 27 (by decide)))) ?_
              clear hv
              go_simp
              exact hK.out _ _ ⟨e0,e3,e4,hb,f0,f1,f2,f3,f4,f5,f6,f7,f8,f9,f10,f11,f12,f13,f14,f15,f16,f17,f18,f19,f20,f21,f22,f23,f24,f25,f26,f27,f28,f29,f30,fun _ => rfl,f32,f33,f34,f35,f36,f37,f38⟩
            case s32 =>
              rintro L a v w hv hg hL hd hcl ⟨e0,e3,e4,hb,f0,f1,f2,f3,f4,f5,f6,f7,f8,f9,f10,f11,f12,f13,f14,f15,f16,f17,f18,f19,f20,f21,f22,f23,f24,f25,f26,f27,f28,f29,f30,f31,f32,f33,f34,f35,f36,f37,f38⟩ K hK
              have g27 := f27 (hd 27 (by decide))
              have g31 := f31 (hd 31 (by decide))
              refine step_want (j := 27) (s := 42) (b := true) rfl rfl ((hv 42).trans (f27 (hd 27 (by decide)))) ?_
              clear hv
              go_simp
              exact hK.out _ _ ⟨e0,e3,e4,hb,f0,f1,f2,f3,f4,f5,f6,f7,f8,f9,f10,f11,f12,f13,f14,f15,f16,f17,f18,f19,f20,f21,f22,f23,f24,f25,f26,f27,f28,f29,f30,f31,fun _ => rfl,f33,f34,f35,f36,f37,f38⟩
            case s33 =>
              rintro L a v w hv hg hL hd hcl ⟨e0,e3,e4,hb,f0,f1,f2,f3,f4,f5,f6,f7,f8,f9,f10,f11,f12,f13,f14,f15,f16,f17,f18,f19,f20,f21,f22,f23,f24,f25,f26,f27,f28,f29,f30,f31,f32,f33,f34,f35,f36,f37,f38⟩ K hK
              have g27 := f27 (hd 27 (by decide))
              have g32 := f32 (hd 32 (by decide))
              have hc := (hb.cell haW).trans hla
              refine step_want (j := 27) (s := 42) (b := true) rfl rfl ((hv 42).trans (f27 (hd 27 (by decide)))) ?_
              clear hv
              go_simp
              exact hK.out _ _ ⟨e0,e3,e4,hb,f0,f1,f2,f3,f4,f5,f6,f7,f8,f9,f10,f11,f12,f13,f14,f15,f16,f17,f18,f19,f20,f21,f22,f23,f24,f25,f26,f27,f28,f29,f30,f31,f32,fun _ => rfl,f34,f35,f36,f37,f38⟩
            case s34 =>
              rintro L a v w hv hg hL hd hcl ⟨e0,e3,e4,hb,f0,f1,f2,f3,f4,f5,f6,f7,f8,f9,f10,f11,f12,f13,f14,f15,f16,f17,f18,f19,f20,f21,f22,f23,f24,f25,f26,f27,f28,f29,f30,f31,f32,f33,f34,f35,f36,f37,f38⟩ K hK
              have g27 := f27 (hd 27 (by decide))
              refine step_want (j := 27) (s := 42) (b := true) rfl rfl ((hv 42).trans (f27 (hd 27 (by decide)))) ?_
              clear hv
              go_simp
              exact hK.out _ _ ⟨e0,e3,e4,hb,f0,f1,f2,f3,f4,f5,f6,f7,f8,f9,f10,f11,f12,f13,f14,f15,f16,f17,f18,f19,f20,f21,f22,f23,f24,f25,f26,f27,f28,f29,f30,f31,f32,f33,fun _ => rfl,f35,f36,f37,f38⟩
            case s35 =>
              rintro L a v w hv hg hL hd hcl ⟨e0,e3,e4,hb,f0,f1,f2,f3,f4,f5,f6,f7,f8,f9,f10,f11,f12,f13,f14,f15,f16,f17,f18,f19,f20,f21,f22,f23,f24,f25,f26,f27,f28,f29,f30,f31,f32,f33,f34,f35,f36,f37,f38⟩ K hK
              have g27 := f27 (hd 27 (by decide))
              have g34 := f34 (hd 34 (by decide))
              have hc := (hb.cell (p := ⟨g, 0, none⟩) hgW).trans d0
              refine step_want (j := 27) (s := 42) (b := true) rfl rfl ((hv 42).trans (f27 (hd 27 (by decide)))) ?_
              clear hv
              go_simp
              exact hK.out _ _ ⟨e0,e3,e4,hb,f0,f1,f2,f3,f4,f5,f6,f7,f8,f9,f10,f11,f12,f13,f14,f15,f16,f17,f18,f19,f20,f21,f22,f23,f24,f25,f26,f27,f28,f29,f30,f31,f32,f33,f34,fun _ => rfl,f36,f37,f38⟩
            case s36 =>
              rintro L a v w hv hg hL hd hcl ⟨e0,e3,e4,hb,f0,f1,f2,f3,f4,f5,f6,f7,f8,f9,f10,f11,f12,f13,f14,f15,f16,f17,f18,f19,f20,f21,f22,f23,f24,f25,f26,f27,f28,f29,f30,f31,f32,f33,f34,f35,f36,f37,f38⟩ K hK
              have g27 := f27 (hd 27 (by decide))
              have g33 := f33 (hd 33 (by decide))
              have g35 := f35 (hd 35 (by decide))
              refine step_want (j := 27) (s := 42) (b := true) rfl rfl ((hv 42).trans (f27 (hd 27 (by decide)))) ?_
              clear hv
              go_simp
              exact hK.out _ _ ⟨e0,e3,e4,hb,f0,f1,f2,f3,f4,f5,f6,f7,f8,f9,f10,f11,f12,f13,f14,f15,f16,f17,f18,f19,f20,f21,f22,f23,f24,f25,f26,f27,f28,f29,f30,f31,f32,f33,f34,f35,fun _ => rfl,f37,f38⟩
            case s37 =>
              rintro L a v w hv hg hL hd hcl ⟨e0,e3,e4,hb,f0,f1,f2,f3,f4,f5,f6,f7,f8,f9,f10,f11,f12,f13,f14,f15,f16,f17,f18,f19,f20,f21,f22,f23,f24,f25,f26,f27,f28,f29,f30,f31,f32,f33,f34,f35,f36,f37,f38⟩ K hK
              have g24 := f24 (hd 24 (by decide))
              have g27 := f27 (hd 27 (by decide))
              have g36 := f36 (hd 36 (by decide))
              refine step_want (j := 24) (s := 39) (b := false) rfl rfl ((hv 39).trans (f24 (hd 24 (by decide)))) ?_
              clear hv
              go_simp
              exact hK.out _ _ ⟨e0,e3,e4,hb,f0,f1,f2,f3,f4,f5,f6,f7,f8,f9,f10,f11,f12,f13,f14,f15,f16,f17,f18,f19,f20,f21,f22,f23,f24,f25,f26,f27,f28,f29,f30,f31,f32,f33,f34,f35,f36,fun _ => rfl,f38⟩
            case s38 =>
              rintro L a v w hv hg hL hd hcl ⟨e0,e3,e4,hb,f0,f1,f2,f3,f4,f5,f6,f7,f8,f9,f10,f11,f12,f13,f14,f15,f16,f17,f18,f19,f20,f21,f22,f23,f24,f25,f26,f27,f28,f29,f30,f31,f32,f33,f34,f35,f36,f37,f38⟩ K hK
              have g24 := f24 (hd 24 (by decide))
              have g37 := f37 (hd 37 (by decide))
              refine step_do rfl ?_
              clear hv
              go_simp
              exact hK.out _ _ ⟨e0,e3,e4,hb,f0,f1,f2,f3,f4,f5,f6,f7,f8,f9,f10,f11,f12,f13,f14,f15,f16,f17,f18,f19,f20,f21,f22,f23,f24,f25,f26,f27,f28,f29,f30,f31,f32,f33,f34,f35,f36,f37,fun _ => rfl⟩
          case hend =>
          rintro L v wx hall ⟨e0,e3,e4,hb,f0,f1,f2,f3,f4,f5,f6,f7,f8,f9,f10,f11,f12,f13,f14,f15,f16,f17,f18,f19,f20,f21,f22,f23,f24,f25,f26,f27,f28,f29,f30,f31,f32,f33,f34,f35,f36,f37,f38⟩
          have hL : ∀ i, i < 39 → L i = true := hall
          have f0 := f0 (hL 0 (by decide))
          have f1 := f1 (hL 1 (by decide))
          have f2 := f2 (hL 2 (by decide))
          have f3 := f3 (hL 3 (by decide))
          have f4 := f4 (hL 4 (by decide))
          have f5 := f5 (hL 5 (by decide))
          have f6 := f6 (hL 6 (by decide))
          have f7 := f7 (hL 7 (by decide))
          have f8 := f8 (hL 8 (by decide))
          have f9 := f9 (hL 9 (by decide))
          have f10 := f10 (hL 10 (by decide))
          have f11 := f11 (hL 11 (by decide))
          have f12 := f12 (hL 12 (by decide))
          have f13 := f13 (hL 13 (by decide))
          have f14 := f14 (hL 14 (by decide))
          have f15 := f15 (hL 15 (by decide))
          have f16 := f16 (hL 16 (by decide))
          have f17 := f17 (hL 17 (by decide))
          have f18 := f18 (hL 18 (by decide))
          have f19 := f19 (hL 19 (by decide))
          have f20 := f20 (hL 20 (by decide))
          have f21 := f21 (hL 21 (by decide))
          have f22 := f22 (hL 22 (by decide))
          have f23 := f23 (hL 23 (by decide))
          have f24 := f24 (hL 24 (by decide))
          have f25 := f25 (hL 25 (by decide))
          have f26 := f26 (hL 26 (by decide))
          have f27 := f27 (hL 27 (by decide))
          have f28 := f28 (hL 28 (by decide))
          have f29 := f29 (hL 29 (by decide))
          have f30 := f30 (hL 30 (by decide))
          have f31 := f31 (hL 31 (by decide))
          have f32 := f32 (hL 32 (by decide))
          have f33 := f33 (hL 33 (by decide))
          have f34 := f34 (hL 34 (by decide))
          have f35 := f35 (hL 35 (by decide))
          have f36 := f36 (hL 36 (by decide))
          have f37 := f37 (hL 37 (by decide))
          have f38 := f38 (hL 38 (by decide))
          simp only [finA, List.foldl_cons, List.foldl_nil, Act.put, List.setIfInBounds_toArray, List.set_cons_succ, List.set_cons_zero, f0, f1, f3, f4, f5, f6, f7, f8, f9, f10, f11, f12, f13, f14, f15, f16, f17, f18, f19, f20, f21, f22, f23, f24, f25, f26, f27, f28, f29, f30, f31, f32, f33, f34, f35, f36, f37, f38, f2]
          have gb := gb.trans (hb.mono gb.size)
          clear e0 e3 e4 f0 f1 f2 f3 f4 f5 f6 f7 f8 f9 f10 f11 f12 f13 f14 f15 f16 f17 f18 f19 f20 f21 f22 f23 f24 f25 f26 f27 f28 f29 f30 f31 f32 f33 f34 f35 f36 f37 f38 hL hall
          go_wp2_with fail
          go_ret
          exact ⟨rfl, gb⟩
        · have hok := HM2.out (by rw [HMM.out]; exact decide_eq_true (by omega))
          have HOK := Lib.hid hok
          clear hok
          refine wp_region_facts (fun L v w => v 0 = .slice (some aa) n c ∧ v 3 = .int .i64 ((kp : Int) + 1) ∧ v 4 = .pointer (some ⟨g, 0, none⟩) ∧ Below W.heap.size W w ∧ (L 0 = true → v 15 = .pointer (some ⟨g, 0, none⟩)) ∧ (L 1 = true → v 16 = .int .i64 a1) ∧ (L 2 = true → v 17 = .bool true) ∧ (L 3 = true → v 18 = .bool false) ∧ (L 4 = true → v 19 = .bool false) ∧ (L 5 = true → v 20 = .pointer (some ⟨g, 1, none⟩)) ∧ (L 6 = true → v 21 = .int .i64 a2) ∧ (L 7 = true → v 22 = .bool false) ∧ (L 8 = true → v 23 = .bool false) ∧ (L 9 = true → v 24 = .bool false) ∧ (L 10 = true → v 25 = .pointer (some ⟨g, 1, none⟩)) ∧ (L 11 = true → v 26 = .int .i64 a2) ∧ (L 12 = true → v 27 = .bool false) ∧ (L 13 = true → v 28 = .bool false) ∧ (L 14 = true → v 29 = .bool false) ∧ (L 15 = true → v 30 = .pointer (some ⟨g, 2, none⟩)) ∧ (L 16 = true → v 31 = .int .i64 a3) ∧ (L 17 = true → v 32 = .bool false) ∧ (L 18 = true → v 33 = .bool false) ∧ (L 19 = true → v 34 = .bool false) ∧ (L 20 = true → v 35 = .pointer (some ⟨g, 2, none⟩)) ∧ (L 21 = true → v 36 = .int .i64 a3) ∧ (L 22 = true → v 37 = .bool false) ∧ (L 23 = true → v 38 = .bool false) ∧ (L 24 = true → v 39 = .bool false) ∧ (L 25 = true → v 40 = .int .i64 ((kp : Int) + 1)) ∧ (L 26 = true → v 41 = .bool true) ∧ (L 27 = true → v 42 = .bool true) ∧ (L 28 = true → v 43 = .slice (some aa) n c) ∧ (L 29 = true → v 44 = .int .i64 ((kp : Int) + 1)) ∧ (L 30 = true → v 45 = .int .i64 kp) ∧ (L 31 = true → v 46 = .pointer (some (aa.add (kp * 3)))) ∧ (L 32 = true → v 47 = .pointer (some (aa.add (kp * 3)))) ∧ (L 33 = true → v 48 = .int .i64 la) ∧ (L 34 = true → v 49 = .pointer (some ⟨g, 0, none⟩)) ∧ (L 35 = true → v 50 = .int .i64 a1) ∧ (L 36 = true → v 51 = .bool false) ∧ (L 37 = true → v 52 = .bool false) ∧ (L 38 = true → v 53 = .bool false)) [15, 16, 17, 18, 19, 20, 21, 22, 23, 24, 25, 26, 27, 28, 29, 30, 31, 32, 33, 34, 35, 36, 37, 38, 39, 40, 41, 42, 43, 44, 45, 46, 47, 48, 49, 50, 51, 52, 53] (by kernel_rfl) (by kernel_rfl) (by kernel_rfl) (by kernel_rfl) ?h0 ?hst ?hend
          case h0 =>
            intro L h0
            have h0 : ∀ i, i < 39 → L i = false := h0
            exact ⟨rfl, rfl, rfl, (Below.refl _ _).drew,offF h0 (i := 0) (by decide),offF h0 (i := 1) (by decide),offF h0 (i := 2) (by decide),offF h0 (i := 3) (by decide),offF h0 (i := 4) (by decide),offF h0 (i := 5) (by decide),offF h0 (i := 6) (by decide),offF h0 (i := 7) (by decide),offF h0 (i := 8) (by decide),offF h0 (i := 9) (by decide),offF h0 (i := 10) (by decide),offF h0 (i := 11) (by decide),offF h0 (i := 12) (by decide),offF h0 (i := 13) (by decide),offF h0 (i := 14) (by decide),offF h0 (i := 15) (by decide),offF h0 (i := 16) (by decide),offF h0 (i := 17) (by decide),offF h0 (i := 18) (by decide),offF h0 (i := 19) (by decide),offF h0 (i := 20) (by decide),offF h0 (i := 21) (by decide),offF h0 (i := 22) (by decide),offF h0 (i := 23) (by decide),offF h0 (i := 24) (by decide),offF h0 (i := 25) (by decide),offF h0 (i := 26) (by decide),offF h0 (i := 27) (by decide),offF h0 (i := 28) (by decide),offF h0 (i := 29) (by decide),offF h0 (i := 30) (by decide),offF h0 (i := 31) (by decide),offF h0 (i := 32) (by decide),offF h0 (i := 33) (by decide),offF h0 (i := 34) (by decide),offF h0 (i := 35) (by decide),offF h0 (i := 36) (by decide),offF h0 (i := 37) (by decide),offF h0 (i := 38) (by decide)⟩
          case hst =>
            show FactSteps _ _ _ _ [0, 1, 2, 3, 4, 5, 6, 7, 8, 9, 10, 11, 12, 13, 14, 15, 16, 17, 18, 19, 20, 21, 22, 23, 24, 25, 26, 27, 28, 29, 30, 31, 32, 33, 34, 35, 36, 37, 38]
            refine @FactSteps.cons _ _ _ _ 0 _ [] _ rfl (by kernel_rfl) ?s0 ?_
            rotate_left
            refine @FactSteps.cons _ _ _ _ 1 _ [0] _ rfl (by kernel_rfl) ?s1 ?_
            rotate_left
            refine @FactSteps.cons _ _ _ _ 2 _ [1] _ rfl (by kernel_rfl) ?s2 ?_
            rotate_left
            refine @FactSteps.cons _ _ _ _ 3 _ [2] _ rfl (by kernel_rfl) ?s3 ?_
            rotate_left
            refine @FactSteps.cons _ _ _ _ 4 _ [3, 2] _ rfl (by kernel_rfl) ?s4 ?_
            rotate_left
            refine @FactSteps.cons _ _ _ _ 5 _ [4] _ rfl (by kernel_rfl) ?s5 ?_
            rotate_left
            refine @FactSteps.cons _ _ _ _ 6 _ [5, 4] _ rfl (by kernel_rfl) ?s6 ?_
            rotate_left
            refine @FactSteps.cons _ _ _ _ 7 _ [6, 4] _ rfl (by kernel_rfl) ?s7 ?_
            rotate_left
            refine @FactSteps.cons _ _ _ _ 8 _ [4, 7] _ rfl (by kernel_rfl) ?s8 ?_
            rotate_left
            refine @FactSteps.cons _ _ _ _ 9 _ [8, 4] _ rfl (by kernel_rfl) ?s9 ?_
            rotate_left
            refine @FactSteps.cons _ _ _ _ 10 _ [9] _ rfl (by kernel_rfl) ?s10 ?_
            rotate_left
            refine @FactSteps.cons _ _ _ _ 11 _ [10, 9] _ rfl (by kernel_rfl) ?s11 ?_
            rotate_left
            refine @FactSteps.cons _ _ _ _ 12 _ [11, 9] _ rfl (by kernel_rfl) ?s12 ?_
            rotate_left
            refine @FactSteps.cons _ _ _ _ 13 _ [9, 12] _ rfl (by kernel_rfl) ?s13 ?_
            rotate_left
            refine @FactSteps.cons _ _ _ _ 14 _ [13, 9] _ rfl (by kernel_rfl) ?s14 ?_
            rotate_left
            refine @FactSteps.cons _ _ _ _ 15 _ [14] _ rfl (by kernel_rfl) ?s15 ?_
            rotate_left
            refine @FactSteps.cons _ _ _ _ 16 _ [15, 14] _ rfl (by kernel_rfl) ?s16 ?_
            rotate_left
            refine @FactSteps.cons _ _ _ _ 17 _ [16, 14] _ rfl (by kernel_rfl) ?s17 ?_
            rotate_left
            refine @FactSteps.cons _ _ _ _ 18 _ [14, 17] _ rfl (by kernel_rfl) ?s18 ?_
            rotate_left
            refine @FactSteps.cons _ _ _ _ 19 _ [18, 14] _ rfl (by kernel_rfl) ?s19 ?_
            rotate_left
            refine @FactSteps.cons _ _ _ _ 20 _ [19] _ rfl (by kernel_rfl) ?s20 ?_
            rotate_left
            refine @FactSteps.cons _ _ _ _ 21 _ [20, 19] _ rfl (by kernel_rfl) ?s21 ?_
            rotate_left
            refine @FactSteps.cons _ _ _ _ 22 _ [21, 19] _ rfl (by kernel_rfl) ?s22 ?_
            rotate_left
            refine @FactSteps.cons _ _ _ _ 23 _ [19, 22] _ rfl (by kernel_rfl) ?s23 ?_
            rotate_left
            refine @FactSteps.cons _ _ _ _ 24 _ [23, 19] _ rfl (by kernel_rfl) ?s24 ?_
            rotate_left
            refine @FactSteps.cons _ _ _ _ 25 _ [24] _ rfl (by kernel_rfl) ?s25 ?_
            rotate_left
            refine @FactSteps.cons _ _ _ _ 26 _ [25, 24] _ rfl (by kernel_rfl) ?s26 ?_
            rotate_left
            refine @FactSteps.cons _ _ _ _ 27 _ [26, 24, 24] _ rfl (by kernel_rfl) ?s27 ?_
            rotate_left
            refine @FactSteps.cons _ _ _ _ 28 _ [27] _ rfl (by kernel_rfl) ?s28 ?_
            rotate_left
            refine @FactSteps.cons _ _ _ _ 29 _ [27] _ rfl (by kernel_rfl) ?s29 ?_
            rotate_left
            refine @FactSteps.cons _ _ _ _ 30 _ [29, 27] _ rfl (by kernel_rfl) ?s30 ?_
            rotate_left
            refine @FactSteps.cons _ _ _ _ 31 _ [28, 30, 27] _ rfl (by kernel_rfl) ?s31 ?_
            rotate_left
            refine @FactSteps.cons _ _ _ _ 32 _ [31, 27] _ rfl (by kernel_rfl) ?s32 ?_
            rotate_left
            refine @FactSteps.cons _ _ _ _ 33 _ [32, 27] _ rfl (by kernel_rfl) ?s33 ?_
            rotate_left
            refine @FactSteps.cons _ _ _ _ 34 _ [27] _ rfl (by kernel_rfl) ?s34 ?_
            rotate_left
            refine @FactSteps.cons _ _ _ _ 35 _ [34, 27] _ rfl (by kernel_rfl) ?s35 ?_
            rotate_left
            refine @FactSteps.cons _ _ _ _ 36 _ [33, 35, 27] _ rfl (by kernel_rfl) ?s36 ?_
            rotate_left
            refine @FactSteps.cons _ _ _ _ 37 _ [27, 36, 24] _ rfl (by kernel_rfl) ?s37 ?_
            rotate_left
            refine @FactSteps.cons _ _ _ _ 38 _ [24, 37] _ rfl (by kernel_rfl) ?s38 ?_
            rotate_left
            exact FactSteps.nil
            case s0 =>
              rintro L a v w hv hg hL hd hcl ⟨e0,e3,e4,hb,f0,f1,f2,f3,f4,f5,f6,f7,f8,f9,f10,f11,f12,f13,f14,f15,f16,f17,f18,f19,f20,f21,f22,f23,f24,f25,f26,f27,f28,f29,f30,f31,f32,f33,f34,f35,f36,f37,f38⟩ K hK
              refine step_do rfl ?_
              clear hv
              go_simp
              exact hK.out _ _ ⟨e0,e3,e4,hb,fun _ => rfl,f1,f2,f3,f4,f5,f6,f7,f8,f9,f10,f11,f12,f13,f14,f15,f16,f17,f18,f19,f20,f21,f22,f23,f24,f25,f26,f27,f28,f29,f30,f31,f32,f33,f34,f35,f36,f37,f38⟩
            case s1 =>
              rintro L a v w hv hg hL hd hcl ⟨e0,e3,e4,hb,f0,f1,f2,f3,f4,f5,f6,f7,f8,f9,f10,f11,f12,f13,f14,f15,f16,f17,f18,f19,f20,f21,f22,f23,f24,f25,f26,f27,f28,f29,f30,f31,f32,f33,f34,f35,f36,f37,f38⟩ K hK
              have g0 := f0 (hd 0 (by decide))
              have hc := (hb.cell (p := ⟨g, 0, none⟩) hgW).trans d0
              refine step_do rfl ?_
              clear hv
              go_simp
              exact hK.out _ _ ⟨e0,e3,e4,hb,f0,fun _ => rfl,f2,f3,f4,f5,f6,f7,f8,f9,f10,f11,f12,f13,f14,f15,f16,f17,f18,f19,f20,f21,f22,f23,f24,f25,f26,f27,f28,f29,f30,f31,f32,f33,f34,f35,f36,f37,f38⟩
            case s2 =>
              rintro L a v w hv hg hL hd hcl ⟨e0,e3,e4,hb,f0,f1,f2,f3,f4,f5,f6,f7,f8,f9,f10,f11,f12,f13,f14,f15,f16,f17,f18,f19,f20,f21,f22,f23,f24,f25,f26,f27,f28,f29,f30,f31,f32,f33,f34,f35,f36,f37,f38⟩ K hK
              have h1 := f1 (hd 1 (by decide))
              refine step_do rfl ?_
              clear hv
              go_simp
              refine (H1.out w).mono ?_
              rintro e wy ⟨rfl, bb⟩
              exact hK.out _ _ ⟨e0,e3,e4, (hb.trans (bb.mono hb.size)),f0,f1,fun _ => rfl,f3,f4,f5,f6,f7,f8,f9,f10,f11,f12,f13,f14,f15,f16,f17,f18,f19,f20,f21,f22,f23,f24,f25,f26,f27,f28,f29,f30,f31,f32,f33,f34,f35,f36,f37,f38⟩
            case s3 =>
              rintro L a v w hv hg hL hd hcl ⟨e0,e3,e4,hb,f0,f1,f2,f3,f4,f5,f6,f7,f8,f9,f10,f11,f12,f13,f14,f15,f16,f17,f18,f19,f20,f21,f22,f23,f24,f25,f26,f27,f28,f29,f30,f31,f32,f33,f34,f35,f36,f37,f38⟩ K hK
              refine step_do rfl ?_
              clear hv
              go_simp
              exact hK.out _ _ ⟨e0,e3,e4,hb,f0,f1,f2,fun _ => rfl,f4,f5,f6,f7,f8,f9,f10,f11,f12,f13,f14,f15,f16,f17,f18,f19,f20,f21,f22,f23,f24,f25,f26,f27,f28,f29,f30,f31,f32,f33,f34,f35,f36,f37,f38⟩
            case s4 =>
              rintro L a v w hv hg hL hd hcl ⟨e0,e3,e4,hb,f0,f1,f2,f3,f4,f5,f6,f7,f8,f9,f10,f11,f12,f13,f14,f15,f16,f17,f18,f19,f20,f21,f22,f23,f24,f25,f26,f27,f28,f29,f30,f31,f32,f33,f34,f35,f36,f37,f38⟩ K hK
              have g3 := f3 (hd 3 (by decide))
              refine step_do rfl ?_
              clear hv
              go_simp
              exact hK.out _ _ ⟨e0,e3,e4,hb,f0,f1,f2,f3,fun _ => rfl,f5,f6,f7,f8,f9,f10,f11,f12,f13,f14,f15,f16,f17,f18,f19,f20,f21,f22,f23,f24,f25,f26,f27,f28,f29,f30,f31,f32,f33,f34,f35,f36,f37,f38⟩
            case s5 =>
              rintro L a v w hv hg hL hd hcl ⟨e0,e3,e4,hb,f0,f1,f2,f3,f4,f5,f6,f7,f8,f9,f10,f11,f12,f13,f14,f15,f16,f17,f18,f19,f20,f21,f22,f23,f24,f25,f26,f27,f28,f29,f30,f31,f32,f33,f34,f35,f36,f37,f38⟩ K hK
              have g4 := f4 (hd 4 (by decide))
              refine step_want (j := 4) (s := 19) (b := false) rfl rfl ((hv 19).trans (f4 (hd 4 (by decide)))) ?_
              clear hv
              go_simp
              exact hK.out _ _ ⟨e0,e3,e4,hb,f0,f1,f2,f3,f4,fun _ => rfl,f6,f7,f8,f9,f10,f11,f12,f13,f14,f15,f16,f17,f18,f19,f20,f21,f22,f23,f24,f25,f26,f27,f28,f29,f30,f31,f32,f33,f34,f35,f36,f37,f38⟩
            case s6 =>
              rintro L a v w hv hg hL hd hcl ⟨e0,e3,e4,hb,f0,f1,f2,f3,f4,f5,f6,f7,f8,f9,f10,f11,f12,f13,f14,f15,f16,f17,f18,f19,f20,f21,f22,f23,f24,f25,f26,f27,f28,f29,f30,f31,f32,f33,f34,f35,f36,f37,f38⟩ K hK
              have g4 := f4 (hd 4 (by decide))
              have g5 := f5 (hd 5 (by decide))
              have hc := (hb.cell (p := ⟨g, 1, none⟩) hgW).trans d1
              refine step_want (j := 4) (s := 19) (b := false) rfl rfl ((hv 19).trans (f4 (hd 4 (by decide)))) ?_
              clear hv
              go_simp
              exact hK.out _ _ ⟨e0,e3,e4,hb,f0,f1,f2,f3,f4,f5,fun _ => rfl,f7,f8,f9,f10,f11,f12,f13,f14,f15,f16,f17,f18,f19,f20,f21,f22,f23,f24,f25,f26,f27,f28,f29,f30,f31,f32,f33,f34,f35,f36,f37,f38⟩
            case s7 =>
              rintro L a v w hv hg hL hd hcl ⟨e0,e3,e4,hb,f0,f1,f2,f3,f4,f5,f6,f7,f8,f9,f10,f11,f12,f13,f14,f15,f16,f17,f18,f19,f20,f21,f22,f23,f24,f25,f26,f27,f28,f29,f30,f31,f32,f33,f34,f35,f36,f37,f38⟩ K hK
              have g4 := f4 (hd 4 (by decide))
              have g6 := f6 (hd 6 (by decide))
              refine step_want (j := 4) (s := 19) (b := false) rfl rfl ((hv 19).trans (f4 (hd 4 (by decide)))) ?_
              clear hv
              go_simp
              exact hK.out _ _ ⟨e0,e3,e4,hb,f0,f1,f2,f3,f4,f5,f6,fun _ => rfl,f8,f9,f10,f11,f12,f13,f14,f15,f16,f17,f18,f19,f20,f21,f22,f23,f24,f25,f26,f27,f28,f29,f30,f31,f32,f33,f34,f35,f36,f37,f38⟩
            case s8 =>
              rintro L a v w hv hg hL hd hcl ⟨e0,e3,e4,hb,f0,f1,f2,f3,f4,f5,f6,f7,f8,f9,f10,f11,f12,f13,f14,f15,f16,f17,f18,f19,f20,f21,f22,f23,f24,f25,f26,f27,f28,f29,f30,f31,f32,f33,f34,f35,f36,f37,f38⟩ K hK
              have g4 := f4 (hd 4 (by decide))
              have g7 := f7 (hd 7 (by decide))
              refine step_do rfl ?_
              clear hv
              go_simp
              exact hK.out _ _ ⟨e0,e3,e4,hb,f0,f1,f2,f3,f4,f5,f6,f7,fun _ => rfl,f9,f10,f11,f12,f13,f14,f15,f16,f17,f18,f19,f20,f21,f22,f23,f24,f25,f26,f27,f28,f29,f30,f31,f32,f33,f34,f35,f36,f37,f38⟩
            case s9 =>
              rintro L a v w hv hg hL hd hcl ⟨e0,e3,e4,hb,f0,f1,f2,f3,f4,f5,f6,f7,f8,f9,f10,f11,f12,f13,f14,f15,f16,f17,f18,f19,f20,f21,f22,f23,f24,f25,f26,f27,f28,f29,f30,f31,f32,f33,f34,f35,f36,f37,f38⟩ K hK
              have g4 := f4 (hd 4 (by decide))
              have g8 := f8 (hd 8 (by decide))
              refine step_do rfl ?_
              clear hv
              go_simp
              exact hK.out _ _ ⟨e0,e3,e4,hb,f0,f1,f2,f3,f4,f5,f6,f7,f8,fun _ => rfl,f10,f11,f12,f13,f14,f15,f16,f17,f18,f19,f20,f21,f22,f23,f24,f25,f26,f27,f28,f29,f30,f31,f32,f33,f34,f35,f36,f37,f38⟩
            case s10 =>
              rintro L a v w hv hg hL hd hcl ⟨e0,e3,e4,hb,f0,f1,f2,f3,f4,f5,f6,f7,f8,f9,f10,f11,f12,f13,f14,f15,f16,f17,f18,f19,f20,f21,f22,f23,f24,f25,f26,f27,f28,f29,f30,f31,f32,f33,f34,f35,f36,f37,f38⟩ K hK
              have g9 := f9 (hd 9 (by decide))
              refine step_want (j := 9) (s := 24) (b := false) rfl rfl ((hv 24).trans (f9 (hd 9 (by decide)))) ?_
              clear hv
              go_simp
              exact hK.out _ _ ⟨e0,e3,e4,hb,f0,f1,f2,f3,f4,f5,f6,f7,f8,f9,fun _ => rfl,f11,f12,f13,f14,f15,f16,f17,f18,f19,f20,f21,f22,f23,f24,f25,f26,f27,f28,f29,f30,f31,f32,f33,f34,f35,f36,f37,f38⟩
            case s11 =>
              rintro L a v w hv hg hL hd hcl ⟨e0,e3,e4,hb,f0,f1,f2,f3,f4,f5,f6,f7,f8,f9,f10,f11,f12,f13,f14,f15,f16,f17,f18,f19,f20,f21,f22,f23,f24,f25,f26,f27,f28,f29,f30,f31,f32,f33,f34,f35,f36,f37,f38⟩ K hK
              have g9 := f9 (hd 9 (by decide))
              have g10 := f10 (hd 10 (by decide))
              have hc := (hb.cell (p := ⟨g, 1, none⟩) hgW).trans d1
              refine step_want (j := 9) (s := 24) (b := false) rfl rfl ((hv 24).trans (f9 (hd 9 (by decide)))) ?_
              clear hv
              go_simp
              exact hK.out _ _ ⟨e0,e3,e4,hb,f0,f1,f2,f3,f4,f5,f6,f7,f8,f9,f10,fun _ => rfl,f12,f13,f14,f15,f16,f17,f18,f19,f20,f21,f22,f23,f24,f25,f26,f27,f28,f29,f30,f31,f32,f33,f34,f35,f36,f37,f38⟩
            case s12 =>
              rintro L a v w hv hg hL hd hcl ⟨e0,e3,e4,hb,f0,f1,f2,f3,f4,f5,f6,f7,f8,f9,f10,f11,f12,f13,f14,f15,f16,f17,f18,f19,f20,f21,f22,f23,f24,f25,f26,f27,f28,f29,f30,f31,f32,f33,f34,f35,f36,f37,f38⟩ K hK
              have g9 := f9 (hd 9 (by decide))
              have g11 := f11 (hd 11 (by decide))
              refine step_want (j := 9) (s := 24) (b := false) rfl rfl ((hv 24).trans (f9 (hd 9 (by decide)))) ?_
              clear hv
              go_simp
              exact hK.out _ _ ⟨e0,e3,e4,hb,f0,f1,f2,f3,f4,f5,f6,f7,f8,f9,f10,f11,fun _ => rfl,f13,f14,f15,f16,f17,f18,f19,f20,f21,f22,f23,f24,f25,f26,f27,f28,f29,f30,f31,f32,f33,f34,f35,f36,f37,f38⟩
            case s13 =>
              rintro L a v w hv hg hL hd hcl ⟨e0,e3,e4,hb,f0,f1,f2,f3,f4,f5,f6,f7,f8,f9,f10,f11,f12,f13,f14,f15,f16,f17,f18,f19,f20,f21,f22,f23,f24,f25,f26,f27,f28,f29,f30,f31,f32,f33,f34,f35,f36,f37,f38⟩ K hK
              have g9 := f9 (hd 9 (by decide))
              have g12 := f12 (hd 12 (by decide))
              refine step_do rfl ?_
              clear hv
              go_simp
              exact hK.out _ _ ⟨e0,e3,e4,hb,f0,f1,f2,f3,f4,f5,f6,f7,f8,f9,f10,f11,f12,fun _ => rfl,f14,f15,f16,f17,f18,f19,f20,f21,f22,f23,f24,f25,f26,f27,f28,f29,f30,f31,f32,f33,f34,f35,f36,f37,f38⟩
            case s14 =>
              rintro L a v w hv hg hL hd hcl ⟨e0,e3,e4,hb,f0,f1,f2,f3,f4,f5,f6,f7,f8,f9,f10,f11,f12,f13,f14,f15,f16,f17,f18,f19,f20,f21,f22,f23,f24,f25,f26,f27,f28,f29,f30,f31,f32,f33,f34,f35,f36,f37,f38⟩ K hK
              have g9 := f9 (hd 9 (by decide))
              have g13 := f13 (hd 13 (by decide))
              refine step_do rfl ?_
              clear hv
              go_simp
              exact hK.out _ _ ⟨e0,e3,e4,hb,f0,f1,f2,f3,f4,f5,f6,f7,f8,f9,f10,f11,f12,f13,fun _ => rfl,f15,f16,f17,f18,f19,f20,f21,f22,f23,f24,f25,f26,f27,f28,f29,f30,f31,f32,f33,f34,f35,f36,f37,f38⟩
            case s15 =>
              rintro L a v w hv hg hL hd hcl ⟨e0,e3,e4,hb,f0,f1,f2,f3,f4,f5,f6,f7,f8,f9,f10,f11,f12,f13,f14,f15,f16,f17,f18,f19,f20,f21,f22,f23,f24,f25,f26,f27,f28,f29,f30,f31,f32,f33,f34,f35,f36,f37,f38⟩ K hK
              have g14 := f14 (hd 14 (by decide))
              refine step_want (j := 14) (s := 29) (b := false) rfl rfl ((hv 29).trans (f14 (hd 14 (by decide)))) ?_
              clear hv
              go_simp
              exact hK.out _ _ ⟨e0,e3,e4,hb,f0,f1,f2,f3,f4,f5,f6,f7,f8,f9,f10,f11,f12,f13,f14,fun _ => rfl,f16,f17,f18,f19,f20,f21,f22,f23,f24,f25,f26,f27,f28,f29,f30,f31,f32,f33,f34,f35,f36,f37,f38⟩
            case s16 =>
              rintro L a v w hv hg hL hd hcl ⟨e0,e3,e4,hb,f0,f1,f2,f3,f4,f5,f6,f7,f8,f9,f10,f11,f12,f13,f14,f15,f16,f17,f18,f19,f20,f21,f22,f23,f24,f25,f26,f27,f28,f29,f30,f31,f32,f33,f34,f35,f36,f37,f38⟩ K hK
              have g14 := f14 (hd 14 (by decide))
              have g15 := f15 (hd 15 (by decide))
              have hc := (hb.cell (p := ⟨g, 2, none⟩) hgW).trans d2
              refine step_want (j := 14) (s := 29) (b := false) rfl rfl ((hv 29).trans (f14 (hd 14 (by decide)))) ?_
              clear hv
              go_simp
              exact hK.out _ _ ⟨e0,e3,e4,hb,f0,f1,f2,f3,f4,f5,f6,f7,f8,f9,f10,f11,f12,f13,f14,f15,fun _ => rfl,f17,f18,f19,f20,f21,f22,f23,f24,f25,f26,f27,f28,f29,f30,f31,f32,f33,f34,f35,f36,f37,f38⟩
            case s17 =>
              rintro L a v w hv hg hL hd hcl ⟨e0,e3,e4,hb,f0,f1,f2,f3,f4,f5,f6,f7,f8,f9,f10,f11,f12,f13,f14,f15,f16,f17,f18,f19,f20,f21,f22,f23,f24,f25,f26,f27,f28,f29,f30,f31,f32,f33,f34,f35,f36,f37,f38⟩ K hK
              have g14 := f14 (hd 14 (by decide))
              have g16 := f16 (hd 16 (by decide))
              refine step_want (j := 14) (s := 29) (b := false) rfl rfl ((hv 29).trans (f14 (hd 14 (by decide)))) ?_
              clear hv
              go_simp
              exact hK.out _ _ ⟨e0,e3,e4,hb,f0,f1,f2,f3,f4,f5,f6,f7,f8,f9,f10,f11,f12,f13,f14,f15,f16,fun _ => rfl,f18,f19,f20,f21,f22,f23,f24,f25,f26,f27,f28,f29,f30,f31,f32,f33,f34,f35,f36,f37,f38⟩
            case s18 =>
              rintro L a v w hv hg hL hd hcl ⟨e0,e3,e4,hb,f0,f1,f2,f3,f4,f5,f6,f7,f8,f9,f10,f11,f12,f13,f14,f15,f16,f17,f18,f19,f20,f21,f22,f23,f24,f25,f26,f27,f28,f29,f30,f31,f32,f33,f34,f35,f36,f37,f38⟩ K hK
              have g14 := f14 (hd 14 (by decide))
              have g17 := f17 (hd 17 (by decide))
              refine step_do rfl ?_
              clear hv
              go_simp
              exact hK.out _ _ ⟨e0,e3,e4,hb,f0,f1,f2,f3,f4,f5,f6,f7,f8,f9,f10,f11,f12,f13,f14,f15,f16,f17,fun _ => rfl,f19,f20,f21,f22,f23,f24,f25,f26,f27,f28,f29,f30,f31,f32,f33,f34,f35,f36,f37,f38⟩
            case s19 =>
              rintro L a v w hv hg hL hd hcl ⟨e0,e3,e4,hb,f0,f1,f2,f3,f4,f5,f6,f7,f8,f9,f10,f11,f12,f13,f14,f15,f16,f17,f18,f19,f20,f21,f22,f23,f24,f25,f26,f27,f28,f29,f30,f31,f32,f33,f34,f35,f36,f37,f38⟩ K hK
              have g14 := f14 (hd 14 (by decide))
              have g18 := f18 (hd 18 (by decide))
              refine step_do rfl ?_
              clear hv
              go_simp
              exact hK.out _ _ ⟨e0,e3,e4,hb,f0,f1,f2,f3,f4,f5,f6,f7,f8,f9,f10,f11,f12,f13,f14,f15,f16,f17,f18,fun _ => rfl,f20,f21,f22,f23,f24,f25,f26,f27,f28,f29,f30,f31,f32,f33,f34,f35,f36,f37,f38⟩
            case s20 =>
              rintro L a v w hv hg hL hd hcl ⟨e0,e3,e4,hb,f0,f1,f2,f3,f4,f5,f6,f7,f8,f9,f10,f11,f12,f13,f14,f15,f16,f17,f18,f19,f20,f21,f22,f23,f24,f25,f26,f27,f28,f29,f30,f31,f32,f33,f34,f35,f36,f37,f38⟩ K hK
              have g19 := f19 (hd 19 (by decide))
              refine step_want (j := 19) (s := 34) (b := false) rfl rfl ((hv 34).trans (f19 (hd 19 (by decide)))) ?_
              clear hv
              go_simp
              exact hK.out _ _ ⟨e0,e3,e4,hb,f0,f1,f2,f3,f4,f5,f6,f7,f8,f9,f10,f11,f12,f13,f14,f15,f16,f17,f18,f19,fun _ => rfl,f21,f22,f23,f24,f25,f26,f27,f28,f29,f30,f31,f32,f33,f34,f35,f36,f37,f38⟩
            case s21 =>
              rintro L a v w hv hg hL hd hcl ⟨e0,e3,e4,hb,f0,f1,f2,f3,f4,f5,f6,f7,f8,f9,f10,f11,f12,f13,f14,f15,f16,f17,f18,f19,f20,f21,f22,f23,f24,f25,f26,f27,f28,f29,f30,f31,f32,f33,f34,f35,f36,f37,f38⟩ K hK
              have g19 := f19 (hd 19 (by decide))
              have g20 := f20 (hd 20 (by decide))
              have hc := (hb.cell (p := ⟨g, 2, none⟩) hgW).trans d2
              refine step_want (j := 19) (s := 34) (b := false) rfl rfl ((hv 34).trans (f19 (hd 19 (by decide)))) ?_
              clear hv
              go_simp
              exact hK.out _ _ ⟨e0,e3,e4,hb,f0,f1,f2,f3,f4,f5,f6,f7,f8,f9,f10,f11,f12,f13,f14,f15,f16,f17,f18,f19,f20,fun _ => rfl,f22,f23,f24,f25,f26,f27,f28,f29,f30,f31,f32,f33,f34,f35,f36,f37,f38⟩
            case s22 =>
              rintro L a v w hv hg hL hd hcl ⟨e0,e3,e4,hb,f0,f1,f2,f3,f4,f5,f6,f7,f8,f9,f10,f11,f12,f13,f14,f15,f16,f17,f18,f19,f20,f21,f22,f23,f24,f25,f26,f27,f28,f29,f30,f31,f32,f33,f34,f35,f36,f37,f38⟩ K hK
              have g19 := f19 (hd 19 (by decide))
              have g21 := f21 (hd 21 (by decide))
              refine step_want (j := 19) (s := 34) (b := false) rfl rfl ((hv 34).trans (f19 (hd 19 (by decide)))) ?_
              clear hv
              go_simp
              exact hK.out _ _ ⟨e0,e3,e4,hb,f0,f1,f2,f3,f4,f5,f6,f7,f8,f9,f10,f11,f12,f13,f14,f15,f16,f17,f18,f19,f20,f21,fun _ => rfl,f23,f24,f25,f26,f27,f28,f29,f30,f31,f32,f33,f34,f35,f36,f37,f38⟩
            case s23 =>
              rintro L a v w hv hg hL hd hcl ⟨e0,e3,e4,hb,f0,f1,f2,f3,f4,f5,f6,f7,f8,f9,f10,f11,f12,f13,f14,f15,f16,f17,f18,f19,f20,f21,f22,f23,f24,f25,f26,f27,f28,f29,f30,f31,f32,f33,f34,f35,f36,f37,f38⟩ K hK
              have g19 := f19 (hd 19 (by decide))
              have g22 := f22 (hd 22 (by decide))
              refine step_do rfl ?_
              clear hv
              go_simp
              exact hK.out _ _ ⟨e0,e3,e4,hb,f0,f1,f2,f3,f4,f5,f6,f7,f8,f9,f10,f11,f12,f13,f14,f15,f16,f17,f18,f19,f20,f21,f22,fun _ => rfl,f24,f25,f26,f27,f28,f29,f30,f31,f32,f33,f34,f35,f36,f37,f38⟩
            case s24 =>
              rintro L a v w hv hg hL hd hcl ⟨e0,e3,e4,hb,f0,f1,f2,f3,f4,f5,f6,f7,f8,f9,f10,f11,f12,f13,f14,f15,f16,f17,f18,f19,f20,f21,f22,f23,f24,f25,f26,f27,f28,f29,f30,f31,f32,f33,f34,f35,f36,f37,f38⟩ K hK
              have g19 := f19 (hd 19 (by decide))
              have g23 := f23 (hd 23 (by decide))
              refine step_do rfl ?_
              clear hv
              go_simp
              exact hK.out _ _ ⟨e0,e3,e4,hb,f0,f1,f2,f3,f4,f5,f6,f7,f8,f9,f10,f11,f12,f13,f14,f15,f16,f17,f18,f19,f20,f21,f22,f23,fun _ => rfl,f25,f26,f27,f28,f29,f30,f31,f32,f33,f34,f35,f36,f37,f38⟩
            case s25 =>
              rintro L a v w hv hg hL hd hcl ⟨e0,e3,e4,hb,f0,f1,f2,f3,f4,f5,f6,f7,f8,f9,f10,f11,f12,f13,f14,f15,f16,f17,f18,f19,f20,f21,f22,f23,f24,f25,f26,f27,f28,f29,f30,f31,f32,f33,f34,f35,f36,f37,f38⟩ K hK
              have g24 := f24 (hd 24 (by decide))
              refine step_want (j := 24) (s := 39) (b := false) rfl rfl ((hv 39).trans (f24 (hd 24 (by decide)))) ?_
              clear hv
              go_simp
              exact hK.out _ _ ⟨e0,e3,e4,hb,f0,f1,f2,f3,f4,f5,f6,f7,f8,f9,f10,f11,f12,f13,f14,f15,f16,f17,f18,f19,f20,f21,f22,f23,f24,fun _ => rfl,f26,f27,f28,f29,f30,f31,f32,f33,f34,f35,f36,f37,f38⟩
            case s26 =>
              rintro L a v w hv hg hL hd hcl ⟨e0,e3,e4,hb,f0,f1,f2,f3,f4,f5,f6,f7,f8,f9,f10,f11,f12,f13,f14,f15,f16,f17,f18,f19,f20,f21,f22,f23,f24,f25,f26,f27,f28,f29,f30,f31,f32,f33,f34,f35,f36,f37,f38⟩ K hK
              have g24 := f24 (hd 24 (by decide))
              have g25 := f25 (hd 25 (by decide))
              refine step_want (j := 24) (s := 39) (b := false) rfl rfl ((hv 39).trans (f24 (hd 24 (by decide)))) ?_
              clear hv
              go_simp
              exact hK.out _ _ ⟨e0,e3,e4,hb,f0,f1,f2,f3,f4,f5,f6,f7,f8,f9,f10,f11,f12,f13,f14,f15,f16,f17,f18,f19,f20,f21,f22,f23,f24,f25,fun _ => rfl,f27,f28,f29,f30,f31,f32,f33,f34,f35,f36,f37,f38⟩
            case s27 =>
              rintro L a v w hv hg hL hd hcl ⟨e0,e3,e4,hb,f0,f1,f2,f3,f4,f5,f6,f7,f8,f9,f10,f11,f12,f13,f14,f15,f16,f17,f18,f19,f20,f21,f22,f23,f24,f25,f26,f27,f28,f29,f30,f31,f32,f33,f34,f35,f36,f37,f38⟩ K hK
              have g24 := f24 (hd 24 (by decide))
              have g26 := f26 (hd 26 (by decide))
              refine step_want (j := 24) (s := 39) (b := false) rfl rfl ((hv 39).trans (f24 (hd 24 (by decide)))) ?_
              clear hv
              go_simp
              exact hK.out _ _ ⟨e0,e3,e4,hb,f0,f1,f2,f3,f4,f5,f6,f7,f8,f9,f10,f11,f12,f13,f14,f15,f16,f17,f18,f19,f20,f21,f22,f23,f24,f25,f26,fun _ => rfl,f28,f29,f30,f31,f32,f33,f34,f35,f36,f37,f38⟩
            case s28 =>
              rintro L a v w hv hg hL hd hcl ⟨e0,e3,e4,hb,f0,f1,f2,f3,f4,f5,f6,f7,f8,f9,f10,f11,f12,f13,f14,f15,f16,f17,f18,f19,f20,f21,f22,f23,f24,f25,f26,f27,f28,f29,f30,f31,f32,f33,f34,f35,f36,f37,f38⟩ K hK
              have g27 := f27 (hd 27 (by decide))
              refine step_want (j := 27) (s := 42) (b := true) rfl rfl ((hv 42).trans (f27 (hd 27 (by decide)))) ?_
              clear hv
              go_simp
              exact hK.out _ _ ⟨e0,e3,e4,hb,f0,f1,f2,f3,f4,f5,f6,f7,f8,f9,f10,f11,f12,f13,f14,f15,f16,f17,f18,f19,f20,f21,f22,f23,f24,f25,f26,f27,fun _ => rfl,f29,f30,f31,f32,f33,f34,f35,f36,f37,f38⟩
            case s29 =>
              rintro L a v w hv hg hL hd hcl ⟨e0,e3,e4,hb,f0,f1,f2,f3,f4,f5,f6,f7,f8,f9,f10,f11,f12,f13,f14,f15,f16,f17,f18,f19,f20,f21,f22,f23,f24,f25,f26,f27,f28,f29,f30,f31,f32,f33,f34,f35,f36,f37,f38⟩ K hK
              have g27 := f27 (hd 27 (by decide))
              refine step_want (j := 27) (s := 42) (b := true) rfl rfl ((hv 42).trans (f27 (hd 27 (by decide)))) ?_
              clear hv
              go_simp
              exact hK.out _ _ ⟨e0,e3,e4,hb,f0,f1,f2,f3,f4,f5,f6,f7,f8,f9,f10,f11,f12,f13,f14,f15,f16,f17,f18,f19,f20,f21,f22,f23,f24,f25,f26,f27,f28,fun _ => rfl,f30,f31,f32,f33,f34,f35,f36,f37,f38⟩
            case s30 =>
              rintro L a v w hv hg hL hd hcl ⟨e0,e3,e4,hb,f0,f1,f2,f3,f4,f5,f6,f7,f8,f9,f10,f11,f12,f13,f14,f15,f16,f17,f18,f19,f20,f21,f22,f23,f24,f25,f26,f27,f28,f29,f30,f31,f32,f33,f34,f35,f36,f37,f38⟩ K hK
              have g27 := f27 (hd 27 (by decide))
              have g29 := f29 (hd 29 (by decide))
              refine step_want (j := 27) (s := 42) (b := true) rfl rfl ((hv 42).trans (f27 (hd 27 (by decide)))) ?_
              clear hv
              go_simp
              exact hK.out _ _ ⟨e0,e3,e4,hb,f0,f1,f2,f3,f4,f5,f6,f7,f8,f9,f10,f11,f12,f13,f14,f15,f16,f17,f18,f19,f20,f21,f22,f23,f24,f25,f26,f27,f28,f29,fun _ => rfl,f31,f32,f33,f34,f35,f36,f37,f38⟩
            case s31 =>
              rintro L a v w hv hg hL hd hcl ⟨e0,e3,e4,hb,f0,f1,f2,f3,f4,f5,f6,f7,f8,f9,f10,f11,f12,f13,f14,f15,f16,f17,f18,f19,f20,f21,f22,f23,f24,f25,f26,f27,f28,f29,f30,f31,f32,f33,f34,f35,f36,f37,f38⟩ K hK
              have g27 := f27 (hd 27 (by decide))
              have g28 := f28 (hd 28 (by decide))
              have g30 := f30 (hd 30 (by decide))
              refine step_want (j := 27) (s := 42) (b := true) rfl rfl ((hv 42).trans (f27 (hd 27 (by decide)))) ?_
              clear hv
              go_simp
              exact hK.out _ _ ⟨e0,e3,e4,hb,f0,f1,f2,f3,f4,f5,f6,f7,f8,f9,f10,f11,f12,f13,f14,f15,f16,f17,f18,f19,f20,f21,f22,f23,f24,f25,f26,f27,f28,f29,f30,fun _ => rfl,f32,f33,f34,f35,f36,f37,f38⟩
            case s32 =>
              rintro L a v w hv hg hL hd hcl ⟨e0,e3,e4,hb,f0,f1,f2,f3,f4,f5,f6,f7,f8,f9,f10,f11,f12,f13,f14,f15,f16,f17,f18,f19,f20,f21,f22,f23,f24,f25,f26,f27,f28,f29,f30,f31,f32,f33,f34,f35,f36,f37,f38⟩ K hK
              have g27 := f27 (hd 27 (by decide))
              have g31 := f31 (hd 31 (by decide))
              refine step_want (j := 27) (s := 42) (b := true) rfl rfl ((hv 42).trans (f27 (hd 27 (by decide)))) ?_
              clear hv
              go_simp
              exact hK.out _ _ ⟨e0,e3,e4,hb,f0,f1,f2,f3,f4,f5,f6,f7,f8,f9,f10,f11,f12,f13,f14,f15,f16,f17,f18,f19,f20,f21,f22,f23,f24,f25,f26,f27,f28,f29,f30,f31,fun _ => rfl,f33,f34,f35,f36,f37,f38⟩
            case s33 =>
              rintro L a v w hv hg hL hd hcl ⟨e0,e3,e4,hb,f0,f1,f2,f3,f4,f5,f6,f7,f8,f9,f10,f11,f12,f13,f14,f15,f16,f17,f18,f19,f20,f21,f22,f23,f24,f25,f26,f27,f28,f29,f30,f31,f32,f33,f34,f35,f36,f37,f38⟩ K hK
              have g27 := f27 (hd 27 (by decide))
              have g32 := f32 (hd 32 (by decide))
              have hc := (hb.cell haW).trans hla
              refine step_want (j := 27) (s := 42) (b := true) rfl rfl ((hv 42).trans (f27 (hd 27 (by decide)))) ?_
              clear hv
              go_simp
              exact hK.out _ _ ⟨e0,e3,e4,hb,f0,f1,f2,f3,f4,f5,f6,f7,f8,f9,f10,f11,f12,f13,f14,f15,f16,f17,f18,f19,f20,f21,f22,f23,f24,f25,f26,f27,f28,f29,f30,f31,f32,fun _ => rfl,f34,f35,f36,f37,f38⟩
            case s34 =>
              rintro L a v w hv hg hL hd hcl ⟨e0,e3,e4,hb,f0,f1,f2,f3,f4,f5,f6,f7,f8,f9,f10,f11,f12,f13,f14,f15,f16,f17,f18,f19,f20,f21,f22,f23,f24,f25,f26,f27,f28,f29,f30,f31,f32,f33,f34,f35,f36,f37,f38⟩ K hK
              have g27 := f27 (hd 27 (by decide))
              refine step_want (j := 27) (s := 42) (b := true) rfl rfl ((hv 42).trans (f27 (hd 27 (by decide)))) ?_
              clear hv
              go_simp
              exact hK.out _ _ ⟨e0,e3,e4,hb,f0,f1,f2,f3,f4,f5,f6,f7,f8,f9,f10,f11,f12,f13,f14,f15,f16,f17,f18,f19,f20,f21,f22,f23,f24,f25,f26,f27,f28,f29,f30,f31,f32,f33,fun _ => rfl,f35,f36,f37,f38⟩
            case s35 =>
              rintro L a v w hv hg hL hd hcl ⟨e0,e3,e4,hb,f0,f1,f2,f3,f4,f5,f6,f7,f8,f9,f10,f11,f12,f13,f14,f15,f16,f17,f18,f19,f20,f21,f22,f23,f24,f25,f26,f27,f28,f29,f30,f31,f32,f33,f34,f35,f36,f37,f38⟩ K hK
              have g27 := f27 (hd 27 (by decide))
              have g34 := f34 (hd 34 (by decide))
              have hc := (hb.cell (p := ⟨g, 0, none⟩) hgW).trans d0
              refine step_want (j := 27) (s := 42) (b := true) rfl rfl ((hv 42).trans (f27 (hd 27 (by decide)))) ?_
              clear hv
              go_simp
              exact hK.out _ _ ⟨e0,e3,e4,hb,f0,f1,f2,f3,f4,f5,f6,f7,f8,f9,f10,f11,f12,f13,f14,f15,f16,f17,f18,f19,f20,f21,f22,f23,f24,f25,f26,f27,f28,f29,f30,f31,f32,f33,f34,fun _ => rfl,f36,f37,f38⟩
            case s36 =>
              rintro L a v w hv hg hL hd hcl ⟨e0,e3,e4,hb,f0,f1,f2,f3,f4,f5,f6,f7,f8,f9,f10,f11,f12,f13,f14,f15,f16,f17,f18,f19,f20,f21,f22,f23,f24,f25,f26,f27,f28,f29,f30,f31,f32,f33,f34,f35,f36,f37,f38⟩ K hK
              have g27 := f27 (hd 27 (by decide))
              have g33 := f33 (hd 33 (by decide))
              have g35 := f35 (hd 35 (by decide))
              refine step_want (j := 27) (s := 42) (b := true) rfl rfl ((hv 42).trans (f27 (hd 27 (by decide)))) ?_
              clear hv
              go_simp
              exact hK.out _ _ ⟨e0,e3,e4,hb,f0,f1,f2,f3,f4,f5,f6,f7,f8,f9,f10,f11,f12,f13,f14,f15,f16,f17,f18,f19,f20,f21,f22,f23,f24,f25,f26,f27,f28,f29,f30,f31,f32,f33,f34,f35,fun _ => rfl,f37,f38⟩
            case s37 =>
              rintro L a v w hv hg hL hd hcl ⟨e0,e3,e4,hb,f0,f1,f2,f3,f4,f5,f6,f7,f8,f9,f10,f11,f12,f13,f14,f15,f16,f17,f18,f19,f20,f21,f22,f23,f24,f25,f26,f27,f28,f29,f30,f31,f32,f33,f34,f35,f36,f37,f38⟩ K hK
              have g24 := f24 (hd 24 (by decide))
              have g27 := f27 (hd 27 (by decide))
              have g36 := f36 (hd 36 (by decide))
              refine step_want (j := 24) (s := 39) (b := false) rfl rfl ((hv 39).trans (f24 (hd 24 (by decide)))) ?_
              clear hv
              go_simp
              exact hK.out _ _ ⟨e0,e3,e4,hb,f0,f1,f2,f3,f4,f5,f6,f7,f8,f9,f10,f11,f12,f13,f14,f15,f16,f17,f18,f19,f20,f21,f22,f23,f24,f25,f26,f27,f28,f29,f30,f31,f32,f33,f34,f35,f36,fun _ => rfl,f38⟩
            case s38 =>
              rintro L a v w hv hg hL hd hcl ⟨e0,e3,e4,hb,f0,f1,f2,f3,f4,f5,f6,f7,f8,f9,f10,f11,f12,f13,f14,f15,f16,f17,f18,f19,f20,f21,f22,f23,f24,f25,f26,f27,f28,f29,f30,f31,f32,f33,f34,f35,f36,f37,f38⟩ K hK
              have g24 := f24 (hd 24 (by decide))
              have g37 := f37 (hd 37 (by decide))
              refine step_do rfl ?_
              clear hv
              go_simp
              exact hK.out _ _ ⟨e0,e3,e4,hb,f0,f1,f2,f3,f4,f5,f6,f7,f8,f9,f10,f11,f12,f13,f14,f15,f16,f17,f18,f19,f20,f21,f22,f23,f24,f25,f26,f27,f28,f29,f30,f31,f32,f33,f34,f35,f36,f37,fun _ => rfl⟩
          case hend =>
          rintro L v wx hall ⟨e0,e3,e4,hb,f0,f1,f2,f3,f4,f5,f6,f7,f8,f9,f10,f11,f12,f13,f14,f15,f16,f17,f18,f19,f20,f21,f22,f23,f24,f25,f26,f27,f28,f29,f30,f31,f32,f33,f34,f35,f36,f37,f38⟩
          have hL : ∀ i, i < 39 → L i = true := hall
          have f0 := f0 (hL 0 (by decide))
          have f1 := f1 (hL 1 (by decide))
          have f2 := f2 (hL 2 (by decide))
          have f3 := f3 (hL 3 (by decide))
          have f4 := f4 (hL 4 (by decide))
          have f5 := f5 (hL 5 (by decide))
          have f6 := f6 (hL 6 (by decide))
          have f7 := f7 (hL 7 (by decide))
          have f8 := f8 (hL 8 (by decide))
          have f9 := f9 (hL 9 (by decide))
          have f10 := f10 (hL 10 (by decide))
          have f11 := f11 (hL 11 (by decide))
          have f12 := f12 (hL 12 (by decide))
          have f13 := f13 (hL 13 (by decide))
          have f14 := f14 (hL 14 (by decide))
          have f15 := f15 (hL 15 (by decide))
          have f16 := f16 (hL 16 (by decide))
          have f17 := f17 (hL 17 (by decide))
          have f18 := f18 (hL 18 (by decide))
          have f19 := f19 (hL 19 (by decide))
          have f20 := f20 (hL 20 (by decide))
          have f21 := f21 (hL 21 (by decide))
          have f22 := f22 (hL 22 (by decide))
          have f23 := f23 (hL 23 (by decide))
          have f24 := f24 (hL 24 (by decide))
          have f25 := f25 (hL 25 (by decide))
          have f26 := f26 (hL 26 (by decide))
          have f27 := f27 (hL 27 (by decide))
          have f28 := f28 (hL 28 (by decide))
          have f29 := f29 (hL 29 (by decide))
          have f30 := f30 (hL 30 (by decide))
          have f31 := f31 (hL 31 (by decide))
          have f32 := f32 (hL 32 (by decide))
          have f33 := f33 (hL 33 (by decide))
          have f34 := f34 (hL 34 (by decide))
          have f35 := f35 (hL 35 (by decide))
          have f36 := f36 (hL 36 (by decide))
          have f37 := f37 (hL 37 (by decide))
          have f38 := f38 (hL 38 (by decide))
          simp only [finA, List.foldl_cons, List.foldl_nil, Act.put, List.setIfInBounds_toArray, List.set_cons_succ, List.set_cons_zero, f0, f1, f3, f4, f5, f6, f7, f8, f9, f10, f11, f12, f13, f14, f15, f16, f17, f18, f19, f20, f21, f22, f23, f24, f25, f26, f27, f28, f29, f30, f31, f32, f33, f34, f35, f36, f37, f38, f2]
          have gb := gb.trans (hb.mono gb.size)
          clear e0 e3 e4 f0 f1 f2 f3 f4 f5 f6 f7 f8 f9 f10 f11 f12 f13 f14 f15 f16 f17 f18 f19 f20 f21 f22 f23 f24 f25 f26 f27 f28 f29 f30 f31 f32 f33 f34 f35 f36 f37 f38 hL hall
          go_wp2_with fail
          go_roundw
          case rel => exact ⟨kp + 1 + 1, by omega, by go_num, HOK.out, gb⟩
          case measure => simp [intOf]; omega
    · have hr : R = true := by
        rw [HR.out, Ms.members_iff]
        intro i hi
        exact HA.out i (by have := HN.out; omega)
      subst hr
      have hkd : decide ((k : Int) < (n : Int)) = false := decide_eq_false (by omega)
      go_wp2_with fail
      go_ret
      exact ⟨rfl, gb⟩
end Go.Proofs.Ytcgalmnllegnbaa

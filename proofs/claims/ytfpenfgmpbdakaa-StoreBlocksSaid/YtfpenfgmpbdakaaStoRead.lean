/- The walk of store's read, of a record with a number (regions printed by wip/gen/storead.py). -/
import Derived.Test.YtfpenfgmpbdakaaStoWalks
namespace Go.Proofs.Ytfpenfgmpbdakaa
set_option linter.unusedVariables false
set_option linter.unusedSimpArgs false
set_option maxRecDepth 100000
open Go.RowKit
open Disk
namespace Sto
theorem SaysEnd.from_ {w0 w1 w2 : World} {b g used : Nat} {E : Value} {o : Option (Nat × Nat)} {e : Ending} (hb : Below w0.heap.size w0 w1) (h : SaysEnd w1 b g used E o e w2) : SaysEnd w0 b g used E o e w2 :=
  ⟨⟨h.1.os.trans hb.os, h.1.tape.trans hb.tape, h.1.output.trans hb.output, Nat.le_trans hb.size h.1.size, fun k hk hne => (h.1.block k (Nat.lt_of_lt_of_le hk hb.size) hne).trans (hb.block k hk)⟩, h.2⟩
/-- what a record tells: up to where, the incarnation -/
def recM (s : Nat × Nat) : List UInt8 → Option (Nat × Nat)
  | [] => none
  | k :: t => if k = 1 then (numM 96 t).map fun x => (max s.1 x, s.2) else if k = 2 then (numM 1099511627776 t).map fun x => (s.1, max s.2 x) else none
theorem read_nil (b g used u i : Nat) (E : Value) (A : Option Addr) (c : Nat) (w : World) (h0 : Blk w b 44 (sc g used u i E)) :
    Calls Try.prog 13 #[.pointer (some ⟨b, 0, none⟩), .slice A 0 c] w (SaysEnd w b g used E none) := by
  go_enter Try.func13, Try.ntmps13
  go_upto_region 1 with fail
  refine nameW ?_
  intro W hW
  have hbW : Below w.heap.size w W := by rw [hW]; exact (Below.refl _ _).alloc (Nat.le_refl _) _
  clear hW
  go_wp2_with fail
  refine (must_bad _ _).mono ?_
  rintro e w2 ⟨rfl, rfl⟩
  go_wp2_with fail
  exact ⟨rfl, only_of_below hbW _, rfl⟩
theorem read_bad (b g used u i : Nat) (E : Value) (a : Addr) (n c : Nat) (kd : UInt8) (t : List UInt8) (B : Nat) (w : World) (h0 : Blk w b 44 (sc g used u i E)) (hb : RdB w B (some a) n (kd :: t)) (hB : B ≤ w.heap.size) (hk : kd.toNat < 1 ∨ 3 < kd.toNat) :
    Calls Try.prog 13 #[.pointer (some ⟨b, 0, none⟩), .slice (some a) n c] w (SaysEnd w b g used E none) := by
  have hn1 : 1 ≤ n := by have := hb.1; simp at this; omega
  obtain ⟨ad, hA, hab, hv0⟩ := hb.at_ (k := 0) (by simp)
  obtain rfl : a = ad := by injection hA
  have hv1 : w.cell? a = some (.int .u8 (kd.toNat : Nat)) := by simpa [go_sem] using hv0
  have hd0 : decide ((0 : Int) < (n : Int)) = true := decide_eq_true (by omega)
  have hd1 : decide (0 < n) = true := decide_eq_true (by omega)
  have hn0 : (0 : Int) < (n : Int) := by omega
  generalize kd.toNat = z at *
  clear hv0 hA hb h0
  rcases hk with hk | hk
  · have hk1 : (z : Int) < 1 := by omega
    have hk2 : ¬ (1 : Int) ≤ (z : Int) := by omega
    go_enter Try.func13, Try.ntmps13
    go_upto_region 1 with fail
    refine nameW ?_
    intro W hW
    have hbW : Below w.heap.size w W := by rw [hW]; exact (Below.refl _ _).alloc (Nat.le_refl _) _
    have hvW : W.cell? a = some (.int .u8 (z : Nat)) := (hbW.cell (Nat.lt_of_lt_of_le hab hB)).trans hv1
    clear hW hv1
    go_wp2_with fail
    refine (must_no (by first | with_reducible rfl | (simp; done) | (simp; omega)) _ _).mono ?_
    rintro e w2 ⟨rfl, rfl⟩
    go_wp2_with fail
    exact ⟨rfl, only_of_below hbW _, rfl⟩
  · have hk1 : (1 : Int) ≤ (z : Int) := by omega
    have hk2 : ¬ (z : Int) ≤ 3 := by omega
    have hk3 : (3 : Int) < (z : Int) := by omega
    go_enter Try.func13, Try.ntmps13
    go_upto_region 1 with fail
    refine nameW ?_
    intro W hW
    have hbW : Below w.heap.size w W := by rw [hW]; exact (Below.refl _ _).alloc (Nat.le_refl _) _
    have hvW : W.cell? a = some (.int .u8 (z : Nat)) := (hbW.cell (Nat.lt_of_lt_of_le hab hB)).trans hv1
    clear hW hv1
    go_wp2_with fail
    refine (must_no (by first | with_reducible rfl | (simp; done) | (simp; omega)) _ _).mono ?_
    rintro e w2 ⟨rfl, rfl⟩
    go_wp2_with fail
    exact ⟨rfl, only_of_below hbW _, rfl⟩
set_option maxHeartbeats 1000000 in
theorem read1_any (b g used u i : Nat) (E : Value) (ad : Addr) (n c : Nat) (t : List UInt8) (B : Nat) (w0 : World) (h0 : Blk w0 b 44 (sc g used u i E)) (hb : RdB w0 B (some ad) n (1 :: t)) (hB : B ≤ w0.heap.size) (hl : n ≤ 140737488355000) (hc : n ≤ c) (hm : c ≤ maxLen) :
    Calls Try.prog 13 #[.pointer (some ⟨b, 0, none⟩), .slice (some ad) n c] w0 (SaysEnd w0 b g used E ((numM 96 t).map fun x => (max u x, i))) := by
  have n1 : 1 ≤ n := by have := hb.1; simp at this; omega
  have hlt := h0.lt
  obtain ⟨a', hA, hab, hv0⟩ := hb.at_ (k := 0) (by simp)
  obtain rfl : ad = a' := by injection hA
  have hv2 : w0.cell? ad = some (bv 1) := by simpa [go_sem] using hv0
  have hv1 : w0.cell? ad = some (.int .u8 1) := hv2
  have hbt := hb.drop 1
  rw [List.drop_one, List.tail_cons] at hbt
  have hd0 : decide ((0 : Int) < (n : Int)) = true := decide_eq_true (by omega)
  have hd1 : decide (0 < n) = true := decide_eq_true (by omega)
  have hn0 : (0 : Int) < (n : Int) := by omega
  have hnl : n = t.length + 1 := by have := hb.1; simpa using this
  unfold maxLen at hm
  have hnp : 0 < n := n1
  have hnz : (1 : Int) ≤ (n : Int) := by omega
  clear hv0 hv2 hA hb hd0 hd1
  by_cases hc1 : c = 1
  · obtain rfl : n = 1 := by omega
    subst hc1
    obtain rfl : t = [] := List.eq_nil_of_length_eq_zero (by omega)
    have HC0 := Lib.hid fun (w' : World) (h : Below w0.heap.size w0 w') => reserves_any b g used u i E (some ad) 0 0 [] 0 w' (h0.below h hlt) (RdB.nil _ _ _) (by omega) (by omega)
    generalize (numM 96 []).map (fun x => (max u x, i)) = o at *
    clear hbt h0 hnl
    go_enter Try.func13, Try.ntmps13
    go_upto_region 1 with fail
    refine nameW ?_
    intro W hW
    obtain ⟨G, hG⟩ : ∃ G, G = w0.heap.size := ⟨_, rfl⟩
    rw [← hG]
    have hbW : Below w0.heap.size w0 W := by rw [hW]; exact (Below.refl _ _).alloc (Nat.le_refl _) _
    have cG : W.cell? ⟨G, 1, none⟩ = some (.func (.func 23) #[] #[]) := by rw [hW, hG]; exact (Blk.new w0 _ #[.nilFunc, .func (.func 23) #[] #[], .func (.func 24) #[] #[], .func (.func 25) #[] #[]]).cell 1
    have hGW : G < W.heap.size := by rw [hW, hG]; simp
    have hvW : W.cell? ad = some (.int .u8 1) := (hbW.cell (Nat.lt_of_lt_of_le hab hB)).trans hv1
    have habW : ad.block < W.heap.size := by have := hbW.size; omega
    have HC := Lib.hid fun (w' : World) (h : Below W.heap.size W w') => HC0.out w' (hbW.trans (h.mono hbW.size))
    clear hW hG hv1
    go_wp2_with fail
    refine (must_ok _ _).mono ?_
    rintro e w2 ⟨rfl, rfl⟩
    go_upto_region 2 with fail
    refine wp_region_tailF 6 8 (fun L v w => v 0 = .pointer (some ⟨b, 0, none⟩) ∧ v 1 = .slice (some ad) 1 1 ∧ v 4 = .pointer (some ⟨G, 0, none⟩) ∧ Below W.heap.size W w ∧ (L 0 = true → v 22 = .slice (some ad) 1 1) ∧ (L 1 = true → v 23 = .pointer (some ad)) ∧ (L 2 = true → v 24 = .int .u8 1) ∧ (L 3 = true → v 25 = .pointer (some ⟨G, 1, none⟩)) ∧ (L 4 = true → v 26 = .func (.func 23) #[] #[]) ∧ (L 5 = true → v 27 = .pointer (some ⟨b, 0, none⟩)) ∧ (L 6 = true → v 28 = .slice (some ad) 1 1) ∧ (L 7 = true → v 29 = .slice (some ad) 0 0)) [22, 23, 24, 25, 26, 27, 28, 29] (by kernel_rfl) (by kernel_rfl) (by kernel_rfl) (by kernel_rfl) (by kernel_rfl) (by kernel_rfl) ?h0 ?hst ?hend
    case h0 =>
      intro L h0
      have h0 : ∀ i, i < 8 → L i = false := h0
      exact ⟨rfl, rfl, rfl, (Below.refl _ _).drew, offF h0 (i := 0) (by decide), offF h0 (i := 1) (by decide), offF h0 (i := 2) (by decide), offF h0 (i := 3) (by decide), offF h0 (i := 4) (by decide), offF h0 (i := 5) (by decide), offF h0 (i := 6) (by decide), offF h0 (i := 7) (by decide)⟩
    case hst =>
      show FactSteps _ _ _ _ [0, 1, 2, 3, 4, 5, 6, 7]
      refine @FactSteps.cons _ _ _ _ 0 _ [] _ rfl (by kernel_rfl) ?s0 ?_
      rotate_left
      refine @FactSteps.cons _ _ _ _ 1 _ [0] _ rfl (by kernel_rfl) ?s1 ?_
      rotate_left
      refine @FactSteps.cons _ _ _ _ 2 _ [1] _ rfl (by kernel_rfl) ?s2 ?_
      rotate_left
      refine @FactSteps.cons _ _ _ _ 3 _ [2] _ rfl (by kernel_rfl) ?s3 ?_
      rotate_left
      refine @FactSteps.cons _ _ _ _ 4 _ [3] _ rfl (by kernel_rfl) ?s4 ?_
      rotate_left
      refine @FactSteps.cons _ _ _ _ 5 _ [] _ rfl (by kernel_rfl) ?s5 ?_
      rotate_left
      refine @FactSteps.cons _ _ _ _ 6 _ [] _ rfl (by kernel_rfl) ?s6 ?_
      rotate_left
      refine @FactSteps.cons _ _ _ _ 7 _ [6] _ rfl (by kernel_rfl) ?s7 ?_
      rotate_left
      exact FactSteps.nil
      case s0 =>
        rintro L a v w hv hg hL hd hcl ⟨e0, e1, e4, hb, f0, f1, f2, f3, f4, f5, f6, f7⟩ K hK
        refine step_do rfl ?_
        clear hv
        go_simp
        exact hK.out _ _ ⟨e0, e1, e4, hb, fun _ => rfl, f1, f2, f3, f4, f5, f6, f7⟩
      case s1 =>
        rintro L a v w hv hg hL hd hcl ⟨e0, e1, e4, hb, f0, f1, f2, f3, f4, f5, f6, f7⟩ K hK
        have g0 := f0 (hd 0 (by decide))
        refine step_do rfl ?_
        clear hv
        go_simp
        exact hK.out _ _ ⟨e0, e1, e4, hb, f0, fun _ => rfl, f2, f3, f4, f5, f6, f7⟩
      case s2 =>
        rintro L a v w hv hg hL hd hcl ⟨e0, e1, e4, hb, f0, f1, f2, f3, f4, f5, f6, f7⟩ K hK
        have g1 := f1 (hd 1 (by decide))
        have hc2 := (hb.cell habW).trans hvW
        refine step_do rfl ?_
        clear hv
        go_simp
        exact hK.out _ _ ⟨e0, e1, e4, hb, f0, f1, fun _ => rfl, f3, f4, f5, f6, f7⟩
      case s3 =>
        rintro L a v w hv hg hL hd hcl ⟨e0, e1, e4, hb, f0, f1, f2, f3, f4, f5, f6, f7⟩ K hK
        have g2 := f2 (hd 2 (by decide))
        refine step_do rfl ?_
        clear hv
        go_simp
        exact hK.out _ _ ⟨e0, e1, e4, hb, f0, f1, f2, fun _ => rfl, f4, f5, f6, f7⟩
      case s4 =>
        rintro L a v w hv hg hL hd hcl ⟨e0, e1, e4, hb, f0, f1, f2, f3, f4, f5, f6, f7⟩ K hK
        have g3 := f3 (hd 3 (by decide))
        have hc4 := (hb.cell (p := ⟨G, 1, none⟩) hGW).trans cG
        refine step_do rfl ?_
        clear hv
        go_simp
        exact hK.out _ _ ⟨e0, e1, e4, hb, f0, f1, f2, f3, fun _ => rfl, f5, f6, f7⟩
      case s5 =>
        rintro L a v w hv hg hL hd hcl ⟨e0, e1, e4, hb, f0, f1, f2, f3, f4, f5, f6, f7⟩ K hK
        refine step_do rfl ?_
        clear hv
        go_simp
        exact hK.out _ _ ⟨e0, e1, e4, hb, f0, f1, f2, f3, f4, fun _ => rfl, f6, f7⟩
      case s6 =>
        rintro L a v w hv hg hL hd hcl ⟨e0, e1, e4, hb, f0, f1, f2, f3, f4, f5, f6, f7⟩ K hK
        refine step_do rfl ?_
        clear hv
        go_simp
        exact hK.out _ _ ⟨e0, e1, e4, hb, f0, f1, f2, f3, f4, f5, fun _ => rfl, f7⟩
      case s7 =>
        rintro L a v w hv hg hL hd hcl ⟨e0, e1, e4, hb, f0, f1, f2, f3, f4, f5, f6, f7⟩ K hK
        have g6 := f6 (hd 6 (by decide))
        refine step_do rfl ?_
        clear hv
        go_simp
        exact hK.out _ _ ⟨e0, e1, e4, hb, f0, f1, f2, f3, f4, f5, f6, fun _ => rfl⟩
    case hend =>
    rintro L v wx hall ⟨e0, e1, e4, hb, f0, f1, f2, f3, f4, f5, f6, f7⟩
    have hL : ∀ i, i < 8 → L i = true := hall
    have f0 := f0 (hL 0 (by decide))
    have f1 := f1 (hL 1 (by decide))
    have f2 := f2 (hL 2 (by decide))
    have f3 := f3 (hL 3 (by decide))
    have f4 := f4 (hL 4 (by decide))
    have f5 := f5 (hL 5 (by decide))
    have f6 := f6 (hL 6 (by decide))
    have f7 := f7 (hL 7 (by decide))
    simp only [finA, List.foldl_cons, List.foldl_nil, Act.put, List.setIfInBounds_toArray, List.set_cons_succ, List.set_cons_zero, f0, f1, f2, f3, f4, f5, f6, f7]
    clear e0 e1 e4 f0 f1 f2 f3 f4 f5 f6 f7 hL hall
    show wpList _ _ _ [_] _ _
    go_wp2_with fail
    refine (HC.out wx hb).mono ?_
    rintro e w3 h
    have h := SaysEnd.from_ (hbW.trans (hb.mono hbW.size)) h
    rcases o with _ | ⟨u', i'⟩
    · obtain ⟨h1, rfl⟩ := h
      exact ⟨rfl, h1, rfl⟩
    · obtain ⟨h1, rfl, h2⟩ := h
      go_wp2_with fail
      go_end0
      exact ⟨h1, rfl, h2⟩
  · have HC0 := Lib.hid fun (w' : World) (h : Below w0.heap.size w0 w') => reserves_any b g used u i E (some ⟨ad.block, ad.off + 1, none⟩) (n - 1) (c - 1) t B w' (h0.below h hlt) (hbt.below (h.mono hB)) (Nat.le_trans hB h.size) (by omega)
    generalize (numM 96 t).map (fun x => (max u x, i)) = o at *
    have hc2' : 1 ≤ c := by omega
    clear hbt h0 hnl
    go_enter Try.func13, Try.ntmps13
    go_upto_region 1 with fail
    refine nameW ?_
    intro W hW
    obtain ⟨G, hG⟩ : ∃ G, G = w0.heap.size := ⟨_, rfl⟩
    rw [← hG]
    have hbW : Below w0.heap.size w0 W := by rw [hW]; exact (Below.refl _ _).alloc (Nat.le_refl _) _
    have cG : W.cell? ⟨G, 1, none⟩ = some (.func (.func 23) #[] #[]) := by rw [hW, hG]; exact (Blk.new w0 _ #[.nilFunc, .func (.func 23) #[] #[], .func (.func 24) #[] #[], .func (.func 25) #[] #[]]).cell 1
    have hGW : G < W.heap.size := by rw [hW, hG]; simp
    have hvW : W.cell? ad = some (.int .u8 1) := (hbW.cell (Nat.lt_of_lt_of_le hab hB)).trans hv1
    have habW : ad.block < W.heap.size := by have := hbW.size; omega
    have HC := Lib.hid fun (w' : World) (h : Below W.heap.size W w') => HC0.out w' (hbW.trans (h.mono hbW.size))
    clear hW hG hv1
    go_wp2_with fail
    refine (must_ok _ _).mono ?_
    rintro e w2 ⟨rfl, rfl⟩
    go_upto_region 2 with fail
    refine wp_region_tailF 6 8 (fun L v w => v 0 = .pointer (some ⟨b, 0, none⟩) ∧ v 1 = .slice (some ad) n c ∧ v 4 = .pointer (some ⟨G, 0, none⟩) ∧ Below W.heap.size W w ∧ (L 0 = true → v 22 = .slice (some ad) n c) ∧ (L 1 = true → v 23 = .pointer (some ad)) ∧ (L 2 = true → v 24 = .int .u8 1) ∧ (L 3 = true → v 25 = .pointer (some ⟨G, 1, none⟩)) ∧ (L 4 = true → v 26 = .func (.func 23) #[] #[]) ∧ (L 5 = true → v 27 = .pointer (some ⟨b, 0, none⟩)) ∧ (L 6 = true → v 28 = .slice (some ad) n c) ∧ (L 7 = true → v 29 = .slice (some ⟨ad.block, ad.off + 1, none⟩) (n - 1) (c - 1))) [22, 23, 24, 25, 26, 27, 28, 29] (by kernel_rfl) (by kernel_rfl) (by kernel_rfl) (by kernel_rfl) (by kernel_rfl) (by kernel_rfl) ?h0 ?hst ?hend
    case h0 =>
      intro L h0
      have h0 : ∀ i, i < 8 → L i = false := h0
      exact ⟨rfl, rfl, rfl, (Below.refl _ _).drew, offF h0 (i := 0) (by decide), offF h0 (i := 1) (by decide), offF h0 (i := 2) (by decide), offF h0 (i := 3) (by decide), offF h0 (i := 4) (by decide), offF h0 (i := 5) (by decide), offF h0 (i := 6) (by decide), offF h0 (i := 7) (by decide)⟩
    case hst =>
      show FactSteps _ _ _ _ [0, 1, 2, 3, 4, 5, 6, 7]
      refine @FactSteps.cons _ _ _ _ 0 _ [] _ rfl (by kernel_rfl) ?s0 ?_
      rotate_left
      refine @FactSteps.cons _ _ _ _ 1 _ [0] _ rfl (by kernel_rfl) ?s1 ?_
      rotate_left
      refine @FactSteps.cons _ _ _ _ 2 _ [1] _ rfl (by kernel_rfl) ?s2 ?_
      rotate_left
      refine @FactSteps.cons _ _ _ _ 3 _ [2] _ rfl (by kernel_rfl) ?s3 ?_
      rotate_left
      refine @FactSteps.cons _ _ _ _ 4 _ [3] _ rfl (by kernel_rfl) ?s4 ?_
      rotate_left
      refine @FactSteps.cons _ _ _ _ 5 _ [] _ rfl (by kernel_rfl) ?s5 ?_
      rotate_left
      refine @FactSteps.cons _ _ _ _ 6 _ [] _ rfl (by kernel_rfl) ?s6 ?_
      rotate_left
      refine @FactSteps.cons _ _ _ _ 7 _ [6] _ rfl (by kernel_rfl) ?s7 ?_
      rotate_left
      exact FactSteps.nil
      case s0 =>
        rintro L a v w hv hg hL hd hcl ⟨e0, e1, e4, hb, f0, f1, f2, f3, f4, f5, f6, f7⟩ K hK
        refine step_do rfl ?_
        clear hv
        go_simp
        exact hK.out _ _ ⟨e0, e1, e4, hb, fun _ => rfl, f1, f2, f3, f4, f5, f6, f7⟩
      case s1 =>
        rintro L a v w hv hg hL hd hcl ⟨e0, e1, e4, hb, f0, f1, f2, f3, f4, f5, f6, f7⟩ K hK
        have g0 := f0 (hd 0 (by decide))
        refine step_do rfl ?_
        clear hv
        go_simp
        exact hK.out _ _ ⟨e0, e1, e4, hb, f0, fun _ => rfl, f2, f3, f4, f5, f6, f7⟩
      case s2 =>
        rintro L a v w hv hg hL hd hcl ⟨e0, e1, e4, hb, f0, f1, f2, f3, f4, f5, f6, f7⟩ K hK
        have g1 := f1 (hd 1 (by decide))
        have hc2 := (hb.cell habW).trans hvW
        refine step_do rfl ?_
        clear hv
        go_simp
        exact hK.out _ _ ⟨e0, e1, e4, hb, f0, f1, fun _ => rfl, f3, f4, f5, f6, f7⟩
      case s3 =>
        rintro L a v w hv hg hL hd hcl ⟨e0, e1, e4, hb, f0, f1, f2, f3, f4, f5, f6, f7⟩ K hK
        have g2 := f2 (hd 2 (by decide))
        refine step_do rfl ?_
        clear hv
        go_simp
        exact hK.out _ _ ⟨e0, e1, e4, hb, f0, f1, f2, fun _ => rfl, f4, f5, f6, f7⟩
      case s4 =>
        rintro L a v w hv hg hL hd hcl ⟨e0, e1, e4, hb, f0, f1, f2, f3, f4, f5, f6, f7⟩ K hK
        have g3 := f3 (hd 3 (by decide))
        have hc4 := (hb.cell (p := ⟨G, 1, none⟩) hGW).trans cG
        refine step_do rfl ?_
        clear hv
        go_simp
        exact hK.out _ _ ⟨e0, e1, e4, hb, f0, f1, f2, f3, fun _ => rfl, f5, f6, f7⟩
      case s5 =>
        rintro L a v w hv hg hL hd hcl ⟨e0, e1, e4, hb, f0, f1, f2, f3, f4, f5, f6, f7⟩ K hK
        refine step_do rfl ?_
        clear hv
        go_simp
        exact hK.out _ _ ⟨e0, e1, e4, hb, f0, f1, f2, f3, f4, fun _ => rfl, f6, f7⟩
      case s6 =>
        rintro L a v w hv hg hL hd hcl ⟨e0, e1, e4, hb, f0, f1, f2, f3, f4, f5, f6, f7⟩ K hK
        refine step_do rfl ?_
        clear hv
        go_simp
        exact hK.out _ _ ⟨e0, e1, e4, hb, f0, f1, f2, f3, f4, f5, fun _ => rfl, f7⟩
      case s7 =>
        rintro L a v w hv hg hL hd hcl ⟨e0, e1, e4, hb, f0, f1, f2, f3, f4, f5, f6, f7⟩ K hK
        have g6 := f6 (hd 6 (by decide))
        refine step_do rfl ?_
        clear hv
        go_simp
        exact hK.out _ _ ⟨e0, e1, e4, hb, f0, f1, f2, f3, f4, f5, f6, fun _ => rfl⟩
    case hend =>
    rintro L v wx hall ⟨e0, e1, e4, hb, f0, f1, f2, f3, f4, f5, f6, f7⟩
    have hL : ∀ i, i < 8 → L i = true := hall
    have f0 := f0 (hL 0 (by decide))
    have f1 := f1 (hL 1 (by decide))
    have f2 := f2 (hL 2 (by decide))
    have f3 := f3 (hL 3 (by decide))
    have f4 := f4 (hL 4 (by decide))
    have f5 := f5 (hL 5 (by decide))
    have f6 := f6 (hL 6 (by decide))
    have f7 := f7 (hL 7 (by decide))
    simp only [finA, List.foldl_cons, List.foldl_nil, Act.put, List.setIfInBounds_toArray, List.set_cons_succ, List.set_cons_zero, f0, f1, f2, f3, f4, f5, f6, f7]
    clear e0 e1 e4 f0 f1 f2 f3 f4 f5 f6 f7 hL hall
    show wpList _ _ _ [_] _ _
    go_wp2_with fail
    refine (HC.out wx hb).mono ?_
    rintro e w3 h
    have h := SaysEnd.from_ (hbW.trans (hb.mono hbW.size)) h
    rcases o with _ | ⟨u', i'⟩
    · obtain ⟨h1, rfl⟩ := h
      exact ⟨rfl, h1, rfl⟩
    · obtain ⟨h1, rfl, h2⟩ := h
      go_wp2_with fail
      go_end0
      exact ⟨h1, rfl, h2⟩

set_option maxHeartbeats 1000000 in
theorem read2_any (b g used u i : Nat) (E : Value) (ad : Addr) (n c : Nat) (t : List UInt8) (B : Nat) (w0 : World) (h0 : Blk w0 b 44 (sc g used u i E)) (hb : RdB w0 B (some ad) n (2 :: t)) (hB : B ≤ w0.heap.size) (hl : n ≤ 140737488355000) (hc : n ≤ c) (hm : c ≤ maxLen) :
    Calls Try.prog 13 #[.pointer (some ⟨b, 0, none⟩), .slice (some ad) n c] w0 (SaysEnd w0 b g used E ((numM 1099511627776 t).map fun x => (u, max i x))) := by
  have n1 : 1 ≤ n := by have := hb.1; simp at this; omega
  have hlt := h0.lt
  obtain ⟨a', hA, hab, hv0⟩ := hb.at_ (k := 0) (by simp)
  obtain rfl : ad = a' := by injection hA
  have hv2 : w0.cell? ad = some (bv 2) := by simpa [go_sem] using hv0
  have hv1 : w0.cell? ad = some (.int .u8 2) := hv2
  have hbt := hb.drop 1
  rw [List.drop_one, List.tail_cons] at hbt
  have hd0 : decide ((0 : Int) < (n : Int)) = true := decide_eq_true (by omega)
  have hd1 : decide (0 < n) = true := decide_eq_true (by omega)
  have hn0 : (0 : Int) < (n : Int) := by omega
  have hnl : n = t.length + 1 := by have := hb.1; simpa using this
  unfold maxLen at hm
  have hnp : 0 < n := n1
  have hnz : (1 : Int) ≤ (n : Int) := by omega
  clear hv0 hv2 hA hb hd0 hd1
  by_cases hc1 : c = 1
  · obtain rfl : n = 1 := by omega
    subst hc1
    obtain rfl : t = [] := List.eq_nil_of_length_eq_zero (by omega)
    have HC0 := Lib.hid fun (w' : World) (h : Below w0.heap.size w0 w') => bumps_any b g used u i E (some ad) 0 0 [] 0 w' (h0.below h hlt) (RdB.nil _ _ _) (by omega) (by omega)
    generalize (numM 1099511627776 []).map (fun x => (u, max i x)) = o at *
    clear hbt h0 hnl
    go_enter Try.func13, Try.ntmps13
    go_upto_region 1 with fail
    refine nameW ?_
    intro W hW
    obtain ⟨G, hG⟩ : ∃ G, G = w0.heap.size := ⟨_, rfl⟩
    rw [← hG]
    have hbW : Below w0.heap.size w0 W := by rw [hW]; exact (Below.refl _ _).alloc (Nat.le_refl _) _
    have cG : W.cell? ⟨G, 2, none⟩ = some (.func (.func 24) #[] #[]) := by rw [hW, hG]; exact (Blk.new w0 _ #[.nilFunc, .func (.func 23) #[] #[], .func (.func 24) #[] #[], .func (.func 25) #[] #[]]).cell 2
    have hGW : G < W.heap.size := by rw [hW, hG]; simp
    have hvW : W.cell? ad = some (.int .u8 2) := (hbW.cell (Nat.lt_of_lt_of_le hab hB)).trans hv1
    have habW : ad.block < W.heap.size := by have := hbW.size; omega
    have HC := Lib.hid fun (w' : World) (h : Below W.heap.size W w') => HC0.out w' (hbW.trans (h.mono hbW.size))
    clear hW hG hv1
    go_wp2_with fail
    refine (must_ok _ _).mono ?_
    rintro e w2 ⟨rfl, rfl⟩
    go_upto_region 2 with fail
    refine wp_region_tailF 6 8 (fun L v w => v 0 = .pointer (some ⟨b, 0, none⟩) ∧ v 1 = .slice (some ad) 1 1 ∧ v 4 = .pointer (some ⟨G, 0, none⟩) ∧ Below W.heap.size W w ∧ (L 0 = true → v 22 = .slice (some ad) 1 1) ∧ (L 1 = true → v 23 = .pointer (some ad)) ∧ (L 2 = true → v 24 = .int .u8 2) ∧ (L 3 = true → v 25 = .pointer (some ⟨G, 2, none⟩)) ∧ (L 4 = true → v 26 = .func (.func 24) #[] #[]) ∧ (L 5 = true → v 27 = .pointer (some ⟨b, 0, none⟩)) ∧ (L 6 = true → v 28 = .slice (some ad) 1 1) ∧ (L 7 = true → v 29 = .slice (some ad) 0 0)) [22, 23, 24, 25, 26, 27, 28, 29] (by kernel_rfl) (by kernel_rfl) (by kernel_rfl) (by kernel_rfl) (by kernel_rfl) (by kernel_rfl) ?h0 ?hst ?hend
    case h0 =>
      intro L h0
      have h0 : ∀ i, i < 8 → L i = false := h0
      exact ⟨rfl, rfl, rfl, (Below.refl _ _).drew, offF h0 (i := 0) (by decide), offF h0 (i := 1) (by decide), offF h0 (i := 2) (by decide), offF h0 (i := 3) (by decide), offF h0 (i := 4) (by decide), offF h0 (i := 5) (by decide), offF h0 (i := 6) (by decide), offF h0 (i := 7) (by decide)⟩
    case hst =>
      show FactSteps _ _ _ _ [0, 1, 2, 3, 4, 5, 6, 7]
      refine @FactSteps.cons _ _ _ _ 0 _ [] _ rfl (by kernel_rfl) ?s0 ?_
      rotate_left
      refine @FactSteps.cons _ _ _ _ 1 _ [0] _ rfl (by kernel_rfl) ?s1 ?_
      rotate_left
      refine @FactSteps.cons _ _ _ _ 2 _ [1] _ rfl (by kernel_rfl) ?s2 ?_
      rotate_left
      refine @FactSteps.cons _ _ _ _ 3 _ [2] _ rfl (by kernel_rfl) ?s3 ?_
      rotate_left
      refine @FactSteps.cons _ _ _ _ 4 _ [3] _ rfl (by kernel_rfl) ?s4 ?_
      rotate_left
      refine @FactSteps.cons _ _ _ _ 5 _ [] _ rfl (by kernel_rfl) ?s5 ?_
      rotate_left
      refine @FactSteps.cons _ _ _ _ 6 _ [] _ rfl (by kernel_rfl) ?s6 ?_
      rotate_left
      refine @FactSteps.cons _ _ _ _ 7 _ [6] _ rfl (by kernel_rfl) ?s7 ?_
      rotate_left
      exact FactSteps.nil
      case s0 =>
        rintro L a v w hv hg hL hd hcl ⟨e0, e1, e4, hb, f0, f1, f2, f3, f4, f5, f6, f7⟩ K hK
        refine step_do rfl ?_
        clear hv
        go_simp
        exact hK.out _ _ ⟨e0, e1, e4, hb, fun _ => rfl, f1, f2, f3, f4, f5, f6, f7⟩
      case s1 =>
        rintro L a v w hv hg hL hd hcl ⟨e0, e1, e4, hb, f0, f1, f2, f3, f4, f5, f6, f7⟩ K hK
        have g0 := f0 (hd 0 (by decide))
        refine step_do rfl ?_
        clear hv
        go_simp
        exact hK.out _ _ ⟨e0, e1, e4, hb, f0, fun _ => rfl, f2, f3, f4, f5, f6, f7⟩
      case s2 =>
        rintro L a v w hv hg hL hd hcl ⟨e0, e1, e4, hb, f0, f1, f2, f3, f4, f5, f6, f7⟩ K hK
        have g1 := f1 (hd 1 (by decide))
        have hc2 := (hb.cell habW).trans hvW
        refine step_do rfl ?_
        clear hv
        go_simp
        exact hK.out _ _ ⟨e0, e1, e4, hb, f0, f1, fun _ => rfl, f3, f4, f5, f6, f7⟩
      case s3 =>
        rintro L a v w hv hg hL hd hcl ⟨e0, e1, e4, hb, f0, f1, f2, f3, f4, f5, f6, f7⟩ K hK
        have g2 := f2 (hd 2 (by decide))
        refine step_do rfl ?_
        clear hv
        go_simp
        exact hK.out _ _ ⟨e0, e1, e4, hb, f0, f1, f2, fun _ => rfl, f4, f5, f6, f7⟩
      case s4 =>
        rintro L a v w hv hg hL hd hcl ⟨e0, e1, e4, hb, f0, f1, f2, f3, f4, f5, f6, f7⟩ K hK
        have g3 := f3 (hd 3 (by decide))
        have hc4 := (hb.cell (p := ⟨G, 2, none⟩) hGW).trans cG
        refine step_do rfl ?_
        clear hv
        go_simp
        exact hK.out _ _ ⟨e0, e1, e4, hb, f0, f1, f2, f3, fun _ => rfl, f5, f6, f7⟩
      case s5 =>
        rintro L a v w hv hg hL hd hcl ⟨e0, e1, e4, hb, f0, f1, f2, f3, f4, f5, f6, f7⟩ K hK
        refine step_do rfl ?_
        clear hv
        go_simp
        exact hK.out _ _ ⟨e0, e1, e4, hb, f0, f1, f2, f3, f4, fun _ => rfl, f6, f7⟩
      case s6 =>
        rintro L a v w hv hg hL hd hcl ⟨e0, e1, e4, hb, f0, f1, f2, f3, f4, f5, f6, f7⟩ K hK
        refine step_do rfl ?_
        clear hv
        go_simp
        exact hK.out _ _ ⟨e0, e1, e4, hb, f0, f1, f2, f3, f4, f5, fun _ => rfl, f7⟩
      case s7 =>
        rintro L a v w hv hg hL hd hcl ⟨e0, e1, e4, hb, f0, f1, f2, f3, f4, f5, f6, f7⟩ K hK
        have g6 := f6 (hd 6 (by decide))
        refine step_do rfl ?_
        clear hv
        go_simp
        exact hK.out _ _ ⟨e0, e1, e4, hb, f0, f1, f2, f3, f4, f5, f6, fun _ => rfl⟩
    case hend =>
    rintro L v wx hall ⟨e0, e1, e4, hb, f0, f1, f2, f3, f4, f5, f6, f7⟩
    have hL : ∀ i, i < 8 → L i = true := hall
    have f0 := f0 (hL 0 (by decide))
    have f1 := f1 (hL 1 (by decide))
    have f2 := f2 (hL 2 (by decide))
    have f3 := f3 (hL 3 (by decide))
    have f4 := f4 (hL 4 (by decide))
    have f5 := f5 (hL 5 (by decide))
    have f6 := f6 (hL 6 (by decide))
    have f7 := f7 (hL 7 (by decide))
    simp only [finA, List.foldl_cons, List.foldl_nil, Act.put, List.setIfInBounds_toArray, List.set_cons_succ, List.set_cons_zero, f0, f1, f2, f3, f4, f5, f6, f7]
    clear e0 e1 e4 f0 f1 f2 f3 f4 f5 f6 f7 hL hall
    show wpList _ _ _ [_] _ _
    go_wp2_with fail
    refine (HC.out wx hb).mono ?_
    rintro e w3 h
    have h := SaysEnd.from_ (hbW.trans (hb.mono hbW.size)) h
    rcases o with _ | ⟨u', i'⟩
    · obtain ⟨h1, rfl⟩ := h
      exact ⟨rfl, h1, rfl⟩
    · obtain ⟨h1, rfl, h2⟩ := h
      go_wp2_with fail
      go_end0
      exact ⟨h1, rfl, h2⟩
  · have HC0 := Lib.hid fun (w' : World) (h : Below w0.heap.size w0 w') => bumps_any b g used u i E (some ⟨ad.block, ad.off + 1, none⟩) (n - 1) (c - 1) t B w' (h0.below h hlt) (hbt.below (h.mono hB)) (Nat.le_trans hB h.size) (by omega)
    generalize (numM 1099511627776 t).map (fun x => (u, max i x)) = o at *
    have hc2' : 1 ≤ c := by omega
    clear hbt h0 hnl
    go_enter Try.func13, Try.ntmps13
    go_upto_region 1 with fail
    refine nameW ?_
    intro W hW
    obtain ⟨G, hG⟩ : ∃ G, G = w0.heap.size := ⟨_, rfl⟩
    rw [← hG]
    have hbW : Below w0.heap.size w0 W := by rw [hW]; exact (Below.refl _ _).alloc (Nat.le_refl _) _
    have cG : W.cell? ⟨G, 2, none⟩ = some (.func (.func 24) #[] #[]) := by rw [hW, hG]; exact (Blk.new w0 _ #[.nilFunc, .func (.func 23) #[] #[], .func (.func 24) #[] #[], .func (.func 25) #[] #[]]).cell 2
    have hGW : G < W.heap.size := by rw [hW, hG]; simp
    have hvW : W.cell? ad = some (.int .u8 2) := (hbW.cell (Nat.lt_of_lt_of_le hab hB)).trans hv1
    have habW : ad.block < W.heap.size := by have := hbW.size; omega
    have HC := Lib.hid fun (w' : World) (h : Below W.heap.size W w') => HC0.out w' (hbW.trans (h.mono hbW.size))
    clear hW hG hv1
    go_wp2_with fail
    refine (must_ok _ _).mono ?_
    rintro e w2 ⟨rfl, rfl⟩
    go_upto_region 2 with fail
    refine wp_region_tailF 6 8 (fun L v w => v 0 = .pointer (some ⟨b, 0, none⟩) ∧ v 1 = .slice (some ad) n c ∧ v 4 = .pointer (some ⟨G, 0, none⟩) ∧ Below W.heap.size W w ∧ (L 0 = true → v 22 = .slice (some ad) n c) ∧ (L 1 = true → v 23 = .pointer (some ad)) ∧ (L 2 = true → v 24 = .int .u8 2) ∧ (L 3 = true → v 25 = .pointer (some ⟨G, 2, none⟩)) ∧ (L 4 = true → v 26 = .func (.func 24) #[] #[]) ∧ (L 5 = true → v 27 = .pointer (some ⟨b, 0, none⟩)) ∧ (L 6 = true → v 28 = .slice (some ad) n c) ∧ (L 7 = true → v 29 = .slice (some ⟨ad.block, ad.off + 1, none⟩) (n - 1) (c - 1))) [22, 23, 24, 25, 26, 27, 28, 29] (by kernel_rfl) (by kernel_rfl) (by kernel_rfl) (by kernel_rfl) (by kernel_rfl) (by kernel_rfl) ?h0 ?hst ?hend
    case h0 =>
      intro L h0
      have h0 : ∀ i, i < 8 → L i = false := h0
      exact ⟨rfl, rfl, rfl, (Below.refl _ _).drew, offF h0 (i := 0) (by decide), offF h0 (i := 1) (by decide), offF h0 (i := 2) (by decide), offF h0 (i := 3) (by decide), offF h0 (i := 4) (by decide), offF h0 (i := 5) (by decide), offF h0 (i := 6) (by decide), offF h0 (i := 7) (by decide)⟩
    case hst =>
      show FactSteps _ _ _ _ [0, 1, 2, 3, 4, 5, 6, 7]
      refine @FactSteps.cons _ _ _ _ 0 _ [] _ rfl (by kernel_rfl) ?s0 ?_
      rotate_left
      refine @FactSteps.cons _ _ _ _ 1 _ [0] _ rfl (by kernel_rfl) ?s1 ?_
      rotate_left
      refine @FactSteps.cons _ _ _ _ 2 _ [1] _ rfl (by kernel_rfl) ?s2 ?_
      rotate_left
      refine @FactSteps.cons _ _ _ _ 3 _ [2] _ rfl (by kernel_rfl) ?s3 ?_
      rotate_left
      refine @FactSteps.cons _ _ _ _ 4 _ [3] _ rfl (by kernel_rfl) ?s4 ?_
      rotate_left
      refine @FactSteps.cons _ _ _ _ 5 _ [] _ rfl (by kernel_rfl) ?s5 ?_
      rotate_left
      refine @FactSteps.cons _ _ _ _ 6 _ [] _ rfl (by kernel_rfl) ?s6 ?_
      rotate_left
      refine @FactSteps.cons _ _ _ _ 7 _ [6] _ rfl (by kernel_rfl) ?s7 ?_
      rotate_left
      exact FactSteps.nil
      case s0 =>
        rintro L a v w hv hg hL hd hcl ⟨e0, e1, e4, hb, f0, f1, f2, f3, f4, f5, f6, f7⟩ K hK
        refine step_do rfl ?_
        clear hv
        go_simp
        exact hK.out _ _ ⟨e0, e1, e4, hb, fun _ => rfl, f1, f2, f3, f4, f5, f6, f7⟩
      case s1 =>
        rintro L a v w hv hg hL hd hcl ⟨e0, e1, e4, hb, f0, f1, f2, f3, f4, f5, f6, f7⟩ K hK
        have g0 := f0 (hd 0 (by decide))
        refine step_do rfl ?_
        clear hv
        go_simp
        exact hK.out _ _ ⟨e0, e1, e4, hb, f0, fun _ => rfl, f2, f3, f4, f5, f6, f7⟩
      case s2 =>
        rintro L a v w hv hg hL hd hcl ⟨e0, e1, e4, hb, f0, f1, f2, f3, f4, f5, f6, f7⟩ K hK
        have g1 := f1 (hd 1 (by decide))
        have hc2 := (hb.cell habW).trans hvW
        refine step_do rfl ?_
        clear hv
        go_simp
        exact hK.out _ _ ⟨e0, e1, e4, hb, f0, f1, fun _ => rfl, f3, f4, f5, f6, f7⟩
      case s3 =>
        rintro L a v w hv hg hL hd hcl ⟨e0, e1, e4, hb, f0, f1, f2, f3, f4, f5, f6, f7⟩ K hK
        have g2 := f2 (hd 2 (by decide))
        refine step_do rfl ?_
        clear hv
        go_simp
        exact hK.out _ _ ⟨e0, e1, e4, hb, f0, f1, f2, fun _ => rfl, f4, f5, f6, f7⟩
      case s4 =>
        rintro L a v w hv hg hL hd hcl ⟨e0, e1, e4, hb, f0, f1, f2, f3, f4, f5, f6, f7⟩ K hK
        have g3 := f3 (hd 3 (by decide))
        have hc4 := (hb.cell (p := ⟨G, 2, none⟩) hGW).trans cG
        refine step_do rfl ?_
        clear hv
        go_simp
        exact hK.out _ _ ⟨e0, e1, e4, hb, f0, f1, f2, f3, fun _ => rfl, f5, f6, f7⟩
      case s5 =>
        rintro L a v w hv hg hL hd hcl ⟨e0, e1, e4, hb, f0, f1, f2, f3, f4, f5, f6, f7⟩ K hK
        refine step_do rfl ?_
        clear hv
        go_simp
        exact hK.out _ _ ⟨e0, e1, e4, hb, f0, f1, f2, f3, f4, fun _ => rfl, f6, f7⟩
      case s6 =>
        rintro L a v w hv hg hL hd hcl ⟨e0, e1, e4, hb, f0, f1, f2, f3, f4, f5, f6, f7⟩ K hK
        refine step_do rfl ?_
        clear hv
        go_simp
        exact hK.out _ _ ⟨e0, e1, e4, hb, f0, f1, f2, f3, f4, f5, fun _ => rfl, f7⟩
      case s7 =>
        rintro L a v w hv hg hL hd hcl ⟨e0, e1, e4, hb, f0, f1, f2, f3, f4, f5, f6, f7⟩ K hK
        have g6 := f6 (hd 6 (by decide))
        refine step_do rfl ?_
        clear hv
        go_simp
        exact hK.out _ _ ⟨e0, e1, e4, hb, f0, f1, f2, f3, f4, f5, f6, fun _ => rfl⟩
    case hend =>
    rintro L v wx hall ⟨e0, e1, e4, hb, f0, f1, f2, f3, f4, f5, f6, f7⟩
    have hL : ∀ i, i < 8 → L i = true := hall
    have f0 := f0 (hL 0 (by decide))
    have f1 := f1 (hL 1 (by decide))
    have f2 := f2 (hL 2 (by decide))
    have f3 := f3 (hL 3 (by decide))
    have f4 := f4 (hL 4 (by decide))
    have f5 := f5 (hL 5 (by decide))
    have f6 := f6 (hL 6 (by decide))
    have f7 := f7 (hL 7 (by decide))
    simp only [finA, List.foldl_cons, List.foldl_nil, Act.put, List.setIfInBounds_toArray, List.set_cons_succ, List.set_cons_zero, f0, f1, f2, f3, f4, f5, f6, f7]
    clear e0 e1 e4 f0 f1 f2 f3 f4 f5 f6 f7 hL hall
    show wpList _ _ _ [_] _ _
    go_wp2_with fail
    refine (HC.out wx hb).mono ?_
    rintro e w3 h
    have h := SaysEnd.from_ (hbW.trans (hb.mono hbW.size)) h
    rcases o with _ | ⟨u', i'⟩
    · obtain ⟨h1, rfl⟩ := h
      exact ⟨rfl, h1, rfl⟩
    · obtain ⟨h1, rfl, h2⟩ := h
      go_wp2_with fail
      go_end0
      exact ⟨h1, rfl, h2⟩

theorem recM_cons (s : Nat × Nat) (k : UInt8) (t : List UInt8) : recM s (k :: t) = if k = 1 then (numM 96 t).map fun x => (max s.1 x, s.2) else if k = 2 then (numM 1099511627776 t).map fun x => (s.1, max s.2 x) else none := rfl
theorem read_any (b g used u i : Nat) (E : Value) (A : Option Addr) (n c : Nat) (bs : List UInt8) (B : Nat) (w : World) (h0 : Blk w b 44 (sc g used u i E)) (hb : RdB w B A n bs) (hB : B ≤ w.heap.size) (hl : n ≤ 140737488355000) (hc : n ≤ c) (hm : c ≤ maxLen) (h3 : bs.head? ≠ some 3) :
    Calls Try.prog 13 #[.pointer (some ⟨b, 0, none⟩), .slice A n c] w (SaysEnd w b g used E (recM (u, i) bs)) := by
  rcases bs with _ | ⟨kd, t⟩
  · obtain rfl : n = 0 := hb.1
    exact read_nil b g used u i E A c w h0
  · obtain ⟨a, rfl, _, _⟩ := hb.at_ (k := 0) (by simp)
    rw [recM_cons]
    by_cases k1 : kd = 1
    · subst k1
      rw [if_pos rfl]
      exact read1_any b g used u i E a n c t B w h0 hb hB hl hc hm
    rw [if_neg k1]
    by_cases k2 : kd = 2
    · subst k2
      rw [if_pos rfl]
      exact read2_any b g used u i E a n c t B w h0 hb hB hl hc hm
    rw [if_neg k2]
    have k3 : kd ≠ 3 := fun e => h3 (by rw [e]; rfl)
    refine read_bad b g used u i E a n c kd t B w h0 hb hB ?_
    have e1 : kd.toNat ≠ 1 := fun e => k1 (UInt8.toNat_inj.1 e)
    have e2 : kd.toNat ≠ 2 := fun e => k2 (UInt8.toNat_inj.1 e)
    have e3 : kd.toNat ≠ 3 := fun e => k3 (UInt8.toNat_inj.1 e)
    omega
end Sto
end Go.Proofs.Ytfpenfgmpbdakaa

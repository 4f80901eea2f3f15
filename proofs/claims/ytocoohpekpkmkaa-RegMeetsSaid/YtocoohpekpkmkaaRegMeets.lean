/- RegMeets: of copies that came of writes and Meets alone each is right; Meet goes both ways, in any order, and once more changes nothing; what all know together holds what each knows; for every input, with no panic (printed by gen/regmeets.py). -/
import Derived.Test.YtocoohpekpkmkaaRegFold
namespace Go.Proofs.Ytocoohpekpkmkaa.RegMeets
open Go.ChangeShapes Go.WideShapes Go.ChangeAt Go.RowKit Go.Deep
open Reg
theorem meetH {f g : Nf} {q q2 : Value} {w : World} (hf : GoodF f) (hg : GoodF g) (x : Fresh (repU f) (repL f) q w) (y : Fresh (repU g) (repL g) q2 w) :
    Calls Try.prog 13 #[q, q2] w (GiveM 49 w (repU (mt f g)) (repL (mt f g))) := meetG hf hg x y
theorem meetS {f g h : Nf} {q q2 : Value} {w : World} (hf : GoodF f) (hg : GoodF g) (hs : SameN (mt f g) h) (x : Fresh (repU f) (repL f) q w) (y : Fresh (repU g) (repL g) q2 w) :
    Calls Try.prog 13 #[q, q2] w (GiveM 49 w (repU h) (repL h)) := by
  have := meetH hf hg x y
  rwa [hs.rep.1, hs.rep.2] at this
set_option maxRecDepth 100000 in
set_option maxHeartbeats 4000000 in
theorem walk (a : Option Addr) (n c : Nat) (l : List Trn) (w : World) (hl : TrnsAt w w.heap.size a n l) (hn : n ≤ c) (hc : c ≤ maxLen) :
    Calls Try.prog 4 #[.slice a n c] w fun e w' => e = .returned (.bool true) ∧ Below w.heap.size w w' := by
  unfold maxLen at hc
  have HL := Lib.hid hl.1
  by_cases hbig : 200 < n
  · have hd : decide ((200 : Int) < (n : Int)) = true := decide_eq_true (by omega)
    go_enter Try.func4, Try.ntmps4
    go_wp2_with fail
    refine (alive29_any _).mono ?_
    rintro e w1 ⟨rfl, h1⟩
    go_wp2_with fail
    go_ret
    exact ⟨rfl, h1⟩
  have hd : decide ((200 : Int) < (n : Int)) = false := decide_eq_false (by omega)
  have hz := zval72
  go_enter Try.func4, Try.ntmps4
  go_wp2_with fail
  refine (alive29_any _).mono ?_
  rintro e w1 ⟨rfl, h1⟩
  go_wp2_with fail
  obtain ⟨gB, hgB⟩ : ∃ gB, gB = w1.heap.size := ⟨_, rfl⟩
  have o0 : Blk (w1.alloc (.cells z72 52)) w1.heap.size 52 (cat9 zQ) := Blk.new _ _ _
  have hb0 := h1.alloc h1.size (.cells z72 52)
  have hgw : w.heap.size ≤ gB := by rw [hgB]; exact h1.size
  rw [← hgB] at o0 ⊢
  generalize w1.alloc (.cells z72 52) = w2 at *
  clear hgB hz h1
  go_loopw [25] (fun i wr => ∃ (k : Nat) (F : Nat → Nf) (Q : Nat → Array Value), k ≤ n ∧ i = .int .i64 k ∧ Eight F Q wr ∧ Few F k ∧ Blk wr gB 52 (cat9 Q) ∧ Below w.heap.size w wr) (fun i _ => n - (intOf i).toNat)
  case atStart => exact ⟨0, _, _, by omega, rfl, eight0 _, fun i hi n hn => by unfold f0; simp, o0, hb0⟩
  case round =>
  clear o0 hb0
  obtain ⟨k, F, Q, hk, rfl, hE, hfew, kB, gb⟩ := hrel
  by_cases hlt : k < n
  · have hkl : k < l.length := by rw [← HL.out]; exact hlt
    obtain ⟨ad, rfl, q5, q0, q1, q2, q3, hnd, hwi, hvl⟩ := (hl.below gb).2 k _ (List.getElem?_eq_getElem hkl)
    generalize l[k] = o at *
    obtain ⟨nd, wi, vl, mm⟩ := o
    simp only at q0 q1 q2 q3 hnd hwi hvl
    obtain ⟨x, hx, ex⟩ := node_of nd
    obtain ⟨y, hy, ey⟩ := node_of wi
    have hx0 : (0 : Int) ≤ (x : Int) := by omega
    have hx8 : (x : Int) < 8 := by omega
    have hy0 : (0 : Int) ≤ (y : Int) := by omega
    have hy8 : (y : Int) < 8 := by omega
    have hk0 : (0 : Int) ≤ (k : Int) := by omega
    have hkn : (k : Int) < (n : Int) := by omega
    have HF := Lib.hid hfew
    have H8 := Lib.hid hE
    have KB := Lib.hid kB
    have GB := Lib.hid gb
    have EX := Lib.hid ex
    have EY := Lib.hid ey
    clear hfew hE kB gb ex ey
    go_upto_region 9 with fail
    refine nameW ?_
    intro wv hwv
    have k5 : Blk wv wr.heap.size 54 (Trn.cs ⟨nd, wi, vl, mm⟩) := by rw [hwv]; exact Blk.new wr _ _
    have bb : Below wr.heap.size wr wv := by rw [hwv]; exact (Below.refl _ _).alloc (Nat.le_refl _) _
    have hE := H8.out.below bb
    have kB := KB.out.below bb KB.out.lt
    have gb := GB.out.trans (bb.mono GB.out.size)
    obtain ⟨gT, hgT⟩ : ∃ gT, gT = wr.heap.size := ⟨_, rfl⟩
    rw [← hgT] at k5 ⊢
    clear hwv bb hgT q0 q1 q2 q3 H8 KB GB
    refine wp_region_facts (fun L v w => v 5 = .pointer (some ⟨gT, 0, none⟩) ∧ Below wv.heap.size wv w ∧ (L 0 = true → v 29 = .pointer (some ⟨gT, 0, none⟩)) ∧ (L 1 = true → v 30 = .int .i64 nd) ∧ (L 2 = true → v 31 = .int .u64 (IntKind.u64.wrap nd)) ∧ (L 3 = true → v 32 = .int .u64 (x : Nat)) ∧ (L 4 = true → v 33 = .int .i64 (x : Nat)) ∧ (L 5 = true → v 34 = .pointer (some ⟨gT, 1, none⟩)) ∧ (L 6 = true → v 35 = .int .i64 wi) ∧ (L 7 = true → v 36 = .int .u64 (IntKind.u64.wrap wi)) ∧ (L 8 = true → v 37 = .int .u64 (y : Nat)) ∧ (L 9 = true → v 38 = .int .i64 (y : Nat)) ∧ (L 10 = true → v 6 = .int .i64 (x : Nat)) ∧ (L 11 = true → v 7 = .int .i64 (y : Nat))) [29, 30, 31, 32, 33, 34, 35, 36, 37, 38, 6, 7] (by kernel_rfl) (by kernel_rfl) (by kernel_rfl) (by kernel_rfl) ?h0 ?hst ?hend
    case h0 =>
      intro L h0
      have h0 : ∀ i, i < 12 → L i = false := h0
      exact ⟨rfl, (Below.refl _ _).drew, offF h0 (i := 0) (by decide), offF h0 (i := 1) (by decide), offF h0 (i := 2) (by decide), offF h0 (i := 3) (by decide), offF h0 (i := 4) (by decide), offF h0 (i := 5) (by decide), offF h0 (i := 6) (by decide), offF h0 (i := 7) (by decide), offF h0 (i := 8) (by decide), offF h0 (i := 9) (by decide), offF h0 (i := 10) (by decide), offF h0 (i := 11) (by decide)⟩
    case hst =>
      show FactSteps _ _ _ _ [0, 1, 2, 3, 4, 5, 6, 7, 8, 9, 10, 11]
      refine @FactSteps.cons _ _ _ _ 0 _ [] _ rfl (by kernel_rfl) ?s0 ?_
      rotate_left
      refine @FactSteps.cons _ _ _ _ 1 _ [0] _ rfl (by kernel_rfl) ?s1 ?_
      rotate_left
      refine @FactSteps.cons _ _ _ _ 2 _ [1] _ rfl (by kernel_rfl) ?s2 ?_
      rotate_left
      refine @FactSteps.cons _ _ _ _ 3 _ [2] _ rfl (by kernel_rfl) ?s3 ?_
      rotate_left
      refine @FactSteps.cons _ _ _ _ 4 _ [3] _ rfl (by kernel_rfl) ?s4 ?_
      rotate_left
      refine @FactSteps.cons _ _ _ _ 5 _ [] _ rfl (by kernel_rfl) ?s5 ?_
      rotate_left
      refine @FactSteps.cons _ _ _ _ 6 _ [5] _ rfl (by kernel_rfl) ?s6 ?_
      rotate_left
      refine @FactSteps.cons _ _ _ _ 7 _ [6] _ rfl (by kernel_rfl) ?s7 ?_
      rotate_left
      refine @FactSteps.cons _ _ _ _ 8 _ [7] _ rfl (by kernel_rfl) ?s8 ?_
      rotate_left
      refine @FactSteps.cons _ _ _ _ 9 _ [8] _ rfl (by kernel_rfl) ?s9 ?_
      rotate_left
      refine @FactSteps.cons _ _ _ _ 10 _ [4, 0, 1, 2, 3, 4] _ rfl (by kernel_rfl) ?s10 ?_
      rotate_left
      refine @FactSteps.cons _ _ _ _ 11 _ [9, 10, 0, 1, 2, 3, 4, 5, 6, 7, 8, 9, 10] _ rfl (by kernel_rfl) ?s11 ?_
      rotate_left
      exact FactSteps.nil
      case s0 =>
        rintro L a v w hv hg hL hd hcl ⟨e5, hb, f0, f1, f2, f3, f4, f5, f6, f7, f8, f9, f10, f11⟩ K hK
        refine step_do rfl ?_
        clear hv
        go_simp
        exact hK.out _ _ ⟨e5, hb, fun _ => rfl, f1, f2, f3, f4, f5, f6, f7, f8, f9, f10, f11⟩
      case s1 =>
        rintro L a v w hv hg hL hd hcl ⟨e5, hb, f0, f1, f2, f3, f4, f5, f6, f7, f8, f9, f10, f11⟩ K hK
        have g0 := f0 (hd 0 (by decide))
        have c0 : w.cell? ⟨gT, 0, none⟩ = some (.int .i64 nd) := (k5.below hb k5.lt).cell 0
        refine step_do rfl ?_
        clear hv
        go_simp
        exact hK.out _ _ ⟨e5, hb, f0, fun _ => rfl, f2, f3, f4, f5, f6, f7, f8, f9, f10, f11⟩
      case s2 =>
        rintro L a v w hv hg hL hd hcl ⟨e5, hb, f0, f1, f2, f3, f4, f5, f6, f7, f8, f9, f10, f11⟩ K hK
        have g1 := f1 (hd 1 (by decide))
        refine step_do rfl ?_
        clear hv
        go_simp
        exact hK.out _ _ ⟨e5, hb, f0, f1, fun _ => rfl, f3, f4, f5, f6, f7, f8, f9, f10, f11⟩
      case s3 =>
        rintro L a v w hv hg hL hd hcl ⟨e5, hb, f0, f1, f2, f3, f4, f5, f6, f7, f8, f9, f10, f11⟩ K hK
        have g2 := f2 (hd 2 (by decide))
        have ex := EX.out
        refine step_do rfl ?_
        clear hv
        go_simp
        exact hK.out _ _ ⟨e5, hb, f0, f1, f2, fun _ => rfl, f4, f5, f6, f7, f8, f9, f10, f11⟩
      case s4 =>
        rintro L a v w hv hg hL hd hcl ⟨e5, hb, f0, f1, f2, f3, f4, f5, f6, f7, f8, f9, f10, f11⟩ K hK
        have g3 := f3 (hd 3 (by decide))
        have ew : IntKind.i64.wrap (x : Int) = (x : Int) := IntWalk.i64_in _ (by omega)
        refine step_do rfl ?_
        clear hv
        go_simp
        exact hK.out _ _ ⟨e5, hb, f0, f1, f2, f3, fun _ => rfl, f5, f6, f7, f8, f9, f10, f11⟩
      case s5 =>
        rintro L a v w hv hg hL hd hcl ⟨e5, hb, f0, f1, f2, f3, f4, f5, f6, f7, f8, f9, f10, f11⟩ K hK
        refine step_do rfl ?_
        clear hv
        go_simp
        exact hK.out _ _ ⟨e5, hb, f0, f1, f2, f3, f4, fun _ => rfl, f6, f7, f8, f9, f10, f11⟩
      case s6 =>
        rintro L a v w hv hg hL hd hcl ⟨e5, hb, f0, f1, f2, f3, f4, f5, f6, f7, f8, f9, f10, f11⟩ K hK
        have g5 := f5 (hd 5 (by decide))
        have c1 : w.cell? ⟨gT, 1, none⟩ = some (.int .i64 wi) := (k5.below hb k5.lt).cell 1
        refine step_do rfl ?_
        clear hv
        go_simp
        exact hK.out _ _ ⟨e5, hb, f0, f1, f2, f3, f4, f5, fun _ => rfl, f7, f8, f9, f10, f11⟩
      case s7 =>
        rintro L a v w hv hg hL hd hcl ⟨e5, hb, f0, f1, f2, f3, f4, f5, f6, f7, f8, f9, f10, f11⟩ K hK
        have g6 := f6 (hd 6 (by decide))
        refine step_do rfl ?_
        clear hv
        go_simp
        exact hK.out _ _ ⟨e5, hb, f0, f1, f2, f3, f4, f5, f6, fun _ => rfl, f8, f9, f10, f11⟩
      case s8 =>
        rintro L a v w hv hg hL hd hcl ⟨e5, hb, f0, f1, f2, f3, f4, f5, f6, f7, f8, f9, f10, f11⟩ K hK
        have g7 := f7 (hd 7 (by decide))
        have ey := EY.out
        refine step_do rfl ?_
        clear hv
        go_simp
        exact hK.out _ _ ⟨e5, hb, f0, f1, f2, f3, f4, f5, f6, f7, fun _ => rfl, f9, f10, f11⟩
      case s9 =>
        rintro L a v w hv hg hL hd hcl ⟨e5, hb, f0, f1, f2, f3, f4, f5, f6, f7, f8, f9, f10, f11⟩ K hK
        have g8 := f8 (hd 8 (by decide))
        have ew : IntKind.i64.wrap (y : Int) = (y : Int) := IntWalk.i64_in _ (by omega)
        refine step_do rfl ?_
        clear hv
        go_simp
        exact hK.out _ _ ⟨e5, hb, f0, f1, f2, f3, f4, f5, f6, f7, f8, fun _ => rfl, f10, f11⟩
      case s10 =>
        rintro L a v w hv hg hL hd hcl ⟨e5, hb, f0, f1, f2, f3, f4, f5, f6, f7, f8, f9, f10, f11⟩ K hK
        have g0 := f0 (hd 0 (by decide))
        have g1 := f1 (hd 1 (by decide))
        have g2 := f2 (hd 2 (by decide))
        have g3 := f3 (hd 3 (by decide))
        have g4 := f4 (hd 4 (by decide))
        refine step_do rfl ?_
        clear hv
        go_simp
        exact hK.out _ _ ⟨e5, hb, f0, f1, f2, f3, f4, f5, f6, f7, f8, f9, fun _ => rfl, f11⟩
      case s11 =>
        rintro L a v w hv hg hL hd hcl ⟨e5, hb, f0, f1, f2, f3, f4, f5, f6, f7, f8, f9, f10, f11⟩ K hK
        have g0 := f0 (hd 0 (by decide))
        have g1 := f1 (hd 1 (by decide))
        have g2 := f2 (hd 2 (by decide))
        have g3 := f3 (hd 3 (by decide))
        have g4 := f4 (hd 4 (by decide))
        have g5 := f5 (hd 5 (by decide))
        have g6 := f6 (hd 6 (by decide))
        have g7 := f7 (hd 7 (by decide))
        have g8 := f8 (hd 8 (by decide))
        have g9 := f9 (hd 9 (by decide))
        have g10 := f10 (hd 10 (by decide))
        refine step_do rfl ?_
        clear hv
        go_simp
        exact hK.out _ _ ⟨e5, hb, f0, f1, f2, f3, f4, f5, f6, f7, f8, f9, f10, fun _ => rfl⟩
    case hend =>
    rintro L v wa hall ⟨e5, hb, f0, f1, f2, f3, f4, f5, f6, f7, f8, f9, f10, f11⟩
    have hL : ∀ i, i < 12 → L i = true := hall
    have f0 := f0 (hL 0 (by decide))
    have f1 := f1 (hL 1 (by decide))
    have f2 := f2 (hL 2 (by decide))
    have f3 := f3 (hL 3 (by decide))
    have f4 := f4 (hL 4 (by decide))
    have f5 := f5 (hL 5 (by decide))
    have f6 := f6 (hL 6 (by decide))
    have f7 := f7 (hL 7 (by decide))
    have f8 := f8 (hL 8 (by decide))
    have f9 := f9 (hL 9 (by decide))
    have f10 := f10 (hL 10 (by decide))
    have f11 := f11 (hL 11 (by decide))
    simp only [finA, List.foldl_cons, List.foldl_nil, Act.put, List.setIfInBounds_toArray, List.set_cons_succ, List.set_cons_zero, f0, f1, f2, f3, f4, f5, f6, f7, f8, f9, f10, f11]
    have bb := hb
    clear e5 f0 f1 f2 f3 f4 f5 f6 f7 f8 f9 f10 f11 hL hall hb
    have k5 := k5.below bb k5.lt
    have kB := kB.below bb kB.lt
    have hE := hE.below bb
    have gb := gb.trans (bb.mono gb.size)
    clear bb
    have c3 : wa.cell? ⟨gT, 3, none⟩ = some (.bool mm) := k5.cell 3
    cases mm
    case true =>
      go_upto_region 11 with fail
      clear c3
      refine wp_region_tail 9 (fun L v w => v 6 = .int .i64 (x : Nat) ∧ v 7 = .int .i64 (y : Nat) ∧ v 3 = .pointer (some ⟨gB, 0, none⟩) ∧ Below wa.heap.size wa w ∧ (L 0 = true → v 41 = .int .i64 (x : Nat)) ∧ (L 1 = true → v 42 = .int .i64 (x : Nat)) ∧ (L 2 = true → v 43 = .pointer (some ⟨gB, x * 9, none⟩)) ∧ (L 3 = true → v 44 = .agg (Q x)) ∧ (L 4 = true → v 45 = .int .i64 (y : Nat)) ∧ (L 5 = true → v 46 = .pointer (some ⟨gB, y * 9, none⟩)) ∧ (L 6 = true → v 47 = .agg (Q y)) ∧ (L 7 = true → FreshO 49 (repU (mt (F x) (F y))) (repL (mt (F x) (F y))) (v 48) w) ∧ (L 8 = true → v 49 = .pointer (some ⟨gB, x * 9, none⟩))) [41, 42, 43, 44, 45, 46, 47, 48, 49] (by kernel_rfl) (by kernel_rfl) (by kernel_rfl) (by kernel_rfl) (by kernel_rfl) (by kernel_rfl) ?h0 ?hst ?hend
      case h0 =>
        intro L h0
        have h0 : ∀ i, i < 9 → L i = false := h0
        exact ⟨rfl, rfl, rfl, (Below.refl _ _).drew, offF h0 (i := 0) (by decide), offF h0 (i := 1) (by decide), offF h0 (i := 2) (by decide), offF h0 (i := 3) (by decide), offF h0 (i := 4) (by decide), offF h0 (i := 5) (by decide), offF h0 (i := 6) (by decide), offF h0 (i := 7) (by decide), offF h0 (i := 8) (by decide)⟩
      case hst =>
        show FactSteps _ _ _ _ [0, 1, 2, 3, 4, 5, 6, 7, 8]
        refine @FactSteps.cons _ _ _ _ 0 _ [] _ rfl (by kernel_rfl) ?s0 ?_
        rotate_left
        refine @FactSteps.cons _ _ _ _ 1 _ [] _ rfl (by kernel_rfl) ?s1 ?_
        rotate_left
        refine @FactSteps.cons _ _ _ _ 2 _ [1] _ rfl (by kernel_rfl) ?s2 ?_
        rotate_left
        refine @FactSteps.cons _ _ _ _ 3 _ [2] _ rfl (by kernel_rfl) ?s3 ?_
        rotate_left
        refine @FactSteps.cons _ _ _ _ 4 _ [] _ rfl (by kernel_rfl) ?s4 ?_
        rotate_left
        refine @FactSteps.cons _ _ _ _ 5 _ [4] _ rfl (by kernel_rfl) ?s5 ?_
        rotate_left
        refine @FactSteps.cons _ _ _ _ 6 _ [5] _ rfl (by kernel_rfl) ?s6 ?_
        rotate_left
        refine @FactSteps.cons _ _ _ _ 7 _ [3, 6] _ rfl (by kernel_rfl) ?s7 ?_
        rotate_left
        refine @FactSteps.cons _ _ _ _ 8 _ [0, 0, 1, 2, 3, 4, 5, 6, 7] _ rfl (by kernel_rfl) ?s8 ?_
        rotate_left
        exact FactSteps.nil
        case s0 =>
          rintro L a v w hv hg hL hd hcl ⟨e6, e7, e3, hb, f0, f1, f2, f3, f4, f5, f6, f7, f8⟩ K hK
          refine step_do rfl ?_
          clear hv
          go_simp
          exact hK.out _ _ ⟨e6, e7, e3, hb, fun _ => rfl, f1, f2, f3, f4, f5, f6, f7, f8⟩
        case s1 =>
          rintro L a v w hv hg hL hd hcl ⟨e6, e7, e3, hb, f0, f1, f2, f3, f4, f5, f6, f7, f8⟩ K hK
          refine step_do rfl ?_
          clear hv
          go_simp
          exact hK.out _ _ ⟨e6, e7, e3, hb, f0, fun _ => rfl, f2, f3, f4, f5, f6, f7, f8⟩
        case s2 =>
          rintro L a v w hv hg hL hd hcl ⟨e6, e7, e3, hb, f0, f1, f2, f3, f4, f5, f6, f7, f8⟩ K hK
          have g1 := f1 (hd 1 (by decide))
          refine step_do rfl ?_
          clear hv
          go_simp
          exact hK.out _ _ ⟨e6, e7, e3, hb, f0, f1, fun _ => rfl, f3, f4, f5, f6, f7, f8⟩
        case s3 =>
          rintro L a v w hv hg hL hd hcl ⟨e6, e7, e3, hb, f0, f1, f2, f3, f4, f5, f6, f7, f8⟩ K hK
          have g2 := f2 (hd 2 (by decide))
          refine step_do rfl ?_
          refine wp_ldr rowM (.tmp 43) rfl ((hv 43).trans g2) (rng9 (kB.below hb kB.lt) (hE.below hb).nine hx) ((hE.below hb).nine x hx) ?_
          exact hK.out _ _ ⟨e6, e7, e3, hb, f0, f1, f2, fun _ => rfl, f4, f5, f6, f7, f8⟩
        case s4 =>
          rintro L a v w hv hg hL hd hcl ⟨e6, e7, e3, hb, f0, f1, f2, f3, f4, f5, f6, f7, f8⟩ K hK
          refine step_do rfl ?_
          clear hv
          go_simp
          exact hK.out _ _ ⟨e6, e7, e3, hb, f0, f1, f2, f3, fun _ => rfl, f5, f6, f7, f8⟩
        case s5 =>
          rintro L a v w hv hg hL hd hcl ⟨e6, e7, e3, hb, f0, f1, f2, f3, f4, f5, f6, f7, f8⟩ K hK
          have g4 := f4 (hd 4 (by decide))
          refine step_do rfl ?_
          clear hv
          go_simp
          exact hK.out _ _ ⟨e6, e7, e3, hb, f0, f1, f2, f3, f4, fun _ => rfl, f6, f7, f8⟩
        case s6 =>
          rintro L a v w hv hg hL hd hcl ⟨e6, e7, e3, hb, f0, f1, f2, f3, f4, f5, f6, f7, f8⟩ K hK
          have g5 := f5 (hd 5 (by decide))
          refine step_do rfl ?_
          refine wp_ldr rowM (.tmp 46) rfl ((hv 46).trans g5) (rng9 (kB.below hb kB.lt) (hE.below hb).nine hy) ((hE.below hb).nine y hy) ?_
          exact hK.out _ _ ⟨e6, e7, e3, hb, f0, f1, f2, f3, f4, f5, fun _ => rfl, f7, f8⟩
        case s7 =>
          rintro L a v w hv hg hL hd hcl ⟨e6, e7, e3, hb, f0, f1, f2, f3, f4, f5, f6, f7, f8⟩ K hK
          have h3 := f3 (hd 3 (by decide))
          have h6 := f6 (hd 6 (by decide))
          refine step_do rfl ?_
          clear hv
          go_simp
          refine (meetH (hE x hx).1 (hE y hy).1 ((hE.below hb) x hx).2.fresh ((hE.below hb) y hy).2.fresh).mono ?_
          rintro e wy ⟨q, rfl, hq, bb⟩
          exact hK.out _ _ ⟨e6, e7, e3, (hb.trans (bb.mono hb.size)), f0, f1, f2, f3, f4, f5, f6, fun _ => hq, f8⟩
        case s8 =>
          rintro L a v w hv hg hL hd hcl ⟨e6, e7, e3, hb, f0, f1, f2, f3, f4, f5, f6, f7, f8⟩ K hK
          have g0 := f0 (hd 0 (by decide))
          have g1 := f1 (hd 1 (by decide))
          have g2 := f2 (hd 2 (by decide))
          have g3 := f3 (hd 3 (by decide))
          have g4 := f4 (hd 4 (by decide))
          have g5 := f5 (hd 5 (by decide))
          have g6 := f6 (hd 6 (by decide))
          refine step_do rfl ?_
          clear hv
          go_simp
          exact hK.out _ _ ⟨e6, e7, e3, hb, f0, f1, f2, f3, f4, f5, f6, f7, fun _ => rfl⟩
      case hend =>
      rintro L v wb hall ⟨e6, e7, e3, hb, f0, f1, f2, f3, f4, f5, f6, f7, f8⟩
      have hL : ∀ i, i < 9 → L i = true := hall
      have f0 := f0 (hL 0 (by decide))
      have f1 := f1 (hL 1 (by decide))
      have f2 := f2 (hL 2 (by decide))
      have f3 := f3 (hL 3 (by decide))
      have f4 := f4 (hL 4 (by decide))
      have f5 := f5 (hL 5 (by decide))
      have f6 := f6 (hL 6 (by decide))
      have f7 := f7 (hL 7 (by decide))
      have f8 := f8 (hL 8 (by decide))
      obtain ⟨cJ, ev⟩ := f7.fresh.agg
      rw [ev] at f7
      simp only [finA, List.foldl_cons, List.foldl_nil, Act.put, List.setIfInBounds_toArray, List.set_cons_succ, List.set_cons_zero, f0, f1, f2, f3, f4, f5, f6, f8, ev]
      have bb := hb
      have hJ := f7
      clear e6 e7 e3 f0 f1 f2 f3 f4 f5 f6 f7 f8 hL hall hb ev
      have k5 := k5.below bb k5.lt
      have kB := kB.below bb kB.lt
      have hE := hE.below bb
      have gb := gb.trans (bb.mono gb.size)
      clear bb
      show wpList _ _ _ [_] _ _
      have sJ := hJ.fresh.size9 (repU_len _)
      have oJ := hJ.fresh.one9
      refine wpList_str rowM (there9 kB hE.nine hx) sJ oJ (fun wc hwc => ?_) rfl rfl
      have gS : wb.grownBy wc (some gB) := by rw [hwc]; exact setCells_grown _ _ _ _
      have kC : Blk wc gB 52 (cat9 (upQ Q x cJ)) := by rw [hwc]; exact set9 kB hE.nine hx sJ
      have e8 := (hE.grown gS kB (by decide)).up (a := x) (mt_good (hE x hx).1 (hE y hy).1) (hJ.grown gS kB (by decide))
      have gC := gb.grown gS gb.size (fun q hq => by injection hq; omega)
      have HH := Lib.hid (And.intro e8 (And.intro kC (And.intro gC (HF.out.meet hx hy))))
      clear hwc gS kC e8 gC kB hE hJ k5 gb sJ oJ
      go_wp2_with fail
      go_roundw
      case rel => exact ⟨k + 1, _, _, by omega, by go_num, HH.out.1, fun i hi n hn => by have := HH.out.2.2.2 i hi n hn; push_cast; omega, HH.out.2.1, HH.out.2.2.1⟩
      case measure => simp [intOf]; omega
    case false =>
    have hv9 : -1099511627776 ≤ vl.tmod 1000 ∧ vl.tmod 1000 ≤ 1099511627776 := tmod_bd vl
    have hlt9 : (F x x).1 < 1099511627776 := by have := HF.out x hx x hx; omega
    go_upto_region 12 with fail
    clear c3
    refine wp_region_facts (fun L v w => v 6 = .int .i64 (x : Nat) ∧ v 3 = .pointer (some ⟨gB, 0, none⟩) ∧ v 5 = .pointer (some ⟨gT, 0, none⟩) ∧ Below wa.heap.size wa w ∧ (L 0 = true → v 51 = .int .i64 (x : Nat)) ∧ (L 1 = true → v 52 = .pointer (some ⟨gB, x * 9, none⟩)) ∧ (L 2 = true → v 53 = .agg (Q x)) ∧ (L 3 = true → v 54 = .int .i64 (x : Nat)) ∧ (L 4 = true → v 55 = .pointer (some ⟨gT, 2, none⟩)) ∧ (L 5 = true → v 56 = .int .i64 vl) ∧ (L 6 = true → v 57 = .int .i64 (vl.tmod 1000)) ∧ (L 7 = true → TupM 49 (repU (putNd (F x) x (vl.tmod 1000))) (repL (putNd (F x) x (vl.tmod 1000))) 0 (v 58) w) ∧ (L 8 = true → TupM 49 (repU (putNd (F x) x (vl.tmod 1000))) (repL (putNd (F x) x (vl.tmod 1000))) 0 (v 50) w) ∧ (L 9 = true → FreshO 49 (repU (putNd (F x) x (vl.tmod 1000))) (repL (putNd (F x) x (vl.tmod 1000))) (v 59) w) ∧ (L 10 = true → v 60 = .int .i64 0) ∧ Al 31 9 wa.heap.size (L 11) (L 12) (v 8) (v 59) w ∧ (L 13 = true → v 9 = .int .i64 0)) [51, 52, 53, 54, 55, 56, 57, 58, 50, 59, 60, 8, 9] (by kernel_rfl) (by kernel_rfl) (by kernel_rfl) (by kernel_rfl) ?h0 ?hst ?hend
    case h0 =>
      intro L h0
      have h0 : ∀ i, i < 14 → L i = false := h0
      exact ⟨rfl, rfl, rfl, (Below.refl _ _).drew, offF h0 (i := 0) (by decide), offF h0 (i := 1) (by decide), offF h0 (i := 2) (by decide), offF h0 (i := 3) (by decide), offF h0 (i := 4) (by decide), offF h0 (i := 5) (by decide), offF h0 (i := 6) (by decide), offF h0 (i := 7) (by decide), offF h0 (i := 8) (by decide), offF h0 (i := 9) (by decide), offF h0 (i := 10) (by decide), Al.none_ (h0 11 (by decide)) (h0 12 (by decide)), offF h0 (i := 13) (by decide)⟩
    case hst =>
      show FactSteps _ _ _ _ [0, 1, 2, 3, 4, 5, 6, 7, 8, 9, 10, 11, 12, 13]
      refine @FactSteps.cons _ _ _ _ 0 _ [] _ rfl (by kernel_rfl) ?s0 ?_
      rotate_left
      refine @FactSteps.cons _ _ _ _ 1 _ [0] _ rfl (by kernel_rfl) ?s1 ?_
      rotate_left
      refine @FactSteps.cons _ _ _ _ 2 _ [1] _ rfl (by kernel_rfl) ?s2 ?_
      rotate_left
      refine @FactSteps.cons _ _ _ _ 3 _ [] _ rfl (by kernel_rfl) ?s3 ?_
      rotate_left
      refine @FactSteps.cons _ _ _ _ 4 _ [] _ rfl (by kernel_rfl) ?s4 ?_
      rotate_left
      refine @FactSteps.cons _ _ _ _ 5 _ [4] _ rfl (by kernel_rfl) ?s5 ?_
      rotate_left
      refine @FactSteps.cons _ _ _ _ 6 _ [5] _ rfl (by kernel_rfl) ?s6 ?_
      rotate_left
      refine @FactSteps.cons _ _ _ _ 7 _ [2, 3, 6] _ rfl (by kernel_rfl) ?s7 ?_
      rotate_left
      refine @FactSteps.cons _ _ _ _ 8 _ [7] _ rfl (by kernel_rfl) ?s8 ?_
      rotate_left
      refine @FactSteps.cons _ _ _ _ 9 _ [8] _ rfl (by kernel_rfl) ?s9 ?_
      rotate_left
      refine @FactSteps.cons _ _ _ _ 10 _ [8] _ rfl (by kernel_rfl) ?s10 ?_
      rotate_left
      refine @FactSteps.cons _ _ _ _ 11 _ [] _ rfl (by kernel_rfl) ?s11 ?_
      rotate_left
      refine @FactSteps.cons _ _ _ _ 12 _ [11, 9, 7, 0, 1, 2, 3, 4, 5, 6, 7, 8, 9, 11] _ rfl (by kernel_rfl) ?s12 ?_
      rotate_left
      refine @FactSteps.cons _ _ _ _ 13 _ [10, 12, 0, 1, 2, 3, 4, 5, 6, 7, 8, 9, 10, 11, 12] _ rfl (by kernel_rfl) ?s13 ?_
      rotate_left
      exact FactSteps.nil
      case s0 =>
        rintro L a v w hv hg hL hd hcl ⟨e6, e3, e5, hb, f0, f1, f2, f3, f4, f5, f6, f7, f8, f9, f10, f11, f13⟩ K hK
        refine step_do rfl ?_
        clear hv
        go_simp
        exact hK.out _ _ ⟨e6, e3, e5, hb, fun _ => rfl, f1, f2, f3, f4, f5, f6, f7, f8, f9, f10, f11, f13⟩
      case s1 =>
        rintro L a v w hv hg hL hd hcl ⟨e6, e3, e5, hb, f0, f1, f2, f3, f4, f5, f6, f7, f8, f9, f10, f11, f13⟩ K hK
        have g0 := f0 (hd 0 (by decide))
        refine step_do rfl ?_
        clear hv
        go_simp
        exact hK.out _ _ ⟨e6, e3, e5, hb, f0, fun _ => rfl, f2, f3, f4, f5, f6, f7, f8, f9, f10, f11, f13⟩
      case s2 =>
        rintro L a v w hv hg hL hd hcl ⟨e6, e3, e5, hb, f0, f1, f2, f3, f4, f5, f6, f7, f8, f9, f10, f11, f13⟩ K hK
        have g1 := f1 (hd 1 (by decide))
        refine step_do rfl ?_
        refine wp_ldr rowM (.tmp 52) rfl ((hv 52).trans g1) (rng9 (kB.below hb kB.lt) (hE.below hb).nine hx) ((hE.below hb).nine x hx) ?_
        exact hK.out _ _ ⟨e6, e3, e5, hb, f0, f1, fun _ => rfl, f3, f4, f5, f6, f7, f8, f9, f10, f11, f13⟩
      case s3 =>
        rintro L a v w hv hg hL hd hcl ⟨e6, e3, e5, hb, f0, f1, f2, f3, f4, f5, f6, f7, f8, f9, f10, f11, f13⟩ K hK
        refine step_do rfl ?_
        clear hv
        go_simp
        exact hK.out _ _ ⟨e6, e3, e5, hb, f0, f1, f2, fun _ => rfl, f4, f5, f6, f7, f8, f9, f10, f11, f13⟩
      case s4 =>
        rintro L a v w hv hg hL hd hcl ⟨e6, e3, e5, hb, f0, f1, f2, f3, f4, f5, f6, f7, f8, f9, f10, f11, f13⟩ K hK
        refine step_do rfl ?_
        clear hv
        go_simp
        exact hK.out _ _ ⟨e6, e3, e5, hb, f0, f1, f2, f3, fun _ => rfl, f5, f6, f7, f8, f9, f10, f11, f13⟩
      case s5 =>
        rintro L a v w hv hg hL hd hcl ⟨e6, e3, e5, hb, f0, f1, f2, f3, f4, f5, f6, f7, f8, f9, f10, f11, f13⟩ K hK
        have g4 := f4 (hd 4 (by decide))
        have c2 : w.cell? ⟨gT, 2, none⟩ = some (.int .i64 vl) := (k5.below hb k5.lt).cell 2
        refine step_do rfl ?_
        clear hv
        go_simp
        exact hK.out _ _ ⟨e6, e3, e5, hb, f0, f1, f2, f3, f4, fun _ => rfl, f6, f7, f8, f9, f10, f11, f13⟩
      case s6 =>
        rintro L a v w hv hg hL hd hcl ⟨e6, e3, e5, hb, f0, f1, f2, f3, f4, f5, f6, f7, f8, f9, f10, f11, f13⟩ K hK
        have g5 := f5 (hd 5 (by decide))
        refine step_do rfl ?_
        clear hv
        go_simp
        exact hK.out _ _ ⟨e6, e3, e5, hb, f0, f1, f2, f3, f4, f5, fun _ => rfl, f7, f8, f9, f10, f11, f13⟩
      case s7 =>
        rintro L a v w hv hg hL hd hcl ⟨e6, e3, e5, hb, f0, f1, f2, f3, f4, f5, f6, f7, f8, f9, f10, f11, f13⟩ K hK
        have h2 := f2 (hd 2 (by decide))
        have h3 := f3 (hd 3 (by decide))
        have h6 := f6 (hd 6 (by decide))
        refine step_do rfl ?_
        clear hv
        go_simp
        refine (putG (hE x hx).1 hx (vl.tmod 1000) hv9 hlt9 ((hE.below hb) x hx).2.fresh).mono ?_
        rintro e wy ⟨q, rfl, hq, bb⟩
        exact hK.out _ _ ⟨e6, e3, e5, (hb.trans (bb.mono hb.size)), f0, f1, f2, f3, f4, f5, f6, fun _ => TupM.mk hq, (fun h => (f8 h).below bb), (fun h => (f9 h).below bb), f10, f11.below bb, f13⟩
      case s8 =>
        rintro L a v w hv hg hL hd hcl ⟨e6, e3, e5, hb, f0, f1, f2, f3, f4, f5, f6, f7, f8, f9, f10, f11, f13⟩ K hK
        have h7 := f7 (hd 7 (by decide))
        refine step_do rfl ?_
        clear hv
        go_simp
        exact hK.out _ _ ⟨e6, e3, e5, hb, f0, f1, f2, f3, f4, f5, f6, f7, fun _ => h7, f9, f10, f11, f13⟩
      case s9 =>
        rintro L a v w hv hg hL hd hcl ⟨e6, e3, e5, hb, f0, f1, f2, f3, f4, f5, f6, f7, f8, f9, f10, f11, f13⟩ K hK
        have c12 : L 12 = false := off_of hcl (j := 12) (by kernel_rfl : waitsAt _ 12 = [11, 9, 7, 0, 1, 2, 3, 4, 5, 6, 7, 8, 9, 11]) (d := 9) (by decide) hL
        obtain ⟨cc, ec, hcc⟩ := f8 (hd 8 (by decide))
        refine step_do rfl ?_
        clear hv
        go_simp
        exact hK.out _ _ ⟨e6, e3, e5, hb, f0, f1, f2, f3, f4, f5, f6, f7, f8, fun _ => hcc, f10, f11.other c12, f13⟩
      case s10 =>
        rintro L a v w hv hg hL hd hcl ⟨e6, e3, e5, hb, f0, f1, f2, f3, f4, f5, f6, f7, f8, f9, f10, f11, f13⟩ K hK
        obtain ⟨cc, ec, hcc⟩ := f8 (hd 8 (by decide))
        refine step_do rfl ?_
        clear hv
        go_simp
        exact hK.out _ _ ⟨e6, e3, e5, hb, f0, f1, f2, f3, f4, f5, f6, f7, f8, f9, fun _ => rfl, f11, f13⟩
      case s11 =>
        rintro L a v w hv hg hL hd hcl ⟨e6, e3, e5, hb, f0, f1, f2, f3, f4, f5, f6, f7, f8, f9, f10, f11, f13⟩ K hK
        refine step_do rfl ?_
        go_simp
        have bb : Below w.heap.size w (w.alloc (.cells (uc z8 (.slice none 0 0)) 31)) := (Below.refl _ _).alloc (Nat.le_refl _) _
        rw [hL] at f11
        exact hK.out _ _ ⟨e6, e3, e5, (hb.trans (bb.mono hb.size)), f0, f1, f2, f3, f4, f5, f6, (fun h => (f7 h).below bb), (fun h => (f8 h).below bb), (fun h => (f9 h).below bb), f10, f11.alloc_ hb.size rfl, f13⟩
      case s12 =>
        rintro L a v w hv hg hL hd hcl ⟨e6, e3, e5, hb, f0, f1, f2, f3, f4, f5, f6, f7, f8, f9, f10, f11, f13⟩ K hK
        have ha : L 11 = true := hd 11 (by decide)
        obtain ⟨g, ds, ep, hg, kk, hds, _⟩ := f11.2 ha
        have fr := (f9 (hd 9 (by decide))).fresh
        obtain ⟨cs1, ev⟩ := fr.agg
        rw [ev] at fr
        have sz1 := fr.size9 (repU_len _)
        have on1 := fr.one9
        refine step_do rfl ?_
        refine wp_st (cs := cs1) rowM (.tmp 8) (.tmp 59) rfl ((hv 8).trans ep) ((hv 59).trans ev) kk sz1 hds on1 ?_
        intro wy ky gy zy
        have bY : Below wa.heap.size w wy := only_Below gy hg hb.size
        exact hK.out _ _ ⟨e6, e3, e5, (hb.trans bY), f0, f1, f2, f3, f4, f5, f6, (fun h => (f7 h).grown gy kk (by decide)), (fun h => (f8 h).grown gy kk (by decide)), (fun h => (f9 h).grown gy kk (by decide)), f10, Al.stored ha ep hg ky sz1 ev, f13⟩
      case s13 =>
        rintro L a v w hv hg hL hd hcl ⟨e6, e3, e5, hb, f0, f1, f2, f3, f4, f5, f6, f7, f8, f9, f10, f11, f13⟩ K hK
        have g0 := f0 (hd 0 (by decide))
        have g1 := f1 (hd 1 (by decide))
        have g2 := f2 (hd 2 (by decide))
        have g3 := f3 (hd 3 (by decide))
        have g4 := f4 (hd 4 (by decide))
        have g5 := f5 (hd 5 (by decide))
        have g6 := f6 (hd 6 (by decide))
        have g10 := f10 (hd 10 (by decide))
        refine step_do rfl ?_
        clear hv
        go_simp
        exact hK.out _ _ ⟨e6, e3, e5, hb, f0, f1, f2, f3, f4, f5, f6, f7, f8, f9, f10, f11, fun _ => rfl⟩
    case hend =>
    rintro L v wb hall ⟨e6, e3, e5, hb, f0, f1, f2, f3, f4, f5, f6, f7, f8, f9, f10, f11, f13⟩
    have hL : ∀ i, i < 14 → L i = true := hall
    have f0 := f0 (hL 0 (by decide))
    have f1 := f1 (hL 1 (by decide))
    have f2 := f2 (hL 2 (by decide))
    have f3 := f3 (hL 3 (by decide))
    have f4 := f4 (hL 4 (by decide))
    have f5 := f5 (hL 5 (by decide))
    have f6 := f6 (hL 6 (by decide))
    have f7 := f7 (hL 7 (by decide))
    have f8 := f8 (hL 8 (by decide))
    have f9 := f9 (hL 9 (by decide))
    have f10 := f10 (hL 10 (by decide))
    rw [hL 11 (by decide), hL 12 (by decide)] at f11
    have f13 := f13 (hL 13 (by decide))
    obtain ⟨g8, cP, e8, ev, hg8, k8, s8⟩ := f11.fin
    rw [ev] at f9
    simp only [finA, List.foldl_cons, List.foldl_nil, Act.put, List.setIfInBounds_toArray, List.set_cons_succ, List.set_cons_zero, f0, f1, f2, f3, f4, f5, f6, f10, f13, e8, ev]
    have bb := hb
    have hP := f9
    clear e6 e3 e5 f0 f1 f2 f3 f4 f5 f6 f7 f8 f9 f10 f11 f13 hL hall hb e8 ev
    have k5 := k5.below bb k5.lt
    have kB := kB.below bb kB.lt
    have hE := hE.below bb
    have gb := gb.trans (bb.mono gb.size)
    clear bb
    have hPf := putNd_good (hE x hx).1 (k := x) hv9 hlt9
    have oP := hP.fresh.one9
    have hP2 := hP
    rw [repL_put hx] at hP2
    obtain ⟨A1, m1, cc, eP, o1, _⟩ := hP2
    have HEP := Lib.hid (show cP = _ from by injection eP)
    clear eP
    have hm1 : m1 = 1 := o1.1
    subst hm1
    obtain ⟨gr, rfl, _, _⟩ := o1.form (by omega)
    have hv := o1.rd.2 0 _ rfl
    obtain ⟨ad2, ea, _, _, _, c22⟩ := hv
    injection ea with ea
    subst ea
    have c82 : wb.cell? ⟨g8, 8, none⟩ = some (.slice (some ⟨gr, 0, none⟩) 1 cc) := (k8.cell 8).trans (by rw [HEP.out]; exact uc_last (repU_len _) _)
    have c23 : wb.cell? ⟨gr, 2, none⟩ = some (.int .i64 (vl.tmod 1000)) := c22
    have c52 : wb.cell? ⟨gT, 2, none⟩ = some (.int .i64 vl) := k5.cell 2
    go_upto_region 13 with fail
    clear o1 c22
    go_quiet (fail)
    go_upto_region 15 with fail
    refine nameW ?_
    intro W hW
    have bb : Below wb.heap.size wb W := by rw [hW]; exact below_drewN (Below.refl _ _) _
    have k8 := k8.below bb k8.lt
    have hP := hP.below bb
    clear hW c82 c23 c52
    have k5 := k5.below bb k5.lt
    have kB := kB.below bb kB.lt
    have hE := hE.below bb
    have gb := gb.trans (bb.mono gb.size)
    clear bb
    go_wp2_with first
      | ((with_reducible refine wpList_ld rowM k8 s8 ?_ ?_); rotate_left; (rfl))
      | ((with_reducible refine wpList_str rowM (there9 kB hE.nine hx) s8 oP ?_ ?_ ?_); rotate_left; (rfl); (rfl); intro wc hwc)
    have gS : W.grownBy wc (some gB) := by rw [hwc]; exact setCells_grown _ _ _ _
    have kC : Blk wc gB 52 (cat9 (upQ Q x cP)) := by rw [hwc]; exact set9 kB hE.nine hx s8
    have e8 := (hE.grown gS kB (by decide)).up (a := x) hPf (hP.grown gS kB (by decide))
    have gC := gb.grown gS gb.size (fun q hq => by injection hq; omega)
    have HH := Lib.hid (And.intro e8 (And.intro kC (And.intro gC (HF.out.put hx (vl.tmod 1000)))))
    clear gS kC e8 gC kB hE hP k5 gb s8 oP hPf k8
    subst hwc
    go_wp2_with fail
    go_roundw
    case rel => exact ⟨k + 1, _, _, by omega, by go_num, HH.out.1, fun i hi n hn => by have := HH.out.2.2.2 i hi n hn; push_cast; omega, HH.out.2.1, HH.out.2.2.1⟩
    case measure => simp [intOf]; omega
  obtain rfl : k = n := by omega
  clear hlt hk hfew
  have H8 := Lib.hid hE
  have HKB := Lib.hid kB
  have HGB := Lib.hid gb
  have HFG := Lib.hid (fun i hi => (hE i hi).1)
  clear hE kB gb
  go_upto_region 18 with fail
  refine nameW ?_
  intro wv hwv
  have bb : Below wr.heap.size wr wv := by rw [hwv]; exact Below.refl _ _
  have hE := H8.out.below bb
  have kB := HKB.out.below bb HKB.out.lt
  have gb := HGB.out.trans (bb.mono HGB.out.size)
  clear hwv bb H8 HKB HGB
  have hQ9 := hE.nine
  have HQ9 := Lib.hid hQ9
  have sC := cat9_size hQ9
  have HSC := Lib.hid sC
  have hbz := fun (w : World) => buildM0 w
  have HBZ := Lib.hid hbz
  have H1Z := Lib.hid (uc_one (U := z8) (s := .slice none 0 0) rfl)
  have HSZ := Lib.hid (z8_size (.slice none 0 0))
  clear hQ9 sC hbz
  go_upto_region 19 with first
    | ((refine wpList_bdV (v := .agg (uc z8 (.slice none 0 0))) (w' := _) rfl 31 #[] rfl ?_ ?_); (simp only [List.map_toArray, List.map_nil]; exact HBZ.out _))
    | ((with_reducible refine wpList_st rowM (Blk.new _ _ _) HSZ.out ?_ H1Z.out ?_ ?_ ?_); (rfl); rotate_left; (rfl); (rfl); intro gaw k11 ga gaz)
  have bb := new_below ga
  have hgw11' := gb.size
  have hE := hE.below bb
  have kB := kB.below bb kB.lt
  have gb := gb.trans (bb.mono gb.size)
  obtain ⟨g11, hg11⟩ : ∃ g11, g11 = wv.heap.size := ⟨_, rfl⟩
  rw [← hg11] at k11 ⊢
  have h11 : FreshO 49 (repU (foldF F 0)) (repL (foldF F 0)) (.agg (uc z8 (.slice none 0 0))) gaw := ⟨none, 0, 0, rfl, OwnV.nil _ _ _, by omega⟩
  have hgw11 : w.heap.size ≤ g11 := by rw [hg11]; exact hgw11'
  have HM := Lib.hid (fun (f g h : Nf) (q q2 : Value) (w' : World) (hf : GoodF f) (hg : GoodF g) (hs : SameN (mt f g) h) (x : Fresh (repU f) (repL f) q w') (y : Fresh (repU g) (repL g) q2 w') => meetS hf hg hs x y)
  clear bb ga hg11 gaz
  go_wp2_with first
    | ((with_reducible refine wpList_ld rowOwn kB HSC.out ?_ ?_); rotate_left; (rfl))
  go_loopw [86] (fun i wr => ∃ (k : Nat) (c11 : Array Value), k ≤ 8 ∧ i = .int .i64 k ∧ Blk wr g11 31 c11 ∧ FreshO 49 (repU (foldF F k)) (repL (foldF F k)) (.agg c11) wr ∧ Eight F Q wr ∧ Blk wr gB 52 (cat9 Q) ∧ Below w.heap.size w wr ∧ w.heap.size ≤ g11) (fun i _ => 8 - (intOf i).toNat)
  case atStart => exact ⟨0, _, by omega, rfl, k11, h11, hE, kB, gb, hgw11⟩
  case round =>
  clear k11 h11 hE kB gb
  obtain ⟨k, c11, hk, rfl, k11, h11, hE, kB, gb, hgw11⟩ := hrel
  by_cases hlt : k < 8
  · have hk0 : (0 : Int) ≤ (k : Int) := by omega
    have hk8 : (k : Int) < 8 := by omega
    have sQ := HQ9.out k hlt
    have oQ := (hE k hlt).2.fresh.one9
    have hix := fun w' => run_index9 w' Q HQ9.out k hlt
    have HIX := Lib.hid hix
    clear hix
    go_upto_region 22 with first
      | ((with_reducible refine wpList_ix (HIX.out _) ?_ ?_ ?_); rotate_left; (rfl); (rfl))
      | ((with_reducible refine wpList_st rowM (Blk.new _ _ _) sQ ?_ oQ ?_ ?_ ?_); (rfl); rotate_left; (rfl); (rfl); intro gaw k13 ga gaz)
    have bb := new_below ga
    obtain ⟨g13, hg13⟩ : ∃ g13, g13 = wr.heap.size := ⟨_, rfl⟩
    rw [← hg13] at k13 ⊢
    obtain ⟨p, hp⟩ : ∃ p, p = (k + 1) % 8 := ⟨_, rfl⟩
    obtain ⟨q, hq⟩ : ∃ q, q = (k + 3) % 8 := ⟨_, rfl⟩
    have hpl : p < 8 := by omega
    have hql : q < 8 := by omega
    have hp0 : (0 : Int) ≤ (p : Int) := by omega
    have hp8 : (p : Int) < 8 := by omega
    have hq0 : (0 : Int) ≤ (q : Int) := by omega
    have hq8 : (q : Int) < 8 := by omega
    have EP := Lib.hid (show ((k : Int) + 1).tmod 8 = (p : Int) by rw [Int.tmod_eq_emod_of_nonneg (by omega)]; omega)
    have EQ := Lib.hid (show ((k : Int) + 3).tmod 8 = (q : Int) by rw [Int.tmod_eq_emod_of_nonneg (by omega)]; omega)
    have W1 := Lib.hid (show IntKind.i64.wrap ((k : Int) + 1) = (k : Int) + 1 from IntWalk.i64_in _ (by omega))
    have W3 := Lib.hid (show IntKind.i64.wrap ((k : Int) + 3) = (k : Int) + 3 from IntWalk.i64_in _ (by omega))
    clear hp hq hg13 ga gaz
    have kB := kB.below bb kB.lt
    have k11 := k11.below bb k11.lt
    have hE := hE.below bb
    have h11 := h11.below bb
    have gb := gb.trans (bb.mono gb.size)
    clear bb
    refine wp_region_facts (fun L v w => v 12 = .int .i64 (k : Nat) ∧ v 3 = .pointer (some ⟨gB, 0, none⟩) ∧ Below gaw.heap.size gaw w ∧ (L 0 = true → v 90 = .int .i64 (k : Nat)) ∧ (L 1 = true → v 91 = .int .i64 ((k : Int) + 1)) ∧ (L 2 = true → v 92 = .int .i64 (p : Nat)) ∧ (L 3 = true → v 93 = .pointer (some ⟨gB, p * 9, none⟩)) ∧ (L 4 = true → v 94 = .agg (Q p)) ∧ (L 5 = true → v 95 = .int .i64 (k : Nat)) ∧ (L 6 = true → v 96 = .int .i64 ((k : Int) + 3)) ∧ (L 7 = true → v 97 = .int .i64 (q : Nat)) ∧ (L 8 = true → v 98 = .pointer (some ⟨gB, q * 9, none⟩)) ∧ (L 9 = true → v 99 = .agg (Q q)) ∧ Al 31 9 gaw.heap.size (L 10) (L 12) (v 14) (v 94) w ∧ Al 31 9 gaw.heap.size (L 11) (L 13) (v 15) (v 99) w ∧ TwoP (L 10) (L 11) (v 14) (v 15)) [90, 91, 92, 93, 94, 95, 96, 97, 98, 99, 14, 15] (by kernel_rfl) (by kernel_rfl) (by kernel_rfl) (by kernel_rfl) ?h0 ?hst ?hend
    case h0 =>
      intro L h0
      have h0 : ∀ i, i < 14 → L i = false := h0
      exact ⟨rfl, rfl, (Below.refl _ _).drew, offF h0 (i := 0) (by decide), offF h0 (i := 1) (by decide), offF h0 (i := 2) (by decide), offF h0 (i := 3) (by decide), offF h0 (i := 4) (by decide), offF h0 (i := 5) (by decide), offF h0 (i := 6) (by decide), offF h0 (i := 7) (by decide), offF h0 (i := 8) (by decide), offF h0 (i := 9) (by decide), Al.none_ (h0 10 (by decide)) (h0 12 (by decide)), Al.none_ (h0 11 (by decide)) (h0 13 (by decide)), offF h0 (i := 10) (by decide)⟩
    case hst =>
      show FactSteps _ _ _ _ [0, 1, 2, 3, 4, 5, 6, 7, 8, 9, 10, 11, 12, 13]
      refine @FactSteps.cons _ _ _ _ 0 _ [] _ rfl (by kernel_rfl) ?s0 ?_
      rotate_left
      refine @FactSteps.cons _ _ _ _ 1 _ [0] _ rfl (by kernel_rfl) ?s1 ?_
      rotate_left
      refine @FactSteps.cons _ _ _ _ 2 _ [1] _ rfl (by kernel_rfl) ?s2 ?_
      rotate_left
      refine @FactSteps.cons _ _ _ _ 3 _ [2] _ rfl (by kernel_rfl) ?s3 ?_
      rotate_left
      refine @FactSteps.cons _ _ _ _ 4 _ [3] _ rfl (by kernel_rfl) ?s4 ?_
      rotate_left
      refine @FactSteps.cons _ _ _ _ 5 _ [] _ rfl (by kernel_rfl) ?s5 ?_
      rotate_left
      refine @FactSteps.cons _ _ _ _ 6 _ [5] _ rfl (by kernel_rfl) ?s6 ?_
      rotate_left
      refine @FactSteps.cons _ _ _ _ 7 _ [6] _ rfl (by kernel_rfl) ?s7 ?_
      rotate_left
      refine @FactSteps.cons _ _ _ _ 8 _ [7] _ rfl (by kernel_rfl) ?s8 ?_
      rotate_left
      refine @FactSteps.cons _ _ _ _ 9 _ [8] _ rfl (by kernel_rfl) ?s9 ?_
      rotate_left
      refine @FactSteps.cons _ _ _ _ 10 _ [] _ rfl (by kernel_rfl) ?s10 ?_
      rotate_left
      refine @FactSteps.cons _ _ _ _ 11 _ [] _ rfl (by kernel_rfl) ?s11 ?_
      rotate_left
      refine @FactSteps.cons _ _ _ _ 12 _ [10, 4, 0, 1, 2, 3, 4, 10, 11] _ rfl (by kernel_rfl) ?s12 ?_
      rotate_left
      refine @FactSteps.cons _ _ _ _ 13 _ [11, 9, 12, 0, 1, 2, 3, 4, 5, 6, 7, 8, 9, 10, 11, 12] _ rfl (by kernel_rfl) ?s13 ?_
      rotate_left
      exact FactSteps.nil
      case s0 =>
        rintro L a v w hv hg hL hd hcl ⟨e12, e3, hb, f0, f1, f2, f3, f4, f5, f6, f7, f8, f9, f10, f11, d10_11⟩ K hK
        refine step_do rfl ?_
        clear hv
        go_simp
        exact hK.out _ _ ⟨e12, e3, hb, fun _ => rfl, f1, f2, f3, f4, f5, f6, f7, f8, f9, f10, f11, d10_11⟩
      case s1 =>
        rintro L a v w hv hg hL hd hcl ⟨e12, e3, hb, f0, f1, f2, f3, f4, f5, f6, f7, f8, f9, f10, f11, d10_11⟩ K hK
        have g0 := f0 (hd 0 (by decide))
        have e1 := W1.out
        refine step_do rfl ?_
        clear hv
        go_simp
        exact hK.out _ _ ⟨e12, e3, hb, f0, fun _ => rfl, f2, f3, f4, f5, f6, f7, f8, f9, f10, f11, d10_11⟩
      case s2 =>
        rintro L a v w hv hg hL hd hcl ⟨e12, e3, hb, f0, f1, f2, f3, f4, f5, f6, f7, f8, f9, f10, f11, d10_11⟩ K hK
        have g1 := f1 (hd 1 (by decide))
        have e1 := EP.out
        refine step_do rfl ?_
        clear hv
        go_simp
        exact hK.out _ _ ⟨e12, e3, hb, f0, f1, fun _ => rfl, f3, f4, f5, f6, f7, f8, f9, f10, f11, d10_11⟩
      case s3 =>
        rintro L a v w hv hg hL hd hcl ⟨e12, e3, hb, f0, f1, f2, f3, f4, f5, f6, f7, f8, f9, f10, f11, d10_11⟩ K hK
        have g2 := f2 (hd 2 (by decide))
        refine step_do rfl ?_
        clear hv
        go_simp
        exact hK.out _ _ ⟨e12, e3, hb, f0, f1, f2, fun _ => rfl, f4, f5, f6, f7, f8, f9, f10, f11, d10_11⟩
      case s4 =>
        rintro L a v w hv hg hL hd hcl ⟨e12, e3, hb, f0, f1, f2, f3, f4, f5, f6, f7, f8, f9, f10, f11, d10_11⟩ K hK
        have c12 : L 12 = false := off_of hcl (j := 12) (by kernel_rfl : waitsAt _ 12 = [10, 4, 0, 1, 2, 3, 4, 10, 11]) (d := 4) (by decide) hL
        have g3 := f3 (hd 3 (by decide))
        refine step_do rfl ?_
        refine wp_ldr rowM (.tmp 93) rfl ((hv 93).trans g3) (rng9 (kB.below hb kB.lt) (hE.below hb).nine hpl) ((hE.below hb).nine p hpl) ?_
        exact hK.out _ _ ⟨e12, e3, hb, f0, f1, f2, f3, fun _ => rfl, f5, f6, f7, f8, f9, f10.other c12, f11, d10_11⟩
      case s5 =>
        rintro L a v w hv hg hL hd hcl ⟨e12, e3, hb, f0, f1, f2, f3, f4, f5, f6, f7, f8, f9, f10, f11, d10_11⟩ K hK
        refine step_do rfl ?_
        clear hv
        go_simp
        exact hK.out _ _ ⟨e12, e3, hb, f0, f1, f2, f3, f4, fun _ => rfl, f6, f7, f8, f9, f10, f11, d10_11⟩
      case s6 =>
        rintro L a v w hv hg hL hd hcl ⟨e12, e3, hb, f0, f1, f2, f3, f4, f5, f6, f7, f8, f9, f10, f11, d10_11⟩ K hK
        have g5 := f5 (hd 5 (by decide))
        have e1 := W3.out
        refine step_do rfl ?_
        clear hv
        go_simp
        exact hK.out _ _ ⟨e12, e3, hb, f0, f1, f2, f3, f4, f5, fun _ => rfl, f7, f8, f9, f10, f11, d10_11⟩
      case s7 =>
        rintro L a v w hv hg hL hd hcl ⟨e12, e3, hb, f0, f1, f2, f3, f4, f5, f6, f7, f8, f9, f10, f11, d10_11⟩ K hK
        have g6 := f6 (hd 6 (by decide))
        have e1 := EQ.out
        refine step_do rfl ?_
        clear hv
        go_simp
        exact hK.out _ _ ⟨e12, e3, hb, f0, f1, f2, f3, f4, f5, f6, fun _ => rfl, f8, f9, f10, f11, d10_11⟩
      case s8 =>
        rintro L a v w hv hg hL hd hcl ⟨e12, e3, hb, f0, f1, f2, f3, f4, f5, f6, f7, f8, f9, f10, f11, d10_11⟩ K hK
        have g7 := f7 (hd 7 (by decide))
        refine step_do rfl ?_
        clear hv
        go_simp
        exact hK.out _ _ ⟨e12, e3, hb, f0, f1, f2, f3, f4, f5, f6, f7, fun _ => rfl, f9, f10, f11, d10_11⟩
      case s9 =>
        rintro L a v w hv hg hL hd hcl ⟨e12, e3, hb, f0, f1, f2, f3, f4, f5, f6, f7, f8, f9, f10, f11, d10_11⟩ K hK
        have c13 : L 13 = false := off_of hcl (j := 13) (by kernel_rfl : waitsAt _ 13 = [11, 9, 12, 0, 1, 2, 3, 4, 5, 6, 7, 8, 9, 10, 11, 12]) (d := 9) (by decide) hL
        have g8 := f8 (hd 8 (by decide))
        refine step_do rfl ?_
        refine wp_ldr rowM (.tmp 98) rfl ((hv 98).trans g8) (rng9 (kB.below hb kB.lt) (hE.below hb).nine hql) ((hE.below hb).nine q hql) ?_
        exact hK.out _ _ ⟨e12, e3, hb, f0, f1, f2, f3, f4, f5, f6, f7, f8, fun _ => rfl, f10, f11.other c13, d10_11⟩
      case s10 =>
        rintro L a v w hv hg hL hd hcl ⟨e12, e3, hb, f0, f1, f2, f3, f4, f5, f6, f7, f8, f9, f10, f11, d10_11⟩ K hK
        refine step_do rfl ?_
        go_simp
        have bb : Below w.heap.size w (w.alloc (.cells (uc z8 (.slice none 0 0)) 31)) := (Below.refl _ _).alloc (Nat.le_refl _) _
        rw [hL] at f10
        exact hK.out _ _ ⟨e12, e3, (hb.trans (bb.mono hb.size)), f0, f1, f2, f3, f4, f5, f6, f7, f8, f9, f10.alloc_ hb.size rfl, f11.below bb, fun _ h => (by have f := f11; rw [show L 11 = true from h] at f; exact fun e => f.lt e.symm)⟩
      case s11 =>
        rintro L a v w hv hg hL hd hcl ⟨e12, e3, hb, f0, f1, f2, f3, f4, f5, f6, f7, f8, f9, f10, f11, d10_11⟩ K hK
        refine step_do rfl ?_
        go_simp
        have bb : Below w.heap.size w (w.alloc (.cells (uc z8 (.slice none 0 0)) 31)) := (Below.refl _ _).alloc (Nat.le_refl _) _
        rw [hL] at f11
        exact hK.out _ _ ⟨e12, e3, (hb.trans (bb.mono hb.size)), f0, f1, f2, f3, f4, f5, f6, f7, f8, f9, f10.below bb, f11.alloc_ hb.size rfl, fun h _ => (by have f := f10; rw [show L 10 = true from h] at f; exact f.lt)⟩
      case s12 =>
        rintro L a v w hv hg hL hd hcl ⟨e12, e3, hb, f0, f1, f2, f3, f4, f5, f6, f7, f8, f9, f10, f11, d10_11⟩ K hK
        have ha : L 10 = true := hd 10 (by decide)
        obtain ⟨g, ds, ep, hg, kk, hds, _⟩ := f10.2 ha
        refine step_do rfl ?_
        refine wp_st (cs := (Q p)) rowM (.tmp 14) (.tmp 94) rfl ((hv 14).trans ep) ((hv 94).trans (f4 (hd 4 (by decide)))) kk (HQ9.out p hpl) hds (hE p hpl).2.fresh.one9 ?_
        intro wy ky gy zy
        have bY : Below gaw.heap.size w wy := only_Below gy hg hb.size
        exact hK.out _ _ ⟨e12, e3, (hb.trans bY), f0, f1, f2, f3, f4, f5, f6, f7, f8, f9, Al.stored ha ep hg ky (HQ9.out p hpl) (f4 (hd 4 (by decide))), f11.far gy (fun h e => d10_11 ha h (ep.trans e.symm)), d10_11⟩
      case s13 =>
        rintro L a v w hv hg hL hd hcl ⟨e12, e3, hb, f0, f1, f2, f3, f4, f5, f6, f7, f8, f9, f10, f11, d10_11⟩ K hK
        have ha : L 11 = true := hd 11 (by decide)
        obtain ⟨g, ds, ep, hg, kk, hds, _⟩ := f11.2 ha
        refine step_do rfl ?_
        refine wp_st (cs := (Q q)) rowM (.tmp 15) (.tmp 99) rfl ((hv 15).trans ep) ((hv 99).trans (f9 (hd 9 (by decide)))) kk (HQ9.out q hql) hds (hE q hql).2.fresh.one9 ?_
        intro wy ky gy zy
        have bY : Below gaw.heap.size w wy := only_Below gy hg hb.size
        exact hK.out _ _ ⟨e12, e3, (hb.trans bY), f0, f1, f2, f3, f4, f5, f6, f7, f8, f9, f10.far gy (fun h e => d10_11 h ha (e.trans ep.symm)), Al.stored ha ep hg ky (HQ9.out q hql) (f9 (hd 9 (by decide))), d10_11⟩
    case hend =>
    rintro L v wb hall ⟨e12, e3, hb, f0, f1, f2, f3, f4, f5, f6, f7, f8, f9, f10, f11, d10_11⟩
    have hL : ∀ i, i < 14 → L i = true := hall
    have f0 := f0 (hL 0 (by decide))
    have f1 := f1 (hL 1 (by decide))
    have f2 := f2 (hL 2 (by decide))
    have f3 := f3 (hL 3 (by decide))
    have f4 := f4 (hL 4 (by decide))
    have f5 := f5 (hL 5 (by decide))
    have f6 := f6 (hL 6 (by decide))
    have f7 := f7 (hL 7 (by decide))
    have f8 := f8 (hL 8 (by decide))
    have f9 := f9 (hL 9 (by decide))
    rw [hL 10 (by decide), hL 12 (by decide)] at f10
    rw [hL 11 (by decide), hL 13 (by decide)] at f11
    have d10_11 := d10_11 (hL 10 (by decide)) (hL 11 (by decide))
    obtain ⟨g14, ds, e14, ey, hg14, k14, _⟩ := f10.fin
    rw [f4] at ey
    injection ey with ey
    subst ey
    obtain ⟨g15, ds, e15, ey, hg15, k15, _⟩ := f11.fin
    rw [f9] at ey
    injection ey with ey
    subst ey
    simp only [finA, List.foldl_cons, List.foldl_nil, Act.put, List.setIfInBounds_toArray, List.set_cons_succ, List.set_cons_zero, f0, f1, f2, f3, f4, f5, f6, f7, f8, f9, e14, e15]
    have bb := hb
    clear e12 e3 f0 f1 f2 f3 f4 f5 f6 f7 f8 f9 f10 f11 d10_11 hL hall hb e14 e15
    have kB := kB.below bb kB.lt
    have k11 := k11.below bb k11.lt
    have k13 := k13.below bb k13.lt
    have hE := hE.below bb
    have h11 := h11.below bb
    have gb := gb.trans (bb.mono gb.size)
    clear bb
    go_upto_region 23 with fail
    have gA := HFG.out k hlt
    have gP := HFG.out p hpl
    have gQ := HFG.out q hql
    have gAP := mt_good gA gP
    have gPQ := mt_good gP gQ
    have gAPQ := mt_good gAP gQ
    refine wp_region_facts (fun L v w => v 13 = .pointer (some ⟨g13, 0, none⟩) ∧ v 14 = .pointer (some ⟨g14, 0, none⟩) ∧ v 15 = .pointer (some ⟨g15, 0, none⟩) ∧ v 10 = .func (.func 22) #[] #[] ∧ Below wb.heap.size wb w ∧ (L 0 = true → v 100 = .agg (Q k)) ∧ (L 1 = true → v 101 = .bool true) ∧ (L 2 = true → v 102 = .bool false) ∧ (L 3 = true → v 103 = .bool false) ∧ (L 4 = true → v 104 = .func (.func 22) #[] #[]) ∧ (L 5 = true → v 105 = .agg (Q k)) ∧ (L 6 = true → v 106 = .agg (Q p)) ∧ (L 7 = true → FreshO 49 (repU (mt (F k) (F p))) (repL (mt (F k) (F p))) (v 107) w) ∧ (L 8 = true → v 108 = .agg (Q p)) ∧ (L 9 = true → v 109 = .agg (Q k)) ∧ (L 10 = true → FreshO 49 (repU (mt (F k) (F p))) (repL (mt (F k) (F p))) (v 110) w) ∧ (L 11 = true → v 111 = .bool true) ∧ (L 12 = true → v 112 = .bool false) ∧ (L 13 = true → v 113 = .bool false) ∧ (L 14 = true → v 114 = .bool false) ∧ (L 15 = true → v 115 = .func (.func 22) #[] #[]) ∧ (L 16 = true → v 116 = .agg (Q k)) ∧ (L 17 = true → v 117 = .agg (Q k)) ∧ (L 18 = true → FreshO 49 (repU (F k)) (repL (F k)) (v 118) w) ∧ (L 19 = true → v 119 = .agg (Q k)) ∧ (L 20 = true → v 120 = .bool true) ∧ (L 21 = true → v 121 = .bool false) ∧ (L 22 = true → v 122 = .bool false) ∧ (L 23 = true → v 123 = .bool false) ∧ (L 24 = true → v 124 = .func (.func 22) #[] #[]) ∧ (L 25 = true → v 125 = .agg (Q k)) ∧ (L 26 = true → v 126 = .agg (Q p)) ∧ (L 27 = true → FreshO 49 (repU (mt (F k) (F p))) (repL (mt (F k) (F p))) (v 127) w) ∧ (L 28 = true → v 128 = .agg (Q q)) ∧ (L 29 = true → FreshO 49 (repU (mt (mt (F k) (F p)) (F q))) (repL (mt (mt (F k) (F p)) (F q))) (v 129) w) ∧ (L 30 = true → v 130 = .agg (Q k)) ∧ (L 31 = true → v 131 = .agg (Q p)) ∧ (L 32 = true → v 132 = .agg (Q q)) ∧ (L 33 = true → FreshO 49 (repU (mt (F p) (F q))) (repL (mt (F p) (F q))) (v 133) w) ∧ (L 34 = true → FreshO 49 (repU (mt (mt (F k) (F p)) (F q))) (repL (mt (mt (F k) (F p)) (F q))) (v 134) w) ∧ (L 35 = true → v 135 = .bool true) ∧ (L 36 = true → v 136 = .bool false) ∧ (L 37 = true → v 137 = .bool false)) [100, 101, 102, 103, 104, 105, 106, 107, 108, 109, 110, 111, 112, 113, 114, 115, 116, 117, 118, 119, 120, 121, 122, 123, 124, 125, 126, 127, 128, 129, 130, 131, 132, 133, 134, 135, 136, 137] (by kernel_rfl) (by kernel_rfl) (by kernel_rfl) (by kernel_rfl) ?h0 ?hst ?hend
    case h0 =>
      intro L h0
      have h0 : ∀ i, i < 38 → L i = false := h0
      exact ⟨rfl, rfl, rfl, rfl, (Below.refl _ _).drew, offF h0 (i := 0) (by decide), offF h0 (i := 1) (by decide), offF h0 (i := 2) (by decide), offF h0 (i := 3) (by decide), offF h0 (i := 4) (by decide), offF h0 (i := 5) (by decide), offF h0 (i := 6) (by decide), offF h0 (i := 7) (by decide), offF h0 (i := 8) (by decide), offF h0 (i := 9) (by decide), offF h0 (i := 10) (by decide), offF h0 (i := 11) (by decide), offF h0 (i := 12) (by decide), offF h0 (i := 13) (by decide), offF h0 (i := 14) (by decide), offF h0 (i := 15) (by decide), offF h0 (i := 16) (by decide), offF h0 (i := 17) (by decide), offF h0 (i := 18) (by decide), offF h0 (i := 19) (by decide), offF h0 (i := 20) (by decide), offF h0 (i := 21) (by decide), offF h0 (i := 22) (by decide), offF h0 (i := 23) (by decide), offF h0 (i := 24) (by decide), offF h0 (i := 25) (by decide), offF h0 (i := 26) (by decide), offF h0 (i := 27) (by decide), offF h0 (i := 28) (by decide), offF h0 (i := 29) (by decide), offF h0 (i := 30) (by decide), offF h0 (i := 31) (by decide), offF h0 (i := 32) (by decide), offF h0 (i := 33) (by decide), offF h0 (i := 34) (by decide), offF h0 (i := 35) (by decide), offF h0 (i := 36) (by decide), offF h0 (i := 37) (by decide)⟩
    case hst =>
      show FactSteps _ _ _ _ [0, 1, 2, 3, 4, 5, 6, 7, 8, 9, 10, 11, 12, 13, 14, 15, 16, 17, 18, 19, 20, 21, 22, 23, 24, 25, 26, 27, 28, 29, 30, 31, 32, 33, 34, 35, 36, 37]
      refine @FactSteps.cons _ _ _ _ 0 _ [] _ rfl (by kernel_rfl) ?s0 ?_
      rotate_left
      refine @FactSteps.cons _ _ _ _ 1 _ [0] _ rfl (by kernel_rfl) ?s1 ?_
      rotate_left
      refine @FactSteps.cons _ _ _ _ 2 _ [1] _ rfl (by kernel_rfl) ?s2 ?_
      rotate_left
      refine @FactSteps.cons _ _ _ _ 3 _ [2, 1] _ rfl (by kernel_rfl) ?s3 ?_
      rotate_left
      refine @FactSteps.cons _ _ _ _ 4 _ [3] _ rfl (by kernel_rfl) ?s4 ?_
      rotate_left
      refine @FactSteps.cons _ _ _ _ 5 _ [3] _ rfl (by kernel_rfl) ?s5 ?_
      rotate_left
      refine @FactSteps.cons _ _ _ _ 6 _ [3] _ rfl (by kernel_rfl) ?s6 ?_
      rotate_left
      refine @FactSteps.cons _ _ _ _ 7 _ [5, 6, 3, 3] _ rfl (by kernel_rfl) ?s7 ?_
      rotate_left
      refine @FactSteps.cons _ _ _ _ 8 _ [3] _ rfl (by kernel_rfl) ?s8 ?_
      rotate_left
      refine @FactSteps.cons _ _ _ _ 9 _ [3] _ rfl (by kernel_rfl) ?s9 ?_
      rotate_left
      refine @FactSteps.cons _ _ _ _ 10 _ [8, 9, 7, 3] _ rfl (by kernel_rfl) ?s10 ?_
      rotate_left
      refine @FactSteps.cons _ _ _ _ 11 _ [4, 7, 10, 10, 3] _ rfl (by kernel_rfl) ?s11 ?_
      rotate_left
      refine @FactSteps.cons _ _ _ _ 12 _ [11, 3] _ rfl (by kernel_rfl) ?s12 ?_
      rotate_left
      refine @FactSteps.cons _ _ _ _ 13 _ [3, 12] _ rfl (by kernel_rfl) ?s13 ?_
      rotate_left
      refine @FactSteps.cons _ _ _ _ 14 _ [13, 11] _ rfl (by kernel_rfl) ?s14 ?_
      rotate_left
      refine @FactSteps.cons _ _ _ _ 15 _ [14] _ rfl (by kernel_rfl) ?s15 ?_
      rotate_left
      refine @FactSteps.cons _ _ _ _ 16 _ [14] _ rfl (by kernel_rfl) ?s16 ?_
      rotate_left
      refine @FactSteps.cons _ _ _ _ 17 _ [14] _ rfl (by kernel_rfl) ?s17 ?_
      rotate_left
      refine @FactSteps.cons _ _ _ _ 18 _ [16, 17, 14, 14] _ rfl (by kernel_rfl) ?s18 ?_
      rotate_left
      refine @FactSteps.cons _ _ _ _ 19 _ [14] _ rfl (by kernel_rfl) ?s19 ?_
      rotate_left
      refine @FactSteps.cons _ _ _ _ 20 _ [15, 18, 19, 18, 14] _ rfl (by kernel_rfl) ?s20 ?_
      rotate_left
      refine @FactSteps.cons _ _ _ _ 21 _ [20, 14] _ rfl (by kernel_rfl) ?s21 ?_
      rotate_left
      refine @FactSteps.cons _ _ _ _ 22 _ [14, 21] _ rfl (by kernel_rfl) ?s22 ?_
      rotate_left
      refine @FactSteps.cons _ _ _ _ 23 _ [22, 20] _ rfl (by kernel_rfl) ?s23 ?_
      rotate_left
      refine @FactSteps.cons _ _ _ _ 24 _ [23] _ rfl (by kernel_rfl) ?s24 ?_
      rotate_left
      refine @FactSteps.cons _ _ _ _ 25 _ [23] _ rfl (by kernel_rfl) ?s25 ?_
      rotate_left
      refine @FactSteps.cons _ _ _ _ 26 _ [23] _ rfl (by kernel_rfl) ?s26 ?_
      rotate_left
      refine @FactSteps.cons _ _ _ _ 27 _ [25, 26, 23, 23] _ rfl (by kernel_rfl) ?s27 ?_
      rotate_left
      refine @FactSteps.cons _ _ _ _ 28 _ [23] _ rfl (by kernel_rfl) ?s28 ?_
      rotate_left
      refine @FactSteps.cons _ _ _ _ 29 _ [27, 28, 27, 23] _ rfl (by kernel_rfl) ?s29 ?_
      rotate_left
      refine @FactSteps.cons _ _ _ _ 30 _ [23] _ rfl (by kernel_rfl) ?s30 ?_
      rotate_left
      refine @FactSteps.cons _ _ _ _ 31 _ [23] _ rfl (by kernel_rfl) ?s31 ?_
      rotate_left
      refine @FactSteps.cons _ _ _ _ 32 _ [23] _ rfl (by kernel_rfl) ?s32 ?_
      rotate_left
      refine @FactSteps.cons _ _ _ _ 33 _ [31, 32, 29, 23] _ rfl (by kernel_rfl) ?s33 ?_
      rotate_left
      refine @FactSteps.cons _ _ _ _ 34 _ [30, 33, 33, 23] _ rfl (by kernel_rfl) ?s34 ?_
      rotate_left
      refine @FactSteps.cons _ _ _ _ 35 _ [24, 29, 34, 34, 23] _ rfl (by kernel_rfl) ?s35 ?_
      rotate_left
      refine @FactSteps.cons _ _ _ _ 36 _ [35, 23] _ rfl (by kernel_rfl) ?s36 ?_
      rotate_left
      refine @FactSteps.cons _ _ _ _ 37 _ [23, 36] _ rfl (by kernel_rfl) ?s37 ?_
      rotate_left
      exact FactSteps.nil
      case s0 =>
        rintro L a v w hv hg hL hd hcl ⟨e13, e14, e15, e10, hb, f0, f1, f2, f3, f4, f5, f6, f7, f8, f9, f10, f11, f12, f13, f14, f15, f16, f17, f18, f19, f20, f21, f22, f23, f24, f25, f26, f27, f28, f29, f30, f31, f32, f33, f34, f35, f36, f37⟩ K hK
        refine step_do rfl ?_
        refine wp_ld rowM (.tmp 13) rfl ((hv 13).trans e13) (k13.below hb k13.lt) sQ ?_
        exact hK.out _ _ ⟨e13, e14, e15, e10, hb, fun _ => rfl, f1, f2, f3, f4, f5, f6, f7, f8, f9, f10, f11, f12, f13, f14, f15, f16, f17, f18, f19, f20, f21, f22, f23, f24, f25, f26, f27, f28, f29, f30, f31, f32, f33, f34, f35, f36, f37⟩
      case s1 =>
        rintro L a v w hv hg hL hd hcl ⟨e13, e14, e15, e10, hb, f0, f1, f2, f3, f4, f5, f6, f7, f8, f9, f10, f11, f12, f13, f14, f15, f16, f17, f18, f19, f20, f21, f22, f23, f24, f25, f26, f27, f28, f29, f30, f31, f32, f33, f34, f35, f36, f37⟩ K hK
        have h0 := f0 (hd 0 (by decide))
        refine step_do rfl ?_
        clear hv
        go_simp
        refine (rightG gA ((hE.below hb) k hlt).2.fresh).mono ?_
        rintro e wy ⟨rfl, bb⟩
        exact hK.out _ _ ⟨e13, e14, e15, e10, (hb.trans (bb.mono hb.size)), f0, fun _ => rfl, f2, f3, f4, f5, f6, (fun h => (f7 h).below bb), f8, f9, (fun h => (f10 h).below bb), f11, f12, f13, f14, f15, f16, f17, (fun h => (f18 h).below bb), f19, f20, f21, f22, f23, f24, f25, f26, (fun h => (f27 h).below bb), f28, (fun h => (f29 h).below bb), f30, f31, f32, (fun h => (f33 h).below bb), (fun h => (f34 h).below bb), f35, f36, f37⟩
      case s2 =>
        rintro L a v w hv hg hL hd hcl ⟨e13, e14, e15, e10, hb, f0, f1, f2, f3, f4, f5, f6, f7, f8, f9, f10, f11, f12, f13, f14, f15, f16, f17, f18, f19, f20, f21, f22, f23, f24, f25, f26, f27, f28, f29, f30, f31, f32, f33, f34, f35, f36, f37⟩ K hK
        refine step_do rfl ?_
        clear hv
        go_simp
        exact hK.out _ _ ⟨e13, e14, e15, e10, hb, f0, f1, fun _ => rfl, f3, f4, f5, f6, f7, f8, f9, f10, f11, f12, f13, f14, f15, f16, f17, f18, f19, f20, f21, f22, f23, f24, f25, f26, f27, f28, f29, f30, f31, f32, f33, f34, f35, f36, f37⟩
      case s3 =>
        rintro L a v w hv hg hL hd hcl ⟨e13, e14, e15, e10, hb, f0, f1, f2, f3, f4, f5, f6, f7, f8, f9, f10, f11, f12, f13, f14, f15, f16, f17, f18, f19, f20, f21, f22, f23, f24, f25, f26, f27, f28, f29, f30, f31, f32, f33, f34, f35, f36, f37⟩ K hK
        have g2 := f2 (hd 2 (by decide))
        refine step_do rfl ?_
        clear hv
        go_simp
        exact hK.out _ _ ⟨e13, e14, e15, e10, hb, f0, f1, f2, fun _ => rfl, f4, f5, f6, f7, f8, f9, f10, f11, f12, f13, f14, f15, f16, f17, f18, f19, f20, f21, f22, f23, f24, f25, f26, f27, f28, f29, f30, f31, f32, f33, f34, f35, f36, f37⟩
      case s4 =>
        rintro L a v w hv hg hL hd hcl ⟨e13, e14, e15, e10, hb, f0, f1, f2, f3, f4, f5, f6, f7, f8, f9, f10, f11, f12, f13, f14, f15, f16, f17, f18, f19, f20, f21, f22, f23, f24, f25, f26, f27, f28, f29, f30, f31, f32, f33, f34, f35, f36, f37⟩ K hK
        have g3 := f3 (hd 3 (by decide))
        refine step_want (j := 3) (s := 103) (b := false) rfl rfl ((hv 103).trans (f3 (hd 3 (by decide)))) ?_
        clear hv
        go_simp
        exact hK.out _ _ ⟨e13, e14, e15, e10, hb, f0, f1, f2, f3, fun _ => rfl, f5, f6, f7, f8, f9, f10, f11, f12, f13, f14, f15, f16, f17, f18, f19, f20, f21, f22, f23, f24, f25, f26, f27, f28, f29, f30, f31, f32, f33, f34, f35, f36, f37⟩
      case s5 =>
        rintro L a v w hv hg hL hd hcl ⟨e13, e14, e15, e10, hb, f0, f1, f2, f3, f4, f5, f6, f7, f8, f9, f10, f11, f12, f13, f14, f15, f16, f17, f18, f19, f20, f21, f22, f23, f24, f25, f26, f27, f28, f29, f30, f31, f32, f33, f34, f35, f36, f37⟩ K hK
        refine step_want (j := 3) (s := 103) (b := false) rfl rfl ((hv 103).trans (f3 (hd 3 (by decide)))) ?_
        refine wp_ld rowM (.tmp 13) rfl ((hv 13).trans e13) (k13.below hb k13.lt) sQ ?_
        exact hK.out _ _ ⟨e13, e14, e15, e10, hb, f0, f1, f2, f3, f4, fun _ => rfl, f6, f7, f8, f9, f10, f11, f12, f13, f14, f15, f16, f17, f18, f19, f20, f21, f22, f23, f24, f25, f26, f27, f28, f29, f30, f31, f32, f33, f34, f35, f36, f37⟩
      case s6 =>
        rintro L a v w hv hg hL hd hcl ⟨e13, e14, e15, e10, hb, f0, f1, f2, f3, f4, f5, f6, f7, f8, f9, f10, f11, f12, f13, f14, f15, f16, f17, f18, f19, f20, f21, f22, f23, f24, f25, f26, f27, f28, f29, f30, f31, f32, f33, f34, f35, f36, f37⟩ K hK
        refine step_want (j := 3) (s := 103) (b := false) rfl rfl ((hv 103).trans (f3 (hd 3 (by decide)))) ?_
        refine wp_ld rowM (.tmp 14) rfl ((hv 14).trans e14) (k14.below hb k14.lt) (HQ9.out p hpl) ?_
        exact hK.out _ _ ⟨e13, e14, e15, e10, hb, f0, f1, f2, f3, f4, f5, fun _ => rfl, f7, f8, f9, f10, f11, f12, f13, f14, f15, f16, f17, f18, f19, f20, f21, f22, f23, f24, f25, f26, f27, f28, f29, f30, f31, f32, f33, f34, f35, f36, f37⟩
      case s7 =>
        rintro L a v w hv hg hL hd hcl ⟨e13, e14, e15, e10, hb, f0, f1, f2, f3, f4, f5, f6, f7, f8, f9, f10, f11, f12, f13, f14, f15, f16, f17, f18, f19, f20, f21, f22, f23, f24, f25, f26, f27, f28, f29, f30, f31, f32, f33, f34, f35, f36, f37⟩ K hK
        have h5 := f5 (hd 5 (by decide))
        have h6 := f6 (hd 6 (by decide))
        refine step_want (j := 3) (s := 103) (b := false) rfl rfl ((hv 103).trans (f3 (hd 3 (by decide)))) ?_
        clear hv
        go_simp
        refine (HM.out (F k) (F p) (mt (F k) (F p)) _ _ _ gA gP (SameN.refl _) ((hE.below hb) k hlt).2.fresh ((hE.below hb) p hpl).2.fresh).mono ?_
        rintro e wy ⟨q, rfl, hq, bb⟩
        exact hK.out _ _ ⟨e13, e14, e15, e10, (hb.trans (bb.mono hb.size)), f0, f1, f2, f3, f4, f5, f6, fun _ => hq, f8, f9, (fun h => (f10 h).below bb), f11, f12, f13, f14, f15, f16, f17, (fun h => (f18 h).below bb), f19, f20, f21, f22, f23, f24, f25, f26, (fun h => (f27 h).below bb), f28, (fun h => (f29 h).below bb), f30, f31, f32, (fun h => (f33 h).below bb), (fun h => (f34 h).below bb), f35, f36, f37⟩
      case s8 =>
        rintro L a v w hv hg hL hd hcl ⟨e13, e14, e15, e10, hb, f0, f1, f2, f3, f4, f5, f6, f7, f8, f9, f10, f11, f12, f13, f14, f15, f16, f17, f18, f19, f20, f21, f22, f23, f24, f25, f26, f27, f28, f29, f30, f31, f32, f33, f34, f35, f36, f37⟩ K hK
        refine step_want (j := 3) (s := 103) (b := false) rfl rfl ((hv 103).trans (f3 (hd 3 (by decide)))) ?_
        refine wp_ld rowM (.tmp 14) rfl ((hv 14).trans e14) (k14.below hb k14.lt) (HQ9.out p hpl) ?_
        exact hK.out _ _ ⟨e13, e14, e15, e10, hb, f0, f1, f2, f3, f4, f5, f6, f7, fun _ => rfl, f9, f10, f11, f12, f13, f14, f15, f16, f17, f18, f19, f20, f21, f22, f23, f24, f25, f26, f27, f28, f29, f30, f31, f32, f33, f34, f35, f36, f37⟩
      case s9 =>
        rintro L a v w hv hg hL hd hcl ⟨e13, e14, e15, e10, hb, f0, f1, f2, f3, f4, f5, f6, f7, f8, f9, f10, f11, f12, f13, f14, f15, f16, f17, f18, f19, f20, f21, f22, f23, f24, f25, f26, f27, f28, f29, f30, f31, f32, f33, f34, f35, f36, f37⟩ K hK
        refine step_want (j := 3) (s := 103) (b := false) rfl rfl ((hv 103).trans (f3 (hd 3 (by decide)))) ?_
        refine wp_ld rowM (.tmp 13) rfl ((hv 13).trans e13) (k13.below hb k13.lt) sQ ?_
        exact hK.out _ _ ⟨e13, e14, e15, e10, hb, f0, f1, f2, f3, f4, f5, f6, f7, f8, fun _ => rfl, f10, f11, f12, f13, f14, f15, f16, f17, f18, f19, f20, f21, f22, f23, f24, f25, f26, f27, f28, f29, f30, f31, f32, f33, f34, f35, f36, f37⟩
      case s10 =>
        rintro L a v w hv hg hL hd hcl ⟨e13, e14, e15, e10, hb, f0, f1, f2, f3, f4, f5, f6, f7, f8, f9, f10, f11, f12, f13, f14, f15, f16, f17, f18, f19, f20, f21, f22, f23, f24, f25, f26, f27, f28, f29, f30, f31, f32, f33, f34, f35, f36, f37⟩ K hK
        have h8 := f8 (hd 8 (by decide))
        have h9 := f9 (hd 9 (by decide))
        refine step_want (j := 3) (s := 103) (b := false) rfl rfl ((hv 103).trans (f3 (hd 3 (by decide)))) ?_
        clear hv
        go_simp
        refine (HM.out (F p) (F k) (mt (F k) (F p)) _ _ _ gP gA (mt_comm gP gA) ((hE.below hb) p hpl).2.fresh ((hE.below hb) k hlt).2.fresh).mono ?_
        rintro e wy ⟨q, rfl, hq, bb⟩
        exact hK.out _ _ ⟨e13, e14, e15, e10, (hb.trans (bb.mono hb.size)), f0, f1, f2, f3, f4, f5, f6, (fun h => (f7 h).below bb), f8, f9, fun _ => hq, f11, f12, f13, f14, f15, f16, f17, (fun h => (f18 h).below bb), f19, f20, f21, f22, f23, f24, f25, f26, (fun h => (f27 h).below bb), f28, (fun h => (f29 h).below bb), f30, f31, f32, (fun h => (f33 h).below bb), (fun h => (f34 h).below bb), f35, f36, f37⟩
      case s11 =>
        rintro L a v w hv hg hL hd hcl ⟨e13, e14, e15, e10, hb, f0, f1, f2, f3, f4, f5, f6, f7, f8, f9, f10, f11, f12, f13, f14, f15, f16, f17, f18, f19, f20, f21, f22, f23, f24, f25, f26, f27, f28, f29, f30, f31, f32, f33, f34, f35, f36, f37⟩ K hK
        have h4 := f4 (hd 4 (by decide))
        have h7 := f7 (hd 7 (by decide))
        have h10 := f10 (hd 10 (by decide))
        refine step_want (j := 3) (s := 103) (b := false) rfl rfl ((hv 103).trans (f3 (hd 3 (by decide)))) ?_
        clear hv
        go_simp
        refine (same1G gAP h7.fresh h10.fresh).mono ?_
        rintro e wy ⟨rfl, bb⟩
        exact hK.out _ _ ⟨e13, e14, e15, e10, (hb.trans (bb.mono hb.size)), f0, f1, f2, f3, f4, f5, f6, (fun h => (f7 h).below bb), f8, f9, (fun h => (f10 h).below bb), fun _ => rfl, f12, f13, f14, f15, f16, f17, (fun h => (f18 h).below bb), f19, f20, f21, f22, f23, f24, f25, f26, (fun h => (f27 h).below bb), f28, (fun h => (f29 h).below bb), f30, f31, f32, (fun h => (f33 h).below bb), (fun h => (f34 h).below bb), f35, f36, f37⟩
      case s12 =>
        rintro L a v w hv hg hL hd hcl ⟨e13, e14, e15, e10, hb, f0, f1, f2, f3, f4, f5, f6, f7, f8, f9, f10, f11, f12, f13, f14, f15, f16, f17, f18, f19, f20, f21, f22, f23, f24, f25, f26, f27, f28, f29, f30, f31, f32, f33, f34, f35, f36, f37⟩ K hK
        have g3 := f3 (hd 3 (by decide))
        refine step_want (j := 3) (s := 103) (b := false) rfl rfl ((hv 103).trans (f3 (hd 3 (by decide)))) ?_
        clear hv
        go_simp
        exact hK.out _ _ ⟨e13, e14, e15, e10, hb, f0, f1, f2, f3, f4, f5, f6, f7, f8, f9, f10, f11, fun _ => rfl, f13, f14, f15, f16, f17, f18, f19, f20, f21, f22, f23, f24, f25, f26, f27, f28, f29, f30, f31, f32, f33, f34, f35, f36, f37⟩
      case s13 =>
        rintro L a v w hv hg hL hd hcl ⟨e13, e14, e15, e10, hb, f0, f1, f2, f3, f4, f5, f6, f7, f8, f9, f10, f11, f12, f13, f14, f15, f16, f17, f18, f19, f20, f21, f22, f23, f24, f25, f26, f27, f28, f29, f30, f31, f32, f33, f34, f35, f36, f37⟩ K hK
        have g3 := f3 (hd 3 (by decide))
        have g12 := f12 (hd 12 (by decide))
        refine step_do rfl ?_
        clear hv
        go_simp
        exact hK.out _ _ ⟨e13, e14, e15, e10, hb, f0, f1, f2, f3, f4, f5, f6, f7, f8, f9, f10, f11, f12, fun _ => rfl, f14, f15, f16, f17, f18, f19, f20, f21, f22, f23, f24, f25, f26, f27, f28, f29, f30, f31, f32, f33, f34, f35, f36, f37⟩
      case s14 =>
        rintro L a v w hv hg hL hd hcl ⟨e13, e14, e15, e10, hb, f0, f1, f2, f3, f4, f5, f6, f7, f8, f9, f10, f11, f12, f13, f14, f15, f16, f17, f18, f19, f20, f21, f22, f23, f24, f25, f26, f27, f28, f29, f30, f31, f32, f33, f34, f35, f36, f37⟩ K hK
        have g13 := f13 (hd 13 (by decide))
        refine step_do rfl ?_
        clear hv
        go_simp
        exact hK.out _ _ ⟨e13, e14, e15, e10, hb, f0, f1, f2, f3, f4, f5, f6, f7, f8, f9, f10, f11, f12, f13, fun _ => rfl, f15, f16, f17, f18, f19, f20, f21, f22, f23, f24, f25, f26, f27, f28, f29, f30, f31, f32, f33, f34, f35, f36, f37⟩
      case s15 =>
        rintro L a v w hv hg hL hd hcl ⟨e13, e14, e15, e10, hb, f0, f1, f2, f3, f4, f5, f6, f7, f8, f9, f10, f11, f12, f13, f14, f15, f16, f17, f18, f19, f20, f21, f22, f23, f24, f25, f26, f27, f28, f29, f30, f31, f32, f33, f34, f35, f36, f37⟩ K hK
        have g14 := f14 (hd 14 (by decide))
        refine step_want (j := 14) (s := 114) (b := false) rfl rfl ((hv 114).trans (f14 (hd 14 (by decide)))) ?_
        clear hv
        go_simp
        exact hK.out _ _ ⟨e13, e14, e15, e10, hb, f0, f1, f2, f3, f4, f5, f6, f7, f8, f9, f10, f11, f12, f13, f14, fun _ => rfl, f16, f17, f18, f19, f20, f21, f22, f23, f24, f25, f26, f27, f28, f29, f30, f31, f32, f33, f34, f35, f36, f37⟩
      case s16 =>
        rintro L a v w hv hg hL hd hcl ⟨e13, e14, e15, e10, hb, f0, f1, f2, f3, f4, f5, f6, f7, f8, f9, f10, f11, f12, f13, f14, f15, f16, f17, f18, f19, f20, f21, f22, f23, f24, f25, f26, f27, f28, f29, f30, f31, f32, f33, f34, f35, f36, f37⟩ K hK
        refine step_want (j := 14) (s := 114) (b := false) rfl rfl ((hv 114).trans (f14 (hd 14 (by decide)))) ?_
        refine wp_ld rowM (.tmp 13) rfl ((hv 13).trans e13) (k13.below hb k13.lt) sQ ?_
        exact hK.out _ _ ⟨e13, e14, e15, e10, hb, f0, f1, f2, f3, f4, f5, f6, f7, f8, f9, f10, f11, f12, f13, f14, f15, fun _ => rfl, f17, f18, f19, f20, f21, f22, f23, f24, f25, f26, f27, f28, f29, f30, f31, f32, f33, f34, f35, f36, f37⟩
      case s17 =>
        rintro L a v w hv hg hL hd hcl ⟨e13, e14, e15, e10, hb, f0, f1, f2, f3, f4, f5, f6, f7, f8, f9, f10, f11, f12, f13, f14, f15, f16, f17, f18, f19, f20, f21, f22, f23, f24, f25, f26, f27, f28, f29, f30, f31, f32, f33, f34, f35, f36, f37⟩ K hK
        refine step_want (j := 14) (s := 114) (b := false) rfl rfl ((hv 114).trans (f14 (hd 14 (by decide)))) ?_
        refine wp_ld rowM (.tmp 13) rfl ((hv 13).trans e13) (k13.below hb k13.lt) sQ ?_
        exact hK.out _ _ ⟨e13, e14, e15, e10, hb, f0, f1, f2, f3, f4, f5, f6, f7, f8, f9, f10, f11, f12, f13, f14, f15, f16, fun _ => rfl, f18, f19, f20, f21, f22, f23, f24, f25, f26, f27, f28, f29, f30, f31, f32, f33, f34, f35, f36, f37⟩
      case s18 =>
        rintro L a v w hv hg hL hd hcl ⟨e13, e14, e15, e10, hb, f0, f1, f2, f3, f4, f5, f6, f7, f8, f9, f10, f11, f12, f13, f14, f15, f16, f17, f18, f19, f20, f21, f22, f23, f24, f25, f26, f27, f28, f29, f30, f31, f32, f33, f34, f35, f36, f37⟩ K hK
        have h16 := f16 (hd 16 (by decide))
        have h17 := f17 (hd 17 (by decide))
        refine step_want (j := 14) (s := 114) (b := false) rfl rfl ((hv 114).trans (f14 (hd 14 (by decide)))) ?_
        clear hv
        go_simp
        refine (HM.out (F k) (F k) (F k) _ _ _ gA gA (mt_self _) ((hE.below hb) k hlt).2.fresh ((hE.below hb) k hlt).2.fresh).mono ?_
        rintro e wy ⟨q, rfl, hq, bb⟩
        exact hK.out _ _ ⟨e13, e14, e15, e10, (hb.trans (bb.mono hb.size)), f0, f1, f2, f3, f4, f5, f6, (fun h => (f7 h).below bb), f8, f9, (fun h => (f10 h).below bb), f11, f12, f13, f14, f15, f16, f17, fun _ => hq, f19, f20, f21, f22, f23, f24, f25, f26, (fun h => (f27 h).below bb), f28, (fun h => (f29 h).below bb), f30, f31, f32, (fun h => (f33 h).below bb), (fun h => (f34 h).below bb), f35, f36, f37⟩
      case s19 =>
        rintro L a v w hv hg hL hd hcl ⟨e13, e14, e15, e10, hb, f0, f1, f2, f3, f4, f5, f6, f7, f8, f9, f10, f11, f12, f13, f14, f15, f16, f17, f18, f19, f20, f21, f22, f23, f24, f25, f26, f27, f28, f29, f30, f31, f32, f33, f34, f35, f36, f37⟩ K hK
        refine step_want (j := 14) (s := 114) (b := false) rfl rfl ((hv 114).trans (f14 (hd 14 (by decide)))) ?_
        refine wp_ld rowM (.tmp 13) rfl ((hv 13).trans e13) (k13.below hb k13.lt) sQ ?_
        exact hK.out _ _ ⟨e13, e14, e15, e10, hb, f0, f1, f2, f3, f4, f5, f6, f7, f8, f9, f10, f11, f12, f13, f14, f15, f16, f17, f18, fun _ => rfl, f20, f21, f22, f23, f24, f25, f26, f27, f28, f29, f30, f31, f32, f33, f34, f35, f36, f37⟩
      case s20 =>
        rintro L a v w hv hg hL hd hcl ⟨e13, e14, e15, e10, hb, f0, f1, f2, f3, f4, f5, f6, f7, f8, f9, f10, f11, f12, f13, f14, f15, f16, f17, f18, f19, f20, f21, f22, f23, f24, f25, f26, f27, f28, f29, f30, f31, f32, f33, f34, f35, f36, f37⟩ K hK
        have h15 := f15 (hd 15 (by decide))
        have h18 := f18 (hd 18 (by decide))
        have h19 := f19 (hd 19 (by decide))
        refine step_want (j := 14) (s := 114) (b := false) rfl rfl ((hv 114).trans (f14 (hd 14 (by decide)))) ?_
        clear hv
        go_simp
        refine (same1G gA h18.fresh ((hE.below hb) k hlt).2.fresh).mono ?_
        rintro e wy ⟨rfl, bb⟩
        exact hK.out _ _ ⟨e13, e14, e15, e10, (hb.trans (bb.mono hb.size)), f0, f1, f2, f3, f4, f5, f6, (fun h => (f7 h).below bb), f8, f9, (fun h => (f10 h).below bb), f11, f12, f13, f14, f15, f16, f17, (fun h => (f18 h).below bb), f19, fun _ => rfl, f21, f22, f23, f24, f25, f26, (fun h => (f27 h).below bb), f28, (fun h => (f29 h).below bb), f30, f31, f32, (fun h => (f33 h).below bb), (fun h => (f34 h).below bb), f35, f36, f37⟩
      case s21 =>
        rintro L a v w hv hg hL hd hcl ⟨e13, e14, e15, e10, hb, f0, f1, f2, f3, f4, f5, f6, f7, f8, f9, f10, f11, f12, f13, f14, f15, f16, f17, f18, f19, f20, f21, f22, f23, f24, f25, f26, f27, f28, f29, f30, f31, f32, f33, f34, f35, f36, f37⟩ K hK
        have g14 := f14 (hd 14 (by decide))
        refine step_want (j := 14) (s := 114) (b := false) rfl rfl ((hv 114).trans (f14 (hd 14 (by decide)))) ?_
        clear hv
        go_simp
        exact hK.out _ _ ⟨e13, e14, e15, e10, hb, f0, f1, f2, f3, f4, f5, f6, f7, f8, f9, f10, f11, f12, f13, f14, f15, f16, f17, f18, f19, f20, fun _ => rfl, f22, f23, f24, f25, f26, f27, f28, f29, f30, f31, f32, f33, f34, f35, f36, f37⟩
      case s22 =>
        rintro L a v w hv hg hL hd hcl ⟨e13, e14, e15, e10, hb, f0, f1, f2, f3, f4, f5, f6, f7, f8, f9, f10, f11, f12, f13, f14, f15, f16, f17, f18, f19, f20, f21, f22, f23, f24, f25, f26, f27, f28, f29, f30, f31, f32, f33, f34, f35, f36, f37⟩ K hK
        have g14 := f14 (hd 14 (by decide))
        have g21 := f21 (hd 21 (by decide))
        refine step_do rfl ?_
        clear hv
        go_simp
        exact hK.out _ _ ⟨e13, e14, e15, e10, hb, f0, f1, f2, f3, f4, f5, f6, f7, f8, f9, f10, f11, f12, f13, f14, f15, f16, f17, f18, f19, f20, f21, fun _ => rfl, f23, f24, f25, f26, f27, f28, f29, f30, f31, f32, f33, f34, f35, f36, f37⟩
      case s23 =>
        rintro L a v w hv hg hL hd hcl ⟨e13, e14, e15, e10, hb, f0, f1, f2, f3, f4, f5, f6, f7, f8, f9, f10, f11, f12, f13, f14, f15, f16, f17, f18, f19, f20, f21, f22, f23, f24, f25, f26, f27, f28, f29, f30, f31, f32, f33, f34, f35, f36, f37⟩ K hK
        have g22 := f22 (hd 22 (by decide))
        refine step_do rfl ?_
        clear hv
        go_simp
        exact hK.out _ _ ⟨e13, e14, e15, e10, hb, f0, f1, f2, f3, f4, f5, f6, f7, f8, f9, f10, f11, f12, f13, f14, f15, f16, f17, f18, f19, f20, f21, f22, fun _ => rfl, f24, f25, f26, f27, f28, f29, f30, f31, f32, f33, f34, f35, f36, f37⟩
      case s24 =>
        rintro L a v w hv hg hL hd hcl ⟨e13, e14, e15, e10, hb, f0, f1, f2, f3, f4, f5, f6, f7, f8, f9, f10, f11, f12, f13, f14, f15, f16, f17, f18, f19, f20, f21, f22, f23, f24, f25, f26, f27, f28, f29, f30, f31, f32, f33, f34, f35, f36, f37⟩ K hK
        have g23 := f23 (hd 23 (by decide))
        refine step_want (j := 23) (s := 123) (b := false) rfl rfl ((hv 123).trans (f23 (hd 23 (by decide)))) ?_
        clear hv
        go_simp
        exact hK.out _ _ ⟨e13, e14, e15, e10, hb, f0, f1, f2, f3, f4, f5, f6, f7, f8, f9, f10, f11, f12, f13, f14, f15, f16, f17, f18, f19, f20, f21, f22, f23, fun _ => rfl, f25, f26, f27, f28, f29, f30, f31, f32, f33, f34, f35, f36, f37⟩
      case s25 =>
        rintro L a v w hv hg hL hd hcl ⟨e13, e14, e15, e10, hb, f0, f1, f2, f3, f4, f5, f6, f7, f8, f9, f10, f11, f12, f13, f14, f15, f16, f17, f18, f19, f20, f21, f22, f23, f24, f25, f26, f27, f28, f29, f30, f31, f32, f33, f34, f35, f36, f37⟩ K hK
        refine step_want (j := 23) (s := 123) (b := false) rfl rfl ((hv 123).trans (f23 (hd 23 (by decide)))) ?_
        refine wp_ld rowM (.tmp 13) rfl ((hv 13).trans e13) (k13.below hb k13.lt) sQ ?_
        exact hK.out _ _ ⟨e13, e14, e15, e10, hb, f0, f1, f2, f3, f4, f5, f6, f7, f8, f9, f10, f11, f12, f13, f14, f15, f16, f17, f18, f19, f20, f21, f22, f23, f24, fun _ => rfl, f26, f27, f28, f29, f30, f31, f32, f33, f34, f35, f36, f37⟩
      case s26 =>
        rintro L a v w hv hg hL hd hcl ⟨e13, e14, e15, e10, hb, f0, f1, f2, f3, f4, f5, f6, f7, f8, f9, f10, f11, f12, f13, f14, f15, f16, f17, f18, f19, f20, f21, f22, f23, f24, f25, f26, f27, f28, f29, f30, f31, f32, f33, f34, f35, f36, f37⟩ K hK
        refine step_want (j := 23) (s := 123) (b := false) rfl rfl ((hv 123).trans (f23 (hd 23 (by decide)))) ?_
        refine wp_ld rowM (.tmp 14) rfl ((hv 14).trans e14) (k14.below hb k14.lt) (HQ9.out p hpl) ?_
        exact hK.out _ _ ⟨e13, e14, e15, e10, hb, f0, f1, f2, f3, f4, f5, f6, f7, f8, f9, f10, f11, f12, f13, f14, f15, f16, f17, f18, f19, f20, f21, f22, f23, f24, f25, fun _ => rfl, f27, f28, f29, f30, f31, f32, f33, f34, f35, f36, f37⟩
      case s27 =>
        rintro L a v w hv hg hL hd hcl ⟨e13, e14, e15, e10, hb, f0, f1, f2, f3, f4, f5, f6, f7, f8, f9, f10, f11, f12, f13, f14, f15, f16, f17, f18, f19, f20, f21, f22, f23, f24, f25, f26, f27, f28, f29, f30, f31, f32, f33, f34, f35, f36, f37⟩ K hK
        have h25 := f25 (hd 25 (by decide))
        have h26 := f26 (hd 26 (by decide))
        refine step_want (j := 23) (s := 123) (b := false) rfl rfl ((hv 123).trans (f23 (hd 23 (by decide)))) ?_
        clear hv
        go_simp
        refine (HM.out (F k) (F p) (mt (F k) (F p)) _ _ _ gA gP (SameN.refl _) ((hE.below hb) k hlt).2.fresh ((hE.below hb) p hpl).2.fresh).mono ?_
        rintro e wy ⟨q, rfl, hq, bb⟩
        exact hK.out _ _ ⟨e13, e14, e15, e10, (hb.trans (bb.mono hb.size)), f0, f1, f2, f3, f4, f5, f6, (fun h => (f7 h).below bb), f8, f9, (fun h => (f10 h).below bb), f11, f12, f13, f14, f15, f16, f17, (fun h => (f18 h).below bb), f19, f20, f21, f22, f23, f24, f25, f26, fun _ => hq, f28, (fun h => (f29 h).below bb), f30, f31, f32, (fun h => (f33 h).below bb), (fun h => (f34 h).below bb), f35, f36, f37⟩
      case s28 =>
        rintro L a v w hv hg hL hd hcl ⟨e13, e14, e15, e10, hb, f0, f1, f2, f3, f4, f5, f6, f7, f8, f9, f10, f11, f12, f13, f14, f15, f16, f17, f18, f19, f20, f21, f22, f23, f24, f25, f26, f27, f28, f29, f30, f31, f32, f33, f34, f35, f36, f37⟩ K hK
        refine step_want (j := 23) (s := 123) (b := false) rfl rfl ((hv 123).trans (f23 (hd 23 (by decide)))) ?_
        refine wp_ld rowM (.tmp 15) rfl ((hv 15).trans e15) (k15.below hb k15.lt) (HQ9.out q hql) ?_
        exact hK.out _ _ ⟨e13, e14, e15, e10, hb, f0, f1, f2, f3, f4, f5, f6, f7, f8, f9, f10, f11, f12, f13, f14, f15, f16, f17, f18, f19, f20, f21, f22, f23, f24, f25, f26, f27, fun _ => rfl, f29, f30, f31, f32, f33, f34, f35, f36, f37⟩
      case s29 =>
        rintro L a v w hv hg hL hd hcl ⟨e13, e14, e15, e10, hb, f0, f1, f2, f3, f4, f5, f6, f7, f8, f9, f10, f11, f12, f13, f14, f15, f16, f17, f18, f19, f20, f21, f22, f23, f24, f25, f26, f27, f28, f29, f30, f31, f32, f33, f34, f35, f36, f37⟩ K hK
        have h27 := f27 (hd 27 (by decide))
        have h28 := f28 (hd 28 (by decide))
        refine step_want (j := 23) (s := 123) (b := false) rfl rfl ((hv 123).trans (f23 (hd 23 (by decide)))) ?_
        clear hv
        go_simp
        refine (HM.out (mt (F k) (F p)) (F q) (mt (mt (F k) (F p)) (F q)) _ _ _ gAP gQ (SameN.refl _) h27.fresh ((hE.below hb) q hql).2.fresh).mono ?_
        rintro e wy ⟨q, rfl, hq, bb⟩
        exact hK.out _ _ ⟨e13, e14, e15, e10, (hb.trans (bb.mono hb.size)), f0, f1, f2, f3, f4, f5, f6, (fun h => (f7 h).below bb), f8, f9, (fun h => (f10 h).below bb), f11, f12, f13, f14, f15, f16, f17, (fun h => (f18 h).below bb), f19, f20, f21, f22, f23, f24, f25, f26, (fun h => (f27 h).below bb), f28, fun _ => hq, f30, f31, f32, (fun h => (f33 h).below bb), (fun h => (f34 h).below bb), f35, f36, f37⟩
      case s30 =>
        rintro L a v w hv hg hL hd hcl ⟨e13, e14, e15, e10, hb, f0, f1, f2, f3, f4, f5, f6, f7, f8, f9, f10, f11, f12, f13, f14, f15, f16, f17, f18, f19, f20, f21, f22, f23, f24, f25, f26, f27, f28, f29, f30, f31, f32, f33, f34, f35, f36, f37⟩ K hK
        refine step_want (j := 23) (s := 123) (b := false) rfl rfl ((hv 123).trans (f23 (hd 23 (by decide)))) ?_
        refine wp_ld rowM (.tmp 13) rfl ((hv 13).trans e13) (k13.below hb k13.lt) sQ ?_
        exact hK.out _ _ ⟨e13, e14, e15, e10, hb, f0, f1, f2, f3, f4, f5, f6, f7, f8, f9, f10, f11, f12, f13, f14, f15, f16, f17, f18, f19, f20, f21, f22, f23, f24, f25, f26, f27, f28, f29, fun _ => rfl, f31, f32, f33, f34, f35, f36, f37⟩
      case s31 =>
        rintro L a v w hv hg hL hd hcl ⟨e13, e14, e15, e10, hb, f0, f1, f2, f3, f4, f5, f6, f7, f8, f9, f10, f11, f12, f13, f14, f15, f16, f17, f18, f19, f20, f21, f22, f23, f24, f25, f26, f27, f28, f29, f30, f31, f32, f33, f34, f35, f36, f37⟩ K hK
        refine step_want (j := 23) (s := 123) (b := false) rfl rfl ((hv 123).trans (f23 (hd 23 (by decide)))) ?_
        refine wp_ld rowM (.tmp 14) rfl ((hv 14).trans e14) (k14.below hb k14.lt) (HQ9.out p hpl) ?_
        exact hK.out _ _ ⟨e13, e14, e15, e10, hb, f0, f1, f2, f3, f4, f5, f6, f7, f8, f9, f10, f11, f12, f13, f14, f15, f16, f17, f18, f19, f20, f21, f22, f23, f24, f25, f26, f27, f28, f29, f30, fun _ => rfl, f32, f33, f34, f35, f36, f37⟩
      case s32 =>
        rintro L a v w hv hg hL hd hcl ⟨e13, e14, e15, e10, hb, f0, f1, f2, f3, f4, f5, f6, f7, f8, f9, f10, f11, f12, f13, f14, f15, f16, f17, f18, f19, f20, f21, f22, f23, f24, f25, f26, f27, f28, f29, f30, f31, f32, f33, f34, f35, f36, f37⟩ K hK
        refine step_want (j := 23) (s := 123) (b := false) rfl rfl ((hv 123).trans (f23 (hd 23 (by decide)))) ?_
        refine wp_ld rowM (.tmp 15) rfl ((hv 15).trans e15) (k15.below hb k15.lt) (HQ9.out q hql) ?_
        exact hK.out _ _ ⟨e13, e14, e15, e10, hb, f0, f1, f2, f3, f4, f5, f6, f7, f8, f9, f10, f11, f12, f13, f14, f15, f16, f17, f18, f19, f20, f21, f22, f23, f24, f25, f26, f27, f28, f29, f30, f31, fun _ => rfl, f33, f34, f35, f36, f37⟩
      case s33 =>
        rintro L a v w hv hg hL hd hcl ⟨e13, e14, e15, e10, hb, f0, f1, f2, f3, f4, f5, f6, f7, f8, f9, f10, f11, f12, f13, f14, f15, f16, f17, f18, f19, f20, f21, f22, f23, f24, f25, f26, f27, f28, f29, f30, f31, f32, f33, f34, f35, f36, f37⟩ K hK
        have h31 := f31 (hd 31 (by decide))
        have h32 := f32 (hd 32 (by decide))
        refine step_want (j := 23) (s := 123) (b := false) rfl rfl ((hv 123).trans (f23 (hd 23 (by decide)))) ?_
        clear hv
        go_simp
        refine (HM.out (F p) (F q) (mt (F p) (F q)) _ _ _ gP gQ (SameN.refl _) ((hE.below hb) p hpl).2.fresh ((hE.below hb) q hql).2.fresh).mono ?_
        rintro e wy ⟨q, rfl, hq, bb⟩
        exact hK.out _ _ ⟨e13, e14, e15, e10, (hb.trans (bb.mono hb.size)), f0, f1, f2, f3, f4, f5, f6, (fun h => (f7 h).below bb), f8, f9, (fun h => (f10 h).below bb), f11, f12, f13, f14, f15, f16, f17, (fun h => (f18 h).below bb), f19, f20, f21, f22, f23, f24, f25, f26, (fun h => (f27 h).below bb), f28, (fun h => (f29 h).below bb), f30, f31, f32, fun _ => hq, (fun h => (f34 h).below bb), f35, f36, f37⟩
      case s34 =>
        rintro L a v w hv hg hL hd hcl ⟨e13, e14, e15, e10, hb, f0, f1, f2, f3, f4, f5, f6, f7, f8, f9, f10, f11, f12, f13, f14, f15, f16, f17, f18, f19, f20, f21, f22, f23, f24, f25, f26, f27, f28, f29, f30, f31, f32, f33, f34, f35, f36, f37⟩ K hK
        have h30 := f30 (hd 30 (by decide))
        have h33 := f33 (hd 33 (by decide))
        refine step_want (j := 23) (s := 123) (b := false) rfl rfl ((hv 123).trans (f23 (hd 23 (by decide)))) ?_
        clear hv
        go_simp
        refine (HM.out (F k) (mt (F p) (F q)) (mt (mt (F k) (F p)) (F q)) _ _ _ gA gPQ (mt_assoc gA gP gQ).symm ((hE.below hb) k hlt).2.fresh h33.fresh).mono ?_
        rintro e wy ⟨q, rfl, hq, bb⟩
        exact hK.out _ _ ⟨e13, e14, e15, e10, (hb.trans (bb.mono hb.size)), f0, f1, f2, f3, f4, f5, f6, (fun h => (f7 h).below bb), f8, f9, (fun h => (f10 h).below bb), f11, f12, f13, f14, f15, f16, f17, (fun h => (f18 h).below bb), f19, f20, f21, f22, f23, f24, f25, f26, (fun h => (f27 h).below bb), f28, (fun h => (f29 h).below bb), f30, f31, f32, (fun h => (f33 h).below bb), fun _ => hq, f35, f36, f37⟩
      case s35 =>
        rintro L a v w hv hg hL hd hcl ⟨e13, e14, e15, e10, hb, f0, f1, f2, f3, f4, f5, f6, f7, f8, f9, f10, f11, f12, f13, f14, f15, f16, f17, f18, f19, f20, f21, f22, f23, f24, f25, f26, f27, f28, f29, f30, f31, f32, f33, f34, f35, f36, f37⟩ K hK
        have h24 := f24 (hd 24 (by decide))
        have h29 := f29 (hd 29 (by decide))
        have h34 := f34 (hd 34 (by decide))
        refine step_want (j := 23) (s := 123) (b := false) rfl rfl ((hv 123).trans (f23 (hd 23 (by decide)))) ?_
        clear hv
        go_simp
        refine (same1G gAPQ h29.fresh h34.fresh).mono ?_
        rintro e wy ⟨rfl, bb⟩
        exact hK.out _ _ ⟨e13, e14, e15, e10, (hb.trans (bb.mono hb.size)), f0, f1, f2, f3, f4, f5, f6, (fun h => (f7 h).below bb), f8, f9, (fun h => (f10 h).below bb), f11, f12, f13, f14, f15, f16, f17, (fun h => (f18 h).below bb), f19, f20, f21, f22, f23, f24, f25, f26, (fun h => (f27 h).below bb), f28, (fun h => (f29 h).below bb), f30, f31, f32, (fun h => (f33 h).below bb), (fun h => (f34 h).below bb), fun _ => rfl, f36, f37⟩
      case s36 =>
        rintro L a v w hv hg hL hd hcl ⟨e13, e14, e15, e10, hb, f0, f1, f2, f3, f4, f5, f6, f7, f8, f9, f10, f11, f12, f13, f14, f15, f16, f17, f18, f19, f20, f21, f22, f23, f24, f25, f26, f27, f28, f29, f30, f31, f32, f33, f34, f35, f36, f37⟩ K hK
        have g23 := f23 (hd 23 (by decide))
        refine step_want (j := 23) (s := 123) (b := false) rfl rfl ((hv 123).trans (f23 (hd 23 (by decide)))) ?_
        clear hv
        go_simp
        exact hK.out _ _ ⟨e13, e14, e15, e10, hb, f0, f1, f2, f3, f4, f5, f6, f7, f8, f9, f10, f11, f12, f13, f14, f15, f16, f17, f18, f19, f20, f21, f22, f23, f24, f25, f26, f27, f28, f29, f30, f31, f32, f33, f34, f35, fun _ => rfl, f37⟩
      case s37 =>
        rintro L a v w hv hg hL hd hcl ⟨e13, e14, e15, e10, hb, f0, f1, f2, f3, f4, f5, f6, f7, f8, f9, f10, f11, f12, f13, f14, f15, f16, f17, f18, f19, f20, f21, f22, f23, f24, f25, f26, f27, f28, f29, f30, f31, f32, f33, f34, f35, f36, f37⟩ K hK
        have g23 := f23 (hd 23 (by decide))
        have g36 := f36 (hd 36 (by decide))
        refine step_do rfl ?_
        clear hv
        go_simp
        exact hK.out _ _ ⟨e13, e14, e15, e10, hb, f0, f1, f2, f3, f4, f5, f6, f7, f8, f9, f10, f11, f12, f13, f14, f15, f16, f17, f18, f19, f20, f21, f22, f23, f24, f25, f26, f27, f28, f29, f30, f31, f32, f33, f34, f35, f36, fun _ => rfl⟩
    case hend =>
    rintro L v wc hall ⟨e13, e14, e15, e10, hb, f0, f1, f2, f3, f4, f5, f6, f7, f8, f9, f10, f11, f12, f13, f14, f15, f16, f17, f18, f19, f20, f21, f22, f23, f24, f25, f26, f27, f28, f29, f30, f31, f32, f33, f34, f35, f36, f37⟩
    have hL : ∀ i, i < 38 → L i = true := hall
    have f0 := f0 (hL 0 (by decide))
    have f1 := f1 (hL 1 (by decide))
    have f2 := f2 (hL 2 (by decide))
    have f3 := f3 (hL 3 (by decide))
    have f4 := f4 (hL 4 (by decide))
    have f5 := f5 (hL 5 (by decide))
    have f6 := f6 (hL 6 (by decide))
    have f7 := f7 (hL 7 (by decide))
    have f8 := f8 (hL 8 (by decide))
    have f9 := f9 (hL 9 (by decide))
    have f10 := f10 (hL 10 (by decide))
    have f11 := f11 (hL 11 (by decide))
    have f12 := f12 (hL 12 (by decide))
    have f13 := f13 (hL 13 (by decide))
    have f14 := f14 (hL 14 (by decide))
    have f15 := f15 (hL 15 (by decide))
    have f16 := f16 (hL 16 (by decide))
    have f17 := f17 (hL 17 (by decide))
    have f18 := f18 (hL 18 (by decide))
    have f19 := f19 (hL 19 (by decide))
    have f20 := f20 (hL 20 (by decide))
    have f21 := f21 (hL 21 (by decide))
    have f22 := f22 (hL 22 (by decide))
    have f23 := f23 (hL 23 (by decide))
    have f24 := f24 (hL 24 (by decide))
    have f25 := f25 (hL 25 (by decide))
    have f26 := f26 (hL 26 (by decide))
    have f27 := f27 (hL 27 (by decide))
    have f28 := f28 (hL 28 (by decide))
    have f29 := f29 (hL 29 (by decide))
    have f30 := f30 (hL 30 (by decide))
    have f31 := f31 (hL 31 (by decide))
    have f32 := f32 (hL 32 (by decide))
    have f33 := f33 (hL 33 (by decide))
    have f34 := f34 (hL 34 (by decide))
    have f35 := f35 (hL 35 (by decide))
    have f36 := f36 (hL 36 (by decide))
    have f37 := f37 (hL 37 (by decide))
    simp only [finA, List.foldl_cons, List.foldl_nil, Act.put, List.setIfInBounds_toArray, List.set_cons_succ, List.set_cons_zero, f0, f2, f3, f4, f5, f6, f8, f9, f12, f13, f14, f15, f16, f17, f19, f21, f22, f23, f24, f25, f26, f28, f30, f31, f32, f36, f37, f1, f11, f20, f35]
    have bb := hb
    clear e13 e14 e15 e10 f0 f1 f2 f3 f4 f5 f6 f7 f8 f9 f10 f11 f12 f13 f14 f15 f16 f17 f18 f19 f20 f21 f22 f23 f24 f25 f26 f27 f28 f29 f30 f31 f32 f33 f34 f35 f36 f37 hL hall hb
    have kB := kB.below bb kB.lt
    have k11 := k11.below bb k11.lt
    have k13 := k13.below bb k13.lt
    have hE := hE.below bb
    have h11 := h11.below bb
    have gb := gb.trans (bb.mono gb.size)
    clear bb
    have s11 := h11.fresh.size9 (repU_len _)
    go_wp2_with first
      | ((with_reducible refine wpList_ld rowM k11 s11 ?_ ?_); rotate_left; (rfl))
      | ((with_reducible refine wpList_ld rowM k13 sQ ?_ ?_); rotate_left; (rfl))
    refine (HM.out _ _ (foldF F (k + 1)) _ _ _ (foldF_good HFG.out k (by omega)) gA (SameN.refl _) h11.fresh (hE k hlt).2.fresh).mono ?_
    rintro e wd ⟨q1, rfl, hN, bb⟩
    obtain ⟨cN, rfl⟩ := hN.fresh.agg
    have sN := hN.fresh.size9 (repU_len _)
    have oN := hN.fresh.one9
    have kB := kB.below bb kB.lt
    have k11 := k11.below bb k11.lt
    have k13 := k13.below bb k13.lt
    have hE := hE.below bb
    have h11 := h11.below bb
    have gb := gb.trans (bb.mono gb.size)
    clear bb
    go_upto_region 26 with first
      | ((with_reducible refine wpList_st rowM k11 sN s11 oN ?_ ?_ ?_); rotate_left; (rfl); (rfl); intro gew k11n ge gez)
    have hE := hE.grown ge k11 (by decide)
    have kBne : gB ≠ g11 := fun e => by
      have h1 := kB
      have h2 := k11
      rw [e] at h1
      unfold Blk at h1 h2
      rw [h1] at h2
      injection h2 with h2
      injection h2 with _ h2
      exact absurd h2 (by decide)
    have kB := kB.grown ge (by intro h; injection h with h; exact kBne h.symm)
    have hN := hN.grown ge k11 (by decide)
    have gb := gb.grown ge gb.size (fun q hq => by injection hq; omega)
    have HH := Lib.hid (And.intro k11n (And.intro hN (And.intro hE (And.intro kB gb))))
    clear k11n hN hE kB gb h11 k11 k13 k14 k15 ge
    go_wp2_with fail
    go_roundw
    case rel => exact ⟨k + 1, cN, by omega, by go_num, HH.out.1, HH.out.2.1, HH.out.2.2.1, HH.out.2.2.2.1, HH.out.2.2.2.2, hgw11⟩
    case measure => simp [intOf]; omega
  obtain rfl : k = 8 := by omega
  clear hlt hk
  have s11 := h11.fresh.size9 (repU_len _)
  have HS11 := Lib.hid s11
  clear s11
  go_wp2_with first
    | ((with_reducible refine wpList_ld rowOwn kB HSC.out ?_ ?_); rotate_left; (rfl))
  go_loopw [143] (fun i wz => ∃ k : Nat, k ≤ 8 ∧ i = .int .i64 k ∧ Blk wz g11 31 c11 ∧ FreshO 49 (repU (foldF F 8)) (repL (foldF F 8)) (.agg c11) wz ∧ Eight F Q wz ∧ Below w.heap.size w wz) (fun i _ => 8 - (intOf i).toNat)
  case atStart => exact ⟨0, by omega, rfl, k11, h11, hE, gb⟩
  case round =>
  clear k11 h11 hE kB gb
  obtain ⟨k, hk, rfl, k11, h11, hE, gb⟩ := hrel
  by_cases hlt : k < 8
  · have hk0 : (0 : Int) ≤ (k : Int) := by omega
    have hk8 : (k : Int) < 8 := by omega
    have sQ := HQ9.out k hlt
    have oQ := (hE k hlt).2.fresh.one9
    have hix := fun w' => run_index9 w' Q HQ9.out k hlt
    have HIX := Lib.hid hix
    clear hix
    go_upto_region 30 with first
      | ((with_reducible refine wpList_ix (HIX.out _) ?_ ?_ ?_); rotate_left; (rfl); (rfl))
      | ((with_reducible refine wpList_st rowM (Blk.new _ _ _) sQ ?_ oQ ?_ ?_ ?_); (rfl); rotate_left; (rfl); (rfl); intro gaw k17 ga gaz)
    have bb := new_below ga
    obtain ⟨g17, hg17⟩ : ∃ g17, g17 = wr.heap.size := ⟨_, rfl⟩
    rw [← hg17] at k17 ⊢
    clear hg17 ga gaz
    have k11 := k11.below bb k11.lt
    have hE := hE.below bb
    have h11 := h11.below bb
    have gb := gb.trans (bb.mono gb.size)
    clear bb
    refine wp_region_facts (fun L v w => v 11 = .pointer (some ⟨g11, 0, none⟩) ∧ v 17 = .pointer (some ⟨g17, 0, none⟩) ∧ v 10 = .func (.func 22) #[] #[] ∧ Below gaw.heap.size gaw w ∧ (L 0 = true → v 146 = .func (.func 22) #[] #[]) ∧ (L 1 = true → v 147 = .agg c11) ∧ (L 2 = true → v 148 = .agg (Q k)) ∧ (L 3 = true → FreshO 49 (repU (foldF F 8)) (repL (foldF F 8)) (v 149) w) ∧ (L 4 = true → v 150 = .agg c11) ∧ (L 5 = true → v 151 = .bool true) ∧ (L 6 = true → v 152 = .bool false)) [146, 147, 148, 149, 150, 151, 152] (by kernel_rfl) (by kernel_rfl) (by kernel_rfl) (by kernel_rfl) ?h0 ?hst ?hend
    case h0 =>
      intro L h0
      have h0 : ∀ i, i < 7 → L i = false := h0
      exact ⟨rfl, rfl, rfl, (Below.refl _ _).drew, offF h0 (i := 0) (by decide), offF h0 (i := 1) (by decide), offF h0 (i := 2) (by decide), offF h0 (i := 3) (by decide), offF h0 (i := 4) (by decide), offF h0 (i := 5) (by decide), offF h0 (i := 6) (by decide)⟩
    case hst =>
      show FactSteps _ _ _ _ [0, 1, 2, 3, 4, 5, 6]
      refine @FactSteps.cons _ _ _ _ 0 _ [] _ rfl (by kernel_rfl) ?s0 ?_
      rotate_left
      refine @FactSteps.cons _ _ _ _ 1 _ [] _ rfl (by kernel_rfl) ?s1 ?_
      rotate_left
      refine @FactSteps.cons _ _ _ _ 2 _ [] _ rfl (by kernel_rfl) ?s2 ?_
      rotate_left
      refine @FactSteps.cons _ _ _ _ 3 _ [1, 2] _ rfl (by kernel_rfl) ?s3 ?_
      rotate_left
      refine @FactSteps.cons _ _ _ _ 4 _ [] _ rfl (by kernel_rfl) ?s4 ?_
      rotate_left
      refine @FactSteps.cons _ _ _ _ 5 _ [0, 3, 4, 3] _ rfl (by kernel_rfl) ?s5 ?_
      rotate_left
      refine @FactSteps.cons _ _ _ _ 6 _ [5] _ rfl (by kernel_rfl) ?s6 ?_
      rotate_left
      exact FactSteps.nil
      case s0 =>
        rintro L a v w hv hg hL hd hcl ⟨e11, e17, e10, hb, f0, f1, f2, f3, f4, f5, f6⟩ K hK
        refine step_do rfl ?_
        clear hv
        go_simp
        exact hK.out _ _ ⟨e11, e17, e10, hb, fun _ => rfl, f1, f2, f3, f4, f5, f6⟩
      case s1 =>
        rintro L a v w hv hg hL hd hcl ⟨e11, e17, e10, hb, f0, f1, f2, f3, f4, f5, f6⟩ K hK
        refine step_do rfl ?_
        refine wp_ld rowM (.tmp 11) rfl ((hv 11).trans e11) (k11.below hb k11.lt) HS11.out ?_
        exact hK.out _ _ ⟨e11, e17, e10, hb, f0, fun _ => rfl, f2, f3, f4, f5, f6⟩
      case s2 =>
        rintro L a v w hv hg hL hd hcl ⟨e11, e17, e10, hb, f0, f1, f2, f3, f4, f5, f6⟩ K hK
        refine step_do rfl ?_
        refine wp_ld rowM (.tmp 17) rfl ((hv 17).trans e17) (k17.below hb k17.lt) sQ ?_
        exact hK.out _ _ ⟨e11, e17, e10, hb, f0, f1, fun _ => rfl, f3, f4, f5, f6⟩
      case s3 =>
        rintro L a v w hv hg hL hd hcl ⟨e11, e17, e10, hb, f0, f1, f2, f3, f4, f5, f6⟩ K hK
        have h1 := f1 (hd 1 (by decide))
        have h2 := f2 (hd 2 (by decide))
        refine step_do rfl ?_
        clear hv
        go_simp
        refine (HM.out (foldF F 8) (F k) (foldF F 8) _ _ _ (foldF_good HFG.out 8 (by omega)) (HFG.out k hlt) (foldF_has HFG.out 8 (by omega) hlt) (h11.below hb).fresh ((hE.below hb) k hlt).2.fresh).mono ?_
        rintro e wy ⟨q, rfl, hq, bb⟩
        exact hK.out _ _ ⟨e11, e17, e10, (hb.trans (bb.mono hb.size)), f0, f1, f2, fun _ => hq, f4, f5, f6⟩
      case s4 =>
        rintro L a v w hv hg hL hd hcl ⟨e11, e17, e10, hb, f0, f1, f2, f3, f4, f5, f6⟩ K hK
        refine step_do rfl ?_
        refine wp_ld rowM (.tmp 11) rfl ((hv 11).trans e11) (k11.below hb k11.lt) HS11.out ?_
        exact hK.out _ _ ⟨e11, e17, e10, hb, f0, f1, f2, f3, fun _ => rfl, f5, f6⟩
      case s5 =>
        rintro L a v w hv hg hL hd hcl ⟨e11, e17, e10, hb, f0, f1, f2, f3, f4, f5, f6⟩ K hK
        have h0 := f0 (hd 0 (by decide))
        have h3 := f3 (hd 3 (by decide))
        have h4 := f4 (hd 4 (by decide))
        refine step_do rfl ?_
        clear hv
        go_simp
        refine (same1G (foldF_good HFG.out 8 (by omega)) h3.fresh (h11.below hb).fresh).mono ?_
        rintro e wy ⟨rfl, bb⟩
        exact hK.out _ _ ⟨e11, e17, e10, (hb.trans (bb.mono hb.size)), f0, f1, f2, (fun h => (f3 h).below bb), f4, fun _ => rfl, f6⟩
      case s6 =>
        rintro L a v w hv hg hL hd hcl ⟨e11, e17, e10, hb, f0, f1, f2, f3, f4, f5, f6⟩ K hK
        refine step_do rfl ?_
        clear hv
        go_simp
        exact hK.out _ _ ⟨e11, e17, e10, hb, f0, f1, f2, f3, f4, f5, fun _ => rfl⟩
    case hend =>
    rintro L v wb hall ⟨e11, e17, e10, hb, f0, f1, f2, f3, f4, f5, f6⟩
    have hL : ∀ i, i < 7 → L i = true := hall
    have f0 := f0 (hL 0 (by decide))
    have f1 := f1 (hL 1 (by decide))
    have f2 := f2 (hL 2 (by decide))
    have f3 := f3 (hL 3 (by decide))
    have f4 := f4 (hL 4 (by decide))
    have f5 := f5 (hL 5 (by decide))
    have f6 := f6 (hL 6 (by decide))
    simp only [finA, List.foldl_cons, List.foldl_nil, Act.put, List.setIfInBounds_toArray, List.set_cons_succ, List.set_cons_zero, f0, f1, f2, f4, f6, f5]
    have bb := hb
    clear e11 e17 e10 f0 f1 f2 f3 f4 f5 f6 hL hall hb
    have k11 := k11.below bb k11.lt
    have hE := hE.below bb
    have h11 := h11.below bb
    have gb := gb.trans (bb.mono gb.size)
    clear bb
    have HH := Lib.hid (And.intro k11 (And.intro h11 (And.intro hE gb)))
    clear k11 h11 hE gb k17
    go_wp2_with fail
    go_roundw
    case rel => exact ⟨k + 1, by omega, by go_num, HH.out.1, HH.out.2.1, HH.out.2.2.1, HH.out.2.2.2⟩
    case measure => simp [intOf]; omega
  obtain rfl : k = 8 := by omega
  clear hlt hk
  go_wp2_with fail
  go_ret
  exact ⟨rfl, gb⟩
set_option maxRecDepth 100000 in
theorem lifted (os : Os) (started : os.Started) (H : Type) (enc : TypeId × Value → H) :
    ReturnsInHanded {} Try.checked os 4 .any (Rows.regMeetsSpec.pre6 enc Try.prog Try.f4 Rows.regMeetsRow.domain false) (Rows.regMeetsSpec.post enc Try.prog Try.f4 false true false false) := by
  refine returnsInHanded_of_change (C := Try.checked) own started (by kernel_rfl) Try.func4
    (ChangeSpec.witness6 (enc := enc) (C := Try.checked) false ⟨#[], #[.slice none 0 0], []⟩ 8 (by kernel_rfl) (by kernel_rfl) (by kernel_rfl) (by kernel_rfl)) ?_
  intro W base args ds gs before hval0 hW hcnd _
  have hval : ∀ (j : Nat) t v, Try.f4.params[j]? = some t → args[j]? = some v → Value.okWide Try.prog W .any base t v := hval0
  have hW' := hW
  obtain ⟨p, q, hA0, hV, rfl, hfz, hnd⟩ := hW
  have hA : DataW.TrodAll enc Try.prog W 0 (fun _ => true) true Try.f4.params.toList args.toList ds p := hA0
  rw [Try.params4] at hA hval
  obtain ⟨v0, vs0, d0, ds0, p0, q0, hargs, rfl, rfl, h0, r0⟩ := trodAll_cons hA
  obtain ⟨rfl, rfl, rfl⟩ := trodAll_nil r0
  obtain rfl : args = #[v0] := by cases args; simp_all
  obtain ⟨rfl, rfl⟩ := trodVars_none hV
  have lt0 : ∀ x ∈ p0, x.block < W.heap.size := by obtain ⟨m, hm⟩ := h0; exact DataW.trod_lt m _ _ _ hm
  have k0 := h0
  obtain ⟨a0, n0, c0, l0, rfl, x0, y0, z0⟩ := open_trns (hval 0 51 v0 rfl rfl) h0
  clear hA0 hval0
  refine (walk a0 n0 c0 l0 W x0 y0 z0).mono fun e W' ⟨he, bel⟩ => ?_
  subst he
  exact ⟨_, rfl, _, _, _, [], _, [], hW', trodAll_mk1 (shut_bool Try.underlying4 _), (trodAll_cons_mk (Below.trod laidOut (by kernel_rfl) (of_decide_eq_true (by kernel_rfl)) k0 bel lt0) trodAll_mk0), rfl, bel.frame _, fun h => by cases h⟩

theorem proved : Rows.RegMeetsSaid :=
  OpenClaim.holds_of_wide 4 Try.f4 rfl rfl rfl rfl rfl rfl rfl ⟨rfl, rfl, rfl, rfl, rfl⟩ rfl rfl rfl rfl rfl (by kernel_rfl) Try.func4 (by kernel_rfl)
    (of_decide_eq_true (by kernel_rfl)) (by unfold Func.isWrapper; first | (rw [if_pos (by decide +kernel)]; kernel_rfl) | (rw [if_neg (by decide +kernel)]; exact ⟨rfl, rfl⟩))
    (fun os started H enc _ => lifted os started H enc)
#print axioms proved
end Go.Proofs.Ytocoohpekpkmkaa.RegMeets

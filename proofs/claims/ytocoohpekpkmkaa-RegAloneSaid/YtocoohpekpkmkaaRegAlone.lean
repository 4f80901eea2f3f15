/- RegAlone: writes of nodes that never met are all kept, one of each node, its last; one that has met them all stands for all; for every input, with no panic (printed by gen/regalone.py). -/
import Derived.Test.YtocoohpekpkmkaaRegOne
namespace Go.Proofs.Ytocoohpekpkmkaa.RegAlone
open Go.ChangeShapes Go.WideShapes Go.ChangeAt Go.RowKit Go.Deep
open Reg
theorem meetS {f g h : Nf} {q q2 : Value} {w : World} (hf : GoodF f) (hg : GoodF g) (hs : SameN (mt f g) h) (x : Fresh (repU f) (repL f) q w) (y : Fresh (repU g) (repL g) q2 w) :
    Calls Try.prog 13 #[q, q2] w (GiveM 49 w (repU h) (repL h)) := by
  have : Calls Try.prog 13 #[q, q2] w (GiveM 49 w (repU (mt f g)) (repL (mt f g))) := meetG hf hg x y
  rwa [hs.rep.1, hs.rep.2] at this
theorem intsT {l l2 : List Int} {q q2 : Value} {w : World} (h : FreshI l q w) (h2 : FreshI l2 q2 w) (e : l = l2) : Calls Try.prog 19 #[q, q2] w (GiveB w true) := by
  subst e
  have := intsF h h2
  rwa [decide_eq_true (rfl : l = l)] at this
theorem valsT {f : Nf} {l : List Int} {q : Value} {w : World} (h : Fresh (repU f) (repL f) q w) (e : valuesM (repU f) (repL f) = l) : Calls Try.prog 20 #[q] w (GiveI w l) := by
  have := valuesF (repU_len _) h
  rwa [e] at this
theorem wf8 (s : Nat) (hs : s < 256) : ∃ m : Nat, m < 8 ∧ ((s : Int)).tmod 8 = (m : Int) := ⟨s % 8, Nat.mod_lt _ (by omega), by rw [Int.tmod_eq_emod_of_nonneg (by omega)]; omega⟩
set_option maxRecDepth 100000 in
set_option maxHeartbeats 2000000 in
theorem walk (a : Option Addr) (n c : Nat) (l : List Trn) (s : Nat) (w : World) (hl : TrnsAt w w.heap.size a n l) (hn : n ≤ c) (hc : c ≤ maxLen) (hs : s < 256) :
    Calls Try.prog 5 #[.slice a n c, .int .u8 s] w fun e w' => e = .returned (.bool true) ∧ Below w.heap.size w w' := by
  unfold maxLen at hc
  have HL := Lib.hid hl.1
  by_cases hbig : 200 < n
  · have hd : decide ((200 : Int) < (n : Int)) = true := decide_eq_true (by omega)
    go_enter Try.func5, Try.ntmps5
    go_wp2_with fail
    refine (alive29_any _).mono ?_
    rintro e w1 ⟨rfl, h1⟩
    go_wp2_with fail
    go_ret
    exact ⟨rfl, h1⟩
  have hd : decide ((200 : Int) < (n : Int)) = false := decide_eq_false (by omega)
  have hz := zval72
  go_enter Try.func5, Try.ntmps5
  go_wp2_with fail
  refine (alive29_any _).mono ?_
  rintro e w1 ⟨rfl, h1⟩
  go_upto_region 8 with fail
  refine nameW ?_
  intro w2 hw2
  obtain ⟨gB, hgB⟩ : ∃ gB, gB = w1.heap.size := ⟨_, rfl⟩
  have kB : Blk w2 gB 52 (cat9 zQ) := by rw [hw2, hgB]; exact ((Blk.new w1 _ _).alloc _).alloc _
  have kL : Blk w2 (gB + 1) 22 (aI fun _ => 0) := by
    have h := (Blk.new (w1.alloc (.cells z72 52)) 22 (aI fun _ => 0)).alloc (.cells (aB fun _ => 0) 58)
    rw [hw2, hgB, ← zI, ← zB]
    simpa using h
  have kW : Blk w2 (gB + 1 + 1) 58 (aB fun _ => 0) := by
    have h := Blk.new ((w1.alloc (.cells z72 52)).alloc (.cells (aI fun _ => 0) 22)) 58 (aB fun _ => 0)
    rw [hw2, hgB, ← zI, ← zB]
    simpa using h
  have gb : Below w.heap.size w w2 := by rw [hw2]; exact ((h1.alloc h1.size _).alloc (Nat.le_trans h1.size (by simp)) _).alloc (Nat.le_trans h1.size (by simp; omega)) _
  have hgw : w.heap.size ≤ gB := by rw [hgB]; exact h1.size
  rw [← hgB]
  clear hgB hz h1 hw2
  go_wp2_with fail
  go_loopw [30] (fun i wr => ∃ (k : Nat) (Kc Vc : Nat → Int) (Q : Nat → Array Value), k ≤ n ∧ i = .int .i64 k ∧ Wrote Kc Vc k ∧ Eight (fun i => oneF i (Kc i) (Vc i)) Q wr ∧ Blk wr gB 52 (cat9 Q) ∧ Blk wr (gB + 1) 22 (aI Vc) ∧ Blk wr (gB + 1 + 1) 58 (aB Kc) ∧ Below w.heap.size w wr) (fun i _ => n - (intOf i).toNat)
  case atStart => exact ⟨0, fun _ => 0, fun _ => 0, zQ, by omega, rfl, ⟨fun i hi => ⟨by omega, by omega⟩, fun i hi => by omega⟩, one0 _, kB, kL, kW, gb⟩
  case round =>
  clear kB kL kW gb
  obtain ⟨k, Kc, Vc, Q, hk, rfl, hWr, hE, kB, kL, kW, gb⟩ := hrel
  by_cases hlt : k < n
  · have hkl : k < l.length := by rw [← HL.out]; exact hlt
    obtain ⟨ad, rfl, q5, q0, q1, q2, q3, hnd, hwi, hvl⟩ := (hl.below gb).2 k _ (List.getElem?_eq_getElem hkl)
    generalize l[k] = o at *
    obtain ⟨nd, wi, vl, mm⟩ := o
    simp only at q0 q1 q2 q3 hnd hwi hvl
    obtain ⟨x, hx, ex⟩ := node_of nd
    have hx0 : (0 : Int) ≤ (x : Int) := by omega
    have hx8 : (x : Int) < 8 := by omega
    have hk0 : (0 : Int) ≤ (k : Int) := by omega
    have hkn : (k : Int) < (n : Int) := by omega
    have HW := Lib.hid hWr
    have H8 := Lib.hid hE
    have KB := Lib.hid kB
    have KL := Lib.hid kL
    have KW := Lib.hid kW
    have GB := Lib.hid gb
    have EX := Lib.hid ex
    clear hWr hE kB kL kW gb ex
    go_upto_region 11 with fail
    refine nameW ?_
    intro wv hwv
    have hWT' : gB + 1 + 1 < wr.heap.size := KW.out.lt
    have k5 : Blk wv wr.heap.size 54 (Trn.cs ⟨nd, wi, vl, mm⟩) := by rw [hwv]; exact Blk.new wr _ _
    have bb : Below wr.heap.size wr wv := by rw [hwv]; exact (Below.refl _ _).alloc (Nat.le_refl _) _
    have hE := H8.out.below bb
    have kB := KB.out.below bb KB.out.lt
    have kL := KL.out.below bb KL.out.lt
    have kW := KW.out.below bb KW.out.lt
    have gb := GB.out.trans (bb.mono GB.out.size)
    obtain ⟨gT, hgT⟩ : ∃ gT, gT = wr.heap.size := ⟨_, rfl⟩
    have hWT : gB + 1 + 1 < gT := by rw [hgT]; exact hWT'
    rw [← hgT] at k5 ⊢
    clear hwv bb hgT hWT' q0 q1 q2 q3 H8 KB KL KW GB
    have c0 : wv.cell? ⟨gT, 0, none⟩ = some (.int .i64 nd) := k5.cell 0
    have ex := EX.out
    have ew : IntKind.i64.wrap (x : Int) = (x : Int) := IntWalk.i64_in _ (by omega)
    go_upto_region 12 with fail
    clear c0 ex ew
    have hWv := kW.lt
    have hv9 : -1099511627776 ≤ vl.tmod 1000 ∧ vl.tmod 1000 ≤ 1099511627776 := tmod_bd vl
    have hnx := HW.out.num x hx
    have hlt9 : (oneF x (Kc x) (Vc x) x).1 < 1099511627776 := by unfold oneF; rw [if_pos rfl]; simp only; omega
    refine wp_region_facts (fun L v w => v 10 = .int .i64 (x : Nat) ∧ v 5 = .pointer (some ⟨gB, 0, none⟩) ∧ v 9 = .pointer (some ⟨gT, 0, none⟩) ∧ Below wv.heap.size wv w ∧ (L 0 = true → v 40 = .int .i64 (x : Nat)) ∧ (L 1 = true → v 41 = .pointer (some ⟨gB, x * 9, none⟩)) ∧ (L 2 = true → v 42 = .agg (Q x)) ∧ (L 3 = true → v 43 = .int .i64 (x : Nat)) ∧ (L 4 = true → v 44 = .pointer (some ⟨gT, 2, none⟩)) ∧ (L 5 = true → v 45 = .int .i64 vl) ∧ (L 6 = true → v 46 = .int .i64 (vl.tmod 1000)) ∧ (L 7 = true → TupM 49 (repU (putNd (oneF x (Kc x) (Vc x)) x (vl.tmod 1000))) (repL (putNd (oneF x (Kc x) (Vc x)) x (vl.tmod 1000))) 0 (v 47) w) ∧ (L 8 = true → TupM 49 (repU (putNd (oneF x (Kc x) (Vc x)) x (vl.tmod 1000))) (repL (putNd (oneF x (Kc x) (Vc x)) x (vl.tmod 1000))) 0 (v 39) w) ∧ (L 9 = true → FreshO 49 (repU (putNd (oneF x (Kc x) (Vc x)) x (vl.tmod 1000))) (repL (putNd (oneF x (Kc x) (Vc x)) x (vl.tmod 1000))) (v 48) w) ∧ (L 10 = true → v 49 = .int .i64 0) ∧ Al 31 9 wv.heap.size (L 11) (L 12) (v 11) (v 48) w ∧ (L 13 = true → v 12 = .int .i64 0)) [40, 41, 42, 43, 44, 45, 46, 47, 39, 48, 49, 11, 12] (by kernel_rfl) (by kernel_rfl) (by kernel_rfl) (by kernel_rfl) ?h0 ?hst ?hend
    case h0 =>
      intro L h0
      have h0 : ∀ i, i < 14 → L i = false := h0
      exact ⟨rfl, rfl, rfl, (Below.refl _ _).drew, offF h0 (i := 0) (by decide), offF h0 (i := 1) (by decide), offF h0 (i := 2) (by decide), offF h0 (i := 3) (by decide), offF h0 (i := 4) (by decide), offF h0 (i := 5) (by decide), offF h0 (i := 6) (by decide), offF h0 (i := 7) (by decide), offF h0 (i := 8) (by decide), offF h0 (i := 9) (by decide), offF h0 (i := 10) (by decide), Al.none_ (h0 11 (by decide)) (h0 12 (by decide)), offF h0 (i := 13) (by decide)⟩
    case hst =>
      show FactSteps _ _ _ _ [0, 1, 2, 3, 4, 5, 6, 7, 8, 9, 10, 11, 12, 13]
      refine @FactSteps.cons _ _ _ _ 0 _ [] _ rfl (by kernel_rfl) ?s0 ?_
      rotate_left
      refine @FactSteps.cons _ _ _ _ 1 _ [0] _ rfl (by kernel_rfl) ?s1 ?_
      rotate_left
      refine @FactSteps.cons _ _ _ _ 2 _ [1] _ rfl (by kernel_rfl) ?s2 ?_
      rotate_left
      refine @FactSteps.cons _ _ _ _ 3 _ [] _ rfl (by kernel_rfl) ?s3 ?_
      rotate_left
      refine @FactSteps.cons _ _ _ _ 4 _ [] _ rfl (by kernel_rfl) ?s4 ?_
      rotate_left
      refine @FactSteps.cons _ _ _ _ 5 _ [4] _ rfl (by kernel_rfl) ?s5 ?_
      rotate_left
      refine @FactSteps.cons _ _ _ _ 6 _ [5] _ rfl (by kernel_rfl) ?s6 ?_
      rotate_left
      refine @FactSteps.cons _ _ _ _ 7 _ [2, 3, 6] _ rfl (by kernel_rfl) ?s7 ?_
      rotate_left
      refine @FactSteps.cons _ _ _ _ 8 _ [7] _ rfl (by kernel_rfl) ?s8 ?_
      rotate_left
      refine @FactSteps.cons _ _ _ _ 9 _ [8] _ rfl (by kernel_rfl) ?s9 ?_
      rotate_left
      refine @FactSteps.cons _ _ _ _ 10 _ [8] _ rfl (by kernel_rfl) ?s10 ?_
      rotate_left
      refine @FactSteps.cons _ _ _ _ 11 _ [] _ rfl (by kernel_rfl) ?s11 ?_
      rotate_left
      refine @FactSteps.cons _ _ _ _ 12 _ [11, 9, 7, 0, 1, 2, 3, 4, 5, 6, 7, 8, 9, 11] _ rfl (by kernel_rfl) ?s12 ?_
      rotate_left
      refine @FactSteps.cons _ _ _ _ 13 _ [10, 12, 0, 1, 2, 3, 4, 5, 6, 7, 8, 9, 10, 11, 12] _ rfl (by kernel_rfl) ?s13 ?_
      rotate_left
      exact FactSteps.nil
      case s0 =>
        rintro L a v w hv hg hL hd hcl ⟨e10, e5, e9, hb, f0, f1, f2, f3, f4, f5, f6, f7, f8, f9, f10, f11, f13⟩ K hK
        refine step_do rfl ?_
        clear hv
        go_simp
        exact hK.out _ _ ⟨e10, e5, e9, hb, fun _ => rfl, f1, f2, f3, f4, f5, f6, f7, f8, f9, f10, f11, f13⟩
      case s1 =>
        rintro L a v w hv hg hL hd hcl ⟨e10, e5, e9, hb, f0, f1, f2, f3, f4, f5, f6, f7, f8, f9, f10, f11, f13⟩ K hK
        have g0 := f0 (hd 0 (by decide))
        refine step_do rfl ?_
        clear hv
        go_simp
        exact hK.out _ _ ⟨e10, e5, e9, hb, f0, fun _ => rfl, f2, f3, f4, f5, f6, f7, f8, f9, f10, f11, f13⟩
      case s2 =>
        rintro L a v w hv hg hL hd hcl ⟨e10, e5, e9, hb, f0, f1, f2, f3, f4, f5, f6, f7, f8, f9, f10, f11, f13⟩ K hK
        have g1 := f1 (hd 1 (by decide))
        refine step_do rfl ?_
        refine wp_ldr rowM (.tmp 41) rfl ((hv 41).trans g1) (rng9 (kB.below hb kB.lt) (hE.below hb).nine hx) ((hE.below hb).nine x hx) ?_
        exact hK.out _ _ ⟨e10, e5, e9, hb, f0, f1, fun _ => rfl, f3, f4, f5, f6, f7, f8, f9, f10, f11, f13⟩
      case s3 =>
        rintro L a v w hv hg hL hd hcl ⟨e10, e5, e9, hb, f0, f1, f2, f3, f4, f5, f6, f7, f8, f9, f10, f11, f13⟩ K hK
        refine step_do rfl ?_
        clear hv
        go_simp
        exact hK.out _ _ ⟨e10, e5, e9, hb, f0, f1, f2, fun _ => rfl, f4, f5, f6, f7, f8, f9, f10, f11, f13⟩
      case s4 =>
        rintro L a v w hv hg hL hd hcl ⟨e10, e5, e9, hb, f0, f1, f2, f3, f4, f5, f6, f7, f8, f9, f10, f11, f13⟩ K hK
        refine step_do rfl ?_
        clear hv
        go_simp
        exact hK.out _ _ ⟨e10, e5, e9, hb, f0, f1, f2, f3, fun _ => rfl, f5, f6, f7, f8, f9, f10, f11, f13⟩
      case s5 =>
        rintro L a v w hv hg hL hd hcl ⟨e10, e5, e9, hb, f0, f1, f2, f3, f4, f5, f6, f7, f8, f9, f10, f11, f13⟩ K hK
        have g4 := f4 (hd 4 (by decide))
        have c2 : w.cell? ⟨gT, 2, none⟩ = some (.int .i64 vl) := (k5.below hb k5.lt).cell 2
        refine step_do rfl ?_
        clear hv
        go_simp
        exact hK.out _ _ ⟨e10, e5, e9, hb, f0, f1, f2, f3, f4, fun _ => rfl, f6, f7, f8, f9, f10, f11, f13⟩
      case s6 =>
        rintro L a v w hv hg hL hd hcl ⟨e10, e5, e9, hb, f0, f1, f2, f3, f4, f5, f6, f7, f8, f9, f10, f11, f13⟩ K hK
        have g5 := f5 (hd 5 (by decide))
        refine step_do rfl ?_
        clear hv
        go_simp
        exact hK.out _ _ ⟨e10, e5, e9, hb, f0, f1, f2, f3, f4, f5, fun _ => rfl, f7, f8, f9, f10, f11, f13⟩
      case s7 =>
        rintro L a v w hv hg hL hd hcl ⟨e10, e5, e9, hb, f0, f1, f2, f3, f4, f5, f6, f7, f8, f9, f10, f11, f13⟩ K hK
        have h2 := f2 (hd 2 (by decide))
        have h3 := f3 (hd 3 (by decide))
        have h6 := f6 (hd 6 (by decide))
        refine step_do rfl ?_
        clear hv
        go_simp
        refine (putG (f := (oneF x (Kc x) (Vc x))) (hE x hx).1 hx (vl.tmod 1000) hv9 hlt9 ((hE.below hb) x hx).2.fresh).mono ?_
        rintro e wy ⟨q, rfl, hq, bb⟩
        exact hK.out _ _ ⟨e10, e5, e9, (hb.trans (bb.mono hb.size)), f0, f1, f2, f3, f4, f5, f6, fun _ => TupM.mk hq, (fun h => (f8 h).below bb), (fun h => (f9 h).below bb), f10, f11.below bb, f13⟩
      case s8 =>
        rintro L a v w hv hg hL hd hcl ⟨e10, e5, e9, hb, f0, f1, f2, f3, f4, f5, f6, f7, f8, f9, f10, f11, f13⟩ K hK
        have h7 := f7 (hd 7 (by decide))
        refine step_do rfl ?_
        clear hv
        go_simp
        exact hK.out _ _ ⟨e10, e5, e9, hb, f0, f1, f2, f3, f4, f5, f6, f7, fun _ => h7, f9, f10, f11, f13⟩
      case s9 =>
        rintro L a v w hv hg hL hd hcl ⟨e10, e5, e9, hb, f0, f1, f2, f3, f4, f5, f6, f7, f8, f9, f10, f11, f13⟩ K hK
        have c12 : L 12 = false := off_of hcl (j := 12) (by kernel_rfl : waitsAt _ 12 = [11, 9, 7, 0, 1, 2, 3, 4, 5, 6, 7, 8, 9, 11]) (d := 9) (by decide) hL
        obtain ⟨cc, ec, hcc⟩ := f8 (hd 8 (by decide))
        refine step_do rfl ?_
        clear hv
        go_simp
        exact hK.out _ _ ⟨e10, e5, e9, hb, f0, f1, f2, f3, f4, f5, f6, f7, f8, fun _ => hcc, f10, f11.other c12, f13⟩
      case s10 =>
        rintro L a v w hv hg hL hd hcl ⟨e10, e5, e9, hb, f0, f1, f2, f3, f4, f5, f6, f7, f8, f9, f10, f11, f13⟩ K hK
        obtain ⟨cc, ec, hcc⟩ := f8 (hd 8 (by decide))
        refine step_do rfl ?_
        clear hv
        go_simp
        exact hK.out _ _ ⟨e10, e5, e9, hb, f0, f1, f2, f3, f4, f5, f6, f7, f8, f9, fun _ => rfl, f11, f13⟩
      case s11 =>
        rintro L a v w hv hg hL hd hcl ⟨e10, e5, e9, hb, f0, f1, f2, f3, f4, f5, f6, f7, f8, f9, f10, f11, f13⟩ K hK
        refine step_do rfl ?_
        go_simp
        have bb : Below w.heap.size w (w.alloc (.cells (uc z8 (.slice none 0 0)) 31)) := (Below.refl _ _).alloc (Nat.le_refl _) _
        rw [hL] at f11
        exact hK.out _ _ ⟨e10, e5, e9, (hb.trans (bb.mono hb.size)), f0, f1, f2, f3, f4, f5, f6, (fun h => (f7 h).below bb), (fun h => (f8 h).below bb), (fun h => (f9 h).below bb), f10, f11.alloc_ hb.size rfl, f13⟩
      case s12 =>
        rintro L a v w hv hg hL hd hcl ⟨e10, e5, e9, hb, f0, f1, f2, f3, f4, f5, f6, f7, f8, f9, f10, f11, f13⟩ K hK
        have ha : L 11 = true := hd 11 (by decide)
        obtain ⟨g, ds, ep, hg, kk, hds, _⟩ := f11.2 ha
        have fr := (f9 (hd 9 (by decide))).fresh
        obtain ⟨cs1, ev⟩ := fr.agg
        rw [ev] at fr
        have sz1 := fr.size9 (repU_len _)
        have on1 := fr.one9
        refine step_do rfl ?_
        refine wp_st (cs := cs1) rowM (.tmp 11) (.tmp 48) rfl ((hv 11).trans ep) ((hv 48).trans ev) kk sz1 hds on1 ?_
        intro wy ky gy zy
        have bY : Below wv.heap.size w wy := only_Below gy hg hb.size
        exact hK.out _ _ ⟨e10, e5, e9, (hb.trans bY), f0, f1, f2, f3, f4, f5, f6, (fun h => (f7 h).grown gy kk (by decide)), (fun h => (f8 h).grown gy kk (by decide)), (fun h => (f9 h).grown gy kk (by decide)), f10, Al.stored ha ep hg ky sz1 ev, f13⟩
      case s13 =>
        rintro L a v w hv hg hL hd hcl ⟨e10, e5, e9, hb, f0, f1, f2, f3, f4, f5, f6, f7, f8, f9, f10, f11, f13⟩ K hK
        have g0 := f0 (hd 0 (by decide))
        have g1 := f1 (hd 1 (by decide))
        have g2 := f2 (hd 2 (by decide))
        have g3 := f3 (hd 3 (by decide))
        have g4 := f4 (hd 4 (by decide))
        have g5 := f5 (hd 5 (by decide))
        have g6 := f6 (hd 6 (by decide))
        have g10 := f10 (hd 10 (by decide))
        refine step_do rfl ?_
        clear hv
        go_simp
        exact hK.out _ _ ⟨e10, e5, e9, hb, f0, f1, f2, f3, f4, f5, f6, f7, f8, f9, f10, f11, fun _ => rfl⟩
    case hend =>
    rintro L v wb hall ⟨e10, e5, e9, hb, f0, f1, f2, f3, f4, f5, f6, f7, f8, f9, f10, f11, f13⟩
    have hL : ∀ i, i < 14 → L i = true := hall
    have f0 := f0 (hL 0 (by decide))
    have f1 := f1 (hL 1 (by decide))
    have f2 := f2 (hL 2 (by decide))
    have f3 := f3 (hL 3 (by decide))
    have f4 := f4 (hL 4 (by decide))
    have f5 := f5 (hL 5 (by decide))
    have f6 := f6 (hL 6 (by decide))
    have f7 := f7 (hL 7 (by decide))
    have f8 := f8 (hL 8 (by decide))
    have f9 := f9 (hL 9 (by decide))
    have f10 := f10 (hL 10 (by decide))
    rw [hL 11 (by decide), hL 12 (by decide)] at f11
    have f13 := f13 (hL 13 (by decide))
    obtain ⟨g8, cP, e8, ev, hg8, k8, s8⟩ := f11.fin
    rw [ev] at f9
    simp only [finA, List.foldl_cons, List.foldl_nil, Act.put, List.setIfInBounds_toArray, List.set_cons_succ, List.set_cons_zero, f0, f1, f2, f3, f4, f5, f6, f10, f13, e8, ev]
    have bb := hb
    have hP := f9
    clear e10 e5 e9 f0 f1 f2 f3 f4 f5 f6 f7 f8 f9 f10 f11 f13 hL hall hb e8 ev
    have k5 := k5.below bb k5.lt
    have kB := kB.below bb kB.lt
    have kL := kL.below bb kL.lt
    have kW := kW.below bb kW.lt
    have hE := hE.below bb
    have gb := gb.trans (bb.mono gb.size)
    clear bb
    have hPf := putNd_good (hE x hx).1 (k := x) hv9 hlt9
    rw [one_put x _ _ _ hnx.1] at hP hPf
    have oP := hP.fresh.one9
    go_upto_region 15 with fail
    obtain ⟨wS, hwS⟩ : ∃ wS, wS = w := ⟨_, rfl⟩
    have gbS : Below wS.heap.size wS wb := by rw [hwS]; exact gb
    have hgS : wS.heap.size ≤ gB := by rw [hwS]; exact hgw
    have hsS : wS.heap.size ≤ wb.heap.size := gbS.size
    have hT1 : gB + 1 + 1 < g8 := Nat.lt_of_lt_of_le hWv hg8
    have hT2 : gB + 1 + 1 < gT := hWT
    have HS := Lib.hid hwS
    clear hwS
    refine wp_region_tail 11 (fun L v w => v 10 = .int .i64 (x : Nat) ∧ v 5 = .pointer (some ⟨gB, 0, none⟩) ∧ v 6 = .pointer (some ⟨gB + 1, 0, none⟩) ∧ v 7 = .pointer (some ⟨gB + 1 + 1, 0, none⟩) ∧ v 9 = .pointer (some ⟨gT, 0, none⟩) ∧ v 11 = .pointer (some ⟨g8, 0, none⟩) ∧ Below wS.heap.size wS w ∧ Blk w gT 54 (Trn.cs ⟨nd, wi, vl, mm⟩) ∧ Blk w g8 31 cP ∧ ((L 8 = false → Eight (fun i => oneF i (Kc i) (Vc i)) Q w ∧ Blk w gB 52 (cat9 Q)) ∧ (L 8 = true → Eight (fun i => oneF i (upI Kc x (Kc x + 1) i) (upI Vc x (vl.tmod 1000) i)) (upQ Q x cP) w ∧ Blk w gB 52 (cat9 (upQ Q x cP)))) ∧ ((L 10 = false → Blk w (gB + 1) 22 (aI Vc)) ∧ (L 10 = true → Blk w (gB + 1) 22 (aI (upI Vc x (vl.tmod 1000))))) ∧ Blk w (gB + 1 + 1) 58 (aB Kc) ∧ FreshO 49 (repU (oneF x (Kc x + 1) (vl.tmod 1000))) (repL (oneF x (Kc x + 1) (vl.tmod 1000))) (.agg cP) w ∧ (L 0 = true → v 52 = .int .i64 (x : Nat)) ∧ (L 1 = true → v 53 = .int .i64 (x : Nat)) ∧ (L 2 = true → v 54 = .int .i64 (x : Nat)) ∧ (L 3 = true → v 55 = .agg cP) ∧ (L 4 = true → v 56 = .pointer (some ⟨gT, 2, none⟩)) ∧ (L 5 = true → v 57 = .int .i64 vl) ∧ (L 6 = true → v 58 = .int .i64 (vl.tmod 1000)) ∧ (L 7 = true → v 59 = .pointer (some ⟨gB, x * 9, none⟩)) ∧ (L 9 = true → v 60 = .pointer (some ⟨gB + 1, x, none⟩))) [52, 53, 54, 55, 56, 57, 58, 59, 60] (by kernel_rfl) (by kernel_rfl) (by kernel_rfl) (by kernel_rfl) (by kernel_rfl) (by kernel_rfl) ?h0 ?hst ?hend
    case h0 =>
      intro L h0
      have h0 : ∀ i, i < 11 → L i = false := h0
      exact ⟨rfl, rfl, rfl, rfl, rfl, rfl, (gbS.trans (Below.refl _ _).drew), k5.drew, k8.drew, ⟨fun _ => ⟨hE.below (Below.refl _ _).drew, kB.drew⟩, offF h0 (i := 8) (by decide)⟩, ⟨fun _ => kL.drew, offF h0 (i := 10) (by decide)⟩, kW.drew, (hP.below (Below.refl _ _).drew), offF h0 (i := 0) (by decide), offF h0 (i := 1) (by decide), offF h0 (i := 2) (by decide), offF h0 (i := 3) (by decide), offF h0 (i := 4) (by decide), offF h0 (i := 5) (by decide), offF h0 (i := 6) (by decide), offF h0 (i := 7) (by decide), offF h0 (i := 9) (by decide)⟩
    case hst =>
      show FactSteps _ _ _ _ [0, 1, 2, 3, 4, 5, 6, 7, 8, 9, 10]
      refine @FactSteps.cons _ _ _ _ 0 _ [] _ rfl (by kernel_rfl) ?s0 ?_
      rotate_left
      refine @FactSteps.cons _ _ _ _ 1 _ [] _ rfl (by kernel_rfl) ?s1 ?_
      rotate_left
      refine @FactSteps.cons _ _ _ _ 2 _ [] _ rfl (by kernel_rfl) ?s2 ?_
      rotate_left
      refine @FactSteps.cons _ _ _ _ 3 _ [] _ rfl (by kernel_rfl) ?s3 ?_
      rotate_left
      refine @FactSteps.cons _ _ _ _ 4 _ [] _ rfl (by kernel_rfl) ?s4 ?_
      rotate_left
      refine @FactSteps.cons _ _ _ _ 5 _ [4] _ rfl (by kernel_rfl) ?s5 ?_
      rotate_left
      refine @FactSteps.cons _ _ _ _ 6 _ [5] _ rfl (by kernel_rfl) ?s6 ?_
      rotate_left
      refine @FactSteps.cons _ _ _ _ 7 _ [0, 0, 3] _ rfl (by kernel_rfl) ?s7 ?_
      rotate_left
      refine @FactSteps.cons _ _ _ _ 8 _ [7, 3, 0, 3] _ rfl (by kernel_rfl) ?s8 ?_
      rotate_left
      refine @FactSteps.cons _ _ _ _ 9 _ [1, 0, 1, 3, 4, 5, 6, 7, 8] _ rfl (by kernel_rfl) ?s9 ?_
      rotate_left
      refine @FactSteps.cons _ _ _ _ 10 _ [9, 6, 8, 0, 1, 3, 4, 5, 6, 7, 8] _ rfl (by kernel_rfl) ?s10 ?_
      rotate_left
      exact FactSteps.nil
      case s0 =>
        rintro L a v w hv hg hL hd hcl ⟨e10, e5, e6, e7, e9, e11, hb, k5, k8, kEB, kLB, kW, hPP, f0, f1, f2, f3, f4, f5, f6, f7, f9⟩ K hK
        refine step_do rfl ?_
        clear hv
        go_simp
        exact hK.out _ _ ⟨e10, e5, e6, e7, e9, e11, hb, k5, k8, kEB, kLB, kW, hPP, fun _ => rfl, f1, f2, f3, f4, f5, f6, f7, f9⟩
      case s1 =>
        rintro L a v w hv hg hL hd hcl ⟨e10, e5, e6, e7, e9, e11, hb, k5, k8, kEB, kLB, kW, hPP, f0, f1, f2, f3, f4, f5, f6, f7, f9⟩ K hK
        refine step_do rfl ?_
        clear hv
        go_simp
        exact hK.out _ _ ⟨e10, e5, e6, e7, e9, e11, hb, k5, k8, kEB, kLB, kW, hPP, f0, fun _ => rfl, f2, f3, f4, f5, f6, f7, f9⟩
      case s2 =>
        rintro L a v w hv hg hL hd hcl ⟨e10, e5, e6, e7, e9, e11, hb, k5, k8, kEB, kLB, kW, hPP, f0, f1, f2, f3, f4, f5, f6, f7, f9⟩ K hK
        refine step_do rfl ?_
        clear hv
        go_simp
        exact hK.out _ _ ⟨e10, e5, e6, e7, e9, e11, hb, k5, k8, kEB, kLB, kW, hPP, f0, f1, fun _ => rfl, f3, f4, f5, f6, f7, f9⟩
      case s3 =>
        rintro L a v w hv hg hL hd hcl ⟨e10, e5, e6, e7, e9, e11, hb, k5, k8, kEB, kLB, kW, hPP, f0, f1, f2, f3, f4, f5, f6, f7, f9⟩ K hK
        refine step_do rfl ?_
        refine wp_ld rowM (.tmp 11) rfl ((hv 11).trans e11) k8 s8 ?_
        exact hK.out _ _ ⟨e10, e5, e6, e7, e9, e11, hb, k5, k8, kEB, kLB, kW, hPP, f0, f1, f2, fun _ => rfl, f4, f5, f6, f7, f9⟩
      case s4 =>
        rintro L a v w hv hg hL hd hcl ⟨e10, e5, e6, e7, e9, e11, hb, k5, k8, kEB, kLB, kW, hPP, f0, f1, f2, f3, f4, f5, f6, f7, f9⟩ K hK
        refine step_do rfl ?_
        clear hv
        go_simp
        exact hK.out _ _ ⟨e10, e5, e6, e7, e9, e11, hb, k5, k8, kEB, kLB, kW, hPP, f0, f1, f2, f3, fun _ => rfl, f5, f6, f7, f9⟩
      case s5 =>
        rintro L a v w hv hg hL hd hcl ⟨e10, e5, e6, e7, e9, e11, hb, k5, k8, kEB, kLB, kW, hPP, f0, f1, f2, f3, f4, f5, f6, f7, f9⟩ K hK
        have g4 := f4 (hd 4 (by decide))
        have c2 : w.cell? ⟨gT, 2, none⟩ = some (.int .i64 vl) := k5.cell 2
        refine step_do rfl ?_
        clear hv
        go_simp
        exact hK.out _ _ ⟨e10, e5, e6, e7, e9, e11, hb, k5, k8, kEB, kLB, kW, hPP, f0, f1, f2, f3, f4, fun _ => rfl, f6, f7, f9⟩
      case s6 =>
        rintro L a v w hv hg hL hd hcl ⟨e10, e5, e6, e7, e9, e11, hb, k5, k8, kEB, kLB, kW, hPP, f0, f1, f2, f3, f4, f5, f6, f7, f9⟩ K hK
        have g5 := f5 (hd 5 (by decide))
        refine step_do rfl ?_
        clear hv
        go_simp
        exact hK.out _ _ ⟨e10, e5, e6, e7, e9, e11, hb, k5, k8, kEB, kLB, kW, hPP, f0, f1, f2, f3, f4, f5, fun _ => rfl, f7, f9⟩
      case s7 =>
        rintro L a v w hv hg hL hd hcl ⟨e10, e5, e6, e7, e9, e11, hb, k5, k8, kEB, kLB, kW, hPP, f0, f1, f2, f3, f4, f5, f6, f7, f9⟩ K hK
        have g0 := f0 (hd 0 (by decide))
        have g3 := f3 (hd 3 (by decide))
        refine step_do rfl ?_
        clear hv
        go_simp
        exact hK.out _ _ ⟨e10, e5, e6, e7, e9, e11, hb, k5, k8, kEB, kLB, kW, hPP, f0, f1, f2, f3, f4, f5, f6, fun _ => rfl, f9⟩
      case s8 =>
        rintro L a v w hv hg hL hd hcl ⟨e10, e5, e6, e7, e9, e11, hb, k5, k8, kEB, kLB, kW, hPP, f0, f1, f2, f3, f4, f5, f6, f7, f9⟩ K hK
        have hQ := kEB.1 hL
        have hEf := hQ.1
        have kf := hQ.2
        have c10 : L 10 = false := off_of hcl (j := 10) (by kernel_rfl : waitsAt _ 10 = [9, 6, 8, 0, 1, 3, 4, 5, 6, 7, 8]) (d := 8) (by decide) hL
        have g7 := f7 (hd 7 (by decide))
        have g3 := f3 (hd 3 (by decide))
        refine step_do rfl ?_
        refine wp_str rowM (.tmp 59) (.tmp 55) rfl ((hv 59).trans g7) ((hv 55).trans g3) (there9 kf hEf.nine hx) s8 oP ?_
        have gS : w.grownBy (w.setCells gB (x * 9) cP.toList) (some gB) := setCells_grown _ _ _ _
        have hE2 := (hEf.grown gS kf (by decide)).up (a := x) hPf (hPP.grown gS kf (by decide))
        rw [up_one] at hE2
        have kf2 := set9 kf hEf.nine hx s8
        exact hK.out undef _ ⟨e10, e5, e6, e7, e9, e11, (hb.grown gS hb.size (fun q hq => by injection hq; omega)), (k5.grown gS (by intro h; injection h; omega)), (k8.grown gS (by intro h; injection h; omega)), ⟨fun h => (by cases h), fun _ => ⟨hE2, kf2⟩⟩, ⟨fun h => (kLB.1 h).grown gS (by intro h; injection h; omega), fun h => offC c10 h⟩, (kW.grown gS (by intro h; injection h; omega)), (hPP.grown gS kf (by decide)), f0, f1, f2, f3, f4, f5, f6, f7, f9⟩
      case s9 =>
        rintro L a v w hv hg hL hd hcl ⟨e10, e5, e6, e7, e9, e11, hb, k5, k8, kEB, kLB, kW, hPP, f0, f1, f2, f3, f4, f5, f6, f7, f9⟩ K hK
        have g0 := f0 (hd 0 (by decide))
        have g1 := f1 (hd 1 (by decide))
        have g3 := f3 (hd 3 (by decide))
        have g4 := f4 (hd 4 (by decide))
        have g5 := f5 (hd 5 (by decide))
        have g6 := f6 (hd 6 (by decide))
        have g7 := f7 (hd 7 (by decide))
        refine step_do rfl ?_
        clear hv
        go_simp
        exact hK.out _ _ ⟨e10, e5, e6, e7, e9, e11, hb, k5, k8, kEB, kLB, kW, hPP, f0, f1, f2, f3, f4, f5, f6, f7, fun _ => rfl⟩
      case s10 =>
        rintro L a v w hv hg hL hd hcl ⟨e10, e5, e6, e7, e9, e11, hb, k5, k8, kEB, kLB, kW, hPP, f0, f1, f2, f3, f4, f5, f6, f7, f9⟩ K hK
        have kf := kLB.1 hL
        have h8L : L 8 = true := hd 8 (by decide)
        have hQ := kEB.2 h8L
        have g9 := f9 (hd 9 (by decide))
        have g6 := f6 (hd 6 (by decide))
        have cx : w.cell? ⟨gB + 1, x, none⟩ = some (.int .i64 (Vc x)) := (kf.cell x).trans (arr8_at _ hx)
        have fx := kf.free x
        have k2 := kf.set_ x (.int .i64 (vl.tmod 1000))
        rw [aI_set] at k2
        have HK2 := Lib.hid k2
        have HQ := Lib.hid hQ
        clear k2 hQ
        refine step_do rfl ?_
        clear hv
        go_simp
        have gS : w.grownBy (w.setCell ⟨gB + 1, x, none⟩ (.int .i64 (vl.tmod 1000))) (some (gB + 1)) := grown_set _ _ _ _
        exact hK.out undef _ ⟨e10, e5, e6, e7, e9, e11, (hb.grown gS hb.size (fun q hq => by injection hq; omega)), (k5.grown gS (by intro h; injection h; omega)), (k8.grown gS (by intro h; injection h; omega)), ⟨fun h => absurd (h8L.symm.trans h) (by decide), fun _ => ⟨HQ.out.1.grown gS kf (by decide), HQ.out.2.grown gS (by intro h; injection h; omega)⟩⟩, ⟨fun h => (by cases h), fun _ => HK2.out⟩, (kW.grown gS (by intro h; injection h; omega)), (hPP.grown gS kf (by decide)), f0, f1, f2, f3, f4, f5, f6, f7, f9⟩
    case hend =>
    rintro L v wc hall ⟨e10, e5, e6, e7, e9, e11, hb, k5, k8, kEB, kLB, kW, hPP, f0, f1, f2, f3, f4, f5, f6, f7, f9⟩
    have hL : ∀ i, i < 11 → L i = true := hall
    have f0 := f0 (hL 0 (by decide))
    have f1 := f1 (hL 1 (by decide))
    have f2 := f2 (hL 2 (by decide))
    have f3 := f3 (hL 3 (by decide))
    have f4 := f4 (hL 4 (by decide))
    have f5 := f5 (hL 5 (by decide))
    have f6 := f6 (hL 6 (by decide))
    have f7 := f7 (hL 7 (by decide))
    have f9 := f9 (hL 9 (by decide))
    simp only [finA, List.foldl_cons, List.foldl_nil, Act.put, List.setIfInBounds_toArray, List.set_cons_succ, List.set_cons_zero, f0, f1, f2, f3, f4, f5, f6, f7, f9]
    have hEB := kEB.2 (hL 8 (by decide))
    have hLB := kLB.2 (hL 10 (by decide))
    have gb2 : Below w.heap.size w wc := by rw [← HS.out]; exact hb
    have cx : wc.cell? ⟨gB + 1 + 1, x, none⟩ = some (.bool (decide (0 < Kc x))) := (kW.cell x).trans (arr8_at _ hx)
    have fx := kW.free x
    have k2 := kW.set_ x (.bool true)
    rw [aB_set hnx.1] at k2
    have gS : wc.grownBy (wc.setCell ⟨gB + 1 + 1, x, none⟩ (.bool true)) (some (gB + 1 + 1)) := grown_set _ _ _ _
    have e8 := hEB.1.grown gS kW (by decide)
    have b8 := hEB.2.grown gS (by intro h; injection h; omega)
    have l8 := hLB.grown gS (by intro h; injection h; omega)
    have g8' := gb2.grown gS gb2.size (fun q hq => by injection hq; omega)
    have HH := Lib.hid (And.intro e8 (And.intro b8 (And.intro l8 (And.intro k2 (And.intro g8' (HW.out.up hv9 (Int.natCast_nonneg k) hx))))))
    generalize (decide (0 < Kc x)) = oldb at cx
    clear hEB hLB gb2 k2 gS e8 b8 l8 g8' kB kL hE hP gb gbS hPP kW
    clear e10 e5 e6 e7 e9 e11 f0 f1 f2 f3 f4 f5 f6 f7 f9 hL hall hb k5 k8 kEB kLB
    show wpList _ _ _ [_, _] _ _
    go_wp2_with fail
    go_roundw
    case rel => exact ⟨k + 1, _, _, _, by omega, by go_num, by have := HH.out.2.2.2.2.2; exact_mod_cast this, HH.out.1, HH.out.2.1, HH.out.2.2.1, HH.out.2.2.2.1, HH.out.2.2.2.2.1⟩
    case measure => simp [intOf]; omega
  obtain rfl : k = n := by omega
  clear hlt hk
  have HW := Lib.hid hWr
  have HQ9 := Lib.hid hE.nine
  have HSC := Lib.hid (cat9_size hE.nine)
  have HSB := Lib.hid (show (aB Kc).size = 8 from arr8_size _)
  have HBZ := Lib.hid (fun (w : World) => buildM0 w)
  have H1Z := Lib.hid (uc_one (U := z8) (s := .slice none 0 0) rfl)
  have HSZ := Lib.hid (z8_size (.slice none 0 0))
  have HFG := Lib.hid (fun i hi => (hE i hi).1)
  have HAG := Lib.hid (fun j hj => all_good hWr (by omega) j hj)
  clear hWr
  go_upto_region 17 with fail
  refine nameW ?_
  intro wv hwv
  have bb : Below wr.heap.size wr wv := by rw [hwv]; exact Below.refl _ _
  have HE := Lib.hid hE
  clear hwv
  clear HE
  have kB := kB.below bb kB.lt
  have kL := kL.below bb kL.lt
  have kW := kW.below bb kW.lt
  have hE := hE.below bb
  have gb := gb.trans (bb.mono gb.size)
  clear bb
  go_upto_region 18 with first
    | ((refine wpList_bdV (v := .agg (uc z8 (.slice none 0 0))) (w' := _) rfl 31 #[] rfl ?_ ?_); (simp only [List.map_toArray, List.map_nil]; exact HBZ.out _))
    | ((with_reducible refine wpList_st rowM (Blk.new _ _ _) HSZ.out ?_ H1Z.out ?_ ?_ ?_); (rfl); rotate_left; (rfl); (rfl); intro gaw k13 ga gaz)
  have bb := new_below ga
  have hwv := gb.size
  obtain ⟨g13, hg13⟩ : ∃ g13, g13 = wv.heap.size := ⟨_, rfl⟩
  rw [← hg13] at k13 ⊢
  have hg13w : w.heap.size ≤ g13 := by rw [hg13]; exact hwv
  have h13 : FreshO 49 (repU (allF Kc Vc 0)) (repL (allF Kc Vc 0)) (.agg (uc z8 (.slice none 0 0))) gaw := by
    rw [all_zero]
    exact ⟨none, 0, 0, rfl, OwnV.nil _ _ _, by omega⟩
  have HM := Lib.hid (fun (f g h : Nf) (q q2 : Value) (w' : World) (hf : GoodF f) (hg : GoodF g) (hs : SameN (mt f g) h) (x : Fresh (repU f) (repL f) q w') (y : Fresh (repU g) (repL g) q2 w') => meetS hf hg hs x y)
  clear ga hg13 gaz hwv
  have kB := kB.below bb kB.lt
  have kL := kL.below bb kL.lt
  have kW := kW.below bb kW.lt
  have hE := hE.below bb
  have gb := gb.trans (bb.mono gb.size)
  clear bb
  go_wp2_with first
    | ((with_reducible refine wpList_ld rowOwn kB HSC.out ?_ ?_); rotate_left; (rfl))
  go_loopw [65] (fun i wr => ∃ (k : Nat) (c13 : Array Value), k ≤ 8 ∧ i = .int .i64 k ∧ Blk wr g13 31 c13 ∧ FreshO 49 (repU (allF Kc Vc k)) (repL (allF Kc Vc k)) (.agg c13) wr ∧ Eight (fun i => oneF i (Kc i) (Vc i)) Q wr ∧ Blk wr gB 52 (cat9 Q) ∧ Blk wr (gB + 1) 22 (aI Vc) ∧ Blk wr (gB + 1 + 1) 58 (aB Kc) ∧ Below w.heap.size w wr) (fun i _ => 8 - (intOf i).toNat)
  case atStart => exact ⟨0, _, by omega, rfl, k13, h13, hE, kB, kL, kW, gb⟩
  case round =>
  clear k13 h13 hE kB kL kW gb
  obtain ⟨k, c13, hk, rfl, k13, h13, hE, kB, kL, kW, gb⟩ := hrel
  by_cases hlt : k < 8
  · have hk0 : (0 : Int) ≤ (k : Int) := by omega
    have hk8 : (k : Int) < 8 := by omega
    have sQ := HQ9.out k hlt
    have oQ := (hE k hlt).2.fresh.one9
    have HIX := Lib.hid (fun w' => run_index9 w' Q HQ9.out k hlt)
    have s1 := h13.fresh.size9 (repU_len _)
    go_upto_region 21 with first
      | ((with_reducible refine wpList_ix (HIX.out _) ?_ ?_ ?_); rotate_left; (rfl); (rfl))
      | ((with_reducible refine wpList_st rowM (Blk.new _ _ _) sQ ?_ oQ ?_ ?_ ?_); (rfl); rotate_left; (rfl); (rfl); intro gaw k15 ga gaz)
    have bb := new_below ga
    clear ga gaz
    have kB := kB.below bb kB.lt
    have kL := kL.below bb kL.lt
    have kW := kW.below bb kW.lt
    have k13 := k13.below bb k13.lt
    have hE := hE.below bb
    have h13 := h13.below bb
    have gb := gb.trans (bb.mono gb.size)
    clear bb
    go_wp2_with first
      | ((with_reducible refine wpList_ld rowM k13 s1 ?_ ?_); rotate_left; (rfl))
      | ((with_reducible refine wpList_ld rowM k15 sQ ?_ ?_); rotate_left; (rfl))
    refine (HM.out _ _ (allF Kc Vc (k + 1)) _ _ _ (HAG.out k (by omega)) (HFG.out k hlt) (all_step HW.out hlt) h13.fresh (hE k hlt).2.fresh).mono ?_
    rintro e wd ⟨q1, rfl, hN, bb⟩
    obtain ⟨cN, rfl⟩ := hN.fresh.agg
    have sN := hN.fresh.size9 (repU_len _)
    have oN := hN.fresh.one9
    have kB := kB.below bb kB.lt
    have kL := kL.below bb kL.lt
    have kW := kW.below bb kW.lt
    have k13 := k13.below bb k13.lt
    have hE := hE.below bb
    have h13 := h13.below bb
    have gb := gb.trans (bb.mono gb.size)
    clear bb
    go_upto_region 22 with first
      | ((with_reducible refine wpList_st rowM k13 sN s1 oN ?_ ?_ ?_); rotate_left; (rfl); (rfl); intro gew kN ge gez)
    have nekB : g13 ≠ gB := blk_ne k13 kB (by decide)
    have nekL : g13 ≠ (gB + 1) := blk_ne k13 kL (by decide)
    have nekW : g13 ≠ (gB + 1 + 1) := blk_ne k13 kW (by decide)
    have hE := hE.grown ge k13 (by decide)
    have kB := kB.grown ge (by intro h; injection h with h; exact nekB h)
    have kL := kL.grown ge (by intro h; injection h with h; exact nekL h)
    have kW := kW.grown ge (by intro h; injection h with h; exact nekW h)
    have hN := hN.grown ge k13 (by decide)
    have gb := gb.grown ge gb.size (fun q hq => by injection hq; omega)
    have HH := Lib.hid (And.intro kN (And.intro hN (And.intro hE (And.intro kB (And.intro kL (And.intro kW gb))))))
    clear kN hN hE gb h13 k13 k15 ge kB kL kW nekB nekL nekW
    go_wp2_with fail
    go_roundw
    case rel => exact ⟨k + 1, cN, by omega, by go_num, HH.out.1, HH.out.2.1, HH.out.2.2.1, HH.out.2.2.2.1, HH.out.2.2.2.2.1, HH.out.2.2.2.2.2.1, HH.out.2.2.2.2.2.2⟩
    case measure => simp [intOf]; omega
  obtain rfl : k = 8 := by omega
  clear hlt hk
  go_wp2_with first
    | ((with_reducible refine wpList_ld rowB8 kW HSB.out ?_ ?_); rotate_left; (rfl))
  go_loopw [16, 73] (fun s i wz => ∃ (k : Nat) (A : Option Addr) (m cc : Nat), k ≤ 8 ∧ i = .int .i64 k ∧ s = .slice A m cc ∧ OwnI wz w.heap.size A m cc (wantL Kc Vc k) ∧ Blk wz g13 31 c13 ∧ FreshO 49 (repU (allF Kc Vc 8)) (repL (allF Kc Vc 8)) (.agg c13) wz ∧ Eight (fun i => oneF i (Kc i) (Vc i)) Q wz ∧ Blk wz gB 52 (cat9 Q) ∧ Blk wz (gB + 1) 22 (aI Vc) ∧ Below w.heap.size w wz) (fun _ i _ => 8 - (intOf i).toNat)
  case atStart => exact ⟨0, none, 0, 0, by omega, rfl, rfl, OwnI.nil _ _, k13, h13, hE, kB, kL, gb⟩
  case round =>
  clear k13 h13 hE kB kL gb
  obtain ⟨k, A, m, cc, hk, rfl, rfl, ho, k13, h13, hE, kB, kL, gb⟩ := hrel
  by_cases hlt : k < 8
  · have hk0 : (0 : Int) ≤ (k : Int) := by omega
    have hk8 : (k : Int) < 8 := by omega
    have hml : m ≤ 8 := by rw [ho.1]; exact Nat.le_trans (want_len _ _ _) hk
    have HIB := Lib.hid (fun w' => run_indexB w' Kc k hlt)
    by_cases hpos : 0 < Kc k
    · have hd1 : decide (0 < Kc k) = true := decide_eq_true hpos
      have hws : wantL Kc Vc (k + 1) = wantL Kc Vc k ++ [Vc k] := by rw [want_step, if_pos hpos]
      have HWS := Lib.hid hws
      have cL : wr.cell? ⟨gB + 1, k, none⟩ = some (.int .i64 (Vc k)) := (kL.cell k).trans (arr8_at _ hlt)
      have hle : m + 1 ≤ 17592186044416 := by omega
      have hle2 : w.heap.size ≤ (wr.alloc (.cells #[.int .i64 (Vc k)] 3)).heap.size := le_alloc gb.size _
      clear hws hpos
      go_wp2_with first
        | ((with_reducible refine wpList_ix (HIB.out _) ?_ ?_ ?_); rotate_left; (rfl); (rfl); rw [hd1])
        | (at_builtin; refine wpList_appI rfl (.tmp 78) (.tmp 82) rfl rfl (ho.alloc _) (news := [Vc k]) rfl ⟨rfl, Rd.made _ _ _ _⟩ hle hle2 ?_)
      intro A2 c2 w2 o2 g2 m2 b2
      have bb : Below wr.heap.size wr (wr.alloc (.cells #[.int .i64 (Vc k)] 3)) := (Below.refl _ _).alloc (Nat.le_refl _) _
      have k13 := (k13.below bb k13.lt).grown g2 (own_ne (ho.alloc _).2 (k13.below bb k13.lt) (by decide))
      have kB1 := kB.below bb kB.lt
      have kL1 := kL.below bb kL.lt
      have kB := kB1.grown g2 (own_ne (ho.alloc _).2 kB1 (by decide))
      have kL := kL1.grown g2 (own_ne (ho.alloc _).2 kL1 (by decide))
      have hE := (hE.below bb).keepI (ho.alloc _) g2
      have h13 := (h13.below bb).keepI (ho.alloc _) g2 (by decide)
      have gb := (gb.trans (bb.mono gb.size)).trans b2
      have HH := Lib.hid (And.intro o2 (And.intro k13 (And.intro h13 (And.intro hE (And.intro kB (And.intro kL gb))))))
      clear o2 k13 h13 hE kB kL gb kB1 kL1 bb g2 m2 b2 cL ho hd1
      go_wp2_with fail
      go_roundw
      case rel => exact ⟨k + 1, A2, m + 1, c2, by omega, by go_num, rfl, by rw [HWS.out]; exact HH.out.1, HH.out.2.1, HH.out.2.2.1, HH.out.2.2.2.1, HH.out.2.2.2.2.1, HH.out.2.2.2.2.2.1, HH.out.2.2.2.2.2.2⟩
      case measure => simp [intOf]; omega
    · have hd1 : decide (0 < Kc k) = false := decide_eq_false hpos
      have hws : wantL Kc Vc (k + 1) = wantL Kc Vc k := by rw [want_step, if_neg hpos, List.append_nil]
      have HH := Lib.hid (And.intro (hws ▸ ho : OwnI wr w.heap.size A m cc (wantL Kc Vc (k + 1))) (And.intro k13 (And.intro h13 (And.intro hE (And.intro kB (And.intro kL gb))))))
      clear hws hpos k13 h13 hE kB kL gb ho
      go_wp2_with ((with_reducible refine wpList_ix (HIB.out _) ?_ ?_ ?_); rotate_left; (rfl); (rfl); rw [hd1])
      go_roundw
      case rel => exact ⟨k + 1, A, m, cc, by omega, by go_num, rfl, HH.out.1, HH.out.2.1, HH.out.2.2.1, HH.out.2.2.2.1, HH.out.2.2.2.2.1, HH.out.2.2.2.2.2.1, HH.out.2.2.2.2.2.2⟩
      case measure => simp [intOf]; omega
  obtain rfl : k = 8 := by omega
  clear hlt hk
  have HWL := Lib.hid (all_values HW.out (by omega))
  have hwi : FreshI (wantL Kc Vc 8) (.slice A m cc) wr := ⟨A, m, cc, rfl, ho.rd, by rw [ho.1]; exact Nat.le_trans (want_len _ _ _) (by omega)⟩
  have s1 := h13.fresh.size9 (repU_len _)
  have HS13 := Lib.hid s1
  obtain ⟨mw, hmw, emw⟩ := wf8 s hs
  have hmw0 : (0 : Int) ≤ (mw : Int) := by omega
  have hmw8 : (mw : Int) < 8 := by omega
  have EMW := Lib.hid emw
  have hnm := HW.out.num mw hmw
  clear s1 emw ho
  go_wp2_with first
    | ((with_reducible refine wpList_ld rowM k13 HS13.out ?_ ?_); rotate_left; (rfl))
  refine (valsT h13.fresh HWL.out).mono ?_
  rintro e wa ⟨q, rfl, hv1, bb⟩
  have hwi := hwi.below bb
  have k13 := k13.below bb k13.lt
  have kB := kB.below bb kB.lt
  have h13 := h13.below bb
  have hE := hE.below bb
  have gb := gb.trans (bb.mono gb.size)
  clear bb
  go_wp2_with fail
  refine (intsT hv1 hwi rfl).mono ?_
  rintro e wb ⟨rfl, bb⟩
  clear hv1 hwi
  have k13 := k13.below bb k13.lt
  have kB := kB.below bb kB.lt
  have h13 := h13.below bb
  have hE := hE.below bb
  have gb := gb.trans (bb.mono gb.size)
  clear bb
  have emw := EMW.out
  have e8 : IntKind.i64.wrap (s : Int) = (s : Int) := IntWalk.i64_in _ (by omega)
  have hs0 : (0 : Int) ≤ (s : Int) := by omega
  go_wp2_with first
    | ((with_reducible refine wpList_ld rowM k13 HS13.out ?_ ?_); rotate_left; (rfl))
  clear emw e8
  have hlt9 : (allF Kc Vc 8 mw).1 < 1099511627776 := by unfold allF; rw [if_pos hmw]; simp only; omega
  refine (putG (HAG.out 8 (by omega)) hmw 77 ⟨by omega, by omega⟩ hlt9 h13.fresh).mono ?_
  rintro e wc ⟨q, rfl, h19, bb⟩
  have HPG := Lib.hid (putNd_good (HAG.out 8 (by omega)) (k := mw) (v := 77) ⟨by omega, by omega⟩ hlt9)
  have HPV := Lib.hid (put_values (HAG.out 8 (by omega)) hmw (z := 77) ⟨by omega, by omega⟩ hlt9)
  obtain ⟨c19, rfl⟩ := h19.fresh.agg
  have s19 := h19.fresh.size9 (repU_len _)
  have o19 := h19.fresh.one9
  have k13 := k13.below bb k13.lt
  have kB := kB.below bb kB.lt
  have h13 := h13.below bb
  have hE := hE.below bb
  have gb := gb.trans (bb.mono gb.size)
  clear bb
  go_upto_region 33 with first
    | ((with_reducible refine wpList_st rowM (Blk.new _ _ _) s19 ?_ o19 ?_ ?_ ?_); (rfl); rotate_left; (rfl); (rfl); intro gaw k19 ga gaz)
  have bb := new_below ga
  have h19 := h19.below bb
  have hg19' := gb.size
  obtain ⟨g19, hg19⟩ : ∃ g19, g19 = wc.heap.size := ⟨_, rfl⟩
  rw [← hg19] at k19 ⊢
  have hg19w : w.heap.size ≤ g19 := by rw [hg19]; exact hg19'
  clear ga gaz hg19 hg19' s19 o19
  have k13 := k13.below bb k13.lt
  have kB := kB.below bb kB.lt
  have h13 := h13.below bb
  have hE := hE.below bb
  have gb := gb.trans (bb.mono gb.size)
  clear bb
  go_wp2_with first
    | ((with_reducible refine wpList_ld rowOwn kB HSC.out ?_ ?_); rotate_left; (rfl))
  go_loopw [101] (fun i wr => ∃ (k : Nat) (c19 : Array Value), k ≤ 8 ∧ i = .int .i64 k ∧ Blk wr g19 31 c19 ∧ FreshO 49 (repU (putNd (allF Kc Vc 8) mw 77)) (repL (putNd (allF Kc Vc 8) mw 77)) (.agg c19) wr ∧ Eight (fun i => oneF i (Kc i) (Vc i)) Q wr ∧ Below w.heap.size w wr) (fun i _ => 8 - (intOf i).toNat)
  case atStart => exact ⟨0, _, by omega, rfl, k19, h19, hE, gb⟩
  case round =>
  clear k19 h19 hE kB gb
  obtain ⟨k, c19, hk, rfl, k19, h19, hE, gb⟩ := hrel
  by_cases hlt : k < 8
  · have hk0 : (0 : Int) ≤ (k : Int) := by omega
    have hk8 : (k : Int) < 8 := by omega
    have sQ := HQ9.out k hlt
    have oQ := (hE k hlt).2.fresh.one9
    have HIX := Lib.hid (fun w' => run_index9 w' Q HQ9.out k hlt)
    have s1 := h19.fresh.size9 (repU_len _)
    go_upto_region 38 with first
      | ((with_reducible refine wpList_ix (HIX.out _) ?_ ?_ ?_); rotate_left; (rfl); (rfl))
      | ((with_reducible refine wpList_st rowM (Blk.new _ _ _) sQ ?_ oQ ?_ ?_ ?_); (rfl); rotate_left; (rfl); (rfl); intro gaw k15 ga gaz)
    have bb := new_below ga
    clear ga gaz
    have k19 := k19.below bb k19.lt
    have hE := hE.below bb
    have h19 := h19.below bb
    have gb := gb.trans (bb.mono gb.size)
    clear bb
    go_wp2_with first
      | ((with_reducible refine wpList_ld rowM k19 s1 ?_ ?_); rotate_left; (rfl))
      | ((with_reducible refine wpList_ld rowM k15 sQ ?_ ?_); rotate_left; (rfl))
    refine (HM.out _ _ (putNd (allF Kc Vc 8) mw 77) _ _ _ HPG.out (HFG.out k hlt) (put_has HW.out hmw hlt 77) h19.fresh (hE k hlt).2.fresh).mono ?_
    rintro e wd ⟨q1, rfl, hN, bb⟩
    obtain ⟨cN, rfl⟩ := hN.fresh.agg
    have sN := hN.fresh.size9 (repU_len _)
    have oN := hN.fresh.one9
    have k19 := k19.below bb k19.lt
    have hE := hE.below bb
    have h19 := h19.below bb
    have gb := gb.trans (bb.mono gb.size)
    clear bb
    go_upto_region 39 with first
      | ((with_reducible refine wpList_st rowM k19 sN s1 oN ?_ ?_ ?_); rotate_left; (rfl); (rfl); intro gew kN ge gez)
    have hE := hE.grown ge k19 (by decide)
    have hN := hN.grown ge k19 (by decide)
    have gb := gb.grown ge gb.size (fun q hq => by injection hq; omega)
    have HH := Lib.hid (And.intro kN (And.intro hN (And.intro hE gb)))
    clear kN hN hE gb h19 k19 k15 ge  
    go_wp2_with fail
    go_roundw
    case rel => exact ⟨k + 1, cN, by omega, by go_num, HH.out.1, HH.out.2.1, HH.out.2.2.1, HH.out.2.2.2⟩
    case measure => simp [intOf]; omega
  obtain rfl : k = 8 := by omega
  clear hlt hk
  have s1 := h19.fresh.size9 (repU_len _)
  have HS19 := Lib.hid s1
  clear s1
  go_wp2_with first
    | ((with_reducible refine wpList_ld rowM k19 HS19.out ?_ ?_); rotate_left; (rfl))
  refine (valsT h19.fresh HPV.out).mono ?_
  rintro e wx ⟨q, rfl, hv1, bb⟩
  have gb := gb.trans (bb.mono gb.size)
  clear bb k19 h19 hE
  go_wp2_with fail
  have b2 : Below wx.heap.size wx (wx.alloc (.cells #[.int .i64 77] 3)) := (Below.refl _ _).alloc (Nat.le_refl _) _
  have h77 : FreshI [77] (.slice (some ⟨wx.heap.size, 0, none⟩) 1 1) (wx.alloc (.cells #[.int .i64 77] 3)) := ⟨_, 1, 1, rfl, RdI.size ⟨rfl, Rd.made _ _ _ _⟩, by omega⟩
  refine (intsT (hv1.below b2) h77 rfl).mono ?_
  rintro e wy ⟨rfl, b3⟩
  have gb := (gb.trans (b2.mono gb.size))
  have gb := gb.trans (b3.mono gb.size)
  clear b2 b3 hv1 h77
  go_wp2_with fail
  go_ret
  exact ⟨rfl, gb⟩
set_option maxRecDepth 100000 in
theorem lifted (os : Os) (started : os.Started) (H : Type) (enc : TypeId × Value → H) :
    ReturnsInHanded {} Try.checked os 5 .any (Rows.regAloneSpec.pre6 enc Try.prog Try.f5 Rows.regAloneRow.domain false) (Rows.regAloneSpec.post enc Try.prog Try.f5 false true false false) := by
  refine returnsInHanded_of_change (C := Try.checked) own started (by kernel_rfl) Try.func5
    (ChangeSpec.witness6 (enc := enc) (C := Try.checked) false ⟨#[], #[.slice none 0 0, .int .u8 0], []⟩ 8 (by kernel_rfl) (by kernel_rfl) (by kernel_rfl) (by kernel_rfl)) ?_
  intro W base args ds gs before hval0 hW hcnd _
  have hval : ∀ (j : Nat) t v, Try.f5.params[j]? = some t → args[j]? = some v → Value.okWide Try.prog W .any base t v := hval0
  have hW' := hW
  obtain ⟨p, q, hA0, hV, rfl, hfz, hnd⟩ := hW
  have hA : DataW.TrodAll enc Try.prog W 0 (fun _ => true) true Try.f5.params.toList args.toList ds p := hA0
  rw [Try.params5] at hA hval
  obtain ⟨v0, vs0, d0, ds0, p0, q0, hargs, rfl, rfl, h0, r0⟩ := trodAll_cons hA
  obtain ⟨v1, vs1, d1, ds1, p1, q1, rfl, rfl, rfl, h1, r1⟩ := trodAll_cons r0
  obtain ⟨rfl, rfl, rfl⟩ := trodAll_nil r1
  obtain rfl : args = #[v0, v1] := by cases args; simp_all
  obtain ⟨rfl, rfl⟩ := trodVars_none hV
  have lt0 : ∀ x ∈ p0, x.block < W.heap.size := by obtain ⟨m, hm⟩ := h0; exact DataW.trod_lt m _ _ _ hm
  have k0 := h0
  have lt1 : ∀ x ∈ p1, x.block < W.heap.size := by obtain ⟨m, hm⟩ := h1; exact DataW.trod_lt m _ _ _ hm
  have k1 := h1
  obtain ⟨a0, n0, c0, l0, rfl, x0, y0, z0⟩ := open_trns (hval 0 51 v0 rfl rfl) h0
  obtain ⟨x1, rfl, rfl, rfl, wf1⟩ := open_int Try.underlying5 (hval 1 5 v1 rfl rfl) h1
  have hb1 : 0 ≤ x1 ∧ x1 < 256 := by
    have hmin : IntKind.u8.min = 0 := rfl
    have hmax : IntKind.u8.max = 255 := rfl
    simp only [Lit.wf, Bool.and_eq_true, decide_eq_true_eq] at wf1
    omega
  obtain ⟨s1, rfl⟩ := Int.eq_ofNat_of_zero_le hb1.1
  clear hA0 hval0
  refine (walk a0 n0 c0 l0 s1 W x0 y0 z0 (by omega)).mono fun e W' ⟨he, bel⟩ => ?_
  subst he
  exact ⟨_, rfl, _, _, _, [], _, [], hW', trodAll_mk1 (shut_bool Try.underlying4 _), (trodAll_cons_mk (Below.trod laidOut (by kernel_rfl) (of_decide_eq_true (by kernel_rfl)) k0 bel lt0) (trodAll_cons_mk (Below.trod laidOut (by kernel_rfl) (of_decide_eq_true (by kernel_rfl)) k1 bel lt1) trodAll_mk0)), rfl, bel.frame _, fun h => by cases h⟩

theorem proved : Rows.RegAloneSaid :=
  OpenClaim.holds_of_wide 5 Try.f5 rfl rfl rfl rfl rfl rfl rfl ⟨rfl, rfl, rfl, rfl, rfl⟩ rfl rfl rfl rfl rfl (by kernel_rfl) Try.func5 (by kernel_rfl)
    (of_decide_eq_true (by kernel_rfl)) (by unfold Func.isWrapper; first | (rw [if_pos (by decide +kernel)]; kernel_rfl) | (rw [if_neg (by decide +kernel)]; exact ⟨rfl, rfl⟩))
    (fun os started H enc _ => lifted os started H enc)
#print axioms proved
end Go.Proofs.Ytocoohpekpkmkaa.RegAlone

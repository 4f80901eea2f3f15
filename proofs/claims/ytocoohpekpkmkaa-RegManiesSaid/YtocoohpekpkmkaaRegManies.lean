/- RegManies: whether any register may be, with any value put, its values, and what any two know together, are the document's; what is handed in stays; for every input, with no panic (printed by gen/regmanies.py). -/
import Derived.Test.YtocoohpekpkmkaaRegOpen2
import Derived.Test.YtocoohpekpkmkaaFacts
namespace Go.Proofs.Ytocoohpekpkmkaa.RegManies
open Go.ChangeShapes Go.WideShapes Go.ChangeAt Go.RowKit Go.Deep
open Reg
theorem ask_r1 {w : World} {b : Nat} {T : TypeId} {C1 C2 : Array Value} {nd v : Int} (h : Blk w b T (askC C1 C2 nd v)) : w.rangeAt b 0 C1.toList := fun j x hx => by
  have hj := (List.getElem?_eq_some_iff.1 hx).1
  rw [Nat.zero_add, h.cell]
  unfold askC
  rw [List.getElem?_toArray, List.append_assoc, List.getElem?_append_left hj]
  exact hx
theorem ask_r2 {w : World} {b : Nat} {T : TypeId} {C1 C2 : Array Value} {nd v : Int} (h : Blk w b T (askC C1 C2 nd v)) (h1 : C1.size = 9) : w.rangeAt b 9 C2.toList := fun j x hx => by
  have hj := (List.getElem?_eq_some_iff.1 hx).1
  rw [h.cell]
  unfold askC
  rw [List.getElem?_toArray, List.append_assoc, List.getElem?_append_right (by simp; omega), List.getElem?_append_left (by simp at hj ⊢; omega)]
  rw [← hx]
  congr 1
  simp; omega
theorem ask_n {w : World} {b : Nat} {T : TypeId} {C1 C2 : Array Value} {nd v : Int} (h : Blk w b T (askC C1 C2 nd v)) (h1 : C1.size = 9) (h2 : C2.size = 9) : w.cell? ⟨b, 18, none⟩ = some (.int .i64 nd) ∧ w.cell? ⟨b, 19, none⟩ = some (.int .i64 v) := by
  rw [h.cell, h.cell]
  unfold askC
  rw [List.getElem?_toArray, List.getElem?_toArray, List.getElem?_append_right (by simp; omega), List.getElem?_append_right (by simp; omega)]
  simp [h1, h2]
theorem sameT {U : List Int} {l : List Vl} {q q2 : Value} {w : World} (hU : U.length = 8) (wU : Wf U) (h : Fresh U l q w) (h2 : Fresh U l q2 w) : Calls Try.prog 16 #[q, q2] w (GiveB w true) := by
  have := sameF hU hU wU wU h h2
  rw [decide_eq_true (rfl : U = U), decide_eq_true (rfl : l = l)] at this
  exact this
theorem intsT {l : List Int} {q q2 : Value} {w : World} (h : FreshI l q w) (h2 : FreshI l q2 w) : Calls Try.prog 19 #[q, q2] w (GiveB w true) := by
  have := intsF h h2
  rwa [decide_eq_true (rfl : l = l)] at this
theorem meetC {U V : List Int} {l l2 : List Vl} {q q2 : Value} {w : World} (hU : U.length = 8) (hV : V.length = 8) (h : Fresh U l q w) (h2 : Fresh V l2 q2 w) :
    Calls Try.prog 13 #[q, q2] w (CopyV 49 w (maxL (ownM U l).1 (ownM V l2).1) (meetL (ownM U l).1 (ownM V l2).1 (ownM U l).2 (ownM V l2).2)) := by
  obtain ⟨A, m, c, rfl, k2, k3⟩ := h
  obtain ⟨A2, m2, c2, rfl, k4, k5⟩ := h2
  exact meet29_any U V hU hV A A2 m c m2 c2 l l2 w k2 k4 k3 k5
set_option maxRecDepth 100000 in
set_option maxHeartbeats 4000000 in
theorem walk (U1 U2 : List Int) (A1 A2 : Option Addr) (n1 c1 n2 c2 : Nat) (l1 l2 : List Vl) (nd z : Int) (w : World) (hU1 : U1.length = 8) (hU2 : U2.length = 8) (wU1 : Wf U1) (wU2 : Wf U2) (h1 : RdV w w.heap.size A1 n1 l1) (h2 : RdV w w.heap.size A2 n2 l2) (m1 : n1 ≤ maxLen) (m2 : n2 ≤ maxLen) :
    Calls Try.prog 3 #[.agg (askC (uc U1 (.slice A1 n1 c1)) (uc U2 (.slice A2 n2 c2)) nd z)] w fun e w' => e = .returned (.bool true) ∧ Below w.heap.size w w' := by
  unfold maxLen at m1 m2
  obtain ⟨C1, hC1⟩ : ∃ C1, C1 = uc U1 (.slice A1 n1 c1) := ⟨_, rfl⟩
  obtain ⟨C2, hC2⟩ : ∃ C2, C2 = uc U2 (.slice A2 n2 c2) := ⟨_, rfl⟩
  rw [← hC1, ← hC2]
  have hs1 : C1.size = 9 := by rw [hC1]; exact uc_size hU1 _
  have hs2 : C2.size = 9 := by rw [hC2]; exact uc_size hU2 _
  have ht1 : C1[8]? = some (.slice A1 n1 c1) := by rw [hC1]; exact uc_last hU1 _
  have ht2 : C2[8]? = some (.slice A2 n2 c2) := by rw [hC2]; exact uc_last hU2 _
  have hf1 : n1 ≤ 1000 → Fresh U1 l1 (.agg C1) w := fun h => ⟨A1, n1, c1, by rw [hC1], h1, by omega⟩
  have hf2 : n2 ≤ 1000 → Fresh U2 l2 (.agg C2) w := fun h => ⟨A2, n2, c2, by rw [hC2], h2, by omega⟩
  have ho1 : C1.all (·.oneCell') = true := by rw [hC1]; exact uc_one rfl
  have ho2 : C2.all (·.oneCell') = true := by rw [hC2]; exact uc_one rfl
  have HS1 := Lib.hid hs1
  have HS2 := Lib.hid hs2
  have HT1 := Lib.hid ht1
  have HT2 := Lib.hid ht2
  have HF1 := Lib.hid hf1
  have HF2 := Lib.hid hf2
  have HO1 := Lib.hid ho1
  have HO2 := Lib.hid ho2
  have HU1 := Lib.hid hU1
  have HU2 := Lib.hid hU2
  have WU1 := Lib.hid wU1
  have WU2 := Lib.hid wU2
  clear hC1 hC2 hs1 hs2 ht1 ht2 hf1 hf2 ho1 ho2 hU1 hU2 wU1 wU2 h1 h2
  go_enter Try.func3, Try.ntmps3
  go_upto_region 1 with fail
  refine nameW ?_
  intro wv hwv
  obtain ⟨b, hb⟩ : ∃ b, b = w.heap.size := ⟨_, rfl⟩
  rw [← hb]
  have kb : Blk wv b 27 (askC C1 C2 nd z) := by rw [hwv, hb]; exact Blk.new w _ _
  have gb : Below b w wv := by rw [hwv, hb]; exact (Below.refl _ _).alloc (Nat.le_refl _) _
  have HB := Lib.hid hb
  clear hwv hb
  go_wp2_with fail
  refine (alive29_any _).mono ?_
  rintro e w1 ⟨rfl, b1⟩
  have kb := kb.below b1 kb.lt
  have gb := gb.trans (b1.mono (by have := gb.size; have := HB.out; omega))
  have HR1 := Lib.hid (fun (w' : World) (hb : Below w1.heap.size w1 w') => ask_r1 (kb.below hb kb.lt))
  have HR2 := Lib.hid (fun (w' : World) (hb : Below w1.heap.size w1 w') => ask_r2 (kb.below hb kb.lt) HS1.out)
  have HN := Lib.hid (fun (w' : World) (hb : Below w1.heap.size w1 w') => ask_n (kb.below hb kb.lt) HS1.out HS2.out)
  have HGB := Lib.hid gb
  clear b1 kb gb
  go_upto_region 3 with fail
  refine wp_region_facts (fun L v w => v 1 = .pointer (some ⟨b, 0, none⟩) ∧ Below w1.heap.size w1 w ∧ (L 0 = true → v 17 = .pointer (some ⟨b, 0, none⟩)) ∧ (L 1 = true → v 18 = .agg C1) ∧ (L 2 = true → v 19 = .pointer (some ⟨b, 9, none⟩)) ∧ (L 3 = true → v 20 = .agg C2) ∧ (L 4 = true → v 21 = .pointer (some ⟨b, 18, none⟩)) ∧ (L 5 = true → v 22 = .int .i64 nd) ∧ (L 6 = true → v 23 = .pointer (some ⟨b, 19, none⟩)) ∧ (L 7 = true → v 24 = .int .i64 z) ∧ Al 25 9 w1.heap.size (L 8) (L 10) (v 3) (v 18) w ∧ Al 25 9 w1.heap.size (L 9) (L 11) (v 4) (v 20) w ∧ (L 12 = true → v 5 = .int .i64 nd) ∧ (L 13 = true → v 6 = .int .i64 z) ∧ TwoP (L 8) (L 9) (v 3) (v 4)) [17, 18, 19, 20, 21, 22, 23, 24, 3, 4, 5, 6] (by kernel_rfl) (by kernel_rfl) (by kernel_rfl) (by kernel_rfl) ?h0 ?hst ?hend
  case h0 =>
    intro L h0
    have h0 : ∀ i, i < 14 → L i = false := h0
    exact ⟨rfl, (Below.refl _ _).drew, offF h0 (i := 0) (by decide), offF h0 (i := 1) (by decide), offF h0 (i := 2) (by decide), offF h0 (i := 3) (by decide), offF h0 (i := 4) (by decide), offF h0 (i := 5) (by decide), offF h0 (i := 6) (by decide), offF h0 (i := 7) (by decide), Al.none_ (h0 8 (by decide)) (h0 10 (by decide)), Al.none_ (h0 9 (by decide)) (h0 11 (by decide)), offF h0 (i := 12) (by decide), offF h0 (i := 13) (by decide), offF h0 (i := 8) (by decide)⟩
  case hst =>
    show FactSteps _ _ _ _ [0, 1, 2, 3, 4, 5, 6, 7, 8, 9, 10, 11, 12, 13]
    refine @FactSteps.cons _ _ _ _ 0 _ [] _ rfl (by kernel_rfl) ?s0 ?_
    rotate_left
    refine @FactSteps.cons _ _ _ _ 1 _ [0] _ rfl (by kernel_rfl) ?s1 ?_
    rotate_left
    refine @FactSteps.cons _ _ _ _ 2 _ [] _ rfl (by kernel_rfl) ?s2 ?_
    rotate_left
    refine @FactSteps.cons _ _ _ _ 3 _ [2] _ rfl (by kernel_rfl) ?s3 ?_
    rotate_left
    refine @FactSteps.cons _ _ _ _ 4 _ [] _ rfl (by kernel_rfl) ?s4 ?_
    rotate_left
    refine @FactSteps.cons _ _ _ _ 5 _ [4] _ rfl (by kernel_rfl) ?s5 ?_
    rotate_left
    refine @FactSteps.cons _ _ _ _ 6 _ [] _ rfl (by kernel_rfl) ?s6 ?_
    rotate_left
    refine @FactSteps.cons _ _ _ _ 7 _ [6] _ rfl (by kernel_rfl) ?s7 ?_
    rotate_left
    refine @FactSteps.cons _ _ _ _ 8 _ [] _ rfl (by kernel_rfl) ?s8 ?_
    rotate_left
    refine @FactSteps.cons _ _ _ _ 9 _ [] _ rfl (by kernel_rfl) ?s9 ?_
    rotate_left
    refine @FactSteps.cons _ _ _ _ 10 _ [8, 1, 0, 1, 8, 9] _ rfl (by kernel_rfl) ?s10 ?_
    rotate_left
    refine @FactSteps.cons _ _ _ _ 11 _ [9, 3, 10, 0, 1, 2, 3, 8, 9, 10] _ rfl (by kernel_rfl) ?s11 ?_
    rotate_left
    refine @FactSteps.cons _ _ _ _ 12 _ [5, 11, 0, 1, 2, 3, 4, 5, 8, 9, 10, 11] _ rfl (by kernel_rfl) ?s12 ?_
    rotate_left
    refine @FactSteps.cons _ _ _ _ 13 _ [7, 12, 0, 1, 2, 3, 4, 5, 6, 7, 8, 9, 10, 11, 12] _ rfl (by kernel_rfl) ?s13 ?_
    rotate_left
    exact FactSteps.nil
    case s0 =>
      rintro L a v w hv hg hL hd hcl ⟨e1, hb, f0, f1, f2, f3, f4, f5, f6, f7, f8, f9, f12, f13, d8_9⟩ K hK
      refine step_do rfl ?_
      clear hv
      go_simp
      exact hK.out _ _ ⟨e1, hb, fun _ => rfl, f1, f2, f3, f4, f5, f6, f7, f8, f9, f12, f13, d8_9⟩
    case s1 =>
      rintro L a v w hv hg hL hd hcl ⟨e1, hb, f0, f1, f2, f3, f4, f5, f6, f7, f8, f9, f12, f13, d8_9⟩ K hK
      have c10 : L 10 = false := off_of hcl (j := 10) (by kernel_rfl : waitsAt _ 10 = [8, 1, 0, 1, 8, 9]) (d := 1) (by decide) hL
      have g0 := f0 (hd 0 (by decide))
      refine step_do rfl ?_
      refine wp_ldm rowRM (.tmp 17) rfl ((hv 17).trans g0) (HR1.out w hb) (show C1.toList.length = 9 from HS1.out) ?_
      exact hK.out _ _ ⟨e1, hb, f0, fun _ => rfl, f2, f3, f4, f5, f6, f7, f8.other c10, f9, f12, f13, d8_9⟩
    case s2 =>
      rintro L a v w hv hg hL hd hcl ⟨e1, hb, f0, f1, f2, f3, f4, f5, f6, f7, f8, f9, f12, f13, d8_9⟩ K hK
      refine step_do rfl ?_
      clear hv
      go_simp
      exact hK.out _ _ ⟨e1, hb, f0, f1, fun _ => rfl, f3, f4, f5, f6, f7, f8, f9, f12, f13, d8_9⟩
    case s3 =>
      rintro L a v w hv hg hL hd hcl ⟨e1, hb, f0, f1, f2, f3, f4, f5, f6, f7, f8, f9, f12, f13, d8_9⟩ K hK
      have c11 : L 11 = false := off_of hcl (j := 11) (by kernel_rfl : waitsAt _ 11 = [9, 3, 10, 0, 1, 2, 3, 8, 9, 10]) (d := 3) (by decide) hL
      have g2 := f2 (hd 2 (by decide))
      refine step_do rfl ?_
      refine wp_ldm rowRM (.tmp 19) rfl ((hv 19).trans g2) (HR2.out w hb) (show C2.toList.length = 9 from HS2.out) ?_
      exact hK.out _ _ ⟨e1, hb, f0, f1, f2, fun _ => rfl, f4, f5, f6, f7, f8, f9.other c11, f12, f13, d8_9⟩
    case s4 =>
      rintro L a v w hv hg hL hd hcl ⟨e1, hb, f0, f1, f2, f3, f4, f5, f6, f7, f8, f9, f12, f13, d8_9⟩ K hK
      refine step_do rfl ?_
      clear hv
      go_simp
      exact hK.out _ _ ⟨e1, hb, f0, f1, f2, f3, fun _ => rfl, f5, f6, f7, f8, f9, f12, f13, d8_9⟩
    case s5 =>
      rintro L a v w hv hg hL hd hcl ⟨e1, hb, f0, f1, f2, f3, f4, f5, f6, f7, f8, f9, f12, f13, d8_9⟩ K hK
      have g4 := f4 (hd 4 (by decide))
      have c18 := (HN.out w hb).1
      refine step_do rfl ?_
      clear hv
      go_simp
      exact hK.out _ _ ⟨e1, hb, f0, f1, f2, f3, f4, fun _ => rfl, f6, f7, f8, f9, f12, f13, d8_9⟩
    case s6 =>
      rintro L a v w hv hg hL hd hcl ⟨e1, hb, f0, f1, f2, f3, f4, f5, f6, f7, f8, f9, f12, f13, d8_9⟩ K hK
      refine step_do rfl ?_
      clear hv
      go_simp
      exact hK.out _ _ ⟨e1, hb, f0, f1, f2, f3, f4, f5, fun _ => rfl, f7, f8, f9, f12, f13, d8_9⟩
    case s7 =>
      rintro L a v w hv hg hL hd hcl ⟨e1, hb, f0, f1, f2, f3, f4, f5, f6, f7, f8, f9, f12, f13, d8_9⟩ K hK
      have g6 := f6 (hd 6 (by decide))
      have c19 := (HN.out w hb).2
      refine step_do rfl ?_
      clear hv
      go_simp
      exact hK.out _ _ ⟨e1, hb, f0, f1, f2, f3, f4, f5, f6, fun _ => rfl, f8, f9, f12, f13, d8_9⟩
    case s8 =>
      rintro L a v w hv hg hL hd hcl ⟨e1, hb, f0, f1, f2, f3, f4, f5, f6, f7, f8, f9, f12, f13, d8_9⟩ K hK
      refine step_do rfl ?_
      go_simp
      have bb : Below w.heap.size w (w.alloc (.cells (uc z8 (.slice none 0 0)) 25)) := (Below.refl _ _).alloc (Nat.le_refl _) _
      rw [hL] at f8
      exact hK.out _ _ ⟨e1, (hb.trans (bb.mono hb.size)), f0, f1, f2, f3, f4, f5, f6, f7, f8.alloc_ hb.size rfl, f9.below bb, f12, f13, fun _ h => (by have f := f9; rw [show L 9 = true from h] at f; exact fun e => f.lt e.symm)⟩
    case s9 =>
      rintro L a v w hv hg hL hd hcl ⟨e1, hb, f0, f1, f2, f3, f4, f5, f6, f7, f8, f9, f12, f13, d8_9⟩ K hK
      refine step_do rfl ?_
      go_simp
      have bb : Below w.heap.size w (w.alloc (.cells (uc z8 (.slice none 0 0)) 25)) := (Below.refl _ _).alloc (Nat.le_refl _) _
      rw [hL] at f9
      exact hK.out _ _ ⟨e1, (hb.trans (bb.mono hb.size)), f0, f1, f2, f3, f4, f5, f6, f7, f8.below bb, f9.alloc_ hb.size rfl, f12, f13, fun h _ => (by have f := f8; rw [show L 8 = true from h] at f; exact f.lt)⟩
    case s10 =>
      rintro L a v w hv hg hL hd hcl ⟨e1, hb, f0, f1, f2, f3, f4, f5, f6, f7, f8, f9, f12, f13, d8_9⟩ K hK
      have ha : L 8 = true := hd 8 (by decide)
      obtain ⟨g, ds, ep, hg, kk, hds, _⟩ := f8.2 ha
      refine step_do rfl ?_
      refine wp_st (cs := C1) rowRM (.tmp 3) (.tmp 18) rfl ((hv 3).trans ep) ((hv 18).trans (f1 (hd 1 (by decide)))) kk HS1.out hds HO1.out ?_
      intro wy ky gy zy
      have bY : Below w1.heap.size w wy := only_Below gy hg hb.size
      exact hK.out _ _ ⟨e1, (hb.trans bY), f0, f1, f2, f3, f4, f5, f6, f7, Al.stored ha ep hg ky HS1.out (f1 (hd 1 (by decide))), f9.far gy (fun h e => d8_9 ha h (ep.trans e.symm)), f12, f13, d8_9⟩
    case s11 =>
      rintro L a v w hv hg hL hd hcl ⟨e1, hb, f0, f1, f2, f3, f4, f5, f6, f7, f8, f9, f12, f13, d8_9⟩ K hK
      have ha : L 9 = true := hd 9 (by decide)
      obtain ⟨g, ds, ep, hg, kk, hds, _⟩ := f9.2 ha
      refine step_do rfl ?_
      refine wp_st (cs := C2) rowRM (.tmp 4) (.tmp 20) rfl ((hv 4).trans ep) ((hv 20).trans (f3 (hd 3 (by decide)))) kk HS2.out hds HO2.out ?_
      intro wy ky gy zy
      have bY : Below w1.heap.size w wy := only_Below gy hg hb.size
      exact hK.out _ _ ⟨e1, (hb.trans bY), f0, f1, f2, f3, f4, f5, f6, f7, f8.far gy (fun h e => d8_9 h ha (e.trans ep.symm)), Al.stored ha ep hg ky HS2.out (f3 (hd 3 (by decide))), f12, f13, d8_9⟩
    case s12 =>
      rintro L a v w hv hg hL hd hcl ⟨e1, hb, f0, f1, f2, f3, f4, f5, f6, f7, f8, f9, f12, f13, d8_9⟩ K hK
      have g0 := f0 (hd 0 (by decide))
      have g1 := f1 (hd 1 (by decide))
      have g2 := f2 (hd 2 (by decide))
      have g3 := f3 (hd 3 (by decide))
      have g4 := f4 (hd 4 (by decide))
      have g5 := f5 (hd 5 (by decide))
      refine step_do rfl ?_
      clear hv
      go_simp
      exact hK.out _ _ ⟨e1, hb, f0, f1, f2, f3, f4, f5, f6, f7, f8, f9, fun _ => rfl, f13, d8_9⟩
    case s13 =>
      rintro L a v w hv hg hL hd hcl ⟨e1, hb, f0, f1, f2, f3, f4, f5, f6, f7, f8, f9, f12, f13, d8_9⟩ K hK
      have g0 := f0 (hd 0 (by decide))
      have g1 := f1 (hd 1 (by decide))
      have g2 := f2 (hd 2 (by decide))
      have g3 := f3 (hd 3 (by decide))
      have g4 := f4 (hd 4 (by decide))
      have g5 := f5 (hd 5 (by decide))
      have g6 := f6 (hd 6 (by decide))
      have g7 := f7 (hd 7 (by decide))
      have g12 := f12 (hd 12 (by decide))
      refine step_do rfl ?_
      clear hv
      go_simp
      exact hK.out _ _ ⟨e1, hb, f0, f1, f2, f3, f4, f5, f6, f7, f8, f9, f12, fun _ => rfl, d8_9⟩
  case hend =>
  rintro L v w3 hall ⟨e1, hb, f0, f1, f2, f3, f4, f5, f6, f7, f8, f9, f12, f13, d8_9⟩
  have hL : ∀ i, i < 14 → L i = true := hall
  have f0 := f0 (hL 0 (by decide))
  have f1 := f1 (hL 1 (by decide))
  have f2 := f2 (hL 2 (by decide))
  have f3 := f3 (hL 3 (by decide))
  have f4 := f4 (hL 4 (by decide))
  have f5 := f5 (hL 5 (by decide))
  have f6 := f6 (hL 6 (by decide))
  have f7 := f7 (hL 7 (by decide))
  rw [hL 8 (by decide), hL 10 (by decide)] at f8
  rw [hL 9 (by decide), hL 11 (by decide)] at f9
  have f12 := f12 (hL 12 (by decide))
  have f13 := f13 (hL 13 (by decide))
  have d8_9 := d8_9 (hL 8 (by decide)) (hL 9 (by decide))
  obtain ⟨g3, ds, e3, ey, hg3, k3, _⟩ := f8.fin
  rw [f1] at ey
  injection ey with ey
  subst ey
  obtain ⟨g4, ds, e4, ey, hg4, k4, _⟩ := f9.fin
  rw [f3] at ey
  injection ey with ey
  subst ey
  simp only [finA, List.foldl_cons, List.foldl_nil, Act.put, List.setIfInBounds_toArray, List.set_cons_succ, List.set_cons_zero, f0, f1, f2, f3, f4, f5, f6, f7, f12, f13, e3, e4]
  have b3 : Below b w w3 := HGB.out.trans (hb.mono (by have := HGB.out.size; have := HB.out; omega))
  clear e1 f0 f1 f2 f3 f4 f5 f6 f7 f8 f9 f12 f13 d8_9 hL hall e3 e4 hb
  have t38 : w3.cell? ⟨g3, 8, none⟩ = some (.slice A1 n1 c1) := (k3.cell 8).trans HT1.out
  have t48 : w3.cell? ⟨g4, 8, none⟩ = some (.slice A2 n2 c2) := (k4.cell 8).trans HT2.out
  by_cases hg1 : 1000 < n1
  · have hd1 : decide ((1000 : Int) < (n1 : Int)) = true := decide_eq_true (by omega)
    go_wp2_with fail
    go_ret
    exact ⟨rfl, by rw [← HB.out]; exact b3⟩
  have hd1 : decide ((1000 : Int) < (n1 : Int)) = false := decide_eq_false (by omega)
  by_cases hg2 : 1000 < n2
  · have hd2 : decide ((1000 : Int) < (n2 : Int)) = true := decide_eq_true (by omega)
    go_wp2_with fail
    go_ret
    exact ⟨rfl, by rw [← HB.out]; exact b3⟩
  have hd2 : decide ((1000 : Int) < (n2 : Int)) = false := decide_eq_false (by omega)
  have bw3 : Below w.heap.size w w3 := by rw [← HB.out]; exact b3
  have HX := Lib.hid (fun (w' : World) (hb : Below w3.heap.size w3 w') => ((HF1.out (by omega)).below bw3).below hb)
  have HY := Lib.hid (fun (w' : World) (hb : Below w3.heap.size w3 w') => ((HF2.out (by omega)).below bw3).below hb)
  go_upto_region 6 with fail
  clear t38 t48 hd1 hd2
  refine wp_region_facts (fun L v w => v 3 = .pointer (some ⟨g3, 0, none⟩) ∧ v 4 = .pointer (some ⟨g4, 0, none⟩) ∧ Below w3.heap.size w3 w ∧ (L 0 = true → v 35 = .agg C1) ∧ (L 1 = true → FreshO 49 U1 l1 (v 36) w) ∧ (L 2 = true → v 37 = .agg C2) ∧ (L 3 = true → FreshO 49 U2 l2 (v 38) w) ∧ Al 31 9 w3.heap.size (L 4) (L 6) (v 7) (v 36) w ∧ Al 31 9 w3.heap.size (L 5) (L 7) (v 8) (v 38) w ∧ TwoP (L 4) (L 5) (v 7) (v 8)) [35, 36, 37, 38, 7, 8] (by kernel_rfl) (by kernel_rfl) (by kernel_rfl) (by kernel_rfl) ?h0 ?hst ?hend
  case h0 =>
    intro L h0
    have h0 : ∀ i, i < 8 → L i = false := h0
    exact ⟨rfl, rfl, (Below.refl _ _).drew, offF h0 (i := 0) (by decide), offF h0 (i := 1) (by decide), offF h0 (i := 2) (by decide), offF h0 (i := 3) (by decide), Al.none_ (h0 4 (by decide)) (h0 6 (by decide)), Al.none_ (h0 5 (by decide)) (h0 7 (by decide)), offF h0 (i := 4) (by decide)⟩
  case hst =>
    show FactSteps _ _ _ _ [0, 1, 2, 3, 4, 5, 6, 7]
    refine @FactSteps.cons _ _ _ _ 0 _ [] _ rfl (by kernel_rfl) ?s0 ?_
    rotate_left
    refine @FactSteps.cons _ _ _ _ 1 _ [0] _ rfl (by kernel_rfl) ?s1 ?_
    rotate_left
    refine @FactSteps.cons _ _ _ _ 2 _ [] _ rfl (by kernel_rfl) ?s2 ?_
    rotate_left
    refine @FactSteps.cons _ _ _ _ 3 _ [2, 1] _ rfl (by kernel_rfl) ?s3 ?_
    rotate_left
    refine @FactSteps.cons _ _ _ _ 4 _ [] _ rfl (by kernel_rfl) ?s4 ?_
    rotate_left
    refine @FactSteps.cons _ _ _ _ 5 _ [] _ rfl (by kernel_rfl) ?s5 ?_
    rotate_left
    refine @FactSteps.cons _ _ _ _ 6 _ [4, 1, 3, 0, 1, 4, 5] _ rfl (by kernel_rfl) ?s6 ?_
    rotate_left
    refine @FactSteps.cons _ _ _ _ 7 _ [5, 3, 6, 0, 1, 2, 3, 4, 5, 6] _ rfl (by kernel_rfl) ?s7 ?_
    rotate_left
    exact FactSteps.nil
    case s0 =>
      rintro L a v w hv hg hL hd hcl ⟨e3, e4, hb, f0, f1, f2, f3, f4, f5, d4_5⟩ K hK
      refine step_do rfl ?_
      refine wp_ld rowRM (.tmp 3) rfl ((hv 3).trans e3) (k3.below hb k3.lt) HS1.out ?_
      exact hK.out _ _ ⟨e3, e4, hb, fun _ => rfl, f1, f2, f3, f4, f5, d4_5⟩
    case s1 =>
      rintro L a v w hv hg hL hd hcl ⟨e3, e4, hb, f0, f1, f2, f3, f4, f5, d4_5⟩ K hK
      have c6 : L 6 = false := off_of hcl (j := 6) (by kernel_rfl : waitsAt _ 6 = [4, 1, 3, 0, 1, 4, 5]) (d := 1) (by decide) hL
      have h0 := f0 (hd 0 (by decide))
      refine step_do rfl ?_
      clear hv
      go_simp
      refine (toF HU1.out (HX.out w hb)).mono ?_
      rintro e wy ⟨q, rfl, hq, bb⟩
      exact hK.out _ _ ⟨e3, e4, (hb.trans (bb.mono hb.size)), f0, fun _ => hq, f2, (fun h => (f3 h).below bb), (f4.below bb).other c6, f5.below bb, d4_5⟩
    case s2 =>
      rintro L a v w hv hg hL hd hcl ⟨e3, e4, hb, f0, f1, f2, f3, f4, f5, d4_5⟩ K hK
      refine step_do rfl ?_
      refine wp_ld rowRM (.tmp 4) rfl ((hv 4).trans e4) (k4.below hb k4.lt) HS2.out ?_
      exact hK.out _ _ ⟨e3, e4, hb, f0, f1, fun _ => rfl, f3, f4, f5, d4_5⟩
    case s3 =>
      rintro L a v w hv hg hL hd hcl ⟨e3, e4, hb, f0, f1, f2, f3, f4, f5, d4_5⟩ K hK
      have c7 : L 7 = false := off_of hcl (j := 7) (by kernel_rfl : waitsAt _ 7 = [5, 3, 6, 0, 1, 2, 3, 4, 5, 6]) (d := 3) (by decide) hL
      have h2 := f2 (hd 2 (by decide))
      refine step_do rfl ?_
      clear hv
      go_simp
      refine (toF HU2.out (HY.out w hb)).mono ?_
      rintro e wy ⟨q, rfl, hq, bb⟩
      exact hK.out _ _ ⟨e3, e4, (hb.trans (bb.mono hb.size)), f0, (fun h => (f1 h).below bb), f2, fun _ => hq, f4.below bb, (f5.below bb).other c7, d4_5⟩
    case s4 =>
      rintro L a v w hv hg hL hd hcl ⟨e3, e4, hb, f0, f1, f2, f3, f4, f5, d4_5⟩ K hK
      refine step_do rfl ?_
      go_simp
      have bb : Below w.heap.size w (w.alloc (.cells (uc z8 (.slice none 0 0)) 31)) := (Below.refl _ _).alloc (Nat.le_refl _) _
      rw [hL] at f4
      exact hK.out _ _ ⟨e3, e4, (hb.trans (bb.mono hb.size)), f0, (fun h => (f1 h).below bb), f2, (fun h => (f3 h).below bb), f4.alloc_ hb.size rfl, f5.below bb, fun _ h => (by have f := f5; rw [show L 5 = true from h] at f; exact fun e => f.lt e.symm)⟩
    case s5 =>
      rintro L a v w hv hg hL hd hcl ⟨e3, e4, hb, f0, f1, f2, f3, f4, f5, d4_5⟩ K hK
      refine step_do rfl ?_
      go_simp
      have bb : Below w.heap.size w (w.alloc (.cells (uc z8 (.slice none 0 0)) 31)) := (Below.refl _ _).alloc (Nat.le_refl _) _
      rw [hL] at f5
      exact hK.out _ _ ⟨e3, e4, (hb.trans (bb.mono hb.size)), f0, (fun h => (f1 h).below bb), f2, (fun h => (f3 h).below bb), f4.below bb, f5.alloc_ hb.size rfl, fun h _ => (by have f := f4; rw [show L 4 = true from h] at f; exact f.lt)⟩
    case s6 =>
      rintro L a v w hv hg hL hd hcl ⟨e3, e4, hb, f0, f1, f2, f3, f4, f5, d4_5⟩ K hK
      have ha : L 4 = true := hd 4 (by decide)
      obtain ⟨g, ds, ep, hg, kk, hds, _⟩ := f4.2 ha
      have fr := (f1 (hd 1 (by decide))).fresh
      obtain ⟨cs1, ev⟩ := fr.agg
      rw [ev] at fr
      have sz1 := fr.size9 HU1.out
      have on1 := fr.one9
      refine step_do rfl ?_
      refine wp_st (cs := cs1) rowM (.tmp 7) (.tmp 36) rfl ((hv 7).trans ep) ((hv 36).trans ev) kk sz1 hds on1 ?_
      intro wy ky gy zy
      have bY : Below w3.heap.size w wy := only_Below gy hg hb.size
      exact hK.out _ _ ⟨e3, e4, (hb.trans bY), f0, (fun h => (f1 h).grown gy kk (by decide)), f2, (fun h => (f3 h).grown gy kk (by decide)), Al.stored ha ep hg ky sz1 ev, f5.far gy (fun h e => d4_5 ha h (ep.trans e.symm)), d4_5⟩
    case s7 =>
      rintro L a v w hv hg hL hd hcl ⟨e3, e4, hb, f0, f1, f2, f3, f4, f5, d4_5⟩ K hK
      have ha : L 5 = true := hd 5 (by decide)
      obtain ⟨g, ds, ep, hg, kk, hds, _⟩ := f5.2 ha
      have fr := (f3 (hd 3 (by decide))).fresh
      obtain ⟨cs2, ev⟩ := fr.agg
      rw [ev] at fr
      have sz2 := fr.size9 HU2.out
      have on2 := fr.one9
      refine step_do rfl ?_
      refine wp_st (cs := cs2) rowM (.tmp 8) (.tmp 38) rfl ((hv 8).trans ep) ((hv 38).trans ev) kk sz2 hds on2 ?_
      intro wy ky gy zy
      have bY : Below w3.heap.size w wy := only_Below gy hg hb.size
      exact hK.out _ _ ⟨e3, e4, (hb.trans bY), f0, (fun h => (f1 h).grown gy kk (by decide)), f2, (fun h => (f3 h).grown gy kk (by decide)), f4.far gy (fun h e => d4_5 h ha (e.trans ep.symm)), Al.stored ha ep hg ky sz2 ev, d4_5⟩
  case hend =>
  rintro L v w6 hall ⟨e3, e4, hb, f0, f1, f2, f3, f4, f5, d4_5⟩
  have hL : ∀ i, i < 8 → L i = true := hall
  have f0 := f0 (hL 0 (by decide))
  have f1 := f1 (hL 1 (by decide))
  have f2 := f2 (hL 2 (by decide))
  have f3 := f3 (hL 3 (by decide))
  rw [hL 4 (by decide), hL 6 (by decide)] at f4
  rw [hL 5 (by decide), hL 7 (by decide)] at f5
  have d4_5 := d4_5 (hL 4 (by decide)) (hL 5 (by decide))
  obtain ⟨g7, X7, e7, ey7, hg7, k7, s7⟩ := f4.fin
  obtain ⟨g8, X8, e8, ey8, hg8, k8, s8⟩ := f5.fin
  simp only [finA, List.foldl_cons, List.foldl_nil, Act.put, List.setIfInBounds_toArray, List.set_cons_succ, List.set_cons_zero, f0, f2, e7, e8, ey7, ey8]
  rw [ey7] at f1
  rw [ey8] at f3
  have h7 := f1
  have h8 := f3
  have k3 := k3.below hb k3.lt
  have k4 := k4.below hb k4.lt
  have h3 := HX.out w6 hb
  have h4 := HY.out w6 hb
  have gb := bw3.trans (hb.mono bw3.size)
  clear f0 f1 f2 f3 f4 f5 e3 e4 d4_5 e7 e8 ey7 ey8 hb hall hL HX HY bw3 b3 HF1 HF2 HR1 HR2 HN HGB HT1 HT2 hg3 hg4
  obtain ⟨PR, hPR⟩ : ∃ PR, PR = putM U1 l1 nd z := ⟨_, rfl⟩
  have HPU := Lib.hid (show PR.1.1.length = 8 by rw [hPR]; exact putM_len8 HU1.out _ _ _)
  have HPW := Lib.hid (show Wf PR.1.1 by rw [hPR]; exact putM_wf HU1.out WU1.out _ _ _)
  have hp1 := fun (w' : World) (q : Value) (h : Fresh U1 l1 q w') => putF HU1.out nd z h
  have hp2 := fun (w' : World) (q : Value) (h : Fresh U1 l1 q w') => rputF HU1.out nd z h
  rw [← hPR] at hp1 hp2
  have HP1 := Lib.hid hp1
  have HP2 := Lib.hid hp2
  clear hp1 hp2 hPR
  obtain ⟨⟨PU, Pl⟩, E⟩ := PR
  simp only at HPU HPW HP1 HP2
  go_wp2_with first
    | ((with_reducible refine wpList_ld rowM k7 s7 ?_ ?_); rotate_left; (rfl))
    | ((with_reducible refine wpList_ld rowRM k3 HS1.out ?_ ?_); rotate_left; (rfl))
    | ((with_reducible refine wpList_ld rowM k8 s8 ?_ ?_); rotate_left; (rfl))
    | ((with_reducible refine wpList_ld rowRM k4 HS2.out ?_ ?_); rotate_left; (rfl))
  refine (HP1.out _ _ h7.fresh).mono ?_
  rintro e wa ⟨q, rfl, h9, bb⟩
  obtain ⟨P9, rfl⟩ := h9.fresh.agg
  have s9 := h9.fresh.size9 HPU.out
  have o9 := h9.fresh.one9
  have k3 := k3.below bb k3.lt
  have k4 := k4.below bb k4.lt
  have k7 := k7.below bb k7.lt
  have k8 := k8.below bb k8.lt
  have h3 := h3.below bb
  have h4 := h4.below bb
  have h7 := h7.below bb
  have h8 := h8.below bb
  have gb := gb.trans (bb.mono gb.size)
  clear bb
  go_upto_region 8 with first
    | ((with_reducible refine wpList_ld rowM k7 s7 ?_ ?_); rotate_left; (rfl))
    | ((with_reducible refine wpList_ld rowRM k3 HS1.out ?_ ?_); rotate_left; (rfl))
    | ((with_reducible refine wpList_ld rowM k8 s8 ?_ ?_); rotate_left; (rfl))
    | ((with_reducible refine wpList_ld rowRM k4 HS2.out ?_ ?_); rotate_left; (rfl))
    | ((with_reducible refine wpList_st rowM (Blk.new _ _ _) s9 ?_ o9 ?_ ?_ ?_); (rfl); rotate_left; (rfl); (rfl); intro gaw k9 ga gaz)
  have bb := new_below ga
  have h9 := h9.below bb
  have k3 := k3.below bb k3.lt
  have k4 := k4.below bb k4.lt
  have k7 := k7.below bb k7.lt
  have k8 := k8.below bb k8.lt
  have h3 := h3.below bb
  have h4 := h4.below bb
  have h7 := h7.below bb
  have h8 := h8.below bb
  have gb := gb.trans (bb.mono gb.size)
  clear bb
  go_wp2_with first
    | ((with_reducible refine wpList_ld rowM k7 s7 ?_ ?_); rotate_left; (rfl))
    | ((with_reducible refine wpList_ld rowRM k3 HS1.out ?_ ?_); rotate_left; (rfl))
    | ((with_reducible refine wpList_ld rowM k8 s8 ?_ ?_); rotate_left; (rfl))
    | ((with_reducible refine wpList_ld rowRM k4 HS2.out ?_ ?_); rotate_left; (rfl))
    | ((with_reducible refine wpList_ld rowM k9 s9 ?_ ?_); rotate_left; (rfl))
  refine (HP2.out _ _ h3).mono ?_
  rintro e wc ⟨q, rfl, h11, bb⟩
  obtain ⟨Q11, rfl⟩ := h11.fresh.agg
  have s11 := h11.fresh.size9 HPU.out
  have o11 := h11.fresh.one9
  have k3 := k3.below bb k3.lt
  have k4 := k4.below bb k4.lt
  have k7 := k7.below bb k7.lt
  have k8 := k8.below bb k8.lt
  have k9 := k9.below bb k9.lt
  have h3 := h3.below bb
  have h4 := h4.below bb
  have h7 := h7.below bb
  have h8 := h8.below bb
  have h9 := h9.below bb
  have gb := gb.trans (bb.mono gb.size)
  clear bb
  go_upto_region 9 with first
    | ((with_reducible refine wpList_ld rowM k7 s7 ?_ ?_); rotate_left; (rfl))
    | ((with_reducible refine wpList_ld rowRM k3 HS1.out ?_ ?_); rotate_left; (rfl))
    | ((with_reducible refine wpList_ld rowM k8 s8 ?_ ?_); rotate_left; (rfl))
    | ((with_reducible refine wpList_ld rowRM k4 HS2.out ?_ ?_); rotate_left; (rfl))
    | ((with_reducible refine wpList_ld rowM k9 s9 ?_ ?_); rotate_left; (rfl))
    | ((with_reducible refine wpList_st rowRM (Blk.new _ _ _) s11 ?_ o11 ?_ ?_ ?_); (rfl); rotate_left; (rfl); (rfl); intro gdw k11 gd gdz)
  have bb := new_below gd
  have h11 := h11.below bb
  have k3 := k3.below bb k3.lt
  have k4 := k4.below bb k4.lt
  have k7 := k7.below bb k7.lt
  have k8 := k8.below bb k8.lt
  have k9 := k9.below bb k9.lt
  have h3 := h3.below bb
  have h4 := h4.below bb
  have h7 := h7.below bb
  have h8 := h8.below bb
  have h9 := h9.below bb
  have gb := gb.trans (bb.mono gb.size)
  clear bb
  obtain ⟨MU, hMU⟩ : ∃ MU, MU = maxL (ownM U1 l1).1 (ownM U2 l2).1 := ⟨_, rfl⟩
  obtain ⟨Ml, hMl⟩ : ∃ Ml, Ml = meetL (ownM U1 l1).1 (ownM U2 l2).1 (ownM U1 l1).2 (ownM U2 l2).2 := ⟨_, rfl⟩
  have HM8 := Lib.hid (show MU.length = 8 by rw [hMU]; exact maxL_len _ _)
  have HMW := Lib.hid (show Wf MU by rw [hMU]; exact maxL_wf (ownM_len HU1.out _) (ownM_len HU2.out _) (ownM_wf WU1.out _) (ownM_wf WU2.out _))
  have HML := Lib.hid (show Ml.length ≤ 8 by rw [hMl]; exact meetL_len _ _ _ _)
  have hm1 := fun (w' : World) (q q2 : Value) (h : Fresh U1 l1 q w') (h2 : Fresh U2 l2 q2 w') => meetC HU1.out HU2.out h h2
  have hm2 := fun (w' : World) (q q2 : Value) (h : Fresh U1 l1 q w') (h2 : Fresh U2 l2 q2 w') => rmeetF HU1.out HU2.out h h2
  rw [← hMU, ← hMl] at hm1 hm2
  have HM1 := Lib.hid hm1
  have HM2 := Lib.hid hm2
  clear hm1 hm2 hMU hMl
  go_wp2_with first
    | ((with_reducible refine wpList_ld rowM k7 s7 ?_ ?_); rotate_left; (rfl))
    | ((with_reducible refine wpList_ld rowRM k3 HS1.out ?_ ?_); rotate_left; (rfl))
    | ((with_reducible refine wpList_ld rowM k8 s8 ?_ ?_); rotate_left; (rfl))
    | ((with_reducible refine wpList_ld rowRM k4 HS2.out ?_ ?_); rotate_left; (rfl))
    | ((with_reducible refine wpList_ld rowM k9 s9 ?_ ?_); rotate_left; (rfl))
    | ((with_reducible refine wpList_ld rowRM k11 s11 ?_ ?_); rotate_left; (rfl))
  obtain ⟨B, hBe⟩ : ∃ B, B = gdw.heap.size := ⟨_, rfl⟩
  refine (HM1.out _ _ _ h7.fresh h8.fresh).mono ?_
  rintro e we ⟨A13, m13, c13, rfl, o13, bb⟩
  rw [← hBe] at o13
  have bm := bb
  rw [← hBe] at bm
  have p3 : HoldM B U1 l1 (.agg C1) gdw := by rw [hBe]; exact h3
  have p4 : HoldM B U2 l2 (.agg C2) gdw := by rw [hBe]; exact h4
  have p7 : HoldM B U1 l1 (.agg X7) gdw := by rw [hBe]; exact h7.fresh
  have p8 : HoldM B U2 l2 (.agg X8) gdw := by rw [hBe]; exact h8.fresh
  have j3 := k3
  have j4 := k4
  have j7 := k7
  have j8 := k8
  have q3 : g3 < B := by rw [hBe]; exact k3.lt
  have q4 : g4 < B := by rw [hBe]; exact k4.lt
  have q7 : g7 < B := by rw [hBe]; exact k7.lt
  have q8 : g8 < B := by rw [hBe]; exact k8.lt
  obtain ⟨M13, hM13⟩ : ∃ M13, M13 = uc MU (.slice A13 m13 c13) := ⟨_, rfl⟩
  rw [← hM13]
  have s13 : M13.size = 9 := by rw [hM13]; exact uc_size HM8.out _
  have on13 : M13.all (·.oneCell') = true := by rw [hM13]; exact uc_one rfl
  have hm13 : m13 ≤ 8 := by rw [o13.1]; exact HML.out
  have h13 : FreshO 49 MU Ml (.agg M13) we := ⟨A13, m13, c13, by rw [hM13], o13.mono (Nat.zero_le _), by omega⟩
  have HT13 := Lib.hid (show M13[8]? = some (.slice A13 m13 c13) by rw [hM13]; exact uc_last HM8.out _)
  have HBe := Lib.hid hBe
  have HBw := Lib.hid (show w.heap.size ≤ B by rw [hBe]; exact gb.size)
  have GBD := Lib.hid gb
  have HJ := Lib.hid (And.intro p3 (And.intro p4 (And.intro p7 (And.intro p8 (And.intro j3 (And.intro j4 (And.intro j7 j8)))))))
  clear hM13 hBe p3 p4 p7 p8 j3 j4 j7 j8
  have k3 := k3.below bb k3.lt
  have k4 := k4.below bb k4.lt
  have k7 := k7.below bb k7.lt
  have k8 := k8.below bb k8.lt
  have k9 := k9.below bb k9.lt
  have k11 := k11.below bb k11.lt
  have h3 := h3.below bb
  have h4 := h4.below bb
  have h7 := h7.below bb
  have h8 := h8.below bb
  have h9 := h9.below bb
  have h11 := h11.below bb
  have gb := gb.trans (bb.mono gb.size)
  clear bb
  go_upto_region 10 with first
    | ((with_reducible refine wpList_ld rowM k7 s7 ?_ ?_); rotate_left; (rfl))
    | ((with_reducible refine wpList_ld rowRM k3 HS1.out ?_ ?_); rotate_left; (rfl))
    | ((with_reducible refine wpList_ld rowM k8 s8 ?_ ?_); rotate_left; (rfl))
    | ((with_reducible refine wpList_ld rowRM k4 HS2.out ?_ ?_); rotate_left; (rfl))
    | ((with_reducible refine wpList_ld rowM k9 s9 ?_ ?_); rotate_left; (rfl))
    | ((with_reducible refine wpList_ld rowRM k11 s11 ?_ ?_); rotate_left; (rfl))
    | ((with_reducible refine wpList_st rowM (Blk.new _ _ _) s13 ?_ on13 ?_ ?_ ?_); (rfl); rotate_left; (rfl); (rfl); intro gfw k13 gf gfz)
  have bb := new_below gf
  have h13 := h13.below bb
  have o13 := o13.below bb (Nat.le_refl _)
  have bm := bm.trans (bb.mono (by have := bm.size; have := HBe.out; omega))
  have k3 := k3.below bb k3.lt
  have k4 := k4.below bb k4.lt
  have k7 := k7.below bb k7.lt
  have k8 := k8.below bb k8.lt
  have k9 := k9.below bb k9.lt
  have k11 := k11.below bb k11.lt
  have h3 := h3.below bb
  have h4 := h4.below bb
  have h7 := h7.below bb
  have h8 := h8.below bb
  have h9 := h9.below bb
  have h11 := h11.below bb
  have gb := gb.trans (bb.mono gb.size)
  clear bb
  obtain ⟨rR, hrR⟩ : ∃ rR, rR = rightM U1 l1 := ⟨_, rfl⟩
  obtain ⟨VL, hVL⟩ : ∃ VL, VL = valuesM U1 l1 := ⟨_, rfl⟩
  have hr1 := fun (w' : World) (q : Value) (h : Fresh U1 l1 q w') => rightF HU1.out h
  have hr2 := fun (w' : World) (q : Value) (h : Fresh U1 l1 q w') => rrightF HU1.out h
  have hv1 := fun (w' : World) (q : Value) (h : Fresh U1 l1 q w') => valuesF HU1.out h
  have hv2 := fun (w' : World) (q : Value) (h : Fresh U1 l1 q w') => rvaluesF HU1.out h
  rw [← hrR] at hr1 hr2
  rw [← hVL] at hv1 hv2
  have HRI1 := Lib.hid hr1
  have HRI2 := Lib.hid hr2
  have HV1 := Lib.hid hv1
  have HV2 := Lib.hid hv2
  clear hr1 hr2 hv1 hv2 hrR hVL
  refine wp_region_facts (fun L v w => v 7 = .pointer (some ⟨g7, 0, none⟩) ∧ v 8 = .pointer (some ⟨g8, 0, none⟩) ∧ v 3 = .pointer (some ⟨g3, 0, none⟩) ∧ v 4 = .pointer (some ⟨g4, 0, none⟩) ∧ v 9 = .pointer (some ⟨wa.heap.size, 0, none⟩) ∧ v 11 = .pointer (some ⟨wc.heap.size, 0, none⟩) ∧ v 13 = .pointer (some ⟨we.heap.size, 0, none⟩) ∧ v 10 = .int .i64 E ∧ v 12 = .int .i64 E ∧ Below gfw.heap.size gfw w ∧ (L 0 = true → v 56 = .agg X7) ∧ (L 1 = true → v 57 = .bool rR) ∧ (L 2 = true → v 58 = .agg C1) ∧ (L 3 = true → v 59 = .bool rR) ∧ (L 4 = true → v 60 = .bool false) ∧ (L 5 = true → v 61 = .bool false) ∧ (L 6 = true → v 62 = .agg P9) ∧ (L 7 = true → FreshO 105 PU Pl (v 63) w) ∧ (L 8 = true → v 64 = .agg Q11) ∧ (L 9 = true → v 65 = .bool true) ∧ (L 10 = true → v 66 = .bool false) ∧ (L 11 = true → v 67 = .bool false) ∧ (L 12 = true → v 68 = .bool false) ∧ (L 13 = true → v 69 = .int .i64 E) ∧ (L 14 = true → v 70 = .int .i64 E) ∧ (L 15 = true → v 71 = .bool false) ∧ (L 16 = true → v 72 = .bool false) ∧ (L 17 = true → v 73 = .bool false) ∧ (L 18 = true → v 74 = .agg M13) ∧ (L 19 = true → FreshO 105 MU Ml (v 75) w) ∧ (L 20 = true → v 76 = .agg C1) ∧ (L 21 = true → v 77 = .agg C2) ∧ (L 22 = true → FreshO 105 MU Ml (v 78) w) ∧ (L 23 = true → v 79 = .bool true) ∧ (L 24 = true → v 80 = .bool false) ∧ (L 25 = true → v 81 = .bool false) ∧ (L 26 = true → v 82 = .bool false) ∧ (L 27 = true → v 83 = .agg X7) ∧ (L 28 = true → FreshI VL (v 84) w) ∧ (L 29 = true → v 85 = .agg C1) ∧ (L 30 = true → FreshI VL (v 86) w) ∧ (L 31 = true → v 87 = .bool true) ∧ (L 32 = true → v 88 = .bool false) ∧ (L 33 = true → v 89 = .bool false)) [56, 57, 58, 59, 60, 61, 62, 63, 64, 65, 66, 67, 68, 69, 70, 71, 72, 73, 74, 75, 76, 77, 78, 79, 80, 81, 82, 83, 84, 85, 86, 87, 88, 89] (by kernel_rfl) (by kernel_rfl) (by kernel_rfl) (by kernel_rfl) ?h0 ?hst ?hend
  case h0 =>
    intro L h0
    have h0 : ∀ i, i < 34 → L i = false := h0
    exact ⟨rfl, rfl, rfl, rfl, rfl, rfl, rfl, rfl, rfl, (Below.refl _ _).drew, offF h0 (i := 0) (by decide), offF h0 (i := 1) (by decide), offF h0 (i := 2) (by decide), offF h0 (i := 3) (by decide), offF h0 (i := 4) (by decide), offF h0 (i := 5) (by decide), offF h0 (i := 6) (by decide), offF h0 (i := 7) (by decide), offF h0 (i := 8) (by decide), offF h0 (i := 9) (by decide), offF h0 (i := 10) (by decide), offF h0 (i := 11) (by decide), offF h0 (i := 12) (by decide), offF h0 (i := 13) (by decide), offF h0 (i := 14) (by decide), offF h0 (i := 15) (by decide), offF h0 (i := 16) (by decide), offF h0 (i := 17) (by decide), offF h0 (i := 18) (by decide), offF h0 (i := 19) (by decide), offF h0 (i := 20) (by decide), offF h0 (i := 21) (by decide), offF h0 (i := 22) (by decide), offF h0 (i := 23) (by decide), offF h0 (i := 24) (by decide), offF h0 (i := 25) (by decide), offF h0 (i := 26) (by decide), offF h0 (i := 27) (by decide), offF h0 (i := 28) (by decide), offF h0 (i := 29) (by decide), offF h0 (i := 30) (by decide), offF h0 (i := 31) (by decide), offF h0 (i := 32) (by decide), offF h0 (i := 33) (by decide)⟩
  case hst =>
    show FactSteps _ _ _ _ [0, 1, 2, 3, 4, 5, 6, 7, 8, 9, 10, 11, 12, 13, 14, 15, 16, 17, 18, 19, 20, 21, 22, 23, 24, 25, 26, 27, 28, 29, 30, 31, 32, 33]
    refine @FactSteps.cons _ _ _ _ 0 _ [] _ rfl (by kernel_rfl) ?s0 ?_
    rotate_left
    refine @FactSteps.cons _ _ _ _ 1 _ [0] _ rfl (by kernel_rfl) ?s1 ?_
    rotate_left
    refine @FactSteps.cons _ _ _ _ 2 _ [] _ rfl (by kernel_rfl) ?s2 ?_
    rotate_left
    refine @FactSteps.cons _ _ _ _ 3 _ [2, 1] _ rfl (by kernel_rfl) ?s3 ?_
    rotate_left
    refine @FactSteps.cons _ _ _ _ 4 _ [1, 3] _ rfl (by kernel_rfl) ?s4 ?_
    rotate_left
    refine @FactSteps.cons _ _ _ _ 5 _ [4, 3] _ rfl (by kernel_rfl) ?s5 ?_
    rotate_left
    refine @FactSteps.cons _ _ _ _ 6 _ [5] _ rfl (by kernel_rfl) ?s6 ?_
    rotate_left
    refine @FactSteps.cons _ _ _ _ 7 _ [6, 5, 5] _ rfl (by kernel_rfl) ?s7 ?_
    rotate_left
    refine @FactSteps.cons _ _ _ _ 8 _ [5] _ rfl (by kernel_rfl) ?s8 ?_
    rotate_left
    refine @FactSteps.cons _ _ _ _ 9 _ [7, 8, 7, 5] _ rfl (by kernel_rfl) ?s9 ?_
    rotate_left
    refine @FactSteps.cons _ _ _ _ 10 _ [9, 5] _ rfl (by kernel_rfl) ?s10 ?_
    rotate_left
    refine @FactSteps.cons _ _ _ _ 11 _ [5, 10] _ rfl (by kernel_rfl) ?s11 ?_
    rotate_left
    refine @FactSteps.cons _ _ _ _ 12 _ [11, 9] _ rfl (by kernel_rfl) ?s12 ?_
    rotate_left
    refine @FactSteps.cons _ _ _ _ 13 _ [12] _ rfl (by kernel_rfl) ?s13 ?_
    rotate_left
    refine @FactSteps.cons _ _ _ _ 14 _ [12] _ rfl (by kernel_rfl) ?s14 ?_
    rotate_left
    refine @FactSteps.cons _ _ _ _ 15 _ [13, 14, 12] _ rfl (by kernel_rfl) ?s15 ?_
    rotate_left
    refine @FactSteps.cons _ _ _ _ 16 _ [12, 15] _ rfl (by kernel_rfl) ?s16 ?_
    rotate_left
    refine @FactSteps.cons _ _ _ _ 17 _ [16, 12] _ rfl (by kernel_rfl) ?s17 ?_
    rotate_left
    refine @FactSteps.cons _ _ _ _ 18 _ [17] _ rfl (by kernel_rfl) ?s18 ?_
    rotate_left
    refine @FactSteps.cons _ _ _ _ 19 _ [18, 17, 17] _ rfl (by kernel_rfl) ?s19 ?_
    rotate_left
    refine @FactSteps.cons _ _ _ _ 20 _ [17] _ rfl (by kernel_rfl) ?s20 ?_
    rotate_left
    refine @FactSteps.cons _ _ _ _ 21 _ [17] _ rfl (by kernel_rfl) ?s21 ?_
    rotate_left
    refine @FactSteps.cons _ _ _ _ 22 _ [20, 21, 19, 17] _ rfl (by kernel_rfl) ?s22 ?_
    rotate_left
    refine @FactSteps.cons _ _ _ _ 23 _ [19, 22, 22, 17] _ rfl (by kernel_rfl) ?s23 ?_
    rotate_left
    refine @FactSteps.cons _ _ _ _ 24 _ [23, 17] _ rfl (by kernel_rfl) ?s24 ?_
    rotate_left
    refine @FactSteps.cons _ _ _ _ 25 _ [17, 24] _ rfl (by kernel_rfl) ?s25 ?_
    rotate_left
    refine @FactSteps.cons _ _ _ _ 26 _ [25, 23] _ rfl (by kernel_rfl) ?s26 ?_
    rotate_left
    refine @FactSteps.cons _ _ _ _ 27 _ [26] _ rfl (by kernel_rfl) ?s27 ?_
    rotate_left
    refine @FactSteps.cons _ _ _ _ 28 _ [27, 26, 26] _ rfl (by kernel_rfl) ?s28 ?_
    rotate_left
    refine @FactSteps.cons _ _ _ _ 29 _ [26] _ rfl (by kernel_rfl) ?s29 ?_
    rotate_left
    refine @FactSteps.cons _ _ _ _ 30 _ [29, 28, 26] _ rfl (by kernel_rfl) ?s30 ?_
    rotate_left
    refine @FactSteps.cons _ _ _ _ 31 _ [28, 30, 30, 26] _ rfl (by kernel_rfl) ?s31 ?_
    rotate_left
    refine @FactSteps.cons _ _ _ _ 32 _ [31, 26] _ rfl (by kernel_rfl) ?s32 ?_
    rotate_left
    refine @FactSteps.cons _ _ _ _ 33 _ [26, 32] _ rfl (by kernel_rfl) ?s33 ?_
    rotate_left
    exact FactSteps.nil
    case s0 =>
      rintro L a v w hv hg hL hd hcl ⟨e7, e8, e3, e4, e9, e11, e13, e10, e12, hb, f0, f1, f2, f3, f4, f5, f6, f7, f8, f9, f10, f11, f12, f13, f14, f15, f16, f17, f18, f19, f20, f21, f22, f23, f24, f25, f26, f27, f28, f29, f30, f31, f32, f33⟩ K hK
      refine step_do rfl ?_
      refine wp_ld rowM (.tmp 7) rfl ((hv 7).trans e7) (k7.below hb k7.lt) s7 ?_
      exact hK.out _ _ ⟨e7, e8, e3, e4, e9, e11, e13, e10, e12, hb, fun _ => rfl, f1, f2, f3, f4, f5, f6, f7, f8, f9, f10, f11, f12, f13, f14, f15, f16, f17, f18, f19, f20, f21, f22, f23, f24, f25, f26, f27, f28, f29, f30, f31, f32, f33⟩
    case s1 =>
      rintro L a v w hv hg hL hd hcl ⟨e7, e8, e3, e4, e9, e11, e13, e10, e12, hb, f0, f1, f2, f3, f4, f5, f6, f7, f8, f9, f10, f11, f12, f13, f14, f15, f16, f17, f18, f19, f20, f21, f22, f23, f24, f25, f26, f27, f28, f29, f30, f31, f32, f33⟩ K hK
      have h0 := f0 (hd 0 (by decide))
      refine step_do rfl ?_
      clear hv
      go_simp
      refine (HRI1.out _ _ (h7.below hb).fresh).mono ?_
      rintro e wy ⟨rfl, bb⟩
      exact hK.out _ _ ⟨e7, e8, e3, e4, e9, e11, e13, e10, e12, (hb.trans (bb.mono hb.size)), f0, fun _ => rfl, f2, f3, f4, f5, f6, (fun h => (f7 h).below bb), f8, f9, f10, f11, f12, f13, f14, f15, f16, f17, f18, (fun h => (f19 h).below bb), f20, f21, (fun h => (f22 h).below bb), f23, f24, f25, f26, f27, (fun h => (f28 h).below bb), f29, (fun h => (f30 h).below bb), f31, f32, f33⟩
    case s2 =>
      rintro L a v w hv hg hL hd hcl ⟨e7, e8, e3, e4, e9, e11, e13, e10, e12, hb, f0, f1, f2, f3, f4, f5, f6, f7, f8, f9, f10, f11, f12, f13, f14, f15, f16, f17, f18, f19, f20, f21, f22, f23, f24, f25, f26, f27, f28, f29, f30, f31, f32, f33⟩ K hK
      refine step_do rfl ?_
      refine wp_ld rowRM (.tmp 3) rfl ((hv 3).trans e3) (k3.below hb k3.lt) HS1.out ?_
      exact hK.out _ _ ⟨e7, e8, e3, e4, e9, e11, e13, e10, e12, hb, f0, f1, fun _ => rfl, f3, f4, f5, f6, f7, f8, f9, f10, f11, f12, f13, f14, f15, f16, f17, f18, f19, f20, f21, f22, f23, f24, f25, f26, f27, f28, f29, f30, f31, f32, f33⟩
    case s3 =>
      rintro L a v w hv hg hL hd hcl ⟨e7, e8, e3, e4, e9, e11, e13, e10, e12, hb, f0, f1, f2, f3, f4, f5, f6, f7, f8, f9, f10, f11, f12, f13, f14, f15, f16, f17, f18, f19, f20, f21, f22, f23, f24, f25, f26, f27, f28, f29, f30, f31, f32, f33⟩ K hK
      have h2 := f2 (hd 2 (by decide))
      refine step_do rfl ?_
      clear hv
      go_simp
      refine (HRI2.out _ _ (h3.below hb)).mono ?_
      rintro e wy ⟨rfl, bb⟩
      exact hK.out _ _ ⟨e7, e8, e3, e4, e9, e11, e13, e10, e12, (hb.trans (bb.mono hb.size)), f0, f1, f2, fun _ => rfl, f4, f5, f6, (fun h => (f7 h).below bb), f8, f9, f10, f11, f12, f13, f14, f15, f16, f17, f18, (fun h => (f19 h).below bb), f20, f21, (fun h => (f22 h).below bb), f23, f24, f25, f26, f27, (fun h => (f28 h).below bb), f29, (fun h => (f30 h).below bb), f31, f32, f33⟩
    case s4 =>
      rintro L a v w hv hg hL hd hcl ⟨e7, e8, e3, e4, e9, e11, e13, e10, e12, hb, f0, f1, f2, f3, f4, f5, f6, f7, f8, f9, f10, f11, f12, f13, f14, f15, f16, f17, f18, f19, f20, f21, f22, f23, f24, f25, f26, f27, f28, f29, f30, f31, f32, f33⟩ K hK
      refine step_do rfl ?_
      clear hv
      go_simp
      exact hK.out _ _ ⟨e7, e8, e3, e4, e9, e11, e13, e10, e12, hb, f0, f1, f2, f3, fun _ => rfl, f5, f6, f7, f8, f9, f10, f11, f12, f13, f14, f15, f16, f17, f18, f19, f20, f21, f22, f23, f24, f25, f26, f27, f28, f29, f30, f31, f32, f33⟩
    case s5 =>
      rintro L a v w hv hg hL hd hcl ⟨e7, e8, e3, e4, e9, e11, e13, e10, e12, hb, f0, f1, f2, f3, f4, f5, f6, f7, f8, f9, f10, f11, f12, f13, f14, f15, f16, f17, f18, f19, f20, f21, f22, f23, f24, f25, f26, f27, f28, f29, f30, f31, f32, f33⟩ K hK
      have g4 := f4 (hd 4 (by decide))
      refine step_do rfl ?_
      clear hv
      go_simp
      exact hK.out _ _ ⟨e7, e8, e3, e4, e9, e11, e13, e10, e12, hb, f0, f1, f2, f3, f4, fun _ => rfl, f6, f7, f8, f9, f10, f11, f12, f13, f14, f15, f16, f17, f18, f19, f20, f21, f22, f23, f24, f25, f26, f27, f28, f29, f30, f31, f32, f33⟩
    case s6 =>
      rintro L a v w hv hg hL hd hcl ⟨e7, e8, e3, e4, e9, e11, e13, e10, e12, hb, f0, f1, f2, f3, f4, f5, f6, f7, f8, f9, f10, f11, f12, f13, f14, f15, f16, f17, f18, f19, f20, f21, f22, f23, f24, f25, f26, f27, f28, f29, f30, f31, f32, f33⟩ K hK
      refine step_want (j := 5) (s := 61) (b := false) rfl rfl ((hv 61).trans (f5 (hd 5 (by decide)))) ?_
      refine wp_ld rowM (.tmp 9) rfl ((hv 9).trans e9) (k9.below hb k9.lt) s9 ?_
      exact hK.out _ _ ⟨e7, e8, e3, e4, e9, e11, e13, e10, e12, hb, f0, f1, f2, f3, f4, f5, fun _ => rfl, f7, f8, f9, f10, f11, f12, f13, f14, f15, f16, f17, f18, f19, f20, f21, f22, f23, f24, f25, f26, f27, f28, f29, f30, f31, f32, f33⟩
    case s7 =>
      rintro L a v w hv hg hL hd hcl ⟨e7, e8, e3, e4, e9, e11, e13, e10, e12, hb, f0, f1, f2, f3, f4, f5, f6, f7, f8, f9, f10, f11, f12, f13, f14, f15, f16, f17, f18, f19, f20, f21, f22, f23, f24, f25, f26, f27, f28, f29, f30, f31, f32, f33⟩ K hK
      have h6 := f6 (hd 6 (by decide))
      refine step_want (j := 5) (s := 61) (b := false) rfl rfl ((hv 61).trans (f5 (hd 5 (by decide)))) ?_
      clear hv
      go_simp
      refine (fromF HPU.out (h9.below hb).fresh).mono ?_
      rintro e wy ⟨q, rfl, hq, bb⟩
      exact hK.out _ _ ⟨e7, e8, e3, e4, e9, e11, e13, e10, e12, (hb.trans (bb.mono hb.size)), f0, f1, f2, f3, f4, f5, f6, fun _ => hq, f8, f9, f10, f11, f12, f13, f14, f15, f16, f17, f18, (fun h => (f19 h).below bb), f20, f21, (fun h => (f22 h).below bb), f23, f24, f25, f26, f27, (fun h => (f28 h).below bb), f29, (fun h => (f30 h).below bb), f31, f32, f33⟩
    case s8 =>
      rintro L a v w hv hg hL hd hcl ⟨e7, e8, e3, e4, e9, e11, e13, e10, e12, hb, f0, f1, f2, f3, f4, f5, f6, f7, f8, f9, f10, f11, f12, f13, f14, f15, f16, f17, f18, f19, f20, f21, f22, f23, f24, f25, f26, f27, f28, f29, f30, f31, f32, f33⟩ K hK
      refine step_want (j := 5) (s := 61) (b := false) rfl rfl ((hv 61).trans (f5 (hd 5 (by decide)))) ?_
      refine wp_ld rowRM (.tmp 11) rfl ((hv 11).trans e11) (k11.below hb k11.lt) s11 ?_
      exact hK.out _ _ ⟨e7, e8, e3, e4, e9, e11, e13, e10, e12, hb, f0, f1, f2, f3, f4, f5, f6, f7, fun _ => rfl, f9, f10, f11, f12, f13, f14, f15, f16, f17, f18, f19, f20, f21, f22, f23, f24, f25, f26, f27, f28, f29, f30, f31, f32, f33⟩
    case s9 =>
      rintro L a v w hv hg hL hd hcl ⟨e7, e8, e3, e4, e9, e11, e13, e10, e12, hb, f0, f1, f2, f3, f4, f5, f6, f7, f8, f9, f10, f11, f12, f13, f14, f15, f16, f17, f18, f19, f20, f21, f22, f23, f24, f25, f26, f27, f28, f29, f30, f31, f32, f33⟩ K hK
      have h7 := f7 (hd 7 (by decide))
      have h8 := f8 (hd 8 (by decide))
      refine step_want (j := 5) (s := 61) (b := false) rfl rfl ((hv 61).trans (f5 (hd 5 (by decide)))) ?_
      clear hv
      go_simp
      refine (sameT HPU.out HPW.out h7.fresh (h11.below hb).fresh).mono ?_
      rintro e wy ⟨rfl, bb⟩
      exact hK.out _ _ ⟨e7, e8, e3, e4, e9, e11, e13, e10, e12, (hb.trans (bb.mono hb.size)), f0, f1, f2, f3, f4, f5, f6, (fun h => (f7 h).below bb), f8, fun _ => rfl, f10, f11, f12, f13, f14, f15, f16, f17, f18, (fun h => (f19 h).below bb), f20, f21, (fun h => (f22 h).below bb), f23, f24, f25, f26, f27, (fun h => (f28 h).below bb), f29, (fun h => (f30 h).below bb), f31, f32, f33⟩
    case s10 =>
      rintro L a v w hv hg hL hd hcl ⟨e7, e8, e3, e4, e9, e11, e13, e10, e12, hb, f0, f1, f2, f3, f4, f5, f6, f7, f8, f9, f10, f11, f12, f13, f14, f15, f16, f17, f18, f19, f20, f21, f22, f23, f24, f25, f26, f27, f28, f29, f30, f31, f32, f33⟩ K hK
      have g5 := f5 (hd 5 (by decide))
      refine step_want (j := 5) (s := 61) (b := false) rfl rfl ((hv 61).trans (f5 (hd 5 (by decide)))) ?_
      clear hv
      go_simp
      exact hK.out _ _ ⟨e7, e8, e3, e4, e9, e11, e13, e10, e12, hb, f0, f1, f2, f3, f4, f5, f6, f7, f8, f9, fun _ => rfl, f11, f12, f13, f14, f15, f16, f17, f18, f19, f20, f21, f22, f23, f24, f25, f26, f27, f28, f29, f30, f31, f32, f33⟩
    case s11 =>
      rintro L a v w hv hg hL hd hcl ⟨e7, e8, e3, e4, e9, e11, e13, e10, e12, hb, f0, f1, f2, f3, f4, f5, f6, f7, f8, f9, f10, f11, f12, f13, f14, f15, f16, f17, f18, f19, f20, f21, f22, f23, f24, f25, f26, f27, f28, f29, f30, f31, f32, f33⟩ K hK
      have g5 := f5 (hd 5 (by decide))
      have g10 := f10 (hd 10 (by decide))
      refine step_do rfl ?_
      clear hv
      go_simp
      exact hK.out _ _ ⟨e7, e8, e3, e4, e9, e11, e13, e10, e12, hb, f0, f1, f2, f3, f4, f5, f6, f7, f8, f9, f10, fun _ => rfl, f12, f13, f14, f15, f16, f17, f18, f19, f20, f21, f22, f23, f24, f25, f26, f27, f28, f29, f30, f31, f32, f33⟩
    case s12 =>
      rintro L a v w hv hg hL hd hcl ⟨e7, e8, e3, e4, e9, e11, e13, e10, e12, hb, f0, f1, f2, f3, f4, f5, f6, f7, f8, f9, f10, f11, f12, f13, f14, f15, f16, f17, f18, f19, f20, f21, f22, f23, f24, f25, f26, f27, f28, f29, f30, f31, f32, f33⟩ K hK
      have g11 := f11 (hd 11 (by decide))
      refine step_do rfl ?_
      clear hv
      go_simp
      exact hK.out _ _ ⟨e7, e8, e3, e4, e9, e11, e13, e10, e12, hb, f0, f1, f2, f3, f4, f5, f6, f7, f8, f9, f10, f11, fun _ => rfl, f13, f14, f15, f16, f17, f18, f19, f20, f21, f22, f23, f24, f25, f26, f27, f28, f29, f30, f31, f32, f33⟩
    case s13 =>
      rintro L a v w hv hg hL hd hcl ⟨e7, e8, e3, e4, e9, e11, e13, e10, e12, hb, f0, f1, f2, f3, f4, f5, f6, f7, f8, f9, f10, f11, f12, f13, f14, f15, f16, f17, f18, f19, f20, f21, f22, f23, f24, f25, f26, f27, f28, f29, f30, f31, f32, f33⟩ K hK
      have g12 := f12 (hd 12 (by decide))
      refine step_want (j := 12) (s := 68) (b := false) rfl rfl ((hv 68).trans (f12 (hd 12 (by decide)))) ?_
      clear hv
      go_simp
      exact hK.out _ _ ⟨e7, e8, e3, e4, e9, e11, e13, e10, e12, hb, f0, f1, f2, f3, f4, f5, f6, f7, f8, f9, f10, f11, f12, fun _ => rfl, f14, f15, f16, f17, f18, f19, f20, f21, f22, f23, f24, f25, f26, f27, f28, f29, f30, f31, f32, f33⟩
    case s14 =>
      rintro L a v w hv hg hL hd hcl ⟨e7, e8, e3, e4, e9, e11, e13, e10, e12, hb, f0, f1, f2, f3, f4, f5, f6, f7, f8, f9, f10, f11, f12, f13, f14, f15, f16, f17, f18, f19, f20, f21, f22, f23, f24, f25, f26, f27, f28, f29, f30, f31, f32, f33⟩ K hK
      have g12 := f12 (hd 12 (by decide))
      refine step_want (j := 12) (s := 68) (b := false) rfl rfl ((hv 68).trans (f12 (hd 12 (by decide)))) ?_
      clear hv
      go_simp
      exact hK.out _ _ ⟨e7, e8, e3, e4, e9, e11, e13, e10, e12, hb, f0, f1, f2, f3, f4, f5, f6, f7, f8, f9, f10, f11, f12, f13, fun _ => rfl, f15, f16, f17, f18, f19, f20, f21, f22, f23, f24, f25, f26, f27, f28, f29, f30, f31, f32, f33⟩
    case s15 =>
      rintro L a v w hv hg hL hd hcl ⟨e7, e8, e3, e4, e9, e11, e13, e10, e12, hb, f0, f1, f2, f3, f4, f5, f6, f7, f8, f9, f10, f11, f12, f13, f14, f15, f16, f17, f18, f19, f20, f21, f22, f23, f24, f25, f26, f27, f28, f29, f30, f31, f32, f33⟩ K hK
      have g12 := f12 (hd 12 (by decide))
      have g13 := f13 (hd 13 (by decide))
      have g14 := f14 (hd 14 (by decide))
      refine step_want (j := 12) (s := 68) (b := false) rfl rfl ((hv 68).trans (f12 (hd 12 (by decide)))) ?_
      clear hv
      go_simp
      exact hK.out _ _ ⟨e7, e8, e3, e4, e9, e11, e13, e10, e12, hb, f0, f1, f2, f3, f4, f5, f6, f7, f8, f9, f10, f11, f12, f13, f14, fun _ => rfl, f16, f17, f18, f19, f20, f21, f22, f23, f24, f25, f26, f27, f28, f29, f30, f31, f32, f33⟩
    case s16 =>
      rintro L a v w hv hg hL hd hcl ⟨e7, e8, e3, e4, e9, e11, e13, e10, e12, hb, f0, f1, f2, f3, f4, f5, f6, f7, f8, f9, f10, f11, f12, f13, f14, f15, f16, f17, f18, f19, f20, f21, f22, f23, f24, f25, f26, f27, f28, f29, f30, f31, f32, f33⟩ K hK
      have g12 := f12 (hd 12 (by decide))
      have g15 := f15 (hd 15 (by decide))
      refine step_do rfl ?_
      clear hv
      go_simp
      exact hK.out _ _ ⟨e7, e8, e3, e4, e9, e11, e13, e10, e12, hb, f0, f1, f2, f3, f4, f5, f6, f7, f8, f9, f10, f11, f12, f13, f14, f15, fun _ => rfl, f17, f18, f19, f20, f21, f22, f23, f24, f25, f26, f27, f28, f29, f30, f31, f32, f33⟩
    case s17 =>
      rintro L a v w hv hg hL hd hcl ⟨e7, e8, e3, e4, e9, e11, e13, e10, e12, hb, f0, f1, f2, f3, f4, f5, f6, f7, f8, f9, f10, f11, f12, f13, f14, f15, f16, f17, f18, f19, f20, f21, f22, f23, f24, f25, f26, f27, f28, f29, f30, f31, f32, f33⟩ K hK
      have g12 := f12 (hd 12 (by decide))
      have g16 := f16 (hd 16 (by decide))
      refine step_do rfl ?_
      clear hv
      go_simp
      exact hK.out _ _ ⟨e7, e8, e3, e4, e9, e11, e13, e10, e12, hb, f0, f1, f2, f3, f4, f5, f6, f7, f8, f9, f10, f11, f12, f13, f14, f15, f16, fun _ => rfl, f18, f19, f20, f21, f22, f23, f24, f25, f26, f27, f28, f29, f30, f31, f32, f33⟩
    case s18 =>
      rintro L a v w hv hg hL hd hcl ⟨e7, e8, e3, e4, e9, e11, e13, e10, e12, hb, f0, f1, f2, f3, f4, f5, f6, f7, f8, f9, f10, f11, f12, f13, f14, f15, f16, f17, f18, f19, f20, f21, f22, f23, f24, f25, f26, f27, f28, f29, f30, f31, f32, f33⟩ K hK
      refine step_want (j := 17) (s := 73) (b := false) rfl rfl ((hv 73).trans (f17 (hd 17 (by decide)))) ?_
      refine wp_ld rowM (.tmp 13) rfl ((hv 13).trans e13) (k13.below hb k13.lt) s13 ?_
      exact hK.out _ _ ⟨e7, e8, e3, e4, e9, e11, e13, e10, e12, hb, f0, f1, f2, f3, f4, f5, f6, f7, f8, f9, f10, f11, f12, f13, f14, f15, f16, f17, fun _ => rfl, f19, f20, f21, f22, f23, f24, f25, f26, f27, f28, f29, f30, f31, f32, f33⟩
    case s19 =>
      rintro L a v w hv hg hL hd hcl ⟨e7, e8, e3, e4, e9, e11, e13, e10, e12, hb, f0, f1, f2, f3, f4, f5, f6, f7, f8, f9, f10, f11, f12, f13, f14, f15, f16, f17, f18, f19, f20, f21, f22, f23, f24, f25, f26, f27, f28, f29, f30, f31, f32, f33⟩ K hK
      have h18 := f18 (hd 18 (by decide))
      refine step_want (j := 17) (s := 73) (b := false) rfl rfl ((hv 73).trans (f17 (hd 17 (by decide)))) ?_
      clear hv
      go_simp
      refine (fromF HM8.out (h13.below hb).fresh).mono ?_
      rintro e wy ⟨q, rfl, hq, bb⟩
      exact hK.out _ _ ⟨e7, e8, e3, e4, e9, e11, e13, e10, e12, (hb.trans (bb.mono hb.size)), f0, f1, f2, f3, f4, f5, f6, (fun h => (f7 h).below bb), f8, f9, f10, f11, f12, f13, f14, f15, f16, f17, f18, fun _ => hq, f20, f21, (fun h => (f22 h).below bb), f23, f24, f25, f26, f27, (fun h => (f28 h).below bb), f29, (fun h => (f30 h).below bb), f31, f32, f33⟩
    case s20 =>
      rintro L a v w hv hg hL hd hcl ⟨e7, e8, e3, e4, e9, e11, e13, e10, e12, hb, f0, f1, f2, f3, f4, f5, f6, f7, f8, f9, f10, f11, f12, f13, f14, f15, f16, f17, f18, f19, f20, f21, f22, f23, f24, f25, f26, f27, f28, f29, f30, f31, f32, f33⟩ K hK
      refine step_want (j := 17) (s := 73) (b := false) rfl rfl ((hv 73).trans (f17 (hd 17 (by decide)))) ?_
      refine wp_ld rowRM (.tmp 3) rfl ((hv 3).trans e3) (k3.below hb k3.lt) HS1.out ?_
      exact hK.out _ _ ⟨e7, e8, e3, e4, e9, e11, e13, e10, e12, hb, f0, f1, f2, f3, f4, f5, f6, f7, f8, f9, f10, f11, f12, f13, f14, f15, f16, f17, f18, f19, fun _ => rfl, f21, f22, f23, f24, f25, f26, f27, f28, f29, f30, f31, f32, f33⟩
    case s21 =>
      rintro L a v w hv hg hL hd hcl ⟨e7, e8, e3, e4, e9, e11, e13, e10, e12, hb, f0, f1, f2, f3, f4, f5, f6, f7, f8, f9, f10, f11, f12, f13, f14, f15, f16, f17, f18, f19, f20, f21, f22, f23, f24, f25, f26, f27, f28, f29, f30, f31, f32, f33⟩ K hK
      refine step_want (j := 17) (s := 73) (b := false) rfl rfl ((hv 73).trans (f17 (hd 17 (by decide)))) ?_
      refine wp_ld rowRM (.tmp 4) rfl ((hv 4).trans e4) (k4.below hb k4.lt) HS2.out ?_
      exact hK.out _ _ ⟨e7, e8, e3, e4, e9, e11, e13, e10, e12, hb, f0, f1, f2, f3, f4, f5, f6, f7, f8, f9, f10, f11, f12, f13, f14, f15, f16, f17, f18, f19, f20, fun _ => rfl, f22, f23, f24, f25, f26, f27, f28, f29, f30, f31, f32, f33⟩
    case s22 =>
      rintro L a v w hv hg hL hd hcl ⟨e7, e8, e3, e4, e9, e11, e13, e10, e12, hb, f0, f1, f2, f3, f4, f5, f6, f7, f8, f9, f10, f11, f12, f13, f14, f15, f16, f17, f18, f19, f20, f21, f22, f23, f24, f25, f26, f27, f28, f29, f30, f31, f32, f33⟩ K hK
      have h20 := f20 (hd 20 (by decide))
      have h21 := f21 (hd 21 (by decide))
      refine step_want (j := 17) (s := 73) (b := false) rfl rfl ((hv 73).trans (f17 (hd 17 (by decide)))) ?_
      clear hv
      go_simp
      refine (HM2.out _ _ _ (h3.below hb) (h4.below hb)).mono ?_
      rintro e wy ⟨q, rfl, hq, bb⟩
      exact hK.out _ _ ⟨e7, e8, e3, e4, e9, e11, e13, e10, e12, (hb.trans (bb.mono hb.size)), f0, f1, f2, f3, f4, f5, f6, (fun h => (f7 h).below bb), f8, f9, f10, f11, f12, f13, f14, f15, f16, f17, f18, (fun h => (f19 h).below bb), f20, f21, fun _ => hq, f23, f24, f25, f26, f27, (fun h => (f28 h).below bb), f29, (fun h => (f30 h).below bb), f31, f32, f33⟩
    case s23 =>
      rintro L a v w hv hg hL hd hcl ⟨e7, e8, e3, e4, e9, e11, e13, e10, e12, hb, f0, f1, f2, f3, f4, f5, f6, f7, f8, f9, f10, f11, f12, f13, f14, f15, f16, f17, f18, f19, f20, f21, f22, f23, f24, f25, f26, f27, f28, f29, f30, f31, f32, f33⟩ K hK
      have h19 := f19 (hd 19 (by decide))
      have h22 := f22 (hd 22 (by decide))
      refine step_want (j := 17) (s := 73) (b := false) rfl rfl ((hv 73).trans (f17 (hd 17 (by decide)))) ?_
      clear hv
      go_simp
      refine (sameT HM8.out HMW.out h19.fresh h22.fresh).mono ?_
      rintro e wy ⟨rfl, bb⟩
      exact hK.out _ _ ⟨e7, e8, e3, e4, e9, e11, e13, e10, e12, (hb.trans (bb.mono hb.size)), f0, f1, f2, f3, f4, f5, f6, (fun h => (f7 h).below bb), f8, f9, f10, f11, f12, f13, f14, f15, f16, f17, f18, (fun h => (f19 h).below bb), f20, f21, (fun h => (f22 h).below bb), fun _ => rfl, f24, f25, f26, f27, (fun h => (f28 h).below bb), f29, (fun h => (f30 h).below bb), f31, f32, f33⟩
    case s24 =>
      rintro L a v w hv hg hL hd hcl ⟨e7, e8, e3, e4, e9, e11, e13, e10, e12, hb, f0, f1, f2, f3, f4, f5, f6, f7, f8, f9, f10, f11, f12, f13, f14, f15, f16, f17, f18, f19, f20, f21, f22, f23, f24, f25, f26, f27, f28, f29, f30, f31, f32, f33⟩ K hK
      have g17 := f17 (hd 17 (by decide))
      refine step_want (j := 17) (s := 73) (b := false) rfl rfl ((hv 73).trans (f17 (hd 17 (by decide)))) ?_
      clear hv
      go_simp
      exact hK.out _ _ ⟨e7, e8, e3, e4, e9, e11, e13, e10, e12, hb, f0, f1, f2, f3, f4, f5, f6, f7, f8, f9, f10, f11, f12, f13, f14, f15, f16, f17, f18, f19, f20, f21, f22, f23, fun _ => rfl, f25, f26, f27, f28, f29, f30, f31, f32, f33⟩
    case s25 =>
      rintro L a v w hv hg hL hd hcl ⟨e7, e8, e3, e4, e9, e11, e13, e10, e12, hb, f0, f1, f2, f3, f4, f5, f6, f7, f8, f9, f10, f11, f12, f13, f14, f15, f16, f17, f18, f19, f20, f21, f22, f23, f24, f25, f26, f27, f28, f29, f30, f31, f32, f33⟩ K hK
      have g17 := f17 (hd 17 (by decide))
      have g24 := f24 (hd 24 (by decide))
      refine step_do rfl ?_
      clear hv
      go_simp
      exact hK.out _ _ ⟨e7, e8, e3, e4, e9, e11, e13, e10, e12, hb, f0, f1, f2, f3, f4, f5, f6, f7, f8, f9, f10, f11, f12, f13, f14, f15, f16, f17, f18, f19, f20, f21, f22, f23, f24, fun _ => rfl, f26, f27, f28, f29, f30, f31, f32, f33⟩
    case s26 =>
      rintro L a v w hv hg hL hd hcl ⟨e7, e8, e3, e4, e9, e11, e13, e10, e12, hb, f0, f1, f2, f3, f4, f5, f6, f7, f8, f9, f10, f11, f12, f13, f14, f15, f16, f17, f18, f19, f20, f21, f22, f23, f24, f25, f26, f27, f28, f29, f30, f31, f32, f33⟩ K hK
      have g25 := f25 (hd 25 (by decide))
      refine step_do rfl ?_
      clear hv
      go_simp
      exact hK.out _ _ ⟨e7, e8, e3, e4, e9, e11, e13, e10, e12, hb, f0, f1, f2, f3, f4, f5, f6, f7, f8, f9, f10, f11, f12, f13, f14, f15, f16, f17, f18, f19, f20, f21, f22, f23, f24, f25, fun _ => rfl, f27, f28, f29, f30, f31, f32, f33⟩
    case s27 =>
      rintro L a v w hv hg hL hd hcl ⟨e7, e8, e3, e4, e9, e11, e13, e10, e12, hb, f0, f1, f2, f3, f4, f5, f6, f7, f8, f9, f10, f11, f12, f13, f14, f15, f16, f17, f18, f19, f20, f21, f22, f23, f24, f25, f26, f27, f28, f29, f30, f31, f32, f33⟩ K hK
      refine step_want (j := 26) (s := 82) (b := false) rfl rfl ((hv 82).trans (f26 (hd 26 (by decide)))) ?_
      refine wp_ld rowM (.tmp 7) rfl ((hv 7).trans e7) (k7.below hb k7.lt) s7 ?_
      exact hK.out _ _ ⟨e7, e8, e3, e4, e9, e11, e13, e10, e12, hb, f0, f1, f2, f3, f4, f5, f6, f7, f8, f9, f10, f11, f12, f13, f14, f15, f16, f17, f18, f19, f20, f21, f22, f23, f24, f25, f26, fun _ => rfl, f28, f29, f30, f31, f32, f33⟩
    case s28 =>
      rintro L a v w hv hg hL hd hcl ⟨e7, e8, e3, e4, e9, e11, e13, e10, e12, hb, f0, f1, f2, f3, f4, f5, f6, f7, f8, f9, f10, f11, f12, f13, f14, f15, f16, f17, f18, f19, f20, f21, f22, f23, f24, f25, f26, f27, f28, f29, f30, f31, f32, f33⟩ K hK
      have h27 := f27 (hd 27 (by decide))
      refine step_want (j := 26) (s := 82) (b := false) rfl rfl ((hv 82).trans (f26 (hd 26 (by decide)))) ?_
      clear hv
      go_simp
      refine (HV1.out _ _ (h7.below hb).fresh).mono ?_
      rintro e wy ⟨q, rfl, hq, bb⟩
      exact hK.out _ _ ⟨e7, e8, e3, e4, e9, e11, e13, e10, e12, (hb.trans (bb.mono hb.size)), f0, f1, f2, f3, f4, f5, f6, (fun h => (f7 h).below bb), f8, f9, f10, f11, f12, f13, f14, f15, f16, f17, f18, (fun h => (f19 h).below bb), f20, f21, (fun h => (f22 h).below bb), f23, f24, f25, f26, f27, fun _ => hq, f29, (fun h => (f30 h).below bb), f31, f32, f33⟩
    case s29 =>
      rintro L a v w hv hg hL hd hcl ⟨e7, e8, e3, e4, e9, e11, e13, e10, e12, hb, f0, f1, f2, f3, f4, f5, f6, f7, f8, f9, f10, f11, f12, f13, f14, f15, f16, f17, f18, f19, f20, f21, f22, f23, f24, f25, f26, f27, f28, f29, f30, f31, f32, f33⟩ K hK
      refine step_want (j := 26) (s := 82) (b := false) rfl rfl ((hv 82).trans (f26 (hd 26 (by decide)))) ?_
      refine wp_ld rowRM (.tmp 3) rfl ((hv 3).trans e3) (k3.below hb k3.lt) HS1.out ?_
      exact hK.out _ _ ⟨e7, e8, e3, e4, e9, e11, e13, e10, e12, hb, f0, f1, f2, f3, f4, f5, f6, f7, f8, f9, f10, f11, f12, f13, f14, f15, f16, f17, f18, f19, f20, f21, f22, f23, f24, f25, f26, f27, f28, fun _ => rfl, f30, f31, f32, f33⟩
    case s30 =>
      rintro L a v w hv hg hL hd hcl ⟨e7, e8, e3, e4, e9, e11, e13, e10, e12, hb, f0, f1, f2, f3, f4, f5, f6, f7, f8, f9, f10, f11, f12, f13, f14, f15, f16, f17, f18, f19, f20, f21, f22, f23, f24, f25, f26, f27, f28, f29, f30, f31, f32, f33⟩ K hK
      have h29 := f29 (hd 29 (by decide))
      refine step_want (j := 26) (s := 82) (b := false) rfl rfl ((hv 82).trans (f26 (hd 26 (by decide)))) ?_
      clear hv
      go_simp
      refine (HV2.out _ _ (h3.below hb)).mono ?_
      rintro e wy ⟨q, rfl, hq, bb⟩
      exact hK.out _ _ ⟨e7, e8, e3, e4, e9, e11, e13, e10, e12, (hb.trans (bb.mono hb.size)), f0, f1, f2, f3, f4, f5, f6, (fun h => (f7 h).below bb), f8, f9, f10, f11, f12, f13, f14, f15, f16, f17, f18, (fun h => (f19 h).below bb), f20, f21, (fun h => (f22 h).below bb), f23, f24, f25, f26, f27, (fun h => (f28 h).below bb), f29, fun _ => hq, f31, f32, f33⟩
    case s31 =>
      rintro L a v w hv hg hL hd hcl ⟨e7, e8, e3, e4, e9, e11, e13, e10, e12, hb, f0, f1, f2, f3, f4, f5, f6, f7, f8, f9, f10, f11, f12, f13, f14, f15, f16, f17, f18, f19, f20, f21, f22, f23, f24, f25, f26, f27, f28, f29, f30, f31, f32, f33⟩ K hK
      have h28 := f28 (hd 28 (by decide))
      have h30 := f30 (hd 30 (by decide))
      refine step_want (j := 26) (s := 82) (b := false) rfl rfl ((hv 82).trans (f26 (hd 26 (by decide)))) ?_
      clear hv
      go_simp
      refine (intsT h28 h30).mono ?_
      rintro e wy ⟨rfl, bb⟩
      exact hK.out _ _ ⟨e7, e8, e3, e4, e9, e11, e13, e10, e12, (hb.trans (bb.mono hb.size)), f0, f1, f2, f3, f4, f5, f6, (fun h => (f7 h).below bb), f8, f9, f10, f11, f12, f13, f14, f15, f16, f17, f18, (fun h => (f19 h).below bb), f20, f21, (fun h => (f22 h).below bb), f23, f24, f25, f26, f27, (fun h => (f28 h).below bb), f29, (fun h => (f30 h).below bb), fun _ => rfl, f32, f33⟩
    case s32 =>
      rintro L a v w hv hg hL hd hcl ⟨e7, e8, e3, e4, e9, e11, e13, e10, e12, hb, f0, f1, f2, f3, f4, f5, f6, f7, f8, f9, f10, f11, f12, f13, f14, f15, f16, f17, f18, f19, f20, f21, f22, f23, f24, f25, f26, f27, f28, f29, f30, f31, f32, f33⟩ K hK
      have g26 := f26 (hd 26 (by decide))
      refine step_want (j := 26) (s := 82) (b := false) rfl rfl ((hv 82).trans (f26 (hd 26 (by decide)))) ?_
      clear hv
      go_simp
      exact hK.out _ _ ⟨e7, e8, e3, e4, e9, e11, e13, e10, e12, hb, f0, f1, f2, f3, f4, f5, f6, f7, f8, f9, f10, f11, f12, f13, f14, f15, f16, f17, f18, f19, f20, f21, f22, f23, f24, f25, f26, f27, f28, f29, f30, f31, fun _ => rfl, f33⟩
    case s33 =>
      rintro L a v w hv hg hL hd hcl ⟨e7, e8, e3, e4, e9, e11, e13, e10, e12, hb, f0, f1, f2, f3, f4, f5, f6, f7, f8, f9, f10, f11, f12, f13, f14, f15, f16, f17, f18, f19, f20, f21, f22, f23, f24, f25, f26, f27, f28, f29, f30, f31, f32, f33⟩ K hK
      have g26 := f26 (hd 26 (by decide))
      have g32 := f32 (hd 32 (by decide))
      refine step_do rfl ?_
      clear hv
      go_simp
      exact hK.out _ _ ⟨e7, e8, e3, e4, e9, e11, e13, e10, e12, hb, f0, f1, f2, f3, f4, f5, f6, f7, f8, f9, f10, f11, f12, f13, f14, f15, f16, f17, f18, f19, f20, f21, f22, f23, f24, f25, f26, f27, f28, f29, f30, f31, f32, fun _ => rfl⟩
  case hend =>
  rintro L v wg hall ⟨e7, e8, e3, e4, e9, e11, e13, e10, e12, hb, f0, f1, f2, f3, f4, f5, f6, f7, f8, f9, f10, f11, f12, f13, f14, f15, f16, f17, f18, f19, f20, f21, f22, f23, f24, f25, f26, f27, f28, f29, f30, f31, f32, f33⟩
  have hL : ∀ i, i < 34 → L i = true := hall
  have f0 := f0 (hL 0 (by decide))
  have f1 := f1 (hL 1 (by decide))
  have f2 := f2 (hL 2 (by decide))
  have f3 := f3 (hL 3 (by decide))
  have f4 := f4 (hL 4 (by decide))
  have f5 := f5 (hL 5 (by decide))
  have f6 := f6 (hL 6 (by decide))
  have f7 := f7 (hL 7 (by decide))
  have f8 := f8 (hL 8 (by decide))
  have f9 := f9 (hL 9 (by decide))
  have f10 := f10 (hL 10 (by decide))
  have f11 := f11 (hL 11 (by decide))
  have f12 := f12 (hL 12 (by decide))
  have f13 := f13 (hL 13 (by decide))
  have f14 := f14 (hL 14 (by decide))
  have f15 := f15 (hL 15 (by decide))
  have f16 := f16 (hL 16 (by decide))
  have f17 := f17 (hL 17 (by decide))
  have f18 := f18 (hL 18 (by decide))
  have f19 := f19 (hL 19 (by decide))
  have f20 := f20 (hL 20 (by decide))
  have f21 := f21 (hL 21 (by decide))
  have f22 := f22 (hL 22 (by decide))
  have f23 := f23 (hL 23 (by decide))
  have f24 := f24 (hL 24 (by decide))
  have f25 := f25 (hL 25 (by decide))
  have f26 := f26 (hL 26 (by decide))
  have f27 := f27 (hL 27 (by decide))
  have f28 := f28 (hL 28 (by decide))
  have f29 := f29 (hL 29 (by decide))
  have f30 := f30 (hL 30 (by decide))
  have f31 := f31 (hL 31 (by decide))
  have f32 := f32 (hL 32 (by decide))
  have f33 := f33 (hL 33 (by decide))
  simp only [finA, List.foldl_cons, List.foldl_nil, Act.put, List.setIfInBounds_toArray, List.set_cons_succ, List.set_cons_zero, f0, f2, f4, f5, f6, f8, f10, f11, f12, f13, f14, f15, f16, f17, f18, f20, f21, f24, f25, f26, f27, f29, f32, f33, f1, f3, f9, f23, f31]
  have bm := bm.trans (hb.mono (by have := bm.size; have := HBe.out; omega))
  have k13 := k13.below hb k13.lt
  have o13 := o13.below hb (Nat.le_refl _)
  clear e7 e8 e3 e4 e9 e11 e13 e10 e12 f0 f1 f2 f3 f4 f5 f6 f7 f8 f9 f10 f11 f12 f13 f14 f15 f16 f17 f18 f19 f20 f21 f22 f23 f24 f25 f26 f27 f28 f29 f30 f31 f32 f33 hL hall
  clear hb HRI1 HRI2 HV1 HV2 HM2 HP1 HP2 h9 h11 h13 k9 k11 h3 h4 h7 h8 k3 k4 k7 k8
  have hrow : ∀ gr, A13 = some ⟨gr, 0, none⟩ → ∃ cur, Blk wg gr 49 cur ∧ m13 * 3 ≤ cur.size ∧ B ≤ gr ∧ gr ≠ we.heap.size := fun gr hgr => by
    subst hgr
    obtain ⟨cur, hc⟩ := ownsRow_type o13.2 rfl
    have hcb : Blk wg gr 49 cur := hc
    refine ⟨cur, hcb, ?_, (o13.lt gr rfl).1, fun e => ?_⟩
    · by_cases h0 : m13 = 0
      · omega
      · obtain ⟨ad, e, hlt, hx⟩ := o13.raw.at_ (k := m13 * 3 - 1) (by rw [vcs_len, ← o13.1]; omega)
        injection e with e
        subst e
        rw [add_mk, Nat.zero_add, hcb.cell] at hx
        have := (Array.getElem?_eq_some_iff.1 hx).1
        omega
    · subst e
      have := own_ne o13.2 k13 (by decide)
      exact this rfl
  have hnil : 0 < m13 → ∃ gr, A13 = some ⟨gr, 0, none⟩ := fun h0 => by
    obtain ⟨gr, e, _⟩ := o13.form h0
    exact ⟨gr, e⟩
  have HNIL := Lib.hid hnil
  clear hnil o13
  have t13 : wg.cell? ⟨we.heap.size, 8, none⟩ = some (.slice A13 m13 c13) := (k13.cell 8).trans HT13.out
  go_wp2_with fail
  go_loopw [93] (fun i wr => ∃ k : Nat, k ≤ m13 ∧ i = .int .i64 k ∧ (∀ gr, A13 = some ⟨gr, 0, none⟩ → ∃ cur, Blk wr gr 49 cur ∧ m13 * 3 ≤ cur.size ∧ B ≤ gr ∧ gr ≠ we.heap.size) ∧ Blk wr we.heap.size 31 M13 ∧ Below B gdw wr) (fun i _ => m13 - (intOf i).toNat)
  case atStart => exact ⟨0, by omega, rfl, hrow, k13, bm⟩
  case round =>
  clear hrow k13 bm t13
  obtain ⟨k, hk, rfl, hrow, k13, bm⟩ := hrel
  by_cases hlt : k < m13
  · obtain ⟨gr, hgr⟩ := HNIL.out (by omega)
    obtain ⟨cur, kr, hcs, hBg, hne⟩ := hrow gr hgr
    have hrow2 : ∀ gr', A13 = some ⟨gr', 0, none⟩ → ∃ cur, Blk (wr.setCell ⟨gr, k * 3 + 1, none⟩ (.int .i64 (-1))) gr' 49 cur ∧ m13 * 3 ≤ cur.size ∧ B ≤ gr' ∧ gr' ≠ we.heap.size := fun gr' e => by
      rw [hgr] at e
      injection e with e
      injection e with e
      subst e
      exact ⟨_, kr.set_ _ _, by simpa using hcs, hBg, hne⟩
    have k13b := k13.far (p := ⟨gr, k * 3 + 1, none⟩) (by show we.heap.size ≠ gr; omega) (.int .i64 (-1))
    have bmb := bm.setCell (p := ⟨gr, k * 3 + 1, none⟩) hBg (.int .i64 (-1))
    have HH := Lib.hid (And.intro hrow2 (And.intro k13b bmb))
    have t13 : wr.cell? ⟨we.heap.size, 8, none⟩ = some (.slice A13 m13 c13) := (k13.cell 8).trans HT13.out
    have x0 : wr.cell? ⟨gr, k * 3, none⟩ = some cur[k * 3] := (kr.cell _).trans (Array.getElem?_eq_getElem (by omega))
    have x1 : wr.cell? ⟨gr, k * 3 + 1, none⟩ = some cur[k * 3 + 1] := (kr.cell _).trans (Array.getElem?_eq_getElem (by omega))
    have x2 := kr.free (k * 3 + 1)
    have hk0 : (0 : Int) ≤ (k : Int) := by omega
    have hkn : (k : Int) < (m13 : Int) := by omega
    clear hrow hrow2 k13b bmb kr
    subst hgr
    go_wp2_with fail
    go_roundw
    case rel => exact ⟨k + 1, by omega, by go_num, HH.out.1, HH.out.2.1, HH.out.2.2⟩
    case measure => simp [intOf]; omega
  obtain ⟨p3, p4, p7, p8, j3, j4, j7, j8⟩ := HJ.out
  have h3 := (p3.below bm).fresh
  have h4 := (p4.below bm).fresh
  have h7 := (p7.below bm).fresh
  have h8 := (p8.below bm).fresh
  have k3 := j3.below bm q3
  have k4 := j4.below bm q4
  have k7 := j7.below bm q7
  have k8 := j8.below bm q8
  have gb := GBD.out.trans (bm.mono HBw.out)
  clear p3 p4 p7 p8 j3 j4 j7 j8 hrow k13 bm HJ
  go_wp2_with fail
  refine wp_region_facts (fun L v w => v 7 = .pointer (some ⟨g7, 0, none⟩) ∧ v 8 = .pointer (some ⟨g8, 0, none⟩) ∧ v 3 = .pointer (some ⟨g3, 0, none⟩) ∧ v 4 = .pointer (some ⟨g4, 0, none⟩) ∧ Below wr.heap.size wr w ∧ (L 0 = true → v 102 = .agg X7) ∧ (L 1 = true → FreshO 105 U1 l1 (v 103) w) ∧ (L 2 = true → v 104 = .agg C1) ∧ (L 3 = true → v 105 = .bool true) ∧ (L 4 = true → v 106 = .bool true) ∧ (L 5 = true → v 107 = .agg X8) ∧ (L 6 = true → FreshO 105 U2 l2 (v 108) w) ∧ (L 7 = true → v 109 = .agg C2) ∧ (L 8 = true → v 110 = .bool true) ∧ (L 9 = true → v 111 = .bool true) ∧ (L 10 = true → v 2 = .bool true)) [102, 103, 104, 105, 106, 107, 108, 109, 110, 111, 2] (by kernel_rfl) (by kernel_rfl) (by kernel_rfl) (by kernel_rfl) ?h0 ?hst ?hend
  case h0 =>
    intro L h0
    have h0 : ∀ i, i < 11 → L i = false := h0
    exact ⟨rfl, rfl, rfl, rfl, (Below.refl _ _).drew, offF h0 (i := 0) (by decide), offF h0 (i := 1) (by decide), offF h0 (i := 2) (by decide), offF h0 (i := 3) (by decide), offF h0 (i := 4) (by decide), offF h0 (i := 5) (by decide), offF h0 (i := 6) (by decide), offF h0 (i := 7) (by decide), offF h0 (i := 8) (by decide), offF h0 (i := 9) (by decide), offF h0 (i := 10) (by decide)⟩
  case hst =>
    show FactSteps _ _ _ _ [0, 1, 2, 3, 4, 5, 6, 7, 8, 9, 10]
    refine @FactSteps.cons _ _ _ _ 0 _ [] _ rfl (by kernel_rfl) ?s0 ?_
    rotate_left
    refine @FactSteps.cons _ _ _ _ 1 _ [0] _ rfl (by kernel_rfl) ?s1 ?_
    rotate_left
    refine @FactSteps.cons _ _ _ _ 2 _ [] _ rfl (by kernel_rfl) ?s2 ?_
    rotate_left
    refine @FactSteps.cons _ _ _ _ 3 _ [1, 2, 1] _ rfl (by kernel_rfl) ?s3 ?_
    rotate_left
    refine @FactSteps.cons _ _ _ _ 4 _ [3, 3] _ rfl (by kernel_rfl) ?s4 ?_
    rotate_left
    refine @FactSteps.cons _ _ _ _ 5 _ [4] _ rfl (by kernel_rfl) ?s5 ?_
    rotate_left
    refine @FactSteps.cons _ _ _ _ 6 _ [5, 4, 4] _ rfl (by kernel_rfl) ?s6 ?_
    rotate_left
    refine @FactSteps.cons _ _ _ _ 7 _ [4] _ rfl (by kernel_rfl) ?s7 ?_
    rotate_left
    refine @FactSteps.cons _ _ _ _ 8 _ [6, 7, 6, 4] _ rfl (by kernel_rfl) ?s8 ?_
    rotate_left
    refine @FactSteps.cons _ _ _ _ 9 _ [4, 8] _ rfl (by kernel_rfl) ?s9 ?_
    rotate_left
    refine @FactSteps.cons _ _ _ _ 10 _ [9, 8, 0, 1, 2, 3, 4, 5, 6, 7, 8, 9] _ rfl (by kernel_rfl) ?s10 ?_
    rotate_left
    exact FactSteps.nil
    case s0 =>
      rintro L a v w hv hg hL hd hcl ⟨e7, e8, e3, e4, hb, f0, f1, f2, f3, f4, f5, f6, f7, f8, f9, f10⟩ K hK
      refine step_do rfl ?_
      refine wp_ld rowM (.tmp 7) rfl ((hv 7).trans e7) (k7.below hb k7.lt) s7 ?_
      exact hK.out _ _ ⟨e7, e8, e3, e4, hb, fun _ => rfl, f1, f2, f3, f4, f5, f6, f7, f8, f9, f10⟩
    case s1 =>
      rintro L a v w hv hg hL hd hcl ⟨e7, e8, e3, e4, hb, f0, f1, f2, f3, f4, f5, f6, f7, f8, f9, f10⟩ K hK
      have h0 := f0 (hd 0 (by decide))
      refine step_do rfl ?_
      clear hv
      go_simp
      refine (fromF HU1.out (h7.below hb)).mono ?_
      rintro e wy ⟨q, rfl, hq, bb⟩
      exact hK.out _ _ ⟨e7, e8, e3, e4, (hb.trans (bb.mono hb.size)), f0, fun _ => hq, f2, f3, f4, f5, (fun h => (f6 h).below bb), f7, f8, f9, f10⟩
    case s2 =>
      rintro L a v w hv hg hL hd hcl ⟨e7, e8, e3, e4, hb, f0, f1, f2, f3, f4, f5, f6, f7, f8, f9, f10⟩ K hK
      refine step_do rfl ?_
      refine wp_ld rowRM (.tmp 3) rfl ((hv 3).trans e3) (k3.below hb k3.lt) HS1.out ?_
      exact hK.out _ _ ⟨e7, e8, e3, e4, hb, f0, f1, fun _ => rfl, f3, f4, f5, f6, f7, f8, f9, f10⟩
    case s3 =>
      rintro L a v w hv hg hL hd hcl ⟨e7, e8, e3, e4, hb, f0, f1, f2, f3, f4, f5, f6, f7, f8, f9, f10⟩ K hK
      have h1 := f1 (hd 1 (by decide))
      have h2 := f2 (hd 2 (by decide))
      refine step_do rfl ?_
      clear hv
      go_simp
      refine (sameT HU1.out WU1.out h1.fresh (h3.below hb)).mono ?_
      rintro e wy ⟨rfl, bb⟩
      exact hK.out _ _ ⟨e7, e8, e3, e4, (hb.trans (bb.mono hb.size)), f0, (fun h => (f1 h).below bb), f2, fun _ => rfl, f4, f5, (fun h => (f6 h).below bb), f7, f8, f9, f10⟩
    case s4 =>
      rintro L a v w hv hg hL hd hcl ⟨e7, e8, e3, e4, hb, f0, f1, f2, f3, f4, f5, f6, f7, f8, f9, f10⟩ K hK
      refine step_do rfl ?_
      clear hv
      go_simp
      exact hK.out _ _ ⟨e7, e8, e3, e4, hb, f0, f1, f2, f3, fun _ => rfl, f5, f6, f7, f8, f9, f10⟩
    case s5 =>
      rintro L a v w hv hg hL hd hcl ⟨e7, e8, e3, e4, hb, f0, f1, f2, f3, f4, f5, f6, f7, f8, f9, f10⟩ K hK
      refine step_want (j := 4) (s := 106) (b := true) rfl rfl ((hv 106).trans (f4 (hd 4 (by decide)))) ?_
      refine wp_ld rowM (.tmp 8) rfl ((hv 8).trans e8) (k8.below hb k8.lt) s8 ?_
      exact hK.out _ _ ⟨e7, e8, e3, e4, hb, f0, f1, f2, f3, f4, fun _ => rfl, f6, f7, f8, f9, f10⟩
    case s6 =>
      rintro L a v w hv hg hL hd hcl ⟨e7, e8, e3, e4, hb, f0, f1, f2, f3, f4, f5, f6, f7, f8, f9, f10⟩ K hK
      have h5 := f5 (hd 5 (by decide))
      refine step_want (j := 4) (s := 106) (b := true) rfl rfl ((hv 106).trans (f4 (hd 4 (by decide)))) ?_
      clear hv
      go_simp
      refine (fromF HU2.out (h8.below hb)).mono ?_
      rintro e wy ⟨q, rfl, hq, bb⟩
      exact hK.out _ _ ⟨e7, e8, e3, e4, (hb.trans (bb.mono hb.size)), f0, (fun h => (f1 h).below bb), f2, f3, f4, f5, fun _ => hq, f7, f8, f9, f10⟩
    case s7 =>
      rintro L a v w hv hg hL hd hcl ⟨e7, e8, e3, e4, hb, f0, f1, f2, f3, f4, f5, f6, f7, f8, f9, f10⟩ K hK
      refine step_want (j := 4) (s := 106) (b := true) rfl rfl ((hv 106).trans (f4 (hd 4 (by decide)))) ?_
      refine wp_ld rowRM (.tmp 4) rfl ((hv 4).trans e4) (k4.below hb k4.lt) HS2.out ?_
      exact hK.out _ _ ⟨e7, e8, e3, e4, hb, f0, f1, f2, f3, f4, f5, f6, fun _ => rfl, f8, f9, f10⟩
    case s8 =>
      rintro L a v w hv hg hL hd hcl ⟨e7, e8, e3, e4, hb, f0, f1, f2, f3, f4, f5, f6, f7, f8, f9, f10⟩ K hK
      have h6 := f6 (hd 6 (by decide))
      have h7 := f7 (hd 7 (by decide))
      refine step_want (j := 4) (s := 106) (b := true) rfl rfl ((hv 106).trans (f4 (hd 4 (by decide)))) ?_
      clear hv
      go_simp
      refine (sameT HU2.out WU2.out h6.fresh (h4.below hb)).mono ?_
      rintro e wy ⟨rfl, bb⟩
      exact hK.out _ _ ⟨e7, e8, e3, e4, (hb.trans (bb.mono hb.size)), f0, (fun h => (f1 h).below bb), f2, f3, f4, f5, (fun h => (f6 h).below bb), f7, fun _ => rfl, f9, f10⟩
    case s9 =>
      rintro L a v w hv hg hL hd hcl ⟨e7, e8, e3, e4, hb, f0, f1, f2, f3, f4, f5, f6, f7, f8, f9, f10⟩ K hK
      have g4 := f4 (hd 4 (by decide))
      refine step_do rfl ?_
      clear hv
      go_simp
      exact hK.out _ _ ⟨e7, e8, e3, e4, hb, f0, f1, f2, f3, f4, f5, f6, f7, f8, fun _ => rfl, f10⟩
    case s10 =>
      rintro L a v w hv hg hL hd hcl ⟨e7, e8, e3, e4, hb, f0, f1, f2, f3, f4, f5, f6, f7, f8, f9, f10⟩ K hK
      have g0 := f0 (hd 0 (by decide))
      have g2 := f2 (hd 2 (by decide))
      have g4 := f4 (hd 4 (by decide))
      have g5 := f5 (hd 5 (by decide))
      have g7 := f7 (hd 7 (by decide))
      have g9 := f9 (hd 9 (by decide))
      refine step_do rfl ?_
      clear hv
      go_simp
      exact hK.out _ _ ⟨e7, e8, e3, e4, hb, f0, f1, f2, f3, f4, f5, f6, f7, f8, f9, fun _ => rfl⟩
  case hend =>
  rintro L v wz hall ⟨e7, e8, e3, e4, hb, f0, f1, f2, f3, f4, f5, f6, f7, f8, f9, f10⟩
  have hL : ∀ i, i < 11 → L i = true := hall
  have f0 := f0 (hL 0 (by decide))
  have f1 := f1 (hL 1 (by decide))
  have f2 := f2 (hL 2 (by decide))
  have f3 := f3 (hL 3 (by decide))
  have f4 := f4 (hL 4 (by decide))
  have f5 := f5 (hL 5 (by decide))
  have f6 := f6 (hL 6 (by decide))
  have f7 := f7 (hL 7 (by decide))
  have f8 := f8 (hL 8 (by decide))
  have f9 := f9 (hL 9 (by decide))
  have f10 := f10 (hL 10 (by decide))
  simp only [finA, List.foldl_cons, List.foldl_nil, Act.put, List.setIfInBounds_toArray, List.set_cons_succ, List.set_cons_zero, f0, f2, f4, f5, f7, f9, f10, f3, f8]
  have gb := gb.trans (hb.mono gb.size)
  clear e7 e8 e3 e4 f0 f1 f2 f3 f4 f5 f6 f7 f8 f9 f10 hL hall
  go_wp2_with fail
  go_ret
  exact ⟨rfl, gb⟩
set_option maxRecDepth 100000 in
theorem lifted (os : Os) (started : os.Started) (H : Type) (enc : TypeId × Value → H) :
    ReturnsInHanded {} Try.checked os 3 .any (Rows.regManiesSpec.pre6 enc Try.prog Try.f3 Rows.regManiesRow.domain false) (Rows.regManiesSpec.post enc Try.prog Try.f3 false true false false) := by
  refine returnsInHanded_of_change (C := Try.checked) own started (by kernel_rfl) Try.func3
    (ChangeSpec.witness6 (enc := enc) (C := Try.checked) false ⟨#[], #[.agg #[.int .i64 0, .int .i64 0, .int .i64 0, .int .i64 0, .int .i64 0, .int .i64 0, .int .i64 0, .int .i64 0, .slice none 0 0, .int .i64 0, .int .i64 0, .int .i64 0, .int .i64 0, .int .i64 0, .int .i64 0, .int .i64 0, .int .i64 0, .slice none 0 0, .int .i64 0, .int .i64 0]], []⟩ 8 (by kernel_rfl) (by kernel_rfl) (by kernel_rfl) (by kernel_rfl)) ?_
  intro W base args ds gs before hval0 hW hcnd _
  have hval : ∀ (j : Nat) t v, Try.f3.params[j]? = some t → args[j]? = some v → Value.okWide Try.prog W .any base t v := hval0
  have hW' := hW
  obtain ⟨p, q, hA0, hV, rfl, hfz, hnd⟩ := hW
  have hA : DataW.TrodAll enc Try.prog W 0 (fun _ => true) true Try.f3.params.toList args.toList ds p := hA0
  rw [Try.params3] at hA hval
  obtain ⟨v0, vs0, d0, ds0, p0, q0, hargs, rfl, rfl, h0, r0⟩ := trodAll_cons hA
  obtain ⟨rfl, rfl, rfl⟩ := trodAll_nil r0
  obtain rfl : args = #[v0] := by cases args; simp_all
  obtain ⟨rfl, rfl⟩ := trodVars_none hV
  have lt0 : ∀ x ∈ p0, x.block < W.heap.size := by obtain ⟨m, hm⟩ := h0; exact DataW.trod_lt m _ _ _ hm
  have k0 := h0
  obtain ⟨U10, U20, A10, A20, n10, c10, n20, c20, l10, l20, nd0, z0, rfl, hU10, wU10, hU20, wU20, r10, r20, m10, m20⟩ := open_ask (hval 0 27 v0 rfl rfl) h0
  clear hA0 hval0
  refine (walk U10 U20 A10 A20 n10 c10 n20 c20 l10 l20 nd0 z0 W hU10 hU20 wU10 wU20 r10 r20 m10 m20).mono fun e W' ⟨he, bel⟩ => ?_
  subst he
  exact ⟨_, rfl, _, _, _, [], _, [], hW', trodAll_mk1 (shut_bool Try.underlying4 _), (trodAll_cons_mk (Below.trod laidOut (by kernel_rfl) (of_decide_eq_true (by kernel_rfl)) k0 bel lt0) trodAll_mk0), rfl, bel.frame _, fun h => by cases h⟩

theorem proved : Rows.RegManiesSaid :=
  OpenClaim.holds_of_wide 3 Try.f3 rfl rfl rfl rfl rfl rfl rfl ⟨rfl, rfl, rfl, rfl, rfl⟩ rfl rfl rfl rfl rfl (by kernel_rfl) Try.func3 (by kernel_rfl)
    (of_decide_eq_true (by kernel_rfl)) (by unfold Func.isWrapper; first | (rw [if_pos (by decide +kernel)]; kernel_rfl) | (rw [if_neg (by decide +kernel)]; exact ⟨rfl, rfl⟩))
    (fun os started H enc _ => lifted os started H enc)
#print axioms proved
end Go.Proofs.Ytocoohpekpkmkaa.RegManies

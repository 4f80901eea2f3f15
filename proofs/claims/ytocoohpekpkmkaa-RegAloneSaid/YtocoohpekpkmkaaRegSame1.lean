/- The law's own closure: are two registers the same (printed by gen/regsame1.py). -/
import Derived.Test.YtocoohpekpkmkaaRegOwn
namespace Go.Proofs.Ytocoohpekpkmkaa
set_option linter.unusedVariables false
set_option linter.unusedSimpArgs false
open Go.RowKit
open Reg
set_option maxRecDepth 100000 in
set_option maxHeartbeats 1000000 in
theorem same1G {f : Nat → Nd} {q q2 : Value} {w : World} (hf : GoodF f) (x1 : Fresh (repU f) (repL f) q w) (x2 : Fresh (repU f) (repL f) q2 w) : Calls Try.prog 22 #[q, q2] w (GiveB w true) := by
  obtain ⟨C1, rfl⟩ := x1.agg
  obtain ⟨C2, rfl⟩ := x2.agg
  have s1 := x1.size9 (repU_len _)
  have s2 := x2.size9 (repU_len _)
  have HG := Lib.hid hf
  unfold GiveB
  have hF := repU_len f
  generalize hU : repU f = U at *
  generalize hL : repL f = l at *
  have HU := Lib.hid hU
  have HL := Lib.hid hL
  have HF := Lib.hid hF
  clear hU hL hF hf
  go_enter Try.func22, Try.ntmps22
  go_upto_region 1 with fail
  refine nameW ?_
  intro wv hwv
  obtain ⟨b, hb⟩ : ∃ b, b = w.heap.size := ⟨_, rfl⟩
  rw [← hb]
  have k1 : Blk wv b 31 C1 := by rw [hwv, hb]; exact (Blk.new w _ _).alloc _
  have k2 : Blk wv (b + 1) 31 C2 := by
    have h := Blk.new (w.alloc (.cells C1 31)) 31 C2
    rw [hwv, hb]
    simpa using h
  have gb : Below w.heap.size w wv := by rw [hwv]; exact ((Below.refl _ _).alloc (Nat.le_refl _) _).alloc (by simp) _
  have x1 := x1.below gb
  have x2 := x2.below gb
  clear hwv hb
  refine wp_region_facts (fun L v w => v 2 = .pointer (some ⟨b, 0, none⟩) ∧ v 3 = .pointer (some ⟨b + 1, 0, none⟩) ∧ Below wv.heap.size wv w ∧ (L 0 = true → v 5 = .agg C1) ∧ (L 1 = true → FreshO 105 U l (v 6) w) ∧ (L 2 = true → v 7 = .agg C2) ∧ (L 3 = true → FreshO 105 U l (v 8) w) ∧ (L 4 = true → v 9 = .bool true) ∧ (L 5 = true → v 4 = .bool true)) [5, 6, 7, 8, 9, 4] (by kernel_rfl) (by kernel_rfl) (by kernel_rfl) (by kernel_rfl) ?h0 ?hst ?hend
  case h0 =>
    intro L h0
    have h0 : ∀ i, i < 6 → L i = false := h0
    exact ⟨rfl, rfl, (Below.refl _ _).drew, offF h0 (i := 0) (by decide), offF h0 (i := 1) (by decide), offF h0 (i := 2) (by decide), offF h0 (i := 3) (by decide), offF h0 (i := 4) (by decide), offF h0 (i := 5) (by decide)⟩
  case hst =>
    show FactSteps _ _ _ _ [0, 1, 2, 3, 4, 5]
    refine @FactSteps.cons _ _ _ _ 0 _ [] _ rfl (by kernel_rfl) ?s0 ?_
    rotate_left
    refine @FactSteps.cons _ _ _ _ 1 _ [0] _ rfl (by kernel_rfl) ?s1 ?_
    rotate_left
    refine @FactSteps.cons _ _ _ _ 2 _ [] _ rfl (by kernel_rfl) ?s2 ?_
    rotate_left
    refine @FactSteps.cons _ _ _ _ 3 _ [2, 1] _ rfl (by kernel_rfl) ?s3 ?_
    rotate_left
    refine @FactSteps.cons _ _ _ _ 4 _ [1, 3, 3] _ rfl (by kernel_rfl) ?s4 ?_
    rotate_left
    refine @FactSteps.cons _ _ _ _ 5 _ [4, 4, 0, 1, 2, 3, 4] _ rfl (by kernel_rfl) ?s5 ?_
    rotate_left
    exact FactSteps.nil
    case s0 =>
      rintro L a v w hv hg hL hd hcl ⟨e2, e3, hb, f0, f1, f2, f3, f4, f5⟩ K hK
      refine step_do rfl ?_
      refine wp_ld rowM (.tmp 2) rfl ((hv 2).trans e2) (k1.below hb k1.lt) s1 ?_
      exact hK.out _ _ ⟨e2, e3, hb, fun _ => rfl, f1, f2, f3, f4, f5⟩
    case s1 =>
      rintro L a v w hv hg hL hd hcl ⟨e2, e3, hb, f0, f1, f2, f3, f4, f5⟩ K hK
      have h0 := f0 (hd 0 (by decide))
      refine step_do rfl ?_
      clear hv
      go_simp
      refine (fromF HF.out (x1.below hb)).mono ?_
      rintro e wy ⟨q, rfl, hq, bb⟩
      exact hK.out _ _ ⟨e2, e3, (hb.trans (bb.mono hb.size)), f0, fun _ => hq, f2, (fun h => (f3 h).below bb), f4, f5⟩
    case s2 =>
      rintro L a v w hv hg hL hd hcl ⟨e2, e3, hb, f0, f1, f2, f3, f4, f5⟩ K hK
      refine step_do rfl ?_
      refine wp_ld rowM (.tmp 3) rfl ((hv 3).trans e3) (k2.below hb k2.lt) s2 ?_
      exact hK.out _ _ ⟨e2, e3, hb, f0, f1, fun _ => rfl, f3, f4, f5⟩
    case s3 =>
      rintro L a v w hv hg hL hd hcl ⟨e2, e3, hb, f0, f1, f2, f3, f4, f5⟩ K hK
      have h2 := f2 (hd 2 (by decide))
      refine step_do rfl ?_
      clear hv
      go_simp
      refine (fromF HF.out (x2.below hb)).mono ?_
      rintro e wy ⟨q, rfl, hq, bb⟩
      exact hK.out _ _ ⟨e2, e3, (hb.trans (bb.mono hb.size)), f0, (fun h => (f1 h).below bb), f2, fun _ => hq, f4, f5⟩
    case s4 =>
      rintro L a v w hv hg hL hd hcl ⟨e2, e3, hb, f0, f1, f2, f3, f4, f5⟩ K hK
      have hs := fun (w' : World) (q q2 : Value) (h : Fresh U l q w') (h2 : Fresh U l q2 w') => sameG (q := q) (q2 := q2) (w := w') HG.out (by rw [HU.out, HL.out]; exact h) (by rw [HU.out, HL.out]; exact h2)
      have HS := Lib.hid hs
      clear hs
      have h1 := f1 (hd 1 (by decide))
      have h3 := f3 (hd 3 (by decide))
      refine step_do rfl ?_
      clear hv
      go_simp
      refine (HS.out _ _ _ h1.fresh h3.fresh).mono ?_
      rintro e wy ⟨rfl, bb⟩
      exact hK.out _ _ ⟨e2, e3, (hb.trans (bb.mono hb.size)), f0, (fun h => (f1 h).below bb), f2, (fun h => (f3 h).below bb), fun _ => rfl, f5⟩
    case s5 =>
      rintro L a v w hv hg hL hd hcl ⟨e2, e3, hb, f0, f1, f2, f3, f4, f5⟩ K hK
      have g0 := f0 (hd 0 (by decide))
      have g2 := f2 (hd 2 (by decide))
      refine step_do rfl ?_
      clear hv
      go_simp
      exact hK.out _ _ ⟨e2, e3, hb, f0, f1, f2, f3, f4, fun _ => rfl⟩
  case hend =>
  rintro L v wz hall ⟨e2, e3, hb, f0, f1, f2, f3, f4, f5⟩
  have hL : ∀ i, i < 6 → L i = true := hall
  have f0 := f0 (hL 0 (by decide))
  have f1 := f1 (hL 1 (by decide))
  have f2 := f2 (hL 2 (by decide))
  have f3 := f3 (hL 3 (by decide))
  have f4 := f4 (hL 4 (by decide))
  have f5 := f5 (hL 5 (by decide))
  simp only [finA, List.foldl_cons, List.foldl_nil, Act.put, List.setIfInBounds_toArray, List.set_cons_succ, List.set_cons_zero, f0, f2, f5, f4]
  have gb := gb.trans (hb.mono gb.size)
  clear e2 e3 f0 f1 f2 f3 f4 f5 hL hall
  go_wp2_with fail
  go_ret
  exact ⟨rfl, gb⟩
end Go.Proofs.Ytocoohpekpkmkaa

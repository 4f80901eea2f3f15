/- The walk of the document's Right. -/
import Derived.Test.YtiemlnomlfebkaaEvRPol
import Derived.Test.YtiemlnomlfebkaaEvRight
namespace Go.Proofs.Ytiemlnomlfebkaa
open Go.RowKit
open Dot Evt
set_option maxRecDepth 100000 in
set_option maxHeartbeats 4000000 in
theorem eright07_any (x : Ev) (hp : x.p.length = 7) (A : Option Addr) (m c : Nat) (w : World) (hl : RdD w w.heap.size A m x.l) (hmb : m ≤ 4611686018427387904) :
    Calls Try.prog 12 #[.agg (ec x (.slice A m c))] w fun e w' => e = .returned (.bool (rightE x)) ∧ Below w.heap.size w w' := by
  obtain ⟨R, hR⟩ : ∃ R, R = rightE x := ⟨_, rfl⟩
  rw [← hR]
  obtain ⟨⟨n, q⟩, t, k, wk, v, p, l⟩ := x
  have hpol := rpol_any p
  obtain ⟨K, hK⟩ : ∃ K, K = kindB ⟨(n, q), t, k, wk, v, p, l⟩ := ⟨_, rfl⟩
  have hR2 : R = (mayB (n, q) && inB t 1 top && inB wk 0 7 && decide (l.length ≤ 96) && namedB (n, q) l && K) := by rw [hR, hK]; rfl
  clear hR
  simp only at hl hp
  have HM := Lib.hid hl.1
  have hbb : Below w.heap.size w (w.alloc (.cells (ec ⟨(n, q), t, k, wk, v, p, l⟩ (.slice A m c)) 28)) := (Below.refl _ _).alloc (Nat.le_refl _) _
  have kb : Blk (w.alloc (.cells (ec ⟨(n, q), t, k, wk, v, p, l⟩ (.slice A m c)) 28)) w.heap.size 28 (ec ⟨(n, q), t, k, wk, v, p, l⟩ (.slice A m c)) := Blk.new _ _ _
  unfold ec at hbb kb ⊢
  unfold pc at hpol
  simp only at hbb kb ⊢
  have hpz : p = p0 ↔ (p.getD 0 0 = 0 ∧ p.getD 1 0 = 0 ∧ p.getD 2 0 = 0 ∧ p.getD 3 0 = 0 ∧ p.getD 4 0 = 0 ∧ p.getD 5 0 = 0 ∧ p.getD 6 0 = 0) := by
    match p, hp with
    | [a, b, c, d, e, f, g], _ => simp [p0]
  have hKp : K = if k = 1 then decide (p = p0) && inB v 0 top && decide (l = []) else if k = 2 then polB p && decide (v = 0) else if k = 3 then decide (p = p0) && decide (v = 0) else false := by rw [hK]; rfl
  clear hK hp
  generalize hpp : decide (p = p0) = PZ at hKp
  have hpz2 : PZ = decide (p.getD 0 0 = 0 ∧ p.getD 1 0 = 0 ∧ p.getD 2 0 = 0 ∧ p.getD 3 0 = 0 ∧ p.getD 4 0 = 0 ∧ p.getD 5 0 = 0 ∧ p.getD 6 0 = 0) := by
    rw [← hpp]; exact decide_eq_decide.2 hpz
  clear hpp hpz
  generalize polB p = PB at hKp hpol
  generalize p.getD 0 0 = p0, p.getD 1 0 = p1, p.getD 2 0 = p2, p.getD 3 0 = p3, p.getD 4 0 = p4, p.getD 5 0 = p5, p.getD 6 0 = p6 at *
  have HR := Lib.hid hR2
  have HK := Lib.hid hKp
  have HZ := Lib.hid hpz2
  have HP := Lib.hid hpol
  have HL := Lib.hid hl
  have HMB := Lib.hid hmb
  clear hR2 hKp hpz2 hpol hl hmb
  go_enter Try.func12, Try.ntmps12
  go_upto_region 1 with fail
  refine nameW ?_
  intro wv hwv
  obtain ⟨b, hb⟩ : ∃ b, b = w.heap.size := ⟨_, rfl⟩
  rw [← hb]
  rw [← hwv, ← hb] at kb hbb
  have hlv := HL.out.below (B := w.heap.size) (by rw [← hb]; exact hbb)
  rw [← hb] at hlv
  obtain ⟨c0, c1, _⟩ := ecells kb
  have HBE := Lib.hid hb
  clear hwv hb HL
  go_wp2_with fail
  refine (rmay_any n q wv).mono ?_
  rintro e w2 ⟨rfl, b2⟩
  have hb2 := hbb.trans (b2.mono (by have := kb.lt; omega))
  have kb2 := kb.below b2 kb.lt
  have hl2 := hlv.below (b2.mono (by have := kb.lt; omega))
  have hs2 := kb2.lt
  clear kb hlv c0 c1 hbb b2
  obtain ⟨c0, c1, c2, c3, c4, c5, c6, c7, c8, c9, c10, c11, c12, c13⟩ := ecells kb2
  rcases hm : mayB (n, q) with _ | _
  · skip
    go_wp2_with fail
    go_ret
    refine ⟨?_, by rw [← HBE.out]; exact hb2⟩
    rw [HR.out, hm]
    try rfl
  have HMY := Lib.hid hm
  clear hm
  have hn1 : ¬ t < 1 → ¬ (1099511627776 : Int) < t → inB t 1 top = true := fun h1 h2 => (inB_iff _ _ _).2 ⟨by omega, by unfold top; omega⟩
  have hn2 : ¬ wk < 0 → ¬ (7 : Int) < wk → inB wk 0 7 = true := fun h1 h2 => (inB_iff _ _ _).2 ⟨by omega, by omega⟩
  have HN1 := Lib.hid hn1
  have HN2 := Lib.hid hn2
  clear hn1 hn2
  by_cases hc : t < 1
  · have hcd : decide (t < 1) = true := decide_eq_true hc
    have hcx : inB t 1 top = false := by rw [← Bool.not_eq_true, inB_iff]; unfold top; omega
    clear hc
    have HCX := Lib.hid hcx
    clear hcx
    go_wp2_with fail
    go_ret
    refine ⟨?_, by rw [← HBE.out]; exact hb2⟩
    rw [HR.out, HMY.out, HCX.out]
    try rfl
  have e1 : decide (t < 1) = false := decide_eq_false hc
  have E1 := Lib.hid hc
  clear hc
  by_cases hc : (1099511627776 : Int) < t
  · have hcd : decide ((1099511627776 : Int) < t) = true := decide_eq_true hc
    have hcx : inB t 1 top = false := by rw [← Bool.not_eq_true, inB_iff]; unfold top; omega
    clear hc
    have HCX := Lib.hid hcx
    clear hcx
    go_wp2_with fail
    go_ret
    refine ⟨?_, by rw [← HBE.out]; exact hb2⟩
    rw [HR.out, HMY.out, HCX.out]
    try rfl
  have e2 : decide ((1099511627776 : Int) < t) = false := decide_eq_false hc
  have HT := Lib.hid (HN1.out E1.out hc)
  clear hc
  by_cases hc : wk < 0
  · have hcd : decide (wk < 0) = true := decide_eq_true hc
    have hcx : inB wk 0 7 = false := by rw [← Bool.not_eq_true, inB_iff]; omega
    clear hc
    have HCX := Lib.hid hcx
    clear hcx
    go_wp2_with fail
    go_ret
    refine ⟨?_, by rw [← HBE.out]; exact hb2⟩
    rw [HR.out, HMY.out, HT.out, HCX.out]
    try rfl
  have e3 : decide (wk < 0) = false := decide_eq_false hc
  have E3 := Lib.hid hc
  clear hc
  by_cases hc : (7 : Int) < wk
  · have hcd : decide ((7 : Int) < wk) = true := decide_eq_true hc
    have hcx : inB wk 0 7 = false := by rw [← Bool.not_eq_true, inB_iff]; omega
    clear hc
    have HCX := Lib.hid hcx
    clear hcx
    go_wp2_with fail
    go_ret
    refine ⟨?_, by rw [← HBE.out]; exact hb2⟩
    rw [HR.out, HMY.out, HT.out, HCX.out]
    try rfl
  have e4 : decide ((7 : Int) < wk) = false := decide_eq_false hc
  have HW := Lib.hid (HN2.out E3.out hc)
  clear hc
  by_cases hc : (96 : Int) < (m : Int)
  · have hcd : decide ((96 : Int) < (m : Int)) = true := decide_eq_true hc
    have hcx : decide (l.length ≤ 96) = false := by rw [decide_eq_false_iff_not]; have := HM.out; omega
    clear hc
    have HCX := Lib.hid hcx
    clear hcx
    go_wp2_with fail
    go_ret
    refine ⟨?_, by rw [← HBE.out]; exact hb2⟩
    rw [HR.out, HMY.out, HT.out, HW.out, HCX.out]
    try rfl
  have e5 : decide ((96 : Int) < (m : Int)) = false := decide_eq_false hc
  have HLE := Lib.hid (show decide (l.length ≤ 96) = true by rw [decide_eq_true_eq]; have := HM.out; omega)
  have H96 := Lib.hid (show m ≤ 96 by omega)
  clear hc
  have HRN := Lib.hid (show R = (namedB (n, q) l && K) by rw [HR.out, HMY.out, HT.out, HW.out, HLE.out]; cases namedB (n, q) l <;> rfl)
  clear HR HMY HT HW HLE HN1 HN2 E1 E3
  go_wp2_with fail
  go_loopw [38] (fun i wr => ∃ j : Nat, j ≤ m ∧ i = .int .i64 j ∧ (∀ i, i < j → nameAt (n, q) l i = true) ∧ Blk wr b 28 #[.int .i64 n, .int .i64 q, .int .i64 t, .int .i64 k, .int .i64 wk, .int .i64 v, .int .i64 p0, .int .i64 p1, .int .i64 p2, .int .i64 p3, .int .i64 p4, .int .i64 p5, .int .i64 p6, .slice A m c] ∧ RdD wr b A m l ∧ Below b w wr) (fun i _ => m - (intOf i).toNat)
  case atStart => exact ⟨0, by omega, rfl, fun i hi => by omega, kb2, hl2, hb2⟩
  case round =>
    clear kb2 hl2 hb2 c0 c1 c2 c3 c4 c5 c6 c7 c8 c9 c10 c11 c12 c13 e1 e2 e3 e4 e5 hs2
    obtain ⟨j, hj, rfl, hall, kb, hl, hbel⟩ := hrel
    have HA := Lib.hid hall
    clear hall
    by_cases hlt : j < m
    · have hjl : j < l.length := by rw [← HM.out]; exact hlt
      obtain ⟨ad, hA, hdt⟩ := hl.2 j _ (List.getElem?_eq_getElem hjl)
      have hgd : nameAt (n, q) l j = (mayB l[j] && !decide (l[j] = (n, q)) && (decide (j = 0) || befB (l.getD (j - 1) (0, 0)) l[j])) := by
        unfold nameAt
        rw [show l.getD j (0, 0) = l[j] by rw [List.getD_eq_getElem?_getD, List.getElem?_eq_getElem hjl]; rfl]
      generalize l[j] = d at *
      subst hA
      obtain ⟨x, y⟩ := d
      obtain ⟨q5, q0, q1⟩ := hdt
      simp only at q0 q1 hgd
      have HG := Lib.hid hgd
      clear hgd
      have hsz := kb.lt
      obtain ⟨wn, hwn⟩ : ∃ wn, wn = wr.alloc (.cells #[.int .i64 x, .int .i64 y] 23) := ⟨_, rfl⟩
      obtain ⟨gd, hgd⟩ : ∃ gd, gd = wr.heap.size := ⟨_, rfl⟩
      have kx : Blk wn gd 23 #[.int .i64 x, .int .i64 y] := by rw [hwn, hgd]; exact Blk.new wr _ _
      have bn : Below wr.heap.size wr wn := by rw [hwn]; exact (Below.refl _ _).alloc (Nat.le_refl _) _
      have kb1 := kb.below bn kb.lt
      have hb1 := hbel.trans (bn.mono (by omega))
      have hl1 := hl.below (bn.mono (by omega))
      have HW := Lib.hid hwn
      have HGD := Lib.hid hgd
      have hgl : b < gd := by omega
      have hj0 : (0 : Int) ≤ (j : Int) := by omega
      have hjm : (j : Int) < (m : Int) := by omega
      clear hwn hgd bn hl
      have cs : wr.cell? ⟨b, 13, none⟩ = some (.slice (some ad) m c) := kb.cell 13
      go_upto_region 6 with fail
      rw [← HW.out, ← HGD.out]
      clear cs q0 q1 kb hbel
      have t0 : wn.cell? ⟨gd, 0, none⟩ = some (.int .i64 x) := kx.cell 0
      have t1 : wn.cell? ⟨gd, 1, none⟩ = some (.int .i64 y) := kx.cell 1
      have o0 : wn.cell? ⟨b, 0, none⟩ = some (.int .i64 n) := kb1.cell 0
      have o1 : wn.cell? ⟨b, 1, none⟩ = some (.int .i64 q) := kb1.cell 1
      have o13 : wn.cell? ⟨b, 13, none⟩ = some (.slice (some ad) m c) := kb1.cell 13
      have hmc : ∀ w', Calls Try.prog 35 #[.agg #[.int .i64 x, .int .i64 y]] w' fun e w'' => e = .returned (.bool (mayB (x, y))) ∧ Below w'.heap.size w' w'' := fun w' => rmay_any x y w'
      cases hmm : mayB (x, y)
      case false =>
        have hgk : nameAt (n, q) l j = false := by rw [HG.out, hmm]; rfl
        have HGK := Lib.hid hgk
        rw [hmm] at hmc
        have HMC := Lib.hid hmc
        clear hgk hmm hmc
        refine wp_region_below (by kernel_rfl) (by kernel_rfl) ?_
        intro T iT F hF hT
        have S0 : ∀ xf, (F xf).cell? ⟨gd, 0, none⟩ = some (.int .i64 x) := fun xf => ((hF xf).cell (p := ⟨gd, 0, none⟩) kx.lt).trans t0
        have S1 : ∀ xf, (F xf).cell? ⟨gd, 1, none⟩ = some (.int .i64 y) := fun xf => ((hF xf).cell (p := ⟨gd, 1, none⟩) kx.lt).trans t1
        have S2 : ∀ xf, (F xf).cell? ⟨b, 0, none⟩ = some (.int .i64 n) := fun xf => ((hF xf).cell (p := ⟨b, 0, none⟩) kb1.lt).trans o0
        have S3 : ∀ xf, (F xf).cell? ⟨b, 1, none⟩ = some (.int .i64 q) := fun xf => ((hF xf).cell (p := ⟨b, 1, none⟩) kb1.lt).trans o1
        have S4 : ∀ xf, (F xf).cell? ⟨b, 13, none⟩ = some (.slice (some ad) m c) := fun xf => ((hF xf).cell (p := ⟨b, 13, none⟩) kb1.lt).trans o13
        have HF := Lib.hid hF
        have HT := Lib.hid hT
        clear hF hT
        repeat (first
          | go_big_quiet_step (((go_at_call 35; exact calls_below HF.out HT.out (HMC.out _)))))
        refine wpQuiet_nil ?_
        intro w' hw'
        obtain ⟨qf, rfl⟩ := hw'
        have bF := HF.out qf
        have kF := kb1.below bF kb1.lt
        have hbF := hb1.trans (bF.mono (by have := kb1.lt; omega))
        have hlF := hl1.below (bF.mono (by have := kb1.lt; omega))
        clear HF HT S0 S1 S2 S3 S4 t0 t1 o0 o1 o13
        go_wp2_with fail
        go_ret
        refine ⟨?_, by rw [← HBE.out]; exact hbF⟩
        rw [HRN.out, name_at hjl HGK.out]
        rfl
      case true =>
        have HMM := Lib.hid hmm
        rw [hmm] at hmc
        have HMC := Lib.hid hmc
        clear hmm hmc
        by_cases hx : x = n
        · subst hx
          by_cases hy : y = q
          · subst hy
            have hgk : nameAt (x, y) l j = false := by rw [HG.out, HMM.out]; simp
            have HGK := Lib.hid hgk
            clear hgk
            refine wp_region_below (by kernel_rfl) (by kernel_rfl) ?_
            intro T iT F hF hT
            have S0 : ∀ xf, (F xf).cell? ⟨gd, 0, none⟩ = some (.int .i64 x) := fun xf => ((hF xf).cell (p := ⟨gd, 0, none⟩) kx.lt).trans t0
            have S1 : ∀ xf, (F xf).cell? ⟨gd, 1, none⟩ = some (.int .i64 y) := fun xf => ((hF xf).cell (p := ⟨gd, 1, none⟩) kx.lt).trans t1
            have S2 : ∀ xf, (F xf).cell? ⟨b, 0, none⟩ = some (.int .i64 x) := fun xf => ((hF xf).cell (p := ⟨b, 0, none⟩) kb1.lt).trans o0
            have S3 : ∀ xf, (F xf).cell? ⟨b, 1, none⟩ = some (.int .i64 y) := fun xf => ((hF xf).cell (p := ⟨b, 1, none⟩) kb1.lt).trans o1
            have S4 : ∀ xf, (F xf).cell? ⟨b, 13, none⟩ = some (.slice (some ad) m c) := fun xf => ((hF xf).cell (p := ⟨b, 13, none⟩) kb1.lt).trans o13
            have HF := Lib.hid hF
            have HT := Lib.hid hT
            clear hF hT
            repeat (first
              | go_big_quiet_step (((go_at_call 35; exact calls_below HF.out HT.out (HMC.out _)))))
            refine wpQuiet_nil ?_
            intro w' hw'
            obtain ⟨qf, rfl⟩ := hw'
            have bF := HF.out qf
            have kF := kb1.below bF kb1.lt
            have hbF := hb1.trans (bF.mono (by have := kb1.lt; omega))
            have hlF := hl1.below (bF.mono (by have := kb1.lt; omega))
            clear HF HT S0 S1 S2 S3 S4 t0 t1 o0 o1 o13
            go_wp2_with fail
            go_ret
            refine ⟨?_, by rw [← HBE.out]; exact hbF⟩
            rw [HRN.out, name_at hjl HGK.out]
            rfl
          · skip
            have HNO := Lib.hid (show decide ((x, y) = (x, q)) = false by rw [decide_eq_false_iff_not]; intro h; exact hy (congrArg Prod.snd h))
            by_cases hk0 : j = 0
            · subst hk0
              have hgk : nameAt (x, q) l 0 = true := by rw [HG.out, HMM.out, HNO.out]; rfl
              have HGK := Lib.hid hgk
              clear hgk
              refine wp_region_below (by kernel_rfl) (by kernel_rfl) ?_
              intro T iT F hF hT
              have S0 : ∀ xf, (F xf).cell? ⟨gd, 0, none⟩ = some (.int .i64 x) := fun xf => ((hF xf).cell (p := ⟨gd, 0, none⟩) kx.lt).trans t0
              have S1 : ∀ xf, (F xf).cell? ⟨gd, 1, none⟩ = some (.int .i64 y) := fun xf => ((hF xf).cell (p := ⟨gd, 1, none⟩) kx.lt).trans t1
              have S2 : ∀ xf, (F xf).cell? ⟨b, 0, none⟩ = some (.int .i64 x) := fun xf => ((hF xf).cell (p := ⟨b, 0, none⟩) kb1.lt).trans o0
              have S3 : ∀ xf, (F xf).cell? ⟨b, 1, none⟩ = some (.int .i64 q) := fun xf => ((hF xf).cell (p := ⟨b, 1, none⟩) kb1.lt).trans o1
              have S4 : ∀ xf, (F xf).cell? ⟨b, 13, none⟩ = some (.slice (some ad) m c) := fun xf => ((hF xf).cell (p := ⟨b, 13, none⟩) kb1.lt).trans o13
              have HF := Lib.hid hF
              have HT := Lib.hid hT
              clear hF hT
              repeat (first
                | go_big_quiet_step (((go_at_call 35; exact calls_below HF.out HT.out (HMC.out _)))))
              refine wpQuiet_nil ?_
              intro w' hw'
              obtain ⟨qf, rfl⟩ := hw'
              have bF := HF.out qf
              have kF := kb1.below bF kb1.lt
              have hbF := hb1.trans (bF.mono (by have := kb1.lt; omega))
              have hlF := hl1.below (bF.mono (by have := kb1.lt; omega))
              clear HF HT S0 S1 S2 S3 S4 t0 t1 o0 o1 o13
              go_wp2_with fail
              go_roundw
              case rel => exact ⟨1, by omega, rfl, fun i hi => by
                by_cases e : i = 0
                · subst e; exact HGK.out
                · exact HA.out i (by omega), kF, hlF, hbF⟩
              case measure => simp only [intOf]; omega
            · obtain ⟨i, hmk⟩ : ∃ i, j = i + 1 := ⟨j - 1, by omega⟩
              have hml : i < l.length := by omega
              have hkp : 0 < j := by omega
              have hkq : (0 : Int) < (j : Int) := by omega
              have hwk : IntKind.i64.wrap ((j : Int) - 1) = (i : Int) := by rw [IntKind.wrap_i64]; have := H96.out; omega
              have hm0 : (0 : Int) ≤ (i : Int) := by omega
              have hmn : (i : Int) < (m : Int) := by omega
              obtain ⟨ad2, hae, hdt2⟩ := hl1.2 i _ (List.getElem?_eq_getElem hml)
              injection hae with hae
              subst hae
              have hpe : l.getD i (0, 0) = l[i] := by rw [List.getD_eq_getElem?_getD, List.getElem?_eq_getElem hml]; rfl
              have hg3 : nameAt (x, q) l j = befB l[i] (x, y) := by
                rw [HG.out, HMM.out, HNO.out, decide_eq_false hk0, show j - 1 = i by omega, hpe]
                cases befB l[i] (x, y) <;> rfl
              clear hpe
              generalize l[i] = d at *
              obtain ⟨x2, y2⟩ := d
              obtain ⟨p5, p0, p1⟩ := hdt2
              simp only at p0 p1
              have p6 : (ad.add (i * 2)).block < wn.heap.size := Nat.lt_of_lt_of_le p5 (by have := kb1.lt; omega)
              clear HG
              have HG := Lib.hid hg3
              clear hg3 hmk
              have hcc : ∀ w', Calls Try.prog 36 #[.agg #[.int .i64 x2, .int .i64 y2], .agg #[.int .i64 x, .int .i64 y]] w' fun e w'' => e = .returned (.bool (befB (x2, y2) (x, y))) ∧ Below w'.heap.size w' w'' := fun w' => before_any x2 y2 x y w'
              cases hbf : befB (x2, y2) (x, y)
              case false =>
                have hgk : nameAt (x, q) l j = false := by rw [HG.out, hbf]
                have HGK := Lib.hid hgk
                rw [hbf] at hcc
                have HCC := Lib.hid hcc
                clear hgk hbf hcc
                refine wp_region_below (by kernel_rfl) (by kernel_rfl) ?_
                intro T iT F hF hT
                have S0 : ∀ xf, (F xf).cell? ⟨gd, 0, none⟩ = some (.int .i64 x) := fun xf => ((hF xf).cell (p := ⟨gd, 0, none⟩) kx.lt).trans t0
                have S1 : ∀ xf, (F xf).cell? ⟨gd, 1, none⟩ = some (.int .i64 y) := fun xf => ((hF xf).cell (p := ⟨gd, 1, none⟩) kx.lt).trans t1
                have S2 : ∀ xf, (F xf).cell? ⟨b, 0, none⟩ = some (.int .i64 x) := fun xf => ((hF xf).cell (p := ⟨b, 0, none⟩) kb1.lt).trans o0
                have S3 : ∀ xf, (F xf).cell? ⟨b, 1, none⟩ = some (.int .i64 q) := fun xf => ((hF xf).cell (p := ⟨b, 1, none⟩) kb1.lt).trans o1
                have S4 : ∀ xf, (F xf).cell? ⟨b, 13, none⟩ = some (.slice (some ad) m c) := fun xf => ((hF xf).cell (p := ⟨b, 13, none⟩) kb1.lt).trans o13
                have SP : ∀ xf, (F xf).cell? (ad.add (i * 2)) = some (.int .i64 x2) := fun xf => ((hF xf).cell p6).trans p0
                have SQ : ∀ xf, (F xf).cell? ⟨(ad.add (i * 2)).block, (ad.add (i * 2)).off + 1, none⟩ = some (.int .i64 y2) := fun xf => ((hF xf).cell (p := ⟨(ad.add (i * 2)).block, (ad.add (i * 2)).off + 1, none⟩) p6).trans p1
                have HF := Lib.hid hF
                have HT := Lib.hid hT
                clear hF hT
                repeat (first
                  | go_big_quiet_step ((first | (go_at_call 35; exact calls_below HF.out HT.out (HMC.out _)) | (go_at_call 36; exact calls_below HF.out HT.out (HCC.out _)))))
                refine wpQuiet_nil ?_
                intro w' hw'
                obtain ⟨qf, rfl⟩ := hw'
                have bF := HF.out qf
                have kF := kb1.below bF kb1.lt
                have hbF := hb1.trans (bF.mono (by have := kb1.lt; omega))
                have hlF := hl1.below (bF.mono (by have := kb1.lt; omega))
                clear HF HT S0 S1 S2 S3 S4 t0 t1 o0 o1 o13
                go_wp2_with fail
                go_ret
                refine ⟨?_, by rw [← HBE.out]; exact hbF⟩
                rw [HRN.out, name_at hjl HGK.out]
                rfl
              case true =>
                have hgk : nameAt (x, q) l j = true := by rw [HG.out, hbf]
                have HGK := Lib.hid hgk
                rw [hbf] at hcc
                have HCC := Lib.hid hcc
                clear hgk hbf hcc
                refine wp_region_below (by kernel_rfl) (by kernel_rfl) ?_
                intro T iT F hF hT
                have S0 : ∀ xf, (F xf).cell? ⟨gd, 0, none⟩ = some (.int .i64 x) := fun xf => ((hF xf).cell (p := ⟨gd, 0, none⟩) kx.lt).trans t0
                have S1 : ∀ xf, (F xf).cell? ⟨gd, 1, none⟩ = some (.int .i64 y) := fun xf => ((hF xf).cell (p := ⟨gd, 1, none⟩) kx.lt).trans t1
                have S2 : ∀ xf, (F xf).cell? ⟨b, 0, none⟩ = some (.int .i64 x) := fun xf => ((hF xf).cell (p := ⟨b, 0, none⟩) kb1.lt).trans o0
                have S3 : ∀ xf, (F xf).cell? ⟨b, 1, none⟩ = some (.int .i64 q) := fun xf => ((hF xf).cell (p := ⟨b, 1, none⟩) kb1.lt).trans o1
                have S4 : ∀ xf, (F xf).cell? ⟨b, 13, none⟩ = some (.slice (some ad) m c) := fun xf => ((hF xf).cell (p := ⟨b, 13, none⟩) kb1.lt).trans o13
                have SP : ∀ xf, (F xf).cell? (ad.add (i * 2)) = some (.int .i64 x2) := fun xf => ((hF xf).cell p6).trans p0
                have SQ : ∀ xf, (F xf).cell? ⟨(ad.add (i * 2)).block, (ad.add (i * 2)).off + 1, none⟩ = some (.int .i64 y2) := fun xf => ((hF xf).cell (p := ⟨(ad.add (i * 2)).block, (ad.add (i * 2)).off + 1, none⟩) p6).trans p1
                have HF := Lib.hid hF
                have HT := Lib.hid hT
                clear hF hT
                repeat (first
                  | go_big_quiet_step ((first | (go_at_call 35; exact calls_below HF.out HT.out (HMC.out _)) | (go_at_call 36; exact calls_below HF.out HT.out (HCC.out _)))))
                refine wpQuiet_nil ?_
                intro w' hw'
                obtain ⟨qf, rfl⟩ := hw'
                have bF := HF.out qf
                have kF := kb1.below bF kb1.lt
                have hbF := hb1.trans (bF.mono (by have := kb1.lt; omega))
                have hlF := hl1.below (bF.mono (by have := kb1.lt; omega))
                clear HF HT S0 S1 S2 S3 S4 t0 t1 o0 o1 o13
                go_wp2_with fail
                go_roundw
                case rel => exact ⟨j + 1, by omega, num_succ j (by have := H96.out; omega), fun i hi => by
                  by_cases e : i = j
                  · subst e; exact HGK.out
                  · exact HA.out i (by omega), kF, hlF, hbF⟩
                case measure => exact meas_succ j m hlt (by have := H96.out; omega)
        · skip
          have HNO := Lib.hid (show decide ((x, y) = (n, q)) = false by rw [decide_eq_false_iff_not]; intro h; exact hx (congrArg Prod.fst h))
          by_cases hk0 : j = 0
          · subst hk0
            have hgk : nameAt (n, q) l 0 = true := by rw [HG.out, HMM.out, HNO.out]; rfl
            have HGK := Lib.hid hgk
            clear hgk
            refine wp_region_below (by kernel_rfl) (by kernel_rfl) ?_
            intro T iT F hF hT
            have S0 : ∀ xf, (F xf).cell? ⟨gd, 0, none⟩ = some (.int .i64 x) := fun xf => ((hF xf).cell (p := ⟨gd, 0, none⟩) kx.lt).trans t0
            have S1 : ∀ xf, (F xf).cell? ⟨gd, 1, none⟩ = some (.int .i64 y) := fun xf => ((hF xf).cell (p := ⟨gd, 1, none⟩) kx.lt).trans t1
            have S2 : ∀ xf, (F xf).cell? ⟨b, 0, none⟩ = some (.int .i64 n) := fun xf => ((hF xf).cell (p := ⟨b, 0, none⟩) kb1.lt).trans o0
            have S3 : ∀ xf, (F xf).cell? ⟨b, 1, none⟩ = some (.int .i64 q) := fun xf => ((hF xf).cell (p := ⟨b, 1, none⟩) kb1.lt).trans o1
            have S4 : ∀ xf, (F xf).cell? ⟨b, 13, none⟩ = some (.slice (some ad) m c) := fun xf => ((hF xf).cell (p := ⟨b, 13, none⟩) kb1.lt).trans o13
            have HF := Lib.hid hF
            have HT := Lib.hid hT
            clear hF hT
            repeat (first
              | go_big_quiet_step (((go_at_call 35; exact calls_below HF.out HT.out (HMC.out _)))))
            refine wpQuiet_nil ?_
            intro w' hw'
            obtain ⟨qf, rfl⟩ := hw'
            have bF := HF.out qf
            have kF := kb1.below bF kb1.lt
            have hbF := hb1.trans (bF.mono (by have := kb1.lt; omega))
            have hlF := hl1.below (bF.mono (by have := kb1.lt; omega))
            clear HF HT S0 S1 S2 S3 S4 t0 t1 o0 o1 o13
            go_wp2_with fail
            go_roundw
            case rel => exact ⟨1, by omega, rfl, fun i hi => by
              by_cases e : i = 0
              · subst e; exact HGK.out
              · exact HA.out i (by omega), kF, hlF, hbF⟩
            case measure => simp only [intOf]; omega
          · obtain ⟨i, hmk⟩ : ∃ i, j = i + 1 := ⟨j - 1, by omega⟩
            have hml : i < l.length := by omega
            have hkp : 0 < j := by omega
            have hkq : (0 : Int) < (j : Int) := by omega
            have hwk : IntKind.i64.wrap ((j : Int) - 1) = (i : Int) := by rw [IntKind.wrap_i64]; have := H96.out; omega
            have hm0 : (0 : Int) ≤ (i : Int) := by omega
            have hmn : (i : Int) < (m : Int) := by omega
            obtain ⟨ad2, hae, hdt2⟩ := hl1.2 i _ (List.getElem?_eq_getElem hml)
            injection hae with hae
            subst hae
            have hpe : l.getD i (0, 0) = l[i] := by rw [List.getD_eq_getElem?_getD, List.getElem?_eq_getElem hml]; rfl
            have hg3 : nameAt (n, q) l j = befB l[i] (x, y) := by
              rw [HG.out, HMM.out, HNO.out, decide_eq_false hk0, show j - 1 = i by omega, hpe]
              cases befB l[i] (x, y) <;> rfl
            clear hpe
            generalize l[i] = d at *
            obtain ⟨x2, y2⟩ := d
            obtain ⟨p5, p0, p1⟩ := hdt2
            simp only at p0 p1
            have p6 : (ad.add (i * 2)).block < wn.heap.size := Nat.lt_of_lt_of_le p5 (by have := kb1.lt; omega)
            clear HG
            have HG := Lib.hid hg3
            clear hg3 hmk
            have hcc : ∀ w', Calls Try.prog 36 #[.agg #[.int .i64 x2, .int .i64 y2], .agg #[.int .i64 x, .int .i64 y]] w' fun e w'' => e = .returned (.bool (befB (x2, y2) (x, y))) ∧ Below w'.heap.size w' w'' := fun w' => before_any x2 y2 x y w'
            cases hbf : befB (x2, y2) (x, y)
            case false =>
              have hgk : nameAt (n, q) l j = false := by rw [HG.out, hbf]
              have HGK := Lib.hid hgk
              rw [hbf] at hcc
              have HCC := Lib.hid hcc
              clear hgk hbf hcc
              refine wp_region_below (by kernel_rfl) (by kernel_rfl) ?_
              intro T iT F hF hT
              have S0 : ∀ xf, (F xf).cell? ⟨gd, 0, none⟩ = some (.int .i64 x) := fun xf => ((hF xf).cell (p := ⟨gd, 0, none⟩) kx.lt).trans t0
              have S1 : ∀ xf, (F xf).cell? ⟨gd, 1, none⟩ = some (.int .i64 y) := fun xf => ((hF xf).cell (p := ⟨gd, 1, none⟩) kx.lt).trans t1
              have S2 : ∀ xf, (F xf).cell? ⟨b, 0, none⟩ = some (.int .i64 n) := fun xf => ((hF xf).cell (p := ⟨b, 0, none⟩) kb1.lt).trans o0
              have S3 : ∀ xf, (F xf).cell? ⟨b, 1, none⟩ = some (.int .i64 q) := fun xf => ((hF xf).cell (p := ⟨b, 1, none⟩) kb1.lt).trans o1
              have S4 : ∀ xf, (F xf).cell? ⟨b, 13, none⟩ = some (.slice (some ad) m c) := fun xf => ((hF xf).cell (p := ⟨b, 13, none⟩) kb1.lt).trans o13
              have SP : ∀ xf, (F xf).cell? (ad.add (i * 2)) = some (.int .i64 x2) := fun xf => ((hF xf).cell p6).trans p0
              have SQ : ∀ xf, (F xf).cell? ⟨(ad.add (i * 2)).block, (ad.add (i * 2)).off + 1, none⟩ = some (.int .i64 y2) := fun xf => ((hF xf).cell (p := ⟨(ad.add (i * 2)).block, (ad.add (i * 2)).off + 1, none⟩) p6).trans p1
              have HF := Lib.hid hF
              have HT := Lib.hid hT
              clear hF hT
              repeat (first
                | go_big_quiet_step ((first | (go_at_call 35; exact calls_below HF.out HT.out (HMC.out _)) | (go_at_call 36; exact calls_below HF.out HT.out (HCC.out _)))))
              refine wpQuiet_nil ?_
              intro w' hw'
              obtain ⟨qf, rfl⟩ := hw'
              have bF := HF.out qf
              have kF := kb1.below bF kb1.lt
              have hbF := hb1.trans (bF.mono (by have := kb1.lt; omega))
              have hlF := hl1.below (bF.mono (by have := kb1.lt; omega))
              clear HF HT S0 S1 S2 S3 S4 t0 t1 o0 o1 o13
              go_wp2_with fail
              go_ret
              refine ⟨?_, by rw [← HBE.out]; exact hbF⟩
              rw [HRN.out, name_at hjl HGK.out]
              rfl
            case true =>
              have hgk : nameAt (n, q) l j = true := by rw [HG.out, hbf]
              have HGK := Lib.hid hgk
              rw [hbf] at hcc
              have HCC := Lib.hid hcc
              clear hgk hbf hcc
              refine wp_region_below (by kernel_rfl) (by kernel_rfl) ?_
              intro T iT F hF hT
              have S0 : ∀ xf, (F xf).cell? ⟨gd, 0, none⟩ = some (.int .i64 x) := fun xf => ((hF xf).cell (p := ⟨gd, 0, none⟩) kx.lt).trans t0
              have S1 : ∀ xf, (F xf).cell? ⟨gd, 1, none⟩ = some (.int .i64 y) := fun xf => ((hF xf).cell (p := ⟨gd, 1, none⟩) kx.lt).trans t1
              have S2 : ∀ xf, (F xf).cell? ⟨b, 0, none⟩ = some (.int .i64 n) := fun xf => ((hF xf).cell (p := ⟨b, 0, none⟩) kb1.lt).trans o0
              have S3 : ∀ xf, (F xf).cell? ⟨b, 1, none⟩ = some (.int .i64 q) := fun xf => ((hF xf).cell (p := ⟨b, 1, none⟩) kb1.lt).trans o1
              have S4 : ∀ xf, (F xf).cell? ⟨b, 13, none⟩ = some (.slice (some ad) m c) := fun xf => ((hF xf).cell (p := ⟨b, 13, none⟩) kb1.lt).trans o13
              have SP : ∀ xf, (F xf).cell? (ad.add (i * 2)) = some (.int .i64 x2) := fun xf => ((hF xf).cell p6).trans p0
              have SQ : ∀ xf, (F xf).cell? ⟨(ad.add (i * 2)).block, (ad.add (i * 2)).off + 1, none⟩ = some (.int .i64 y2) := fun xf => ((hF xf).cell (p := ⟨(ad.add (i * 2)).block, (ad.add (i * 2)).off + 1, none⟩) p6).trans p1
              have HF := Lib.hid hF
              have HT := Lib.hid hT
              clear hF hT
              repeat (first
                | go_big_quiet_step ((first | (go_at_call 35; exact calls_below HF.out HT.out (HMC.out _)) | (go_at_call 36; exact calls_below HF.out HT.out (HCC.out _)))))
              refine wpQuiet_nil ?_
              intro w' hw'
              obtain ⟨qf, rfl⟩ := hw'
              have bF := HF.out qf
              have kF := kb1.below bF kb1.lt
              have hbF := hb1.trans (bF.mono (by have := kb1.lt; omega))
              have hlF := hl1.below (bF.mono (by have := kb1.lt; omega))
              clear HF HT S0 S1 S2 S3 S4 t0 t1 o0 o1 o13
              go_wp2_with fail
              go_roundw
              case rel => exact ⟨j + 1, by omega, num_succ j (by have := H96.out; omega), fun i hi => by
                by_cases e : i = j
                · subst e; exact HGK.out
                · exact HA.out i (by omega), kF, hlF, hbF⟩
              case measure => exact meas_succ j m hlt (by have := H96.out; omega)
    · have hne : namedB (n, q) l = true := by
        rw [named_iff]
        exact fun i hi => HA.out i (by have := HM.out; omega)
      have HRK := Lib.hid (show R = K by rw [HRN.out, hne]; rfl)
      have hjd : decide ((j : Int) < (m : Int)) = false := decide_eq_false (by omega)
      have HB4 := Lib.hid hbel
      have hs4 := kb.lt
      obtain ⟨c0, c1, c2, c3, c4, c5, c6, c7, c8, c9, c10, c11, c12, c13⟩ := ecells kb
      clear HRN HA hne kb hl hbel
      by_cases hp0 : p0 = 0
      rotate_left
      · have hz : PZ = false := by rw [HZ.out, decide_eq_false_iff_not]; omega
        by_cases k1 : k = 1
        · have hKv := HK.out
          rw [if_pos k1] at hKv
          clear HK
          have HK := Lib.hid hKv
          clear hKv
          subst k1
          by_cases hv0 : 0 ≤ v
          rotate_left
          · have hvx := Lib.hid (show inB v 0 top = false by rw [← Bool.not_eq_true, inB_iff]; omega)
            have hvd : decide (0 ≤ v) = false := decide_eq_false hv0
            clear hv0
            go_wp2_with fail
            go_ret
            refine ⟨?_, by rw [← HBE.out]; exact HB4.out⟩
            rw [HRK.out, HK.out, hz, hvx.out]
            try rfl
          have hvd : decide (0 ≤ v) = true := decide_eq_true hv0
          by_cases hvt : v ≤ 1099511627776
          rotate_left
          · have hvx := Lib.hid (show inB v 0 top = false by rw [← Bool.not_eq_true, inB_iff]; unfold top; omega)
            have hvd2 : decide (v ≤ 1099511627776) = false := decide_eq_false hvt
            clear hv0 hvt
            go_wp2_with fail
            go_ret
            refine ⟨?_, by rw [← HBE.out]; exact HB4.out⟩
            rw [HRK.out, HK.out, hz, hvx.out]
            try rfl
          have hvd2 : decide (v ≤ 1099511627776) = true := decide_eq_true hvt
          have hvx := Lib.hid (show inB v 0 top = true by rw [inB_iff]; unfold top; omega)
          clear hv0 hvt
          go_wp2_with fail
          go_ret
          refine ⟨?_, by rw [← HBE.out]; exact HB4.out⟩
          rw [HRK.out, HK.out, hz, hvx.out]
          try rfl
        by_cases k2 : k = 2
        · have hKv := HK.out
          rw [if_neg k1, if_pos k2] at hKv
          clear HK
          have HK := Lib.hid hKv
          clear hKv
          subst k2
          clear k1
          by_cases hv : v = 0
          · have hKv := HK.out
            rw [decide_eq_true hv] at hKv
            clear HK
            have HK := Lib.hid hKv
            clear hKv
            subst hv
            go_wp2_with fail
            refine (HP.out _).mono ?_
            rintro e w5 ⟨rfl, b5⟩
            have hb5 := HB4.out.trans (b5.mono (by have := HB4.out.size; omega))
            go_wp2_with fail
            go_ret
            refine ⟨?_, by rw [← HBE.out]; exact hb5⟩
            rw [HRK.out, HK.out]
            cases PB <;> rfl
          have hv2 : (v == (0 : Int)) = false := by rw [beq_eq_false_iff_ne]; exact hv
          go_wp2_with fail
          go_ret
          refine ⟨?_, by rw [← HBE.out]; exact HB4.out⟩
          rw [HRK.out, HK.out, decide_eq_false hv]
          cases PB <;> rfl
        by_cases k3 : k = 3
        · have hKv := HK.out
          rw [if_neg k1, if_neg k2, if_pos k3] at hKv
          clear HK
          have HK := Lib.hid hKv
          clear hKv
          subst k3
          clear k1 k2
          by_cases hv : v = 0
          · have hKv := HK.out
            rw [decide_eq_true hv] at hKv
            clear HK
            have HK := Lib.hid hKv
            clear hKv
            subst hv
            go_wp2_with fail
            go_ret
            refine ⟨?_, by rw [← HBE.out]; exact HB4.out⟩
            rw [HRK.out, HK.out, hz]
            try rfl
          have hv2 : (v == (0 : Int)) = false := by rw [beq_eq_false_iff_ne]; exact hv
          go_wp2_with fail
          go_ret
          refine ⟨?_, by rw [← HBE.out]; exact HB4.out⟩
          rw [HRK.out, HK.out, hz, decide_eq_false hv]
          try rfl
        go_wp2_with fail
        go_ret
        refine ⟨?_, by rw [← HBE.out]; exact HB4.out⟩
        rw [HRK.out, HK.out, if_neg k1, if_neg k2, if_neg k3]
        try rfl
      subst hp0
      by_cases hp1 : p1 = 0
      rotate_left
      · have hz : PZ = false := by rw [HZ.out, decide_eq_false_iff_not]; omega
        by_cases k1 : k = 1
        · have hKv := HK.out
          rw [if_pos k1] at hKv
          clear HK
          have HK := Lib.hid hKv
          clear hKv
          subst k1
          by_cases hv0 : 0 ≤ v
          rotate_left
          · have hvx := Lib.hid (show inB v 0 top = false by rw [← Bool.not_eq_true, inB_iff]; omega)
            have hvd : decide (0 ≤ v) = false := decide_eq_false hv0
            clear hv0
            go_wp2_with fail
            go_ret
            refine ⟨?_, by rw [← HBE.out]; exact HB4.out⟩
            rw [HRK.out, HK.out, hz, hvx.out]
            try rfl
          have hvd : decide (0 ≤ v) = true := decide_eq_true hv0
          by_cases hvt : v ≤ 1099511627776
          rotate_left
          · have hvx := Lib.hid (show inB v 0 top = false by rw [← Bool.not_eq_true, inB_iff]; unfold top; omega)
            have hvd2 : decide (v ≤ 1099511627776) = false := decide_eq_false hvt
            clear hv0 hvt
            go_wp2_with fail
            go_ret
            refine ⟨?_, by rw [← HBE.out]; exact HB4.out⟩
            rw [HRK.out, HK.out, hz, hvx.out]
            try rfl
          have hvd2 : decide (v ≤ 1099511627776) = true := decide_eq_true hvt
          have hvx := Lib.hid (show inB v 0 top = true by rw [inB_iff]; unfold top; omega)
          clear hv0 hvt
          go_wp2_with fail
          go_ret
          refine ⟨?_, by rw [← HBE.out]; exact HB4.out⟩
          rw [HRK.out, HK.out, hz, hvx.out]
          try rfl
        by_cases k2 : k = 2
        · have hKv := HK.out
          rw [if_neg k1, if_pos k2] at hKv
          clear HK
          have HK := Lib.hid hKv
          clear hKv
          subst k2
          clear k1
          by_cases hv : v = 0
          · have hKv := HK.out
            rw [decide_eq_true hv] at hKv
            clear HK
            have HK := Lib.hid hKv
            clear hKv
            subst hv
            go_wp2_with fail
            refine (HP.out _).mono ?_
            rintro e w5 ⟨rfl, b5⟩
            have hb5 := HB4.out.trans (b5.mono (by have := HB4.out.size; omega))
            go_wp2_with fail
            go_ret
            refine ⟨?_, by rw [← HBE.out]; exact hb5⟩
            rw [HRK.out, HK.out]
            cases PB <;> rfl
          have hv2 : (v == (0 : Int)) = false := by rw [beq_eq_false_iff_ne]; exact hv
          go_wp2_with fail
          go_ret
          refine ⟨?_, by rw [← HBE.out]; exact HB4.out⟩
          rw [HRK.out, HK.out, decide_eq_false hv]
          cases PB <;> rfl
        by_cases k3 : k = 3
        · have hKv := HK.out
          rw [if_neg k1, if_neg k2, if_pos k3] at hKv
          clear HK
          have HK := Lib.hid hKv
          clear hKv
          subst k3
          clear k1 k2
          by_cases hv : v = 0
          · have hKv := HK.out
            rw [decide_eq_true hv] at hKv
            clear HK
            have HK := Lib.hid hKv
            clear hKv
            subst hv
            go_wp2_with fail
            go_ret
            refine ⟨?_, by rw [← HBE.out]; exact HB4.out⟩
            rw [HRK.out, HK.out, hz]
            try rfl
          have hv2 : (v == (0 : Int)) = false := by rw [beq_eq_false_iff_ne]; exact hv
          go_wp2_with fail
          go_ret
          refine ⟨?_, by rw [← HBE.out]; exact HB4.out⟩
          rw [HRK.out, HK.out, hz, decide_eq_false hv]
          try rfl
        go_wp2_with fail
        go_ret
        refine ⟨?_, by rw [← HBE.out]; exact HB4.out⟩
        rw [HRK.out, HK.out, if_neg k1, if_neg k2, if_neg k3]
        try rfl
      subst hp1
      by_cases hp2 : p2 = 0
      rotate_left
      · have hz : PZ = false := by rw [HZ.out, decide_eq_false_iff_not]; omega
        by_cases k1 : k = 1
        · have hKv := HK.out
          rw [if_pos k1] at hKv
          clear HK
          have HK := Lib.hid hKv
          clear hKv
          subst k1
          by_cases hv0 : 0 ≤ v
          rotate_left
          · have hvx := Lib.hid (show inB v 0 top = false by rw [← Bool.not_eq_true, inB_iff]; omega)
            have hvd : decide (0 ≤ v) = false := decide_eq_false hv0
            clear hv0
            go_wp2_with fail
            go_ret
            refine ⟨?_, by rw [← HBE.out]; exact HB4.out⟩
            rw [HRK.out, HK.out, hz, hvx.out]
            try rfl
          have hvd : decide (0 ≤ v) = true := decide_eq_true hv0
          by_cases hvt : v ≤ 1099511627776
          rotate_left
          · have hvx := Lib.hid (show inB v 0 top = false by rw [← Bool.not_eq_true, inB_iff]; unfold top; omega)
            have hvd2 : decide (v ≤ 1099511627776) = false := decide_eq_false hvt
            clear hv0 hvt
            go_wp2_with fail
            go_ret
            refine ⟨?_, by rw [← HBE.out]; exact HB4.out⟩
            rw [HRK.out, HK.out, hz, hvx.out]
            try rfl
          have hvd2 : decide (v ≤ 1099511627776) = true := decide_eq_true hvt
          have hvx := Lib.hid (show inB v 0 top = true by rw [inB_iff]; unfold top; omega)
          clear hv0 hvt
          go_wp2_with fail
          go_ret
          refine ⟨?_, by rw [← HBE.out]; exact HB4.out⟩
          rw [HRK.out, HK.out, hz, hvx.out]
          try rfl
        by_cases k2 : k = 2
        · have hKv := HK.out
          rw [if_neg k1, if_pos k2] at hKv
          clear HK
          have HK := Lib.hid hKv
          clear hKv
          subst k2
          clear k1
          by_cases hv : v = 0
          · have hKv := HK.out
            rw [decide_eq_true hv] at hKv
            clear HK
            have HK := Lib.hid hKv
            clear hKv
            subst hv
            go_wp2_with fail
            refine (HP.out _).mono ?_
            rintro e w5 ⟨rfl, b5⟩
            have hb5 := HB4.out.trans (b5.mono (by have := HB4.out.size; omega))
            go_wp2_with fail
            go_ret
            refine ⟨?_, by rw [← HBE.out]; exact hb5⟩
            rw [HRK.out, HK.out]
            cases PB <;> rfl
          have hv2 : (v == (0 : Int)) = false := by rw [beq_eq_false_iff_ne]; exact hv
          go_wp2_with fail
          go_ret
          refine ⟨?_, by rw [← HBE.out]; exact HB4.out⟩
          rw [HRK.out, HK.out, decide_eq_false hv]
          cases PB <;> rfl
        by_cases k3 : k = 3
        · have hKv := HK.out
          rw [if_neg k1, if_neg k2, if_pos k3] at hKv
          clear HK
          have HK := Lib.hid hKv
          clear hKv
          subst k3
          clear k1 k2
          by_cases hv : v = 0
          · have hKv := HK.out
            rw [decide_eq_true hv] at hKv
            clear HK
            have HK := Lib.hid hKv
            clear hKv
            subst hv
            go_wp2_with fail
            go_ret
            refine ⟨?_, by rw [← HBE.out]; exact HB4.out⟩
            rw [HRK.out, HK.out, hz]
            try rfl
          have hv2 : (v == (0 : Int)) = false := by rw [beq_eq_false_iff_ne]; exact hv
          go_wp2_with fail
          go_ret
          refine ⟨?_, by rw [← HBE.out]; exact HB4.out⟩
          rw [HRK.out, HK.out, hz, decide_eq_false hv]
          try rfl
        go_wp2_with fail
        go_ret
        refine ⟨?_, by rw [← HBE.out]; exact HB4.out⟩
        rw [HRK.out, HK.out, if_neg k1, if_neg k2, if_neg k3]
        try rfl
      subst hp2
      by_cases hp3 : p3 = 0
      rotate_left
      · have hz : PZ = false := by rw [HZ.out, decide_eq_false_iff_not]; omega
        by_cases k1 : k = 1
        · have hKv := HK.out
          rw [if_pos k1] at hKv
          clear HK
          have HK := Lib.hid hKv
          clear hKv
          subst k1
          by_cases hv0 : 0 ≤ v
          rotate_left
          · have hvx := Lib.hid (show inB v 0 top = false by rw [← Bool.not_eq_true, inB_iff]; omega)
            have hvd : decide (0 ≤ v) = false := decide_eq_false hv0
            clear hv0
            go_wp2_with fail
            go_ret
            refine ⟨?_, by rw [← HBE.out]; exact HB4.out⟩
            rw [HRK.out, HK.out, hz, hvx.out]
            try rfl
          have hvd : decide (0 ≤ v) = true := decide_eq_true hv0
          by_cases hvt : v ≤ 1099511627776
          rotate_left
          · have hvx := Lib.hid (show inB v 0 top = false by rw [← Bool.not_eq_true, inB_iff]; unfold top; omega)
            have hvd2 : decide (v ≤ 1099511627776) = false := decide_eq_false hvt
            clear hv0 hvt
            go_wp2_with fail
            go_ret
            refine ⟨?_, by rw [← HBE.out]; exact HB4.out⟩
            rw [HRK.out, HK.out, hz, hvx.out]
            try rfl
          have hvd2 : decide (v ≤ 1099511627776) = true := decide_eq_true hvt
          have hvx := Lib.hid (show inB v 0 top = true by rw [inB_iff]; unfold top; omega)
          clear hv0 hvt
          go_wp2_with fail
          go_ret
          refine ⟨?_, by rw [← HBE.out]; exact HB4.out⟩
          rw [HRK.out, HK.out, hz, hvx.out]
          try rfl
        by_cases k2 : k = 2
        · have hKv := HK.out
          rw [if_neg k1, if_pos k2] at hKv
          clear HK
          have HK := Lib.hid hKv
          clear hKv
          subst k2
          clear k1
          by_cases hv : v = 0
          · have hKv := HK.out
            rw [decide_eq_true hv] at hKv
            clear HK
            have HK := Lib.hid hKv
            clear hKv
            subst hv
            go_wp2_with fail
            refine (HP.out _).mono ?_
            rintro e w5 ⟨rfl, b5⟩
            have hb5 := HB4.out.trans (b5.mono (by have := HB4.out.size; omega))
            go_wp2_with fail
            go_ret
            refine ⟨?_, by rw [← HBE.out]; exact hb5⟩
            rw [HRK.out, HK.out]
            cases PB <;> rfl
          have hv2 : (v == (0 : Int)) = false := by rw [beq_eq_false_iff_ne]; exact hv
          go_wp2_with fail
          go_ret
          refine ⟨?_, by rw [← HBE.out]; exact HB4.out⟩
          rw [HRK.out, HK.out, decide_eq_false hv]
          cases PB <;> rfl
        by_cases k3 : k = 3
        · have hKv := HK.out
          rw [if_neg k1, if_neg k2, if_pos k3] at hKv
          clear HK
          have HK := Lib.hid hKv
          clear hKv
          subst k3
          clear k1 k2
          by_cases hv : v = 0
          · have hKv := HK.out
            rw [decide_eq_true hv] at hKv
            clear HK
            have HK := Lib.hid hKv
            clear hKv
            subst hv
            go_wp2_with fail
            go_ret
            refine ⟨?_, by rw [← HBE.out]; exact HB4.out⟩
            rw [HRK.out, HK.out, hz]
            try rfl
          have hv2 : (v == (0 : Int)) = false := by rw [beq_eq_false_iff_ne]; exact hv
          go_wp2_with fail
          go_ret
          refine ⟨?_, by rw [← HBE.out]; exact HB4.out⟩
          rw [HRK.out, HK.out, hz, decide_eq_false hv]
          try rfl
        go_wp2_with fail
        go_ret
        refine ⟨?_, by rw [← HBE.out]; exact HB4.out⟩
        rw [HRK.out, HK.out, if_neg k1, if_neg k2, if_neg k3]
        try rfl
      subst hp3
      by_cases hp4 : p4 = 0
      rotate_left
      · have hz : PZ = false := by rw [HZ.out, decide_eq_false_iff_not]; omega
        by_cases k1 : k = 1
        · have hKv := HK.out
          rw [if_pos k1] at hKv
          clear HK
          have HK := Lib.hid hKv
          clear hKv
          subst k1
          by_cases hv0 : 0 ≤ v
          rotate_left
          · have hvx := Lib.hid (show inB v 0 top = false by rw [← Bool.not_eq_true, inB_iff]; omega)
            have hvd : decide (0 ≤ v) = false := decide_eq_false hv0
            clear hv0
            go_wp2_with fail
            go_ret
            refine ⟨?_, by rw [← HBE.out]; exact HB4.out⟩
            rw [HRK.out, HK.out, hz, hvx.out]
            try rfl
          have hvd : decide (0 ≤ v) = true := decide_eq_true hv0
          by_cases hvt : v ≤ 1099511627776
          rotate_left
          · have hvx := Lib.hid (show inB v 0 top = false by rw [← Bool.not_eq_true, inB_iff]; unfold top; omega)
            have hvd2 : decide (v ≤ 1099511627776) = false := decide_eq_false hvt
            clear hv0 hvt
            go_wp2_with fail
            go_ret
            refine ⟨?_, by rw [← HBE.out]; exact HB4.out⟩
            rw [HRK.out, HK.out, hz, hvx.out]
            try rfl
          have hvd2 : decide (v ≤ 1099511627776) = true := decide_eq_true hvt
          have hvx := Lib.hid (show inB v 0 top = true by rw [inB_iff]; unfold top; omega)
          clear hv0 hvt
          go_wp2_with fail
          go_ret
          refine ⟨?_, by rw [← HBE.out]; exact HB4.out⟩
          rw [HRK.out, HK.out, hz, hvx.out]
          try rfl
        by_cases k2 : k = 2
        · have hKv := HK.out
          rw [if_neg k1, if_pos k2] at hKv
          clear HK
          have HK := Lib.hid hKv
          clear hKv
          subst k2
          clear k1
          by_cases hv : v = 0
          · have hKv := HK.out
            rw [decide_eq_true hv] at hKv
            clear HK
            have HK := Lib.hid hKv
            clear hKv
            subst hv
            go_wp2_with fail
            refine (HP.out _).mono ?_
            rintro e w5 ⟨rfl, b5⟩
            have hb5 := HB4.out.trans (b5.mono (by have := HB4.out.size; omega))
            go_wp2_with fail
            go_ret
            refine ⟨?_, by rw [← HBE.out]; exact hb5⟩
            rw [HRK.out, HK.out]
            cases PB <;> rfl
          have hv2 : (v == (0 : Int)) = false := by rw [beq_eq_false_iff_ne]; exact hv
          go_wp2_with fail
          go_ret
          refine ⟨?_, by rw [← HBE.out]; exact HB4.out⟩
          rw [HRK.out, HK.out, decide_eq_false hv]
          cases PB <;> rfl
        by_cases k3 : k = 3
        · have hKv := HK.out
          rw [if_neg k1, if_neg k2, if_pos k3] at hKv
          clear HK
          have HK := Lib.hid hKv
          clear hKv
          subst k3
          clear k1 k2
          by_cases hv : v = 0
          · have hKv := HK.out
            rw [decide_eq_true hv] at hKv
            clear HK
            have HK := Lib.hid hKv
            clear hKv
            subst hv
            go_wp2_with fail
            go_ret
            refine ⟨?_, by rw [← HBE.out]; exact HB4.out⟩
            rw [HRK.out, HK.out, hz]
            try rfl
          have hv2 : (v == (0 : Int)) = false := by rw [beq_eq_false_iff_ne]; exact hv
          go_wp2_with fail
          go_ret
          refine ⟨?_, by rw [← HBE.out]; exact HB4.out⟩
          rw [HRK.out, HK.out, hz, decide_eq_false hv]
          try rfl
        go_wp2_with fail
        go_ret
        refine ⟨?_, by rw [← HBE.out]; exact HB4.out⟩
        rw [HRK.out, HK.out, if_neg k1, if_neg k2, if_neg k3]
        try rfl
      subst hp4
      by_cases hp5 : p5 = 0
      rotate_left
      · have hz : PZ = false := by rw [HZ.out, decide_eq_false_iff_not]; omega
        by_cases k1 : k = 1
        · have hKv := HK.out
          rw [if_pos k1] at hKv
          clear HK
          have HK := Lib.hid hKv
          clear hKv
          subst k1
          by_cases hv0 : 0 ≤ v
          rotate_left
          · have hvx := Lib.hid (show inB v 0 top = false by rw [← Bool.not_eq_true, inB_iff]; omega)
            have hvd : decide (0 ≤ v) = false := decide_eq_false hv0
            clear hv0
            go_wp2_with fail
            go_ret
            refine ⟨?_, by rw [← HBE.out]; exact HB4.out⟩
            rw [HRK.out, HK.out, hz, hvx.out]
            try rfl
          have hvd : decide (0 ≤ v) = true := decide_eq_true hv0
          by_cases hvt : v ≤ 1099511627776
          rotate_left
          · have hvx := Lib.hid (show inB v 0 top = false by rw [← Bool.not_eq_true, inB_iff]; unfold top; omega)
            have hvd2 : decide (v ≤ 1099511627776) = false := decide_eq_false hvt
            clear hv0 hvt
            go_wp2_with fail
            go_ret
            refine ⟨?_, by rw [← HBE.out]; exact HB4.out⟩
            rw [HRK.out, HK.out, hz, hvx.out]
            try rfl
          have hvd2 : decide (v ≤ 1099511627776) = true := decide_eq_true hvt
          have hvx := Lib.hid (show inB v 0 top = true by rw [inB_iff]; unfold top; omega)
          clear hv0 hvt
          go_wp2_with fail
          go_ret
          refine ⟨?_, by rw [← HBE.out]; exact HB4.out⟩
          rw [HRK.out, HK.out, hz, hvx.out]
          try rfl
        by_cases k2 : k = 2
        · have hKv := HK.out
          rw [if_neg k1, if_pos k2] at hKv
          clear HK
          have HK := Lib.hid hKv
          clear hKv
          subst k2
          clear k1
          by_cases hv : v = 0
          · have hKv := HK.out
            rw [decide_eq_true hv] at hKv
            clear HK
            have HK := Lib.hid hKv
            clear hKv
            subst hv
            go_wp2_with fail
            refine (HP.out _).mono ?_
            rintro e w5 ⟨rfl, b5⟩
            have hb5 := HB4.out.trans (b5.mono (by have := HB4.out.size; omega))
            go_wp2_with fail
            go_ret
            refine ⟨?_, by rw [← HBE.out]; exact hb5⟩
            rw [HRK.out, HK.out]
            cases PB <;> rfl
          have hv2 : (v == (0 : Int)) = false := by rw [beq_eq_false_iff_ne]; exact hv
          go_wp2_with fail
          go_ret
          refine ⟨?_, by rw [← HBE.out]; exact HB4.out⟩
          rw [HRK.out, HK.out, decide_eq_false hv]
          cases PB <;> rfl
        by_cases k3 : k = 3
        · have hKv := HK.out
          rw [if_neg k1, if_neg k2, if_pos k3] at hKv
          clear HK
          have HK := Lib.hid hKv
          clear hKv
          subst k3
          clear k1 k2
          by_cases hv : v = 0
          · have hKv := HK.out
            rw [decide_eq_true hv] at hKv
            clear HK
            have HK := Lib.hid hKv
            clear hKv
            subst hv
            go_wp2_with fail
            go_ret
            refine ⟨?_, by rw [← HBE.out]; exact HB4.out⟩
            rw [HRK.out, HK.out, hz]
            try rfl
          have hv2 : (v == (0 : Int)) = false := by rw [beq_eq_false_iff_ne]; exact hv
          go_wp2_with fail
          go_ret
          refine ⟨?_, by rw [← HBE.out]; exact HB4.out⟩
          rw [HRK.out, HK.out, hz, decide_eq_false hv]
          try rfl
        go_wp2_with fail
        go_ret
        refine ⟨?_, by rw [← HBE.out]; exact HB4.out⟩
        rw [HRK.out, HK.out, if_neg k1, if_neg k2, if_neg k3]
        try rfl
      subst hp5
      by_cases hp6 : p6 = 0
      rotate_left
      · have hz : PZ = false := by rw [HZ.out, decide_eq_false_iff_not]; omega
        by_cases k1 : k = 1
        · have hKv := HK.out
          rw [if_pos k1] at hKv
          clear HK
          have HK := Lib.hid hKv
          clear hKv
          subst k1
          by_cases hv0 : 0 ≤ v
          rotate_left
          · have hvx := Lib.hid (show inB v 0 top = false by rw [← Bool.not_eq_true, inB_iff]; omega)
            have hvd : decide (0 ≤ v) = false := decide_eq_false hv0
            clear hv0
            go_wp2_with fail
            go_ret
            refine ⟨?_, by rw [← HBE.out]; exact HB4.out⟩
            rw [HRK.out, HK.out, hz, hvx.out]
            try rfl
          have hvd : decide (0 ≤ v) = true := decide_eq_true hv0
          by_cases hvt : v ≤ 1099511627776
          rotate_left
          · have hvx := Lib.hid (show inB v 0 top = false by rw [← Bool.not_eq_true, inB_iff]; unfold top; omega)
            have hvd2 : decide (v ≤ 1099511627776) = false := decide_eq_false hvt
            clear hv0 hvt
            go_wp2_with fail
            go_ret
            refine ⟨?_, by rw [← HBE.out]; exact HB4.out⟩
            rw [HRK.out, HK.out, hz, hvx.out]
            try rfl
          have hvd2 : decide (v ≤ 1099511627776) = true := decide_eq_true hvt
          have hvx := Lib.hid (show inB v 0 top = true by rw [inB_iff]; unfold top; omega)
          clear hv0 hvt
          go_wp2_with fail
          go_ret
          refine ⟨?_, by rw [← HBE.out]; exact HB4.out⟩
          rw [HRK.out, HK.out, hz, hvx.out]
          try rfl
        by_cases k2 : k = 2
        · have hKv := HK.out
          rw [if_neg k1, if_pos k2] at hKv
          clear HK
          have HK := Lib.hid hKv
          clear hKv
          subst k2
          clear k1
          by_cases hv : v = 0
          · have hKv := HK.out
            rw [decide_eq_true hv] at hKv
            clear HK
            have HK := Lib.hid hKv
            clear hKv
            subst hv
            go_wp2_with fail
            refine (HP.out _).mono ?_
            rintro e w5 ⟨rfl, b5⟩
            have hb5 := HB4.out.trans (b5.mono (by have := HB4.out.size; omega))
            go_wp2_with fail
            go_ret
            refine ⟨?_, by rw [← HBE.out]; exact hb5⟩
            rw [HRK.out, HK.out]
            cases PB <;> rfl
          have hv2 : (v == (0 : Int)) = false := by rw [beq_eq_false_iff_ne]; exact hv
          go_wp2_with fail
          go_ret
          refine ⟨?_, by rw [← HBE.out]; exact HB4.out⟩
          rw [HRK.out, HK.out, decide_eq_false hv]
          cases PB <;> rfl
        by_cases k3 : k = 3
        · have hKv := HK.out
          rw [if_neg k1, if_neg k2, if_pos k3] at hKv
          clear HK
          have HK := Lib.hid hKv
          clear hKv
          subst k3
          clear k1 k2
          by_cases hv : v = 0
          · have hKv := HK.out
            rw [decide_eq_true hv] at hKv
            clear HK
            have HK := Lib.hid hKv
            clear hKv
            subst hv
            go_wp2_with fail
            go_ret
            refine ⟨?_, by rw [← HBE.out]; exact HB4.out⟩
            rw [HRK.out, HK.out, hz]
            try rfl
          have hv2 : (v == (0 : Int)) = false := by rw [beq_eq_false_iff_ne]; exact hv
          go_wp2_with fail
          go_ret
          refine ⟨?_, by rw [← HBE.out]; exact HB4.out⟩
          rw [HRK.out, HK.out, hz, decide_eq_false hv]
          try rfl
        go_wp2_with fail
        go_ret
        refine ⟨?_, by rw [← HBE.out]; exact HB4.out⟩
        rw [HRK.out, HK.out, if_neg k1, if_neg k2, if_neg k3]
        try rfl
      subst hp6
      have hz : PZ = true := by rw [HZ.out]; simp
      by_cases k1 : k = 1
      · have hKv := HK.out
        rw [if_pos k1] at hKv
        clear HK
        have HK := Lib.hid hKv
        clear hKv
        subst k1
        by_cases hv0 : 0 ≤ v
        rotate_left
        · have hvx := Lib.hid (show inB v 0 top = false by rw [← Bool.not_eq_true, inB_iff]; omega)
          have hvd : decide (0 ≤ v) = false := decide_eq_false hv0
          clear hv0
          go_wp2_with fail
          go_ret
          refine ⟨?_, by rw [← HBE.out]; exact HB4.out⟩
          rw [HRK.out, HK.out, hz, hvx.out]
          try rfl
        have hvd : decide (0 ≤ v) = true := decide_eq_true hv0
        by_cases hvt : v ≤ 1099511627776
        rotate_left
        · have hvx := Lib.hid (show inB v 0 top = false by rw [← Bool.not_eq_true, inB_iff]; unfold top; omega)
          have hvd2 : decide (v ≤ 1099511627776) = false := decide_eq_false hvt
          clear hv0 hvt
          go_wp2_with fail
          go_ret
          refine ⟨?_, by rw [← HBE.out]; exact HB4.out⟩
          rw [HRK.out, HK.out, hz, hvx.out]
          try rfl
        have hvd2 : decide (v ≤ 1099511627776) = true := decide_eq_true hvt
        have hvx := Lib.hid (show inB v 0 top = true by rw [inB_iff]; unfold top; omega)
        clear hv0 hvt
        by_cases hm0 : m = 0
        · subst hm0
          have hl0 : l = [] := List.length_eq_zero_iff.1 HM.out.symm
          go_wp2_with fail
          go_ret
          refine ⟨?_, by rw [← HBE.out]; exact HB4.out⟩
          rw [HRK.out, HK.out, hz, hvx.out, decide_eq_true hl0]
          try rfl
        have hl0 : ¬ l = [] := fun h => hm0 (by rw [HM.out, h]; rfl)
        have hm1 : ((m : Int) == (0 : Int)) = false := by rw [beq_eq_false_iff_ne]; omega
        go_wp2_with fail
        go_ret
        refine ⟨?_, by rw [← HBE.out]; exact HB4.out⟩
        rw [HRK.out, HK.out, hz, hvx.out, decide_eq_false hl0]
        try rfl
      by_cases k2 : k = 2
      · have hKv := HK.out
        rw [if_neg k1, if_pos k2] at hKv
        clear HK
        have HK := Lib.hid hKv
        clear hKv
        subst k2
        clear k1
        by_cases hv : v = 0
        · have hKv := HK.out
          rw [decide_eq_true hv] at hKv
          clear HK
          have HK := Lib.hid hKv
          clear hKv
          subst hv
          go_wp2_with fail
          refine (HP.out _).mono ?_
          rintro e w5 ⟨rfl, b5⟩
          have hb5 := HB4.out.trans (b5.mono (by have := HB4.out.size; omega))
          go_wp2_with fail
          go_ret
          refine ⟨?_, by rw [← HBE.out]; exact hb5⟩
          rw [HRK.out, HK.out]
          cases PB <;> rfl
        have hv2 : (v == (0 : Int)) = false := by rw [beq_eq_false_iff_ne]; exact hv
        go_wp2_with fail
        go_ret
        refine ⟨?_, by rw [← HBE.out]; exact HB4.out⟩
        rw [HRK.out, HK.out, decide_eq_false hv]
        cases PB <;> rfl
      by_cases k3 : k = 3
      · have hKv := HK.out
        rw [if_neg k1, if_neg k2, if_pos k3] at hKv
        clear HK
        have HK := Lib.hid hKv
        clear hKv
        subst k3
        clear k1 k2
        by_cases hv : v = 0
        · have hKv := HK.out
          rw [decide_eq_true hv] at hKv
          clear HK
          have HK := Lib.hid hKv
          clear hKv
          subst hv
          go_wp2_with fail
          go_ret
          refine ⟨?_, by rw [← HBE.out]; exact HB4.out⟩
          rw [HRK.out, HK.out, hz]
          try rfl
        have hv2 : (v == (0 : Int)) = false := by rw [beq_eq_false_iff_ne]; exact hv
        go_wp2_with fail
        go_ret
        refine ⟨?_, by rw [← HBE.out]; exact HB4.out⟩
        rw [HRK.out, HK.out, hz, decide_eq_false hv]
        try rfl
      go_wp2_with fail
      go_ret
      refine ⟨?_, by rw [← HBE.out]; exact HB4.out⟩
      rw [HRK.out, HK.out, if_neg k1, if_neg k2, if_neg k3]
      try rfl
end Go.Proofs.Ytiemlnomlfebkaa

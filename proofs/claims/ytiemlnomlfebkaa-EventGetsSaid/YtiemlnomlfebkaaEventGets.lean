/- EventGets: the event, and the events, that any bytes are, or the error, are the document's: the whole statement, without a condition. -/
import Derived.Test.YtiemlnomlfebkaaEvRPol
import Derived.Test.YtiemlnomlfebkaaEvRight
import Derived.Test.YtiemlnomlfebkaaEvRead
import Derived.Test.YtiemlnomlfebkaaEvGet
import Derived.Test.YtiemlnomlfebkaaEvCopy
import Derived.Test.YtiemlnomlfebkaaDotAdd
import Derived.Test.YtiemlnomlfebkaaEvRow
import Derived.Test.YtiemlnomlfebkaaVintWalks
import Derived.Test.YtiemlnomlfebkaaSame
import Derived.Laws.CopyOwn
import Derived.Test.YtiemlnomlfebkaaMem
import Derived.Test.YtiemlnomlfebkaaRows
import Derived.ProofKit
import Derived.OpenShut
import Derived.ShutString
import Derived.ChangeOld
import Derived.Below
import Derived.Deep.Slices
import Derived.Deep.Fields
import Derived.Deep.Strs
/- The walk of the document's Right. -/
namespace Go.Proofs.Ytiemlnomlfebkaa
open Go.RowKit
open Dot Evt
set_option maxRecDepth 100000 in
set_option maxHeartbeats 4000000 in
theorem eright07_any (x : Ev) (hp : x.p.length = 7) (A : Option Addr) (m c : Nat) (w : World) (hl : RdD w w.heap.size A m x.l) (hmb : m ≤ 4611686018427387904) :
    Calls Try.prog 12 #[.agg (ec x (.slice A m c))] w fun e w' => e = .returned (.bool (rightE x)) ∧ Below w.heap.size w w' := by
  obtain ⟨R, hR⟩ : ∃ R, R = rightE x := ⟨_, rfl⟩
  rw [← hR]
  obtain ⟨⟨n, q⟩, t, k, wk, v, p, l⟩ := x
  have hpol := rpol_any p
  obtain ⟨K, hK⟩ : ∃ K, K = kindB ⟨(n, q), t, k, wk, v, p, l⟩ := ⟨_, rfl⟩
  have hR2 : R = (mayB (n, q) && inB t 1 top && inB wk 0 7 && decide (l.length ≤ 96) && namedB (n, q) l && K) := by rw [hR, hK]; rfl
  clear hR
  simp only at hl hp
  have HM := Lib.hid hl.1
  have hbb : Below w.heap.size w (w.alloc (.cells (ec ⟨(n, q), t, k, wk, v, p, l⟩ (.slice A m c)) 28)) := (Below.refl _ _).alloc (Nat.le_refl _) _
  have kb : Blk (w.alloc (.cells (ec ⟨(n, q), t, k, wk, v, p, l⟩ (.slice A m c)) 28)) w.heap.size 28 (ec ⟨(n, q), t, k, wk, v, p, l⟩ (.slice A m c)) := Blk.new _ _ _
  unfold ec at hbb kb ⊢
  unfold pc at hpol
  simp only at hbb kb ⊢
  have hpz : p = p0 ↔ (p.getD 0 0 = 0 ∧ p.getD 1 0 = 0 ∧ p.getD 2 0 = 0 ∧ p.getD 3 0 = 0 ∧ p.getD 4 0 = 0 ∧ p.getD 5 0 = 0 ∧ p.getD 6 0 = 0) := by
    match p, hp with
    | [a, b, c, d, e, f, g], _ => simp [p0]
  have hKp : K = if k = 1 then decide (p = p0) && inB v 0 top && decide (l = []) else if k = 2 then polB p && decide (v = 0) else if k = 3 then decide (p = p0) && decide (v = 0) else false := by rw [hK]; rfl
  clear hK hp
  generalize hpp : decide (p = p0) = PZ at hKp
  have hpz2 : PZ = decide (p.getD 0 0 = 0 ∧ p.getD 1 0 = 0 ∧ p.getD 2 0 = 0 ∧ p.getD 3 0 = 0 ∧ p.getD 4 0 = 0 ∧ p.getD 5 0 = 0 ∧ p.getD 6 0 = 0) := by
    rw [← hpp]; exact decide_eq_decide.2 hpz
  clear hpp hpz
  generalize polB p = PB at hKp hpol
  generalize p.getD 0 0 = p0, p.getD 1 0 = p1, p.getD 2 0 = p2, p.getD 3 0 = p3, p.getD 4 0 = p4, p.getD 5 0 = p5, p.getD 6 0 = p6 at *
  have HR := Lib.hid hR2
  have HK := Lib.hid hKp
  have HZ := Lib.hid hpz2
  have HP := Lib.hid hpol
  have HL := Lib.hid hl
  have HMB := Lib.hid hmb
  clear hR2 hKp hpz2 hpol hl hmb
  go_enter Try.func12, Try.ntmps12
  go_upto_region 1 with fail
  refine nameW ?_
  intro wv hwv
  obtain ⟨b, hb⟩ : ∃ b, b = w.heap.size := ⟨_, rfl⟩
  rw [← hb]
  rw [← hwv, ← hb] at kb hbb
  have hlv := HL.out.below (B := w.heap.size) (by rw [← hb]; exact hbb)
  rw [← hb] at hlv
  obtain ⟨c0, c1, _⟩ := ecells kb
  have HBE := Lib.hid hb
  clear hwv hb HL
  go_wp2_with fail
  refine (rmay_any n q wv).mono ?_
  rintro e w2 ⟨rfl, b2⟩
  have hb2 := hbb.trans (b2.mono (by have := kb.lt; omega))
  have kb2 := kb.below b2 kb.lt
  have hl2 := hlv.below (b2.mono (by have := kb.lt; omega))
  have hs2 := kb2.lt
  clear kb hlv c0 c1 hbb b2
  obtain ⟨c0, c1, c2, c3, c4, c5, c6, c7, c8, c9, c10, c11, c12, c13⟩ := ecells kb2
  rcases hm : mayB (n, q) with _ | _
  · skip
    go_wp2_with fail
    go_ret
    refine ⟨?_, by rw [← HBE.out]; exact hb2⟩
    rw [HR.out, hm]
    try rfl
  have HMY := Lib.hid hm
  clear hm
  have hn1 : ¬ t < 1 → ¬ (1099511627776 : Int) < t → inB t 1 top = true := fun h1 h2 => (inB_iff _ _ _).2 ⟨by omega, by unfold top; omega⟩
  have hn2 : ¬ wk < 0 → ¬ (7 : Int) < wk → inB wk 0 7 = true := fun h1 h2 => (inB_iff _ _ _).2 ⟨by omega, by omega⟩
  have HN1 := Lib.hid hn1
  have HN2 := Lib.hid hn2
  clear hn1 hn2
  by_cases hc : t < 1
  · have hcd : decide (t < 1) = true := decide_eq_true hc
    have hcx : inB t 1 top = false := by rw [← Bool.not_eq_true, inB_iff]; unfold top; omega
    clear hc
    have HCX := Lib.hid hcx
    clear hcx
    go_wp2_with fail
    go_ret
    refine ⟨?_, by rw [← HBE.out]; exact hb2⟩
    rw [HR.out, HMY.out, HCX.out]
    try rfl
  have e1 : decide (t < 1) = false := decide_eq_false hc
  have E1 := Lib.hid hc
  clear hc
  by_cases hc : (1099511627776 : Int) < t
  · have hcd : decide ((1099511627776 : Int) < t) = true := decide_eq_true hc
    have hcx : inB t 1 top = false := by rw [← Bool.not_eq_true, inB_iff]; unfold top; omega
    clear hc
    have HCX := Lib.hid hcx
    clear hcx
    go_wp2_with fail
    go_ret
    refine ⟨?_, by rw [← HBE.out]; exact hb2⟩
    rw [HR.out, HMY.out, HCX.out]
    try rfl
  have e2 : decide ((1099511627776 : Int) < t) = false := decide_eq_false hc
  have HT := Lib.hid (HN1.out E1.out hc)
  clear hc
  by_cases hc : wk < 0
  · have hcd : decide (wk < 0) = true := decide_eq_true hc
    have hcx : inB wk 0 7 = false := by rw [← Bool.not_eq_true, inB_iff]; omega
    clear hc
    have HCX := Lib.hid hcx
    clear hcx
    go_wp2_with fail
    go_ret
    refine ⟨?_, by rw [← HBE.out]; exact hb2⟩
    rw [HR.out, HMY.out, HT.out, HCX.out]
    try rfl
  have e3 : decide (wk < 0) = false := decide_eq_false hc
  have E3 := Lib.hid hc
  clear hc
  by_cases hc : (7 : Int) < wk
  · have hcd : decide ((7 : Int) < wk) = true := decide_eq_true hc
    have hcx : inB wk 0 7 = false := by rw [← Bool.not_eq_true, inB_iff]; omega
    clear hc
    have HCX := Lib.hid hcx
    clear hcx
    go_wp2_with fail
    go_ret
    refine ⟨?_, by rw [← HBE.out]; exact hb2⟩
    rw [HR.out, HMY.out, HT.out, HCX.out]
    try rfl
  have e4 : decide ((7 : Int) < wk) = false := decide_eq_false hc
  have HW := Lib.hid (HN2.out E3.out hc)
  clear hc
  by_cases hc : (96 : Int) < (m : Int)
  · have hcd : decide ((96 : Int) < (m : Int)) = true := decide_eq_true hc
    have hcx : decide (l.length ≤ 96) = false := by rw [decide_eq_false_iff_not]; have := HM.out; omega
    clear hc
    have HCX := Lib.hid hcx
    clear hcx
    go_wp2_with fail
    go_ret
    refine ⟨?_, by rw [← HBE.out]; exact hb2⟩
    rw [HR.out, HMY.out, HT.out, HW.out, HCX.out]
    try rfl
  have e5 : decide ((96 : Int) < (m : Int)) = false := decide_eq_false hc
  have HLE := Lib.hid (show decide (l.length ≤ 96) = true by rw [decide_eq_true_eq]; have := HM.out; omega)
  have H96 := Lib.hid (show m ≤ 96 by omega)
  clear hc
  have HRN := Lib.hid (show R = (namedB (n, q) l && K) by rw [HR.out, HMY.out, HT.out, HW.out, HLE.out]; cases namedB (n, q) l <;> rfl)
  clear HR HMY HT HW HLE HN1 HN2 E1 E3
  go_wp2_with fail
  go_loopw [38] (fun i wr => ∃ j : Nat, j ≤ m ∧ i = .int .i64 j ∧ (∀ i, i < j → nameAt (n, q) l i = true) ∧ Blk wr b 28 #[.int .i64 n, .int .i64 q, .int .i64 t, .int .i64 k, .int .i64 wk, .int .i64 v, .int .i64 p0, .int .i64 p1, .int .i64 p2, .int .i64 p3, .int .i64 p4, .int .i64 p5, .int .i64 p6, .slice A m c] ∧ RdD wr b A m l ∧ Below b w wr) (fun i _ => m - (intOf i).toNat)
  case atStart => exact ⟨0, by omega, rfl, fun i hi => by omega, kb2, hl2, hb2⟩
  case round =>
    clear kb2 hl2 hb2 c0 c1 c2 c3 c4 c5 c6 c7 c8 c9 c10 c11 c12 c13 e1 e2 e3 e4 e5 hs2
    obtain ⟨j, hj, rfl, hall, kb, hl, hbel⟩ := hrel
    have HA := Lib.hid hall
    clear hall
    by_cases hlt : j < m
    · have hjl : j < l.length := by rw [← HM.out]; exact hlt
      obtain ⟨ad, hA, hdt⟩ := hl.2 j _ (List.getElem?_eq_getElem hjl)
      have hgd : nameAt (n, q) l j = (mayB l[j] && !decide (l[j] = (n, q)) && (decide (j = 0) || befB (l.getD (j - 1) (0, 0)) l[j])) := by
        unfold nameAt
        rw [show l.getD j (0, 0) = l[j] by rw [List.getD_eq_getElem?_getD, List.getElem?_eq_getElem hjl]; rfl]
      generalize l[j] = d at *
      subst hA
      obtain ⟨x, y⟩ := d
      obtain ⟨q5, q0, q1⟩ := hdt
      simp only at q0 q1 hgd
      have HG := Lib.hid hgd
      clear hgd
      have hsz := kb.lt
      obtain ⟨wn, hwn⟩ : ∃ wn, wn = wr.alloc (.cells #[.int .i64 x, .int .i64 y] 23) := ⟨_, rfl⟩
      obtain ⟨gd, hgd⟩ : ∃ gd, gd = wr.heap.size := ⟨_, rfl⟩
      have kx : Blk wn gd 23 #[.int .i64 x, .int .i64 y] := by rw [hwn, hgd]; exact Blk.new wr _ _
      have bn : Below wr.heap.size wr wn := by rw [hwn]; exact (Below.refl _ _).alloc (Nat.le_refl _) _
      have kb1 := kb.below bn kb.lt
      have hb1 := hbel.trans (bn.mono (by omega))
      have hl1 := hl.below (bn.mono (by omega))
      have HW := Lib.hid hwn
      have HGD := Lib.hid hgd
      have hgl : b < gd := by omega
      have hj0 : (0 : Int) ≤ (j : Int) := by omega
      have hjm : (j : Int) < (m : Int) := by omega
      clear hwn hgd bn hl
      have cs : wr.cell? ⟨b, 13, none⟩ = some (.slice (some ad) m c) := kb.cell 13
      go_upto_region 6 with fail
      rw [← HW.out, ← HGD.out]
      clear cs q0 q1 kb hbel
      have t0 : wn.cell? ⟨gd, 0, none⟩ = some (.int .i64 x) := kx.cell 0
      have t1 : wn.cell? ⟨gd, 1, none⟩ = some (.int .i64 y) := kx.cell 1
      have o0 : wn.cell? ⟨b, 0, none⟩ = some (.int .i64 n) := kb1.cell 0
      have o1 : wn.cell? ⟨b, 1, none⟩ = some (.int .i64 q) := kb1.cell 1
      have o13 : wn.cell? ⟨b, 13, none⟩ = some (.slice (some ad) m c) := kb1.cell 13
      have hmc : ∀ w', Calls Try.prog 35 #[.agg #[.int .i64 x, .int .i64 y]] w' fun e w'' => e = .returned (.bool (mayB (x, y))) ∧ Below w'.heap.size w' w'' := fun w' => rmay_any x y w'
      cases hmm : mayB (x, y)
      case false =>
        have hgk : nameAt (n, q) l j = false := by rw [HG.out, hmm]; rfl
        have HGK := Lib.hid hgk
        rw [hmm] at hmc
        have HMC := Lib.hid hmc
        clear hgk hmm hmc
        refine wp_region_below (by kernel_rfl) (by kernel_rfl) ?_
        intro T iT F hF hT
        have S0 : ∀ xf, (F xf).cell? ⟨gd, 0, none⟩ = some (.int .i64 x) := fun xf => ((hF xf).cell (p := ⟨gd, 0, none⟩) kx.lt).trans t0
        have S1 : ∀ xf, (F xf).cell? ⟨gd, 1, none⟩ = some (.int .i64 y) := fun xf => ((hF xf).cell (p := ⟨gd, 1, none⟩) kx.lt).trans t1
        have S2 : ∀ xf, (F xf).cell? ⟨b, 0, none⟩ = some (.int .i64 n) := fun xf => ((hF xf).cell (p := ⟨b, 0, none⟩) kb1.lt).trans o0
        have S3 : ∀ xf, (F xf).cell? ⟨b, 1, none⟩ = some (.int .i64 q) := fun xf => ((hF xf).cell (p := ⟨b, 1, none⟩) kb1.lt).trans o1
        have S4 : ∀ xf, (F xf).cell? ⟨b, 13, none⟩ = some (.slice (some ad) m c) := fun xf => ((hF xf).cell (p := ⟨b, 13, none⟩) kb1.lt).trans o13
        have HF := Lib.hid hF
        have HT := Lib.hid hT
        clear hF hT
        repeat (first
          | go_big_quiet_step (((go_at_call 35; exact calls_below HF.out HT.out (HMC.out _)))))
        refine wpQuiet_nil ?_
        intro w' hw'
        obtain ⟨qf, rfl⟩ := hw'
        have bF := HF.out qf
        have kF := kb1.below bF kb1.lt
        have hbF := hb1.trans (bF.mono (by have := kb1.lt; omega))
        have hlF := hl1.below (bF.mono (by have := kb1.lt; omega))
        clear HF HT S0 S1 S2 S3 S4 t0 t1 o0 o1 o13
        go_wp2_with fail
        go_ret
        refine ⟨?_, by rw [← HBE.out]; exact hbF⟩
        rw [HRN.out, name_at hjl HGK.out]
        rfl
      case true =>
        have HMM := Lib.hid hmm
        rw [hmm] at hmc
        have HMC := Lib.hid hmc
        clear hmm hmc
        by_cases hx : x = n
        · subst hx
          by_cases hy : y = q
          · subst hy
            have hgk : nameAt (x, y) l j = false := by rw [HG.out, HMM.out]; simp
            have HGK := Lib.hid hgk
            clear hgk
            refine wp_region_below (by kernel_rfl) (by kernel_rfl) ?_
            intro T iT F hF hT
            have S0 : ∀ xf, (F xf).cell? ⟨gd, 0, none⟩ = some (.int .i64 x) := fun xf => ((hF xf).cell (p := ⟨gd, 0, none⟩) kx.lt).trans t0
            have S1 : ∀ xf, (F xf).cell? ⟨gd, 1, none⟩ = some (.int .i64 y) := fun xf => ((hF xf).cell (p := ⟨gd, 1, none⟩) kx.lt).trans t1
            have S2 : ∀ xf, (F xf).cell? ⟨b, 0, none⟩ = some (.int .i64 x) := fun xf => ((hF xf).cell (p := ⟨b, 0, none⟩) kb1.lt).trans o0
            have S3 : ∀ xf, (F xf).cell? ⟨b, 1, none⟩ = some (.int .i64 y) := fun xf => ((hF xf).cell (p := ⟨b, 1, none⟩) kb1.lt).trans o1
            have S4 : ∀ xf, (F xf).cell? ⟨b, 13, none⟩ = some (.slice (some ad) m c) := fun xf => ((hF xf).cell (p := ⟨b, 13, none⟩) kb1.lt).trans o13
            have HF := Lib.hid hF
            have HT := Lib.hid hT
            clear hF hT
            repeat (first
              | go_big_quiet_step (((go_at_call 35; exact calls_below HF.out HT.out (HMC.out _)))))
            refine wpQuiet_nil ?_
            intro w' hw'
            obtain ⟨qf, rfl⟩ := hw'
            have bF := HF.out qf
            have kF := kb1.below bF kb1.lt
            have hbF := hb1.trans (bF.mono (by have := kb1.lt; omega))
            have hlF := hl1.below (bF.mono (by have := kb1.lt; omega))
            clear HF HT S0 S1 S2 S3 S4 t0 t1 o0 o1 o13
            go_wp2_with fail
            go_ret
            refine ⟨?_, by rw [← HBE.out]; exact hbF⟩
            rw [HRN.out, name_at hjl HGK.out]
            rfl
          · skip
            have HNO := Lib.hid (show decide ((x, y) = (x, q)) = false by rw [decide_eq_false_iff_not]; intro h; exact hy (congrArg Prod.snd h))
            by_cases hk0 : j = 0
            · subst hk0
              have hgk : nameAt (x, q) l 0 = true := by rw [HG.out, HMM.out, HNO.out]; rfl
              have HGK := Lib.hid hgk
              clear hgk
              refine wp_region_below (by kernel_rfl) (by kernel_rfl) ?_
              intro T iT F hF hT
              have S0 : ∀ xf, (F xf).cell? ⟨gd, 0, none⟩ = some (.int .i64 x) := fun xf => ((hF xf).cell (p := ⟨gd, 0, none⟩) kx.lt).trans t0
              have S1 : ∀ xf, (F xf).cell? ⟨gd, 1, none⟩ = some (.int .i64 y) := fun xf => ((hF xf).cell (p := ⟨gd, 1, none⟩) kx.lt).trans t1
              have S2 : ∀ xf, (F xf).cell? ⟨b, 0, none⟩ = some (.int .i64 x) := fun xf => ((hF xf).cell (p := ⟨b, 0, none⟩) kb1.lt).trans o0
              have S3 : ∀ xf, (F xf).cell? ⟨b, 1, none⟩ = some (.int .i64 q) := fun xf => ((hF xf).cell (p := ⟨b, 1, none⟩) kb1.lt).trans o1
              have S4 : ∀ xf, (F xf).cell? ⟨b, 13, none⟩ = some (.slice (some ad) m c) := fun xf => ((hF xf).cell (p := ⟨b, 13, none⟩) kb1.lt).trans o13
              have HF := Lib.hid hF
              have HT := Lib.hid hT
              clear hF hT
              repeat (first
                | go_big_quiet_step (((go_at_call 35; exact calls_below HF.out HT.out (HMC.out _)))))
              refine wpQuiet_nil ?_
              intro w' hw'
              obtain ⟨qf, rfl⟩ := hw'
              have bF := HF.out qf
              have kF := kb1.below bF kb1.lt
              have hbF := hb1.trans (bF.mono (by have := kb1.lt; omega))
              have hlF := hl1.below (bF.mono (by have := kb1.lt; omega))
              clear HF HT S0 S1 S2 S3 S4 t0 t1 o0 o1 o13
              go_wp2_with fail
              go_roundw
              case rel => exact ⟨1, by omega, rfl, fun i hi => by
                by_cases e : i = 0
                · subst e; exact HGK.out
                · exact HA.out i (by omega), kF, hlF, hbF⟩
              case measure => simp only [intOf]; omega
            · obtain ⟨i, hmk⟩ : ∃ i, j = i + 1 := ⟨j - 1, by omega⟩
              have hml : i < l.length := by omega
              have hkp : 0 < j := by omega
              have hkq : (0 : Int) < (j : Int) := by omega
              have hwk : IntKind.i64.wrap ((j : Int) - 1) = (i : Int) := by rw [IntKind.wrap_i64]; have := H96.out; omega
              have hm0 : (0 : Int) ≤ (i : Int) := by omega
              have hmn : (i : Int) < (m : Int) := by omega
              obtain ⟨ad2, hae, hdt2⟩ := hl1.2 i _ (List.getElem?_eq_getElem hml)
              injection hae with hae
              subst hae
              have hpe : l.getD i (0, 0) = l[i] := by rw [List.getD_eq_getElem?_getD, List.getElem?_eq_getElem hml]; rfl
              have hg3 : nameAt (x, q) l j = befB l[i] (x, y) := by
                rw [HG.out, HMM.out, HNO.out, decide_eq_false hk0, show j - 1 = i by omega, hpe]
                cases befB l[i] (x, y) <;> rfl
              clear hpe
              generalize l[i] = d at *
              obtain ⟨x2, y2⟩ := d
              obtain ⟨p5, p0, p1⟩ := hdt2
              simp only at p0 p1
              have p6 : (ad.add (i * 2)).block < wn.heap.size := Nat.lt_of_lt_of_le p5 (by have := kb1.lt; omega)
              clear HG
              have HG := Lib.hid hg3
              clear hg3 hmk
              have hcc : ∀ w', Calls Try.prog 36 #[.agg #[.int .i64 x2, .int .i64 y2], .agg #[.int .i64 x, .int .i64 y]] w' fun e w'' => e = .returned (.bool (befB (x2, y2) (x, y))) ∧ Below w'.heap.size w' w'' := fun w' => before_any x2 y2 x y w'
              cases hbf : befB (x2, y2) (x, y)
              case false =>
                have hgk : nameAt (x, q) l j = false := by rw [HG.out, hbf]
                have HGK := Lib.hid hgk
                rw [hbf] at hcc
                have HCC := Lib.hid hcc
                clear hgk hbf hcc
                refine wp_region_below (by kernel_rfl) (by kernel_rfl) ?_
                intro T iT F hF hT
                have S0 : ∀ xf, (F xf).cell? ⟨gd, 0, none⟩ = some (.int .i64 x) := fun xf => ((hF xf).cell (p := ⟨gd, 0, none⟩) kx.lt).trans t0
                have S1 : ∀ xf, (F xf).cell? ⟨gd, 1, none⟩ = some (.int .i64 y) := fun xf => ((hF xf).cell (p := ⟨gd, 1, none⟩) kx.lt).trans t1
                have S2 : ∀ xf, (F xf).cell? ⟨b, 0, none⟩ = some (.int .i64 x) := fun xf => ((hF xf).cell (p := ⟨b, 0, none⟩) kb1.lt).trans o0
                have S3 : ∀ xf, (F xf).cell? ⟨b, 1, none⟩ = some (.int .i64 q) := fun xf => ((hF xf).cell (p := ⟨b, 1, none⟩) kb1.lt).trans o1
                have S4 : ∀ xf, (F xf).cell? ⟨b, 13, none⟩ = some (.slice (some ad) m c) := fun xf => ((hF xf).cell (p := ⟨b, 13, none⟩) kb1.lt).trans o13
                have SP : ∀ xf, (F xf).cell? (ad.add (i * 2)) = some (.int .i64 x2) := fun xf => ((hF xf).cell p6).trans p0
                have SQ : ∀ xf, (F xf).cell? ⟨(ad.add (i * 2)).block, (ad.add (i * 2)).off + 1, none⟩ = some (.int .i64 y2) := fun xf => ((hF xf).cell (p := ⟨(ad.add (i * 2)).block, (ad.add (i * 2)).off + 1, none⟩) p6).trans p1
                have HF := Lib.hid hF
                have HT := Lib.hid hT
                clear hF hT
                repeat (first
                  | go_big_quiet_step ((first | (go_at_call 35; exact calls_below HF.out HT.out (HMC.out _)) | (go_at_call 36; exact calls_below HF.out HT.out (HCC.out _)))))
                refine wpQuiet_nil ?_
                intro w' hw'
                obtain ⟨qf, rfl⟩ := hw'
                have bF := HF.out qf
                have kF := kb1.below bF kb1.lt
                have hbF := hb1.trans (bF.mono (by have := kb1.lt; omega))
                have hlF := hl1.below (bF.mono (by have := kb1.lt; omega))
                clear HF HT S0 S1 S2 S3 S4 t0 t1 o0 o1 o13
                go_wp2_with fail
                go_ret
                refine ⟨?_, by rw [← HBE.out]; exact hbF⟩
                rw [HRN.out, name_at hjl HGK.out]
                rfl
              case true =>
                have hgk : nameAt (x, q) l j = true := by rw [HG.out, hbf]
                have HGK := Lib.hid hgk
                rw [hbf] at hcc
                have HCC := Lib.hid hcc
                clear hgk hbf hcc
                refine wp_region_below (by kernel_rfl) (by kernel_rfl) ?_
                intro T iT F hF hT
                have S0 : ∀ xf, (F xf).cell? ⟨gd, 0, none⟩ = some (.int .i64 x) := fun xf => ((hF xf).cell (p := ⟨gd, 0, none⟩) kx.lt).trans t0
                have S1 : ∀ xf, (F xf).cell? ⟨gd, 1, none⟩ = some (.int .i64 y) := fun xf => ((hF xf).cell (p := ⟨gd, 1, none⟩) kx.lt).trans t1
                have S2 : ∀ xf, (F xf).cell? ⟨b, 0, none⟩ = some (.int .i64 x) := fun xf => ((hF xf).cell (p := ⟨b, 0, none⟩) kb1.lt).trans o0
                have S3 : ∀ xf, (F xf).cell? ⟨b, 1, none⟩ = some (.int .i64 q) := fun xf => ((hF xf).cell (p := ⟨b, 1, none⟩) kb1.lt).trans o1
                have S4 : ∀ xf, (F xf).cell? ⟨b, 13, none⟩ = some (.slice (some ad) m c) := fun xf => ((hF xf).cell (p := ⟨b, 13, none⟩) kb1.lt).trans o13
                have SP : ∀ xf, (F xf).cell? (ad.add (i * 2)) = some (.int .i64 x2) := fun xf => ((hF xf).cell p6).trans p0
                have SQ : ∀ xf, (F xf).cell? ⟨(ad.add (i * 2)).block, (ad.add (i * 2)).off + 1, none⟩ = some (.int .i64 y2) := fun xf => ((hF xf).cell (p := ⟨(ad.add (i * 2)).block, (ad.add (i * 2)).off + 1, none⟩) p6).trans p1
                have HF := Lib.hid hF
                have HT := Lib.hid hT
                clear hF hT
                repeat (first
                  | go_big_quiet_step ((first | (go_at_call 35; exact calls_below HF.out HT.out (HMC.out _)) | (go_at_call 36; exact calls_below HF.out HT.out (HCC.out _)))))
                refine wpQuiet_nil ?_
                intro w' hw'
                obtain ⟨qf, rfl⟩ := hw'
                have bF := HF.out qf
                have kF := kb1.below bF kb1.lt
                have hbF := hb1.trans (bF.mono (by have := kb1.lt; omega))
                have hlF := hl1.below (bF.mono (by have := kb1.lt; omega))
                clear HF HT S0 S1 S2 S3 S4 t0 t1 o0 o1 o13
                go_wp2_with fail
                go_roundw
                case rel => exact ⟨j + 1, by omega, num_succ j (by have := H96.out; omega), fun i hi => by
                  by_cases e : i = j
                  · subst e; exact HGK.out
                  · exact HA.out i (by omega), kF, hlF, hbF⟩
                case measure => exact meas_succ j m hlt (by have := H96.out; omega)
        · skip
          have HNO := Lib.hid (show decide ((x, y) = (n, q)) = false by rw [decide_eq_false_iff_not]; intro h; exact hx (congrArg Prod.fst h))
          by_cases hk0 : j = 0
          · subst hk0
            have hgk : nameAt (n, q) l 0 = true := by rw [HG.out, HMM.out, HNO.out]; rfl
            have HGK := Lib.hid hgk
            clear hgk
            refine wp_region_below (by kernel_rfl) (by kernel_rfl) ?_
            intro T iT F hF hT
            have S0 : ∀ xf, (F xf).cell? ⟨gd, 0, none⟩ = some (.int .i64 x) := fun xf => ((hF xf).cell (p := ⟨gd, 0, none⟩) kx.lt).trans t0
            have S1 : ∀ xf, (F xf).cell? ⟨gd, 1, none⟩ = some (.int .i64 y) := fun xf => ((hF xf).cell (p := ⟨gd, 1, none⟩) kx.lt).trans t1
            have S2 : ∀ xf, (F xf).cell? ⟨b, 0, none⟩ = some (.int .i64 n) := fun xf => ((hF xf).cell (p := ⟨b, 0, none⟩) kb1.lt).trans o0
            have S3 : ∀ xf, (F xf).cell? ⟨b, 1, none⟩ = some (.int .i64 q) := fun xf => ((hF xf).cell (p := ⟨b, 1, none⟩) kb1.lt).trans o1
            have S4 : ∀ xf, (F xf).cell? ⟨b, 13, none⟩ = some (.slice (some ad) m c) := fun xf => ((hF xf).cell (p := ⟨b, 13, none⟩) kb1.lt).trans o13
            have HF := Lib.hid hF
            have HT := Lib.hid hT
            clear hF hT
            repeat (first
              | go_big_quiet_step (((go_at_call 35; exact calls_below HF.out HT.out (HMC.out _)))))
            refine wpQuiet_nil ?_
            intro w' hw'
            obtain ⟨qf, rfl⟩ := hw'
            have bF := HF.out qf
            have kF := kb1.below bF kb1.lt
            have hbF := hb1.trans (bF.mono (by have := kb1.lt; omega))
            have hlF := hl1.below (bF.mono (by have := kb1.lt; omega))
            clear HF HT S0 S1 S2 S3 S4 t0 t1 o0 o1 o13
            go_wp2_with fail
            go_roundw
            case rel => exact ⟨1, by omega, rfl, fun i hi => by
              by_cases e : i = 0
              · subst e; exact HGK.out
              · exact HA.out i (by omega), kF, hlF, hbF⟩
            case measure => simp only [intOf]; omega
          · obtain ⟨i, hmk⟩ : ∃ i, j = i + 1 := ⟨j - 1, by omega⟩
            have hml : i < l.length := by omega
            have hkp : 0 < j := by omega
            have hkq : (0 : Int) < (j : Int) := by omega
            have hwk : IntKind.i64.wrap ((j : Int) - 1) = (i : Int) := by rw [IntKind.wrap_i64]; have := H96.out; omega
            have hm0 : (0 : Int) ≤ (i : Int) := by omega
            have hmn : (i : Int) < (m : Int) := by omega
            obtain ⟨ad2, hae, hdt2⟩ := hl1.2 i _ (List.getElem?_eq_getElem hml)
            injection hae with hae
            subst hae
            have hpe : l.getD i (0, 0) = l[i] := by rw [List.getD_eq_getElem?_getD, List.getElem?_eq_getElem hml]; rfl
            have hg3 : nameAt (n, q) l j = befB l[i] (x, y) := by
              rw [HG.out, HMM.out, HNO.out, decide_eq_false hk0, show j - 1 = i by omega, hpe]
              cases befB l[i] (x, y) <;> rfl
            clear hpe
            generalize l[i] = d at *
            obtain ⟨x2, y2⟩ := d
            obtain ⟨p5, p0, p1⟩ := hdt2
            simp only at p0 p1
            have p6 : (ad.add (i * 2)).block < wn.heap.size := Nat.lt_of_lt_of_le p5 (by have := kb1.lt; omega)
            clear HG
            have HG := Lib.hid hg3
            clear hg3 hmk
            have hcc : ∀ w', Calls Try.prog 36 #[.agg #[.int .i64 x2, .int .i64 y2], .agg #[.int .i64 x, .int .i64 y]] w' fun e w'' => e = .returned (.bool (befB (x2, y2) (x, y))) ∧ Below w'.heap.size w' w'' := fun w' => before_any x2 y2 x y w'
            cases hbf : befB (x2, y2) (x, y)
            case false =>
              have hgk : nameAt (n, q) l j = false := by rw [HG.out, hbf]
              have HGK := Lib.hid hgk
              rw [hbf] at hcc
              have HCC := Lib.hid hcc
              clear hgk hbf hcc
              refine wp_region_below (by kernel_rfl) (by kernel_rfl) ?_
              intro T iT F hF hT
              have S0 : ∀ xf, (F xf).cell? ⟨gd, 0, none⟩ = some (.int .i64 x) := fun xf => ((hF xf).cell (p := ⟨gd, 0, none⟩) kx.lt).trans t0
              have S1 : ∀ xf, (F xf).cell? ⟨gd, 1, none⟩ = some (.int .i64 y) := fun xf => ((hF xf).cell (p := ⟨gd, 1, none⟩) kx.lt).trans t1
              have S2 : ∀ xf, (F xf).cell? ⟨b, 0, none⟩ = some (.int .i64 n) := fun xf => ((hF xf).cell (p := ⟨b, 0, none⟩) kb1.lt).trans o0
              have S3 : ∀ xf, (F xf).cell? ⟨b, 1, none⟩ = some (.int .i64 q) := fun xf => ((hF xf).cell (p := ⟨b, 1, none⟩) kb1.lt).trans o1
              have S4 : ∀ xf, (F xf).cell? ⟨b, 13, none⟩ = some (.slice (some ad) m c) := fun xf => ((hF xf).cell (p := ⟨b, 13, none⟩) kb1.lt).trans o13
              have SP : ∀ xf, (F xf).cell? (ad.add (i * 2)) = some (.int .i64 x2) := fun xf => ((hF xf).cell p6).trans p0
              have SQ : ∀ xf, (F xf).cell? ⟨(ad.add (i * 2)).block, (ad.add (i * 2)).off + 1, none⟩ = some (.int .i64 y2) := fun xf => ((hF xf).cell (p := ⟨(ad.add (i * 2)).block, (ad.add (i * 2)).off + 1, none⟩) p6).trans p1
              have HF := Lib.hid hF
              have HT := Lib.hid hT
              clear hF hT
              repeat (first
                | go_big_quiet_step ((first | (go_at_call 35; exact calls_below HF.out HT.out (HMC.out _)) | (go_at_call 36; exact calls_below HF.out HT.out (HCC.out _)))))
              refine wpQuiet_nil ?_
              intro w' hw'
              obtain ⟨qf, rfl⟩ := hw'
              have bF := HF.out qf
              have kF := kb1.below bF kb1.lt
              have hbF := hb1.trans (bF.mono (by have := kb1.lt; omega))
              have hlF := hl1.below (bF.mono (by have := kb1.lt; omega))
              clear HF HT S0 S1 S2 S3 S4 t0 t1 o0 o1 o13
              go_wp2_with fail
              go_ret
              refine ⟨?_, by rw [← HBE.out]; exact hbF⟩
              rw [HRN.out, name_at hjl HGK.out]
              rfl
            case true =>
              have hgk : nameAt (n, q) l j = true := by rw [HG.out, hbf]
              have HGK := Lib.hid hgk
              rw [hbf] at hcc
              have HCC := Lib.hid hcc
              clear hgk hbf hcc
              refine wp_region_below (by kernel_rfl) (by kernel_rfl) ?_
              intro T iT F hF hT
              have S0 : ∀ xf, (F xf).cell? ⟨gd, 0, none⟩ = some (.int .i64 x) := fun xf => ((hF xf).cell (p := ⟨gd, 0, none⟩) kx.lt).trans t0
              have S1 : ∀ xf, (F xf).cell? ⟨gd, 1, none⟩ = some (.int .i64 y) := fun xf => ((hF xf).cell (p := ⟨gd, 1, none⟩) kx.lt).trans t1
              have S2 : ∀ xf, (F xf).cell? ⟨b, 0, none⟩ = some (.int .i64 n) := fun xf => ((hF xf).cell (p := ⟨b, 0, none⟩) kb1.lt).trans o0
              have S3 : ∀ xf, (F xf).cell? ⟨b, 1, none⟩ = some (.int .i64 q) := fun xf => ((hF xf).cell (p := ⟨b, 1, none⟩) kb1.lt).trans o1
              have S4 : ∀ xf, (F xf).cell? ⟨b, 13, none⟩ = some (.slice (some ad) m c) := fun xf => ((hF xf).cell (p := ⟨b, 13, none⟩) kb1.lt).trans o13
              have SP : ∀ xf, (F xf).cell? (ad.add (i * 2)) = some (.int .i64 x2) := fun xf => ((hF xf).cell p6).trans p0
              have SQ : ∀ xf, (F xf).cell? ⟨(ad.add (i * 2)).block, (ad.add (i * 2)).off + 1, none⟩ = some (.int .i64 y2) := fun xf => ((hF xf).cell (p := ⟨(ad.add (i * 2)).block, (ad.add (i * 2)).off + 1, none⟩) p6).trans p1
              have HF := Lib.hid hF
              have HT := Lib.hid hT
              clear hF hT
              repeat (first
                | go_big_quiet_step ((first | (go_at_call 35; exact calls_below HF.out HT.out (HMC.out _)) | (go_at_call 36; exact calls_below HF.out HT.out (HCC.out _)))))
              refine wpQuiet_nil ?_
              intro w' hw'
              obtain ⟨qf, rfl⟩ := hw'
              have bF := HF.out qf
              have kF := kb1.below bF kb1.lt
              have hbF := hb1.trans (bF.mono (by have := kb1.lt; omega))
              have hlF := hl1.below (bF.mono (by have := kb1.lt; omega))
              clear HF HT S0 S1 S2 S3 S4 t0 t1 o0 o1 o13
              go_wp2_with fail
              go_roundw
              case rel => exact ⟨j + 1, by omega, num_succ j (by have := H96.out; omega), fun i hi => by
                by_cases e : i = j
                · subst e; exact HGK.out
                · exact HA.out i (by omega), kF, hlF, hbF⟩
              case measure => exact meas_succ j m hlt (by have := H96.out; omega)
    · have hne : namedB (n, q) l = true := by
        rw [named_iff]
        exact fun i hi => HA.out i (by have := HM.out; omega)
      have HRK := Lib.hid (show R = K by rw [HRN.out, hne]; rfl)
      have hjd : decide ((j : Int) < (m : Int)) = false := decide_eq_false (by omega)
      have HB4 := Lib.hid hbel
      have hs4 := kb.lt
      obtain ⟨c0, c1, c2, c3, c4, c5, c6, c7, c8, c9, c10, c11, c12, c13⟩ := ecells kb
      clear HRN HA hne kb hl hbel
      by_cases hp0 : p0 = 0
      rotate_left
      · have hz : PZ = false := by rw [HZ.out, decide_eq_false_iff_not]; omega
        by_cases k1 : k = 1
        · have hKv := HK.out
          rw [if_pos k1] at hKv
          clear HK
          have HK := Lib.hid hKv
          clear hKv
          subst k1
          by_cases hv0 : 0 ≤ v
          rotate_left
          · have hvx := Lib.hid (show inB v 0 top = false by rw [← Bool.not_eq_true, inB_iff]; omega)
            have hvd : decide (0 ≤ v) = false := decide_eq_false hv0
            clear hv0
            go_wp2_with fail
            go_ret
            refine ⟨?_, by rw [← HBE.out]; exact HB4.out⟩
            rw [HRK.out, HK.out, hz, hvx.out]
            try rfl
          have hvd : decide (0 ≤ v) = true := decide_eq_true hv0
          by_cases hvt : v ≤ 1099511627776
          rotate_left
          · have hvx := Lib.hid (show inB v 0 top = false by rw [← Bool.not_eq_true, inB_iff]; unfold top; omega)
            have hvd2 : decide (v ≤ 1099511627776) = false := decide_eq_false hvt
            clear hv0 hvt
            go_wp2_with fail
            go_ret
            refine ⟨?_, by rw [← HBE.out]; exact HB4.out⟩
            rw [HRK.out, HK.out, hz, hvx.out]
            try rfl
          have hvd2 : decide (v ≤ 1099511627776) = true := decide_eq_true hvt
          have hvx := Lib.hid (show inB v 0 top = true by rw [inB_iff]; unfold top; omega)
          clear hv0 hvt
          go_wp2_with fail
          go_ret
          refine ⟨?_, by rw [← HBE.out]; exact HB4.out⟩
          rw [HRK.out, HK.out, hz, hvx.out]
          try rfl
        by_cases k2 : k = 2
        · have hKv := HK.out
          rw [if_neg k1, if_pos k2] at hKv
          clear HK
          have HK := Lib.hid hKv
          clear hKv
          subst k2
          clear k1
          by_cases hv : v = 0
          · have hKv := HK.out
            rw [decide_eq_true hv] at hKv
            clear HK
            have HK := Lib.hid hKv
            clear hKv
            subst hv
            go_wp2_with fail
            refine (HP.out _).mono ?_
            rintro e w5 ⟨rfl, b5⟩
            have hb5 := HB4.out.trans (b5.mono (by have := HB4.out.size; omega))
            go_wp2_with fail
            go_ret
            refine ⟨?_, by rw [← HBE.out]; exact hb5⟩
            rw [HRK.out, HK.out]
            cases PB <;> rfl
          have hv2 : (v == (0 : Int)) = false := by rw [beq_eq_false_iff_ne]; exact hv
          go_wp2_with fail
          go_ret
          refine ⟨?_, by rw [← HBE.out]; exact HB4.out⟩
          rw [HRK.out, HK.out, decide_eq_false hv]
          cases PB <;> rfl
        by_cases k3 : k = 3
        · have hKv := HK.out
          rw [if_neg k1, if_neg k2, if_pos k3] at hKv
          clear HK
          have HK := Lib.hid hKv
          clear hKv
          subst k3
          clear k1 k2
          by_cases hv : v = 0
          · have hKv := HK.out
            rw [decide_eq_true hv] at hKv
            clear HK
            have HK := Lib.hid hKv
            clear hKv
            subst hv
            go_wp2_with fail
            go_ret
            refine ⟨?_, by rw [← HBE.out]; exact HB4.out⟩
            rw [HRK.out, HK.out, hz]
            try rfl
          have hv2 : (v == (0 : Int)) = false := by rw [beq_eq_false_iff_ne]; exact hv
          go_wp2_with fail
          go_ret
          refine ⟨?_, by rw [← HBE.out]; exact HB4.out⟩
          rw [HRK.out, HK.out, hz, decide_eq_false hv]
          try rfl
        go_wp2_with fail
        go_ret
        refine ⟨?_, by rw [← HBE.out]; exact HB4.out⟩
        rw [HRK.out, HK.out, if_neg k1, if_neg k2, if_neg k3]
        try rfl
      subst hp0
      by_cases hp1 : p1 = 0
      rotate_left
      · have hz : PZ = false := by rw [HZ.out, decide_eq_false_iff_not]; omega
        by_cases k1 : k = 1
        · have hKv := HK.out
          rw [if_pos k1] at hKv
          clear HK
          have HK := Lib.hid hKv
          clear hKv
          subst k1
          by_cases hv0 : 0 ≤ v
          rotate_left
          · have hvx := Lib.hid (show inB v 0 top = false by rw [← Bool.not_eq_true, inB_iff]; omega)
            have hvd : decide (0 ≤ v) = false := decide_eq_false hv0
            clear hv0
            go_wp2_with fail
            go_ret
            refine ⟨?_, by rw [← HBE.out]; exact HB4.out⟩
            rw [HRK.out, HK.out, hz, hvx.out]
            try rfl
          have hvd : decide (0 ≤ v) = true := decide_eq_true hv0
          by_cases hvt : v ≤ 1099511627776
          rotate_left
          · have hvx := Lib.hid (show inB v 0 top = false by rw [← Bool.not_eq_true, inB_iff]; unfold top; omega)
            have hvd2 : decide (v ≤ 1099511627776) = false := decide_eq_false hvt
            clear hv0 hvt
            go_wp2_with fail
            go_ret
            refine ⟨?_, by rw [← HBE.out]; exact HB4.out⟩
            rw [HRK.out, HK.out, hz, hvx.out]
            try rfl
          have hvd2 : decide (v ≤ 1099511627776) = true := decide_eq_true hvt
          have hvx := Lib.hid (show inB v 0 top = true by rw [inB_iff]; unfold top; omega)
          clear hv0 hvt
          go_wp2_with fail
          go_ret
          refine ⟨?_, by rw [← HBE.out]; exact HB4.out⟩
          rw [HRK.out, HK.out, hz, hvx.out]
          try rfl
        by_cases k2 : k = 2
        · have hKv := HK.out
          rw [if_neg k1, if_pos k2] at hKv
          clear HK
          have HK := Lib.hid hKv
          clear hKv
          subst k2
          clear k1
          by_cases hv : v = 0
          · have hKv := HK.out
            rw [decide_eq_true hv] at hKv
            clear HK
            have HK := Lib.hid hKv
            clear hKv
            subst hv
            go_wp2_with fail
            refine (HP.out _).mono ?_
            rintro e w5 ⟨rfl, b5⟩
            have hb5 := HB4.out.trans (b5.mono (by have := HB4.out.size; omega))
            go_wp2_with fail
            go_ret
            refine ⟨?_, by rw [← HBE.out]; exact hb5⟩
            rw [HRK.out, HK.out]
            cases PB <;> rfl
          have hv2 : (v == (0 : Int)) = false := by rw [beq_eq_false_iff_ne]; exact hv
          go_wp2_with fail
          go_ret
          refine ⟨?_, by rw [← HBE.out]; exact HB4.out⟩
          rw [HRK.out, HK.out, decide_eq_false hv]
          cases PB <;> rfl
        by_cases k3 : k = 3
        · have hKv := HK.out
          rw [if_neg k1, if_neg k2, if_pos k3] at hKv
          clear HK
          have HK := Lib.hid hKv
          clear hKv
          subst k3
          clear k1 k2
          by_cases hv : v = 0
          · have hKv := HK.out
            rw [decide_eq_true hv] at hKv
            clear HK
            have HK := Lib.hid hKv
            clear hKv
            subst hv
            go_wp2_with fail
            go_ret
            refine ⟨?_, by rw [← HBE.out]; exact HB4.out⟩
            rw [HRK.out, HK.out, hz]
            try rfl
          have hv2 : (v == (0 : Int)) = false := by rw [beq_eq_false_iff_ne]; exact hv
          go_wp2_with fail
          go_ret
          refine ⟨?_, by rw [← HBE.out]; exact HB4.out⟩
          rw [HRK.out, HK.out, hz, decide_eq_false hv]
          try rfl
        go_wp2_with fail
        go_ret
        refine ⟨?_, by rw [← HBE.out]; exact HB4.out⟩
        rw [HRK.out, HK.out, if_neg k1, if_neg k2, if_neg k3]
        try rfl
      subst hp1
      by_cases hp2 : p2 = 0
      rotate_left
      · have hz : PZ = false := by rw [HZ.out, decide_eq_false_iff_not]; omega
        by_cases k1 : k = 1
        · have hKv := HK.out
          rw [if_pos k1] at hKv
          clear HK
          have HK := Lib.hid hKv
          clear hKv
          subst k1
          by_cases hv0 : 0 ≤ v
          rotate_left
          · have hvx := Lib.hid (show inB v 0 top = false by rw [← Bool.not_eq_true, inB_iff]; omega)
            have hvd : decide (0 ≤ v) = false := decide_eq_false hv0
            clear hv0
            go_wp2_with fail
            go_ret
            refine ⟨?_, by rw [← HBE.out]; exact HB4.out⟩
            rw [HRK.out, HK.out, hz, hvx.out]
            try rfl
          have hvd : decide (0 ≤ v) = true := decide_eq_true hv0
          by_cases hvt : v ≤ 1099511627776
          rotate_left
          · have hvx := Lib.hid (show inB v 0 top = false by rw [← Bool.not_eq_true, inB_iff]; unfold top; omega)
            have hvd2 : decide (v ≤ 1099511627776) = false := decide_eq_false hvt
            clear hv0 hvt
            go_wp2_with fail
            go_ret
            refine ⟨?_, by rw [← HBE.out]; exact HB4.out⟩
            rw [HRK.out, HK.out, hz, hvx.out]
            try rfl
          have hvd2 : decide (v ≤ 1099511627776) = true := decide_eq_true hvt
          have hvx := Lib.hid (show inB v 0 top = true by rw [inB_iff]; unfold top; omega)
          clear hv0 hvt
          go_wp2_with fail
          go_ret
          refine ⟨?_, by rw [← HBE.out]; exact HB4.out⟩
          rw [HRK.out, HK.out, hz, hvx.out]
          try rfl
        by_cases k2 : k = 2
        · have hKv := HK.out
          rw [if_neg k1, if_pos k2] at hKv
          clear HK
          have HK := Lib.hid hKv
          clear hKv
          subst k2
          clear k1
          by_cases hv : v = 0
          · have hKv := HK.out
            rw [decide_eq_true hv] at hKv
            clear HK
            have HK := Lib.hid hKv
            clear hKv
            subst hv
            go_wp2_with fail
            refine (HP.out _).mono ?_
            rintro e w5 ⟨rfl, b5⟩
            have hb5 := HB4.out.trans (b5.mono (by have := HB4.out.size; omega))
            go_wp2_with fail
            go_ret
            refine ⟨?_, by rw [← HBE.out]; exact hb5⟩
            rw [HRK.out, HK.out]
            cases PB <;> rfl
          have hv2 : (v == (0 : Int)) = false := by rw [beq_eq_false_iff_ne]; exact hv
          go_wp2_with fail
          go_ret
          refine ⟨?_, by rw [← HBE.out]; exact HB4.out⟩
          rw [HRK.out, HK.out, decide_eq_false hv]
          cases PB <;> rfl
        by_cases k3 : k = 3
        · have hKv := HK.out
          rw [if_neg k1, if_neg k2, if_pos k3] at hKv
          clear HK
          have HK := Lib.hid hKv
          clear hKv
          subst k3
          clear k1 k2
          by_cases hv : v = 0
          · have hKv := HK.out
            rw [decide_eq_true hv] at hKv
            clear HK
            have HK := Lib.hid hKv
            clear hKv
            subst hv
            go_wp2_with fail
            go_ret
            refine ⟨?_, by rw [← HBE.out]; exact HB4.out⟩
            rw [HRK.out, HK.out, hz]
            try rfl
          have hv2 : (v == (0 : Int)) = false := by rw [beq_eq_false_iff_ne]; exact hv
          go_wp2_with fail
          go_ret
          refine ⟨?_, by rw [← HBE.out]; exact HB4.out⟩
          rw [HRK.out, HK.out, hz, decide_eq_false hv]
          try rfl
        go_wp2_with fail
        go_ret
        refine ⟨?_, by rw [← HBE.out]; exact HB4.out⟩
        rw [HRK.out, HK.out, if_neg k1, if_neg k2, if_neg k3]
        try rfl
      subst hp2
      by_cases hp3 : p3 = 0
      rotate_left
      · have hz : PZ = false := by rw [HZ.out, decide_eq_false_iff_not]; omega
        by_cases k1 : k = 1
        · have hKv := HK.out
          rw [if_pos k1] at hKv
          clear HK
          have HK := Lib.hid hKv
          clear hKv
          subst k1
          by_cases hv0 : 0 ≤ v
          rotate_left
          · have hvx := Lib.hid (show inB v 0 top = false by rw [← Bool.not_eq_true, inB_iff]; omega)
            have hvd : decide (0 ≤ v) = false := decide_eq_false hv0
            clear hv0
            go_wp2_with fail
            go_ret
            refine ⟨?_, by rw [← HBE.out]; exact HB4.out⟩
            rw [HRK.out, HK.out, hz, hvx.out]
            try rfl
          have hvd : decide (0 ≤ v) = true := decide_eq_true hv0
          by_cases hvt : v ≤ 1099511627776
          rotate_left
          · have hvx := Lib.hid (show inB v 0 top = false by rw [← Bool.not_eq_true, inB_iff]; unfold top; omega)
            have hvd2 : decide (v ≤ 1099511627776) = false := decide_eq_false hvt
            clear hv0 hvt
            go_wp2_with fail
            go_ret
            refine ⟨?_, by rw [← HBE.out]; exact HB4.out⟩
            rw [HRK.out, HK.out, hz, hvx.out]
            try rfl
          have hvd2 : decide (v ≤ 1099511627776) = true := decide_eq_true hvt
          have hvx := Lib.hid (show inB v 0 top = true by rw [inB_iff]; unfold top; omega)
          clear hv0 hvt
          go_wp2_with fail
          go_ret
          refine ⟨?_, by rw [← HBE.out]; exact HB4.out⟩
          rw [HRK.out, HK.out, hz, hvx.out]
          try rfl
        by_cases k2 : k = 2
        · have hKv := HK.out
          rw [if_neg k1, if_pos k2] at hKv
          clear HK
          have HK := Lib.hid hKv
          clear hKv
          subst k2
          clear k1
          by_cases hv : v = 0
          · have hKv := HK.out
            rw [decide_eq_true hv] at hKv
            clear HK
            have HK := Lib.hid hKv
            clear hKv
            subst hv
            go_wp2_with fail
            refine (HP.out _).mono ?_
            rintro e w5 ⟨rfl, b5⟩
            have hb5 := HB4.out.trans (b5.mono (by have := HB4.out.size; omega))
            go_wp2_with fail
            go_ret
            refine ⟨?_, by rw [← HBE.out]; exact hb5⟩
            rw [HRK.out, HK.out]
            cases PB <;> rfl
          have hv2 : (v == (0 : Int)) = false := by rw [beq_eq_false_iff_ne]; exact hv
          go_wp2_with fail
          go_ret
          refine ⟨?_, by rw [← HBE.out]; exact HB4.out⟩
          rw [HRK.out, HK.out, decide_eq_false hv]
          cases PB <;> rfl
        by_cases k3 : k = 3
        · have hKv := HK.out
          rw [if_neg k1, if_neg k2, if_pos k3] at hKv
          clear HK
          have HK := Lib.hid hKv
          clear hKv
          subst k3
          clear k1 k2
          by_cases hv : v = 0
          · have hKv := HK.out
            rw [decide_eq_true hv] at hKv
            clear HK
            have HK := Lib.hid hKv
            clear hKv
            subst hv
            go_wp2_with fail
            go_ret
            refine ⟨?_, by rw [← HBE.out]; exact HB4.out⟩
            rw [HRK.out, HK.out, hz]
            try rfl
          have hv2 : (v == (0 : Int)) = false := by rw [beq_eq_false_iff_ne]; exact hv
          go_wp2_with fail
          go_ret
          refine ⟨?_, by rw [← HBE.out]; exact HB4.out⟩
          rw [HRK.out, HK.out, hz, decide_eq_false hv]
          try rfl
        go_wp2_with fail
        go_ret
        refine ⟨?_, by rw [← HBE.out]; exact HB4.out⟩
        rw [HRK.out, HK.out, if_neg k1, if_neg k2, if_neg k3]
        try rfl
      subst hp3
      by_cases hp4 : p4 = 0
      rotate_left
      · have hz : PZ = false := by rw [HZ.out, decide_eq_false_iff_not]; omega
        by_cases k1 : k = 1
        · have hKv := HK.out
          rw [if_pos k1] at hKv
          clear HK
          have HK := Lib.hid hKv
          clear hKv
          subst k1
          by_cases hv0 : 0 ≤ v
          rotate_left
          · have hvx := Lib.hid (show inB v 0 top = false by rw [← Bool.not_eq_true, inB_iff]; omega)
            have hvd : decide (0 ≤ v) = false := decide_eq_false hv0
            clear hv0
            go_wp2_with fail
            go_ret
            refine ⟨?_, by rw [← HBE.out]; exact HB4.out⟩
            rw [HRK.out, HK.out, hz, hvx.out]
            try rfl
          have hvd : decide (0 ≤ v) = true := decide_eq_true hv0
          by_cases hvt : v ≤ 1099511627776
          rotate_left
          · have hvx := Lib.hid (show inB v 0 top = false by rw [← Bool.not_eq_true, inB_iff]; unfold top; omega)
            have hvd2 : decide (v ≤ 1099511627776) = false := decide_eq_false hvt
            clear hv0 hvt
            go_wp2_with fail
            go_ret
            refine ⟨?_, by rw [← HBE.out]; exact HB4.out⟩
            rw [HRK.out, HK.out, hz, hvx.out]
            try rfl
          have hvd2 : decide (v ≤ 1099511627776) = true := decide_eq_true hvt
          have hvx := Lib.hid (show inB v 0 top = true by rw [inB_iff]; unfold top; omega)
          clear hv0 hvt
          go_wp2_with fail
          go_ret
          refine ⟨?_, by rw [← HBE.out]; exact HB4.out⟩
          rw [HRK.out, HK.out, hz, hvx.out]
          try rfl
        by_cases k2 : k = 2
        · have hKv := HK.out
          rw [if_neg k1, if_pos k2] at hKv
          clear HK
          have HK := Lib.hid hKv
          clear hKv
          subst k2
          clear k1
          by_cases hv : v = 0
          · have hKv := HK.out
            rw [decide_eq_true hv] at hKv
            clear HK
            have HK := Lib.hid hKv
            clear hKv
            subst hv
            go_wp2_with fail
            refine (HP.out _).mono ?_
            rintro e w5 ⟨rfl, b5⟩
            have hb5 := HB4.out.trans (b5.mono (by have := HB4.out.size; omega))
            go_wp2_with fail
            go_ret
            refine ⟨?_, by rw [← HBE.out]; exact hb5⟩
            rw [HRK.out, HK.out]
            cases PB <;> rfl
          have hv2 : (v == (0 : Int)) = false := by rw [beq_eq_false_iff_ne]; exact hv
          go_wp2_with fail
          go_ret
          refine ⟨?_, by rw [← HBE.out]; exact HB4.out⟩
          rw [HRK.out, HK.out, decide_eq_false hv]
          cases PB <;> rfl
        by_cases k3 : k = 3
        · have hKv := HK.out
          rw [if_neg k1, if_neg k2, if_pos k3] at hKv
          clear HK
          have HK := Lib.hid hKv
          clear hKv
          subst k3
          clear k1 k2
          by_cases hv : v = 0
          · have hKv := HK.out
            rw [decide_eq_true hv] at hKv
            clear HK
            have HK := Lib.hid hKv
            clear hKv
            subst hv
            go_wp2_with fail
            go_ret
            refine ⟨?_, by rw [← HBE.out]; exact HB4.out⟩
            rw [HRK.out, HK.out, hz]
            try rfl
          have hv2 : (v == (0 : Int)) = false := by rw [beq_eq_false_iff_ne]; exact hv
          go_wp2_with fail
          go_ret
          refine ⟨?_, by rw [← HBE.out]; exact HB4.out⟩
          rw [HRK.out, HK.out, hz, decide_eq_false hv]
          try rfl
        go_wp2_with fail
        go_ret
        refine ⟨?_, by rw [← HBE.out]; exact HB4.out⟩
        rw [HRK.out, HK.out, if_neg k1, if_neg k2, if_neg k3]
        try rfl
      subst hp4
      by_cases hp5 : p5 = 0
      rotate_left
      · have hz : PZ = false := by rw [HZ.out, decide_eq_false_iff_not]; omega
        by_cases k1 : k = 1
        · have hKv := HK.out
          rw [if_pos k1] at hKv
          clear HK
          have HK := Lib.hid hKv
          clear hKv
          subst k1
          by_cases hv0 : 0 ≤ v
          rotate_left
          · have hvx := Lib.hid (show inB v 0 top = false by rw [← Bool.not_eq_true, inB_iff]; omega)
            have hvd : decide (0 ≤ v) = false := decide_eq_false hv0
            clear hv0
            go_wp2_with fail
            go_ret
            refine ⟨?_, by rw [← HBE.out]; exact HB4.out⟩
            rw [HRK.out, HK.out, hz, hvx.out]
            try rfl
          have hvd : decide (0 ≤ v) = true := decide_eq_true hv0
          by_cases hvt : v ≤ 1099511627776
          rotate_left
          · have hvx := Lib.hid (show inB v 0 top = false by rw [← Bool.not_eq_true, inB_iff]; unfold top; omega)
            have hvd2 : decide (v ≤ 1099511627776) = false := decide_eq_false hvt
            clear hv0 hvt
            go_wp2_with fail
            go_ret
            refine ⟨?_, by rw [← HBE.out]; exact HB4.out⟩
            rw [HRK.out, HK.out, hz, hvx.out]
            try rfl
          have hvd2 : decide (v ≤ 1099511627776) = true := decide_eq_true hvt
          have hvx := Lib.hid (show inB v 0 top = true by rw [inB_iff]; unfold top; omega)
          clear hv0 hvt
          go_wp2_with fail
          go_ret
          refine ⟨?_, by rw [← HBE.out]; exact HB4.out⟩
          rw [HRK.out, HK.out, hz, hvx.out]
          try rfl
        by_cases k2 : k = 2
        · have hKv := HK.out
          rw [if_neg k1, if_pos k2] at hKv
          clear HK
          have HK := Lib.hid hKv
          clear hKv
          subst k2
          clear k1
          by_cases hv : v = 0
          · have hKv := HK.out
            rw [decide_eq_true hv] at hKv
            clear HK
            have HK := Lib.hid hKv
            clear hKv
            subst hv
            go_wp2_with fail
            refine (HP.out _).mono ?_
            rintro e w5 ⟨rfl, b5⟩
            have hb5 := HB4.out.trans (b5.mono (by have := HB4.out.size; omega))
            go_wp2_with fail
            go_ret
            refine ⟨?_, by rw [← HBE.out]; exact hb5⟩
            rw [HRK.out, HK.out]
            cases PB <;> rfl
          have hv2 : (v == (0 : Int)) = false := by rw [beq_eq_false_iff_ne]; exact hv
          go_wp2_with fail
          go_ret
          refine ⟨?_, by rw [← HBE.out]; exact HB4.out⟩
          rw [HRK.out, HK.out, decide_eq_false hv]
          cases PB <;> rfl
        by_cases k3 : k = 3
        · have hKv := HK.out
          rw [if_neg k1, if_neg k2, if_pos k3] at hKv
          clear HK
          have HK := Lib.hid hKv
          clear hKv
          subst k3
          clear k1 k2
          by_cases hv : v = 0
          · have hKv := HK.out
            rw [decide_eq_true hv] at hKv
            clear HK
            have HK := Lib.hid hKv
            clear hKv
            subst hv
            go_wp2_with fail
            go_ret
            refine ⟨?_, by rw [← HBE.out]; exact HB4.out⟩
            rw [HRK.out, HK.out, hz]
            try rfl
          have hv2 : (v == (0 : Int)) = false := by rw [beq_eq_false_iff_ne]; exact hv
          go_wp2_with fail
          go_ret
          refine ⟨?_, by rw [← HBE.out]; exact HB4.out⟩
          rw [HRK.out, HK.out, hz, decide_eq_false hv]
          try rfl
        go_wp2_with fail
        go_ret
        refine ⟨?_, by rw [← HBE.out]; exact HB4.out⟩
        rw [HRK.out, HK.out, if_neg k1, if_neg k2, if_neg k3]
        try rfl
      subst hp5
      by_cases hp6 : p6 = 0
      rotate_left
      · have hz : PZ = false := by rw [HZ.out, decide_eq_false_iff_not]; omega
        by_cases k1 : k = 1
        · have hKv := HK.out
          rw [if_pos k1] at hKv
          clear HK
          have HK := Lib.hid hKv
          clear hKv
          subst k1
          by_cases hv0 : 0 ≤ v
          rotate_left
          · have hvx := Lib.hid (show inB v 0 top = false by rw [← Bool.not_eq_true, inB_iff]; omega)
            have hvd : decide (0 ≤ v) = false := decide_eq_false hv0
            clear hv0
            go_wp2_with fail
            go_ret
            refine ⟨?_, by rw [← HBE.out]; exact HB4.out⟩
            rw [HRK.out, HK.out, hz, hvx.out]
            try rfl
          have hvd : decide (0 ≤ v) = true := decide_eq_true hv0
          by_cases hvt : v ≤ 1099511627776
          rotate_left
          · have hvx := Lib.hid (show inB v 0 top = false by rw [← Bool.not_eq_true, inB_iff]; unfold top; omega)
            have hvd2 : decide (v ≤ 1099511627776) = false := decide_eq_false hvt
            clear hv0 hvt
            go_wp2_with fail
            go_ret
            refine ⟨?_, by rw [← HBE.out]; exact HB4.out⟩
            rw [HRK.out, HK.out, hz, hvx.out]
            try rfl
          have hvd2 : decide (v ≤ 1099511627776) = true := decide_eq_true hvt
          have hvx := Lib.hid (show inB v 0 top = true by rw [inB_iff]; unfold top; omega)
          clear hv0 hvt
          go_wp2_with fail
          go_ret
          refine ⟨?_, by rw [← HBE.out]; exact HB4.out⟩
          rw [HRK.out, HK.out, hz, hvx.out]
          try rfl
        by_cases k2 : k = 2
        · have hKv := HK.out
          rw [if_neg k1, if_pos k2] at hKv
          clear HK
          have HK := Lib.hid hKv
          clear hKv
          subst k2
          clear k1
          by_cases hv : v = 0
          · have hKv := HK.out
            rw [decide_eq_true hv] at hKv
            clear HK
            have HK := Lib.hid hKv
            clear hKv
            subst hv
            go_wp2_with fail
            refine (HP.out _).mono ?_
            rintro e w5 ⟨rfl, b5⟩
            have hb5 := HB4.out.trans (b5.mono (by have := HB4.out.size; omega))
            go_wp2_with fail
            go_ret
            refine ⟨?_, by rw [← HBE.out]; exact hb5⟩
            rw [HRK.out, HK.out]
            cases PB <;> rfl
          have hv2 : (v == (0 : Int)) = false := by rw [beq_eq_false_iff_ne]; exact hv
          go_wp2_with fail
          go_ret
          refine ⟨?_, by rw [← HBE.out]; exact HB4.out⟩
          rw [HRK.out, HK.out, decide_eq_false hv]
          cases PB <;> rfl
        by_cases k3 : k = 3
        · have hKv := HK.out
          rw [if_neg k1, if_neg k2, if_pos k3] at hKv
          clear HK
          have HK := Lib.hid hKv
          clear hKv
          subst k3
          clear k1 k2
          by_cases hv : v = 0
          · have hKv := HK.out
            rw [decide_eq_true hv] at hKv
            clear HK
            have HK := Lib.hid hKv
            clear hKv
            subst hv
            go_wp2_with fail
            go_ret
            refine ⟨?_, by rw [← HBE.out]; exact HB4.out⟩
            rw [HRK.out, HK.out, hz]
            try rfl
          have hv2 : (v == (0 : Int)) = false := by rw [beq_eq_false_iff_ne]; exact hv
          go_wp2_with fail
          go_ret
          refine ⟨?_, by rw [← HBE.out]; exact HB4.out⟩
          rw [HRK.out, HK.out, hz, decide_eq_false hv]
          try rfl
        go_wp2_with fail
        go_ret
        refine ⟨?_, by rw [← HBE.out]; exact HB4.out⟩
        rw [HRK.out, HK.out, if_neg k1, if_neg k2, if_neg k3]
        try rfl
      subst hp6
      have hz : PZ = true := by rw [HZ.out]; simp
      by_cases k1 : k = 1
      · have hKv := HK.out
        rw [if_pos k1] at hKv
        clear HK
        have HK := Lib.hid hKv
        clear hKv
        subst k1
        by_cases hv0 : 0 ≤ v
        rotate_left
        · have hvx := Lib.hid (show inB v 0 top = false by rw [← Bool.not_eq_true, inB_iff]; omega)
          have hvd : decide (0 ≤ v) = false := decide_eq_false hv0
          clear hv0
          go_wp2_with fail
          go_ret
          refine ⟨?_, by rw [← HBE.out]; exact HB4.out⟩
          rw [HRK.out, HK.out, hz, hvx.out]
          try rfl
        have hvd : decide (0 ≤ v) = true := decide_eq_true hv0
        by_cases hvt : v ≤ 1099511627776
        rotate_left
        · have hvx := Lib.hid (show inB v 0 top = false by rw [← Bool.not_eq_true, inB_iff]; unfold top; omega)
          have hvd2 : decide (v ≤ 1099511627776) = false := decide_eq_false hvt
          clear hv0 hvt
          go_wp2_with fail
          go_ret
          refine ⟨?_, by rw [← HBE.out]; exact HB4.out⟩
          rw [HRK.out, HK.out, hz, hvx.out]
          try rfl
        have hvd2 : decide (v ≤ 1099511627776) = true := decide_eq_true hvt
        have hvx := Lib.hid (show inB v 0 top = true by rw [inB_iff]; unfold top; omega)
        clear hv0 hvt
        by_cases hm0 : m = 0
        · subst hm0
          have hl0 : l = [] := List.length_eq_zero_iff.1 HM.out.symm
          go_wp2_with fail
          go_ret
          refine ⟨?_, by rw [← HBE.out]; exact HB4.out⟩
          rw [HRK.out, HK.out, hz, hvx.out, decide_eq_true hl0]
          try rfl
        have hl0 : ¬ l = [] := fun h => hm0 (by rw [HM.out, h]; rfl)
        have hm1 : ((m : Int) == (0 : Int)) = false := by rw [beq_eq_false_iff_ne]; omega
        go_wp2_with fail
        go_ret
        refine ⟨?_, by rw [← HBE.out]; exact HB4.out⟩
        rw [HRK.out, HK.out, hz, hvx.out, decide_eq_false hl0]
        try rfl
      by_cases k2 : k = 2
      · have hKv := HK.out
        rw [if_neg k1, if_pos k2] at hKv
        clear HK
        have HK := Lib.hid hKv
        clear hKv
        subst k2
        clear k1
        by_cases hv : v = 0
        · have hKv := HK.out
          rw [decide_eq_true hv] at hKv
          clear HK
          have HK := Lib.hid hKv
          clear hKv
          subst hv
          go_wp2_with fail
          refine (HP.out _).mono ?_
          rintro e w5 ⟨rfl, b5⟩
          have hb5 := HB4.out.trans (b5.mono (by have := HB4.out.size; omega))
          go_wp2_with fail
          go_ret
          refine ⟨?_, by rw [← HBE.out]; exact hb5⟩
          rw [HRK.out, HK.out]
          cases PB <;> rfl
        have hv2 : (v == (0 : Int)) = false := by rw [beq_eq_false_iff_ne]; exact hv
        go_wp2_with fail
        go_ret
        refine ⟨?_, by rw [← HBE.out]; exact HB4.out⟩
        rw [HRK.out, HK.out, decide_eq_false hv]
        cases PB <;> rfl
      by_cases k3 : k = 3
      · have hKv := HK.out
        rw [if_neg k1, if_neg k2, if_pos k3] at hKv
        clear HK
        have HK := Lib.hid hKv
        clear hKv
        subst k3
        clear k1 k2
        by_cases hv : v = 0
        · have hKv := HK.out
          rw [decide_eq_true hv] at hKv
          clear HK
          have HK := Lib.hid hKv
          clear hKv
          subst hv
          go_wp2_with fail
          go_ret
          refine ⟨?_, by rw [← HBE.out]; exact HB4.out⟩
          rw [HRK.out, HK.out, hz]
          try rfl
        have hv2 : (v == (0 : Int)) = false := by rw [beq_eq_false_iff_ne]; exact hv
        go_wp2_with fail
        go_ret
        refine ⟨?_, by rw [← HBE.out]; exact HB4.out⟩
        rw [HRK.out, HK.out, hz, decide_eq_false hv]
        try rfl
      go_wp2_with fail
      go_ret
      refine ⟨?_, by rw [← HBE.out]; exact HB4.out⟩
      rw [HRK.out, HK.out, if_neg k1, if_neg k2, if_neg k3]
      try rfl
end Go.Proofs.Ytiemlnomlfebkaa

/- The walk of the document's Get of an event. -/
namespace Go.Proofs.Ytiemlnomlfebkaa
open Go.RowKit
open Dot Evt
namespace Evt
theorem rdDD_len (k : Nat) (l : List UInt8) (e : Nat) : (rdDD k l e).1.length ≤ k := by
  induction k with
  | zero => exact Nat.le_refl _
  | succ k ih =>
    rw [rdDD]
    by_cases h : (rdDD k l e).2.2 = 0
    · rw [if_pos h]; simp only [List.length_append, List.length_cons, List.length_nil]; omega
    · rw [if_neg h]; omega
theorem rdLL_len (l : List UInt8) (e : Nat) : (rdLL l e).1.length ≤ 96 := by
  simp only [rdLL]
  by_cases h : 96 < (Vint.intM l e).1
  · rw [if_pos h, rdDD_bad _ _ _ (by split <;> omega)]
    exact Nat.zero_le _
  · rw [if_neg h]
    have := rdDD_len (Vint.intM l e).1 (Vint.intM l e).2.1 (Vint.intM l e).2.2
    omega
theorem rdK_l (n q t k w : Nat) (l : List UInt8) (e : Nat) : (rdK n q t k w l e).1.l.length ≤ 96 := by
  rw [rdK_eq]
  by_cases h1 : k = 1
  · rw [if_pos h1]; exact Nat.zero_le _
  · rw [if_neg h1]
    by_cases h2 : k = 2
    · simp only [if_pos h2]; exact rdLL_len _ _
    · simp only [if_neg h2]; exact rdLL_len _ _
theorem rdE_l (l : List UInt8) : (rdE l).1.l.length ≤ 96 := by
  simp only [rdE]
  exact rdK_l _ _ _ _ _ _ _
theorem rdE_p (l : List UInt8) : (rdE l).1.p.length = 7 := by
  simp only [rdE]
  exact rdK_p _ _ _ _ _ _ _
end Evt
theorem cT0_one : (cT 0).all (·.oneCell') = true := by kernel_rfl
theorem rst_at {w : World} {g : Nat} {A : Option Addr} {n c : Nat} {bs r : List UInt8} {e : Nat} (h : RSt w g A n c bs r e) (hn : n = bs.length) : ∃ at', RRd w g A n c at' e ∧ (at' < n ↔ r ≠ []) ∧ at' ≤ n := by
  obtain ⟨at', h1, h2, h3⟩ := h
  refine ⟨at', h2, ?_, h1⟩
  rw [← h3]
  constructor
  · intro h4 h5
    have := congrArg List.length h5
    rw [List.length_drop] at this
    simp at this
    omega
  · intro h4
    false_or_by_contra
    exact h4 (List.drop_eq_nil_of_le (by omega))
set_option maxRecDepth 100000 in
set_option maxHeartbeats 2000000 in
theorem rget07_any (A : Option Addr) (n c : Nat) (bs : List UInt8) (w : World) (hb : RdB w w.heap.size A n bs) (hl : n ≤ 1000000000) :
    Calls Try.prog 27 #[.slice A n c] w (GetEv w bs) := by
  have HBS := Lib.hid fun (w' : World) (h : Below w.heap.size w w') => hb.below h
  have HN := Lib.hid hb.1
  have HL := Lib.hid hl
  clear hb hl
  go_enter Try.func27, Try.ntmps27
  go_upto_region 2 with fail
  refine nameW ?_
  intro W hW
  obtain ⟨B, hB⟩ : ∃ B, B = w.heap.size := ⟨_, rfl⟩
  rw [← hB]
  have kz : Blk W B 28 (cT 0) := by rw [hW, hB]; exact (Blk.new w _ _).alloc _
  have kr : RSt W (B + 1) A n c bs bs 0 := by
    have h := Blk.new (w.alloc (.cells (cT 0) 28)) 89 #[.slice A n c, .int .i64 (0 : Nat), .int .i64 (0 : Nat)]
    rw [show (w.alloc (.cells (cT 0) 28)).heap.size = w.heap.size + 1 by simp] at h
    rw [hW, hB]
    exact ⟨0, Nat.zero_le _, h, rfl⟩
  have gb : Below B w W := by rw [hW, hB]; exact ((Below.refl _ _).alloc (Nat.le_refl _) _).alloc (by simp) _
  have hlt : B + 1 < W.heap.size := by rw [hW, hB]; simp
  have HB := Lib.hid hB
  rw [← hB] at HBS
  clear hW hB
  go_wp2_with fail
  refine (rread07_any (B + 1) A n c B bs bs W kr (HBS.out W gb) (by omega) hlt HL.out).mono ?_
  rintro e w1 ⟨A1, m1, c1, rfl, o1, R1, g1⟩
  have kz1 := kz.grown g1 (by simp)
  have gb1 := gb.trans (only_Below g1 (B := B) (by omega) (by omega))
  have hlen : m1 ≤ 96 := by rw [o1.1]; exact rdE_l bs
  have hp7 := rdE_p bs
  obtain ⟨hOK, hER⟩ := @rdE_eq bs
  obtain ⟨x, hx⟩ : ∃ x, x = (rdE bs).1 := ⟨_, rfl⟩
  obtain ⟨r, hr⟩ : ∃ r, r = (rdE bs).2.1 := ⟨_, rfl⟩
  obtain ⟨E, hE⟩ : ∃ E, E = (rdE bs).2.2 := ⟨_, rfl⟩
  have hxre : rdE bs = (x, r, E) := by rw [hx, hr, hE]
  rw [← hx] at o1 hp7 ⊢
  rw [← hr, ← hE] at R1
  obtain ⟨cx, hcx⟩ : ∃ cx, cx = ec x (.slice A1 m1 c1) := ⟨_, rfl⟩
  have HCX := Lib.hid hcx
  have SX := Lib.hid (show cx.size = 14 by rw [hcx]; rfl)
  have OX := Lib.hid (show cx.all (·.oneCell') = true by rw [hcx]; exact ec_one _ _ _ _)
  have SZ := Lib.hid (show (cT 0).size = 14 from rfl)
  have hrt := fun (w' : World) (h : RdD w' w'.heap.size A1 m1 x.l) => eright07_any x hp7 A1 m1 c1 w' h (by omega)
  rw [← hcx] at hrt ⊢
  have HRT := Lib.hid hrt
  have HOK := Lib.hid hOK
  have HER := Lib.hid hER
  have HX := Lib.hid hxre
  clear hx hr hE hxre hcx hrt hOK hER hp7 hlen kz kr gb
  go_upto_region 3 with first
    | ((with_reducible refine wpList_st rowE (Blk.new _ _ _) SX.out SZ.out OX.out ?_ ?_ ?_); rotate_left; (rfl); (rfl); intro w6 k6 g6 z6)
  have bA : Below w1.heap.size w1 w6 := (((Below.refl _ _).alloc (Nat.le_refl _) _).grown g6 (by simp) (fun q hq => by injection hq with hq; omega))
  have hs1 : B + 1 < w1.heap.size := by obtain ⟨_, _, h, _⟩ := R1; exact h.lt
  have kz6 := kz1.below bA kz1.lt
  have gb6 := gb1.trans (bA.mono (by omega))
  have o6 := (o1.mono (base' := B) (by have := gb1.size; have := g1.size; omega)).below bA (Nat.le_refl _)
  have R6 : RSt w6 (B + 1) A n c bs r E := by
    obtain ⟨at', q1, q2, q3⟩ := R1
    exact ⟨at', q1, Blk.below q2 bA q2.lt, q3⟩
  obtain ⟨gx, hgx⟩ : ∃ gx, gx = w1.heap.size := ⟨_, rfl⟩
  rw [← hgx] at k6 ⊢
  have hgB : B + 1 < gx := by omega
  clear hgx g6 z6 bA kz1 gb1 o1 R1 hs1 g1
  obtain ⟨at', kR, hat, hatn⟩ := rst_at R6 HN.out
  have c1' : w6.cell? ⟨B + 1, 1, none⟩ = some (.int .i64 (at' : Nat)) := kR.cell 1
  have c2' : w6.cell? ⟨B + 1, 2, none⟩ = some (.int .i64 (E : Nat)) := kR.cell 2
  have f2' := kR.free 2
  have HAT := Lib.hid hat
  have HL2 := HL.out
  clear R6 hat
  by_cases hE : E = 0
  case neg =>
    have hq : ((E : Int) == 0) = false := by rw [beq_eq_false_iff_ne]; omega
    have hq2 : ((E : Int) != 0) = true := by rw [bne_iff_ne]; omega
    have he : getEv bs = (exZ, E) := by
      cases hd : decE bs with
      | ok p =>
        obtain ⟨y, r'⟩ := p
        have := HOK.out y r' hd
        rw [HX.out] at this
        injection this with _ h
        injection h with _ h
        exact absurd h hE
      | error y =>
        have := (HER.out y hd).1
        rw [HX.out] at this
        unfold getEv
        rw [hd, ← this]
    have HE := Lib.hid he
    clear he hE kR
    go_upto_region 6 with fail
    obtain ⟨w7, hw7⟩ : ∃ w7, w7 = w6 := ⟨_, rfl⟩
    rw [← hw7]
    have kz7 : Blk w7 B 28 (cT 0) := by rw [hw7]; exact kz6
    have c27 : w7.cell? ⟨B + 1, 2, none⟩ = some (.int .i64 (E : Nat)) := by rw [hw7]; exact c2'
    have gb7 : Below B w w7 := by rw [hw7]; exact gb6
    clear hw7 c1' c2' f2' k6 o6 kz6 gb6
    have hlt7 : B + 1 < w7.heap.size := World.block_lt_of_cell? w7 _ c27
    refine wp_region_held_drew (S := fun w' => w'.cell? ⟨B + 1, 2, none⟩ = some (.int .i64 (E : Nat))) (by kernel_rfl) c27 (fun hS => ?_)
    have kz8 : Blk w7.drew B 28 (cT 0) := kz7
    have gb8 : Below B w w7.drew := gb7.drew
    have hlt8 : B + 1 < w7.drew.heap.size := hlt7
    generalize w7.drew = w8 at *
    clear kz7 gb7 c27 hlt7
    refine wpAnyH_take (i := 0) (v := ?rv159) rfl (by kernel_rfl) (by kernel_rfl) (by kernel_rfl) (fun _ _ _ h => h) (Or.inl ⟨by rfl, ?ry159⟩) hS ?_
    case ry159 => (intro wS hSw; clear hSw; go_simp; (try with_reducible rfl))
    simp only [Act.put, List.getElem_toArray, List.getElem_cons_zero, List.getElem_cons_succ, List.setIfInBounds_toArray, List.set_cons_succ, List.set_cons_zero]
    refine wpAnyH_take (i := 1) (v := ?rv162) rfl (by kernel_rfl) (by kernel_rfl) (by kernel_rfl) (fun _ _ _ h => h) (Or.inl ⟨by rfl, ?ry162⟩) hS ?_
    case ry162 => (intro wS hSw; clear hSw; go_simp; (try with_reducible rfl))
    simp only [Act.put, List.getElem_toArray, List.getElem_cons_zero, List.getElem_cons_succ, List.setIfInBounds_toArray, List.set_cons_succ, List.set_cons_zero]
    refine wpAnyH_take (i := 2) (v := ?rv165) rfl (by kernel_rfl) (by kernel_rfl) (by kernel_rfl) (fun _ _ _ h => h) (Or.inl ⟨by rfl, ?ry165⟩) hS ?_
    case ry165 => (intro wS hSw; clear hSw; go_simp; (try with_reducible rfl))
    simp only [Act.put, List.getElem_toArray, List.getElem_cons_zero, List.getElem_cons_succ, List.setIfInBounds_toArray, List.set_cons_succ, List.set_cons_zero]
    refine wpAnyH_take (i := 3) (v := ?rv168) rfl (by kernel_rfl) (by kernel_rfl) (by kernel_rfl) (fun _ _ _ h => h) (Or.inl ⟨by rfl, ?ry168⟩) hS ?_
    case ry168 => (intro wS hSw; clear hSw; go_simp; (try with_reducible rfl))
    simp only [Act.put, List.getElem_toArray, List.getElem_cons_zero, List.getElem_cons_succ, List.setIfInBounds_toArray, List.set_cons_succ, List.set_cons_zero]
    refine wpAnyH_take (i := 4) (v := ?rv171) rfl (by kernel_rfl) (by kernel_rfl) (by kernel_rfl) (fun _ _ _ h => h) (Or.inl ⟨by rfl, ?ry171⟩) hS ?_
    case ry171 => (intro wS hSw; have c28 := hSw; clear hSw; go_simp; (try with_reducible rfl))
    simp only [Act.put, List.getElem_toArray, List.getElem_cons_zero, List.getElem_cons_succ, List.setIfInBounds_toArray, List.set_cons_succ, List.set_cons_zero]
    refine wpAnyH_ready (rs := [5]) (by kernel_rfl) (by simp) ?_
    refine AllReadyH.cons rfl (fun K hK => ?_) .nil
    refine step_st (cs := cT 0) rfl rowE (.tmp 2) (.tmp 38) rfl rfl rfl kz8 rfl rfl cT0_one ?_
    intro w9 k9 g9 z9
    refine hK.out _ _ ((World.cell?_of_block (a := ⟨B + 1, 2, none⟩) (g9.block (B + 1) hlt8 (by simp))).trans hS) (fun hS => ?_)
    clear hK K
    refine wpAnyH_take (i := 6) (v := ?rv180) rfl (by kernel_rfl) (by kernel_rfl) (by kernel_rfl) (fun _ _ _ h => h) (Or.inl ⟨by rfl, ?ry180⟩) hS ?_
    case ry180 => (intro wS hSw; clear hSw; go_simp; (try with_reducible rfl))
    simp only [Act.put, List.getElem_toArray, List.getElem_cons_zero, List.getElem_cons_succ, List.setIfInBounds_toArray, List.set_cons_succ, List.set_cons_zero]
    refine wpAnyH_done (by kernel_rfl) ?_ _
    try simp only [Act.put, List.getElem_toArray, List.getElem_cons_zero, List.getElem_cons_succ, List.setIfInBounds_toArray, List.set_cons_succ, List.set_cons_zero]
    have gb9 := gb8.trans (only_Below g9 (Nat.le_refl B) (by omega))
    go_wp2_with fail
    exact bodyPost_ret (v := .tuple #[.agg (cT 0), .int .i64 (E : Nat)]) (results_blk2 rfl rowE k9 SZ.out rfl rfl) rfl ⟨none, 0, 0, by rw [HE.out, exZ_cs], by rw [HE.out]; exact OwnD.nil _ _, by rw [← HB.out]; exact gb9⟩
  case pos =>
    subst hE
    have c2' : w6.cell? ⟨B + 1, 2, none⟩ = some (.int .i64 0) := c2'
    by_cases hr : r = []
    case neg =>
      have hd1 : (at' : Int) < (n : Int) := by have := HAT.out.2 hr; omega
      have he : getEv bs = (exZ, 4) := by
        cases hd : decE bs with
        | ok p =>
          obtain ⟨y, r'⟩ := p
          have := HOK.out y r' hd
          rw [HX.out] at this
          injection this with _ h
          injection h with h _
          unfold getEv
          rw [hd]
          simp only
          rw [if_neg (fun q => hr (by rw [h, q.1]))]
        | error y =>
          have h1 := (HER.out y hd)
          rw [HX.out] at h1
          exact absurd h1.1.symm h1.2
      have HE := Lib.hid he
      have kz7 := kz6.far (p := ⟨B + 1, 2, none⟩) (by show B ≠ B + 1; omega) (.int .i64 4)
      have c7 := (Blk.set_ kR 2 (.int .i64 4)).cell 2
      have gb7 : Below B w (w6.setCell ⟨B + 1, 2, none⟩ (.int .i64 4)) := gb6.setCell (by show B ≤ B + 1; omega) _
      have HK := Lib.hid kz7
      have HC := Lib.hid c7
      have HG := Lib.hid gb7
      clear hr he kR kz7 c7 gb7
      go_upto_region 6 with fail
      have kz7 := HK.out
      have c27 : (w6.setCell ⟨B + 1, 2, none⟩ (.int .i64 4)).cell? ⟨B + 1, 2, none⟩ = some (.int .i64 4) := HC.out
      have gb7 := HG.out
      clear c1' c2' f2' k6 o6 kz6 gb6 HK HC HG
      generalize w6.setCell ⟨B + 1, 2, none⟩ (.int .i64 4) = w7 at *
      have hlt7 : B + 1 < w7.heap.size := World.block_lt_of_cell? w7 _ c27
      refine wp_region_held_drew (S := fun w' => w'.cell? ⟨B + 1, 2, none⟩ = some (.int .i64 4)) (by kernel_rfl) c27 (fun hS => ?_)
      have kz8 : Blk w7.drew B 28 (cT 0) := kz7
      have gb8 : Below B w w7.drew := gb7.drew
      have hlt8 : B + 1 < w7.drew.heap.size := hlt7
      generalize w7.drew = w8 at *
      clear kz7 gb7 c27 hlt7
      refine wpAnyH_take (i := 0) (v := ?rv231) rfl (by kernel_rfl) (by kernel_rfl) (by kernel_rfl) (fun _ _ _ h => h) (Or.inl ⟨by rfl, ?ry231⟩) hS ?_
      case ry231 => (intro wS hSw; clear hSw; go_simp; (try with_reducible rfl))
      simp only [Act.put, List.getElem_toArray, List.getElem_cons_zero, List.getElem_cons_succ, List.setIfInBounds_toArray, List.set_cons_succ, List.set_cons_zero]
      refine wpAnyH_take (i := 1) (v := ?rv234) rfl (by kernel_rfl) (by kernel_rfl) (by kernel_rfl) (fun _ _ _ h => h) (Or.inl ⟨by rfl, ?ry234⟩) hS ?_
      case ry234 => (intro wS hSw; clear hSw; go_simp; (try with_reducible rfl))
      simp only [Act.put, List.getElem_toArray, List.getElem_cons_zero, List.getElem_cons_succ, List.setIfInBounds_toArray, List.set_cons_succ, List.set_cons_zero]
      refine wpAnyH_take (i := 2) (v := ?rv237) rfl (by kernel_rfl) (by kernel_rfl) (by kernel_rfl) (fun _ _ _ h => h) (Or.inl ⟨by rfl, ?ry237⟩) hS ?_
      case ry237 => (intro wS hSw; clear hSw; go_simp; (try with_reducible rfl))
      simp only [Act.put, List.getElem_toArray, List.getElem_cons_zero, List.getElem_cons_succ, List.setIfInBounds_toArray, List.set_cons_succ, List.set_cons_zero]
      refine wpAnyH_take (i := 3) (v := ?rv240) rfl (by kernel_rfl) (by kernel_rfl) (by kernel_rfl) (fun _ _ _ h => h) (Or.inl ⟨by rfl, ?ry240⟩) hS ?_
      case ry240 => (intro wS hSw; clear hSw; go_simp; (try with_reducible rfl))
      simp only [Act.put, List.getElem_toArray, List.getElem_cons_zero, List.getElem_cons_succ, List.setIfInBounds_toArray, List.set_cons_succ, List.set_cons_zero]
      refine wpAnyH_take (i := 4) (v := ?rv243) rfl (by kernel_rfl) (by kernel_rfl) (by kernel_rfl) (fun _ _ _ h => h) (Or.inl ⟨by rfl, ?ry243⟩) hS ?_
      case ry243 => (intro wS hSw; have c28 := hSw; clear hSw; go_simp; (try with_reducible rfl))
      simp only [Act.put, List.getElem_toArray, List.getElem_cons_zero, List.getElem_cons_succ, List.setIfInBounds_toArray, List.set_cons_succ, List.set_cons_zero]
      refine wpAnyH_ready (rs := [5]) (by kernel_rfl) (by simp) ?_
      refine AllReadyH.cons rfl (fun K hK => ?_) .nil
      refine step_st (cs := cT 0) rfl rowE (.tmp 2) (.tmp 38) rfl rfl rfl kz8 rfl rfl cT0_one ?_
      intro w9 k9 g9 z9
      refine hK.out _ _ ((World.cell?_of_block (a := ⟨B + 1, 2, none⟩) (g9.block (B + 1) hlt8 (by simp))).trans hS) (fun hS => ?_)
      clear hK K
      refine wpAnyH_take (i := 6) (v := ?rv252) rfl (by kernel_rfl) (by kernel_rfl) (by kernel_rfl) (fun _ _ _ h => h) (Or.inl ⟨by rfl, ?ry252⟩) hS ?_
      case ry252 => (intro wS hSw; clear hSw; go_simp; (try with_reducible rfl))
      simp only [Act.put, List.getElem_toArray, List.getElem_cons_zero, List.getElem_cons_succ, List.setIfInBounds_toArray, List.set_cons_succ, List.set_cons_zero]
      refine wpAnyH_done (by kernel_rfl) ?_ _
      try simp only [Act.put, List.getElem_toArray, List.getElem_cons_zero, List.getElem_cons_succ, List.setIfInBounds_toArray, List.set_cons_succ, List.set_cons_zero]
      have gb9 := gb8.trans (only_Below g9 (Nat.le_refl B) (by omega))
      go_wp2_with fail
      exact bodyPost_ret (v := .tuple #[.agg (cT 0), .int .i64 4]) (results_blk2 rfl rowE k9 SZ.out rfl rfl) rfl ⟨none, 0, 0, by rw [HE.out, exZ_cs]; rfl, by rw [HE.out]; exact OwnD.nil _ _, by rw [← HB.out]; exact gb9⟩
    case pos =>
      have hd1 : ¬ (at' : Int) < (n : Int) := fun h => HAT.out.1 (by omega) hr
      have HR := Lib.hid (HRT.out w6 o6.rd)
      have HO6 := Lib.hid o6
      have hdE : decE bs = .ok (x, r) := by
        cases hd : decE bs with
        | ok p =>
          obtain ⟨y, r'⟩ := p
          have := HOK.out y r' hd
          rw [HX.out] at this
          injection this with h1 h
          injection h with h _
          rw [h1, h]
        | error y =>
          have h1 := (HER.out y hd)
          rw [HX.out] at h1
          exact absurd h1.1.symm h1.2
      have HDE := Lib.hid hdE
      have HRR := Lib.hid hr
      clear hdE hr o6
      go_wp2_with first
        | ((with_reducible refine wpList_ldg rowE k6 SX.out ?_ ?_ ?_); rotate_left; (rfl); (rfl))
      refine HR.out.mono ?_
      rintro e w7 ⟨rfl, b7⟩
      have hs6 := k6.lt
      have kz7 := kz6.below b7 kz6.lt
      have k7 := k6.below b7 k6.lt
      have kR7 : RRd w7 (B + 1) A n c at' 0 := Blk.below kR b7 kR.lt
      have gb7 := gb6.trans (b7.mono (by omega))
      have o7 := HO6.out.below b7 (Nat.le_refl _)
      have c27 : w7.cell? ⟨B + 1, 2, none⟩ = some (.int .i64 0) := kR7.cell 2
      have f27 := kR7.free 2
      clear c1' c2' f2' k6 HO6 kz6 gb6 kR b7
      cases hx : rightE x
      case true =>
        have HE := Lib.hid (show getEv bs = (x, 0) by unfold getEv; rw [HDE.out]; simp only; rw [if_pos ⟨HRR.out, hx⟩])
        clear hx
        go_wp2_with first
          | ((with_reducible refine wpList_ld rowE k7 SX.out ?_ ?_); rotate_left; (rfl))
          | ((with_reducible refine wpList_st rowE kz7 SX.out SZ.out OX.out ?_ ?_ ?_); rotate_left; (rfl); (rfl); intro w8 k8 g8 z8)
        have o8 := o7.grown g8 (.inr (own_ne o7.2 kz7 (by decide)))
        have gb8 := gb7.trans (only_Below g8 (Nat.le_refl B) (by have := kz7.lt; omega))
        exact bodyPost_ret (v := .tuple #[.agg cx, .int .i64 0]) (results_blk2 rfl rowE k8 SX.out rfl rfl) rfl ⟨A1, m1, c1, by rw [HE.out, HCX.out]; rfl, by rw [HE.out, ← HB.out]; exact o8, by rw [← HB.out]; exact gb8⟩
      case false =>
        have HE := Lib.hid (show getEv bs = (exZ, 4) by unfold getEv; rw [HDE.out]; simp only; rw [if_neg (fun q => by rw [q.2] at hx; cases hx)])
        have kz7' := kz7.far (p := ⟨B + 1, 2, none⟩) (by show B ≠ B + 1; omega) (.int .i64 4)
        have c7 := (Blk.set_ kR7 2 (.int .i64 4)).cell 2
        have gb7' : Below B w (w7.setCell ⟨B + 1, 2, none⟩ (.int .i64 4)) := gb7.setCell (by show B ≤ B + 1; omega) _
        have HK := Lib.hid kz7'
        have HC := Lib.hid c7
        have HG := Lib.hid gb7'
        clear hx kR7 kz7' c7 gb7' kz7 gb7 o7 k7
        go_upto_region 6 with fail
        have kz7 := HK.out
        have c28 : (w7.setCell ⟨B + 1, 2, none⟩ (.int .i64 4)).cell? ⟨B + 1, 2, none⟩ = some (.int .i64 4) := HC.out
        have gb7 := HG.out
        clear c27 f27 HK HC HG
        have c27 := c28
        clear c28
        generalize w7.setCell ⟨B + 1, 2, none⟩ (.int .i64 4) = w7 at *
        have hlt7 : B + 1 < w7.heap.size := World.block_lt_of_cell? w7 _ c27
        refine wp_region_held_drew (S := fun w' => w'.cell? ⟨B + 1, 2, none⟩ = some (.int .i64 4)) (by kernel_rfl) c27 (fun hS => ?_)
        have kz8 : Blk w7.drew B 28 (cT 0) := kz7
        have gb8 : Below B w w7.drew := gb7.drew
        have hlt8 : B + 1 < w7.drew.heap.size := hlt7
        generalize w7.drew = w8 at *
        clear kz7 gb7 c27 hlt7
        refine wpAnyH_take (i := 0) (v := ?rv327) rfl (by kernel_rfl) (by kernel_rfl) (by kernel_rfl) (fun _ _ _ h => h) (Or.inl ⟨by rfl, ?ry327⟩) hS ?_
        case ry327 => (intro wS hSw; clear hSw; go_simp; (try with_reducible rfl))
        simp only [Act.put, List.getElem_toArray, List.getElem_cons_zero, List.getElem_cons_succ, List.setIfInBounds_toArray, List.set_cons_succ, List.set_cons_zero]
        refine wpAnyH_take (i := 1) (v := ?rv330) rfl (by kernel_rfl) (by kernel_rfl) (by kernel_rfl) (fun _ _ _ h => h) (Or.inl ⟨by rfl, ?ry330⟩) hS ?_
        case ry330 => (intro wS hSw; clear hSw; go_simp; (try with_reducible rfl))
        simp only [Act.put, List.getElem_toArray, List.getElem_cons_zero, List.getElem_cons_succ, List.setIfInBounds_toArray, List.set_cons_succ, List.set_cons_zero]
        refine wpAnyH_take (i := 2) (v := ?rv333) rfl (by kernel_rfl) (by kernel_rfl) (by kernel_rfl) (fun _ _ _ h => h) (Or.inl ⟨by rfl, ?ry333⟩) hS ?_
        case ry333 => (intro wS hSw; clear hSw; go_simp; (try with_reducible rfl))
        simp only [Act.put, List.getElem_toArray, List.getElem_cons_zero, List.getElem_cons_succ, List.setIfInBounds_toArray, List.set_cons_succ, List.set_cons_zero]
        refine wpAnyH_take (i := 3) (v := ?rv336) rfl (by kernel_rfl) (by kernel_rfl) (by kernel_rfl) (fun _ _ _ h => h) (Or.inl ⟨by rfl, ?ry336⟩) hS ?_
        case ry336 => (intro wS hSw; clear hSw; go_simp; (try with_reducible rfl))
        simp only [Act.put, List.getElem_toArray, List.getElem_cons_zero, List.getElem_cons_succ, List.setIfInBounds_toArray, List.set_cons_succ, List.set_cons_zero]
        refine wpAnyH_take (i := 4) (v := ?rv339) rfl (by kernel_rfl) (by kernel_rfl) (by kernel_rfl) (fun _ _ _ h => h) (Or.inl ⟨by rfl, ?ry339⟩) hS ?_
        case ry339 => (intro wS hSw; have c28 := hSw; clear hSw; go_simp; (try with_reducible rfl))
        simp only [Act.put, List.getElem_toArray, List.getElem_cons_zero, List.getElem_cons_succ, List.setIfInBounds_toArray, List.set_cons_succ, List.set_cons_zero]
        refine wpAnyH_ready (rs := [5]) (by kernel_rfl) (by simp) ?_
        refine AllReadyH.cons rfl (fun K hK => ?_) .nil
        refine step_st (cs := cT 0) rfl rowE (.tmp 2) (.tmp 38) rfl rfl rfl kz8 rfl rfl cT0_one ?_
        intro w9 k9 g9 z9
        refine hK.out _ _ ((World.cell?_of_block (a := ⟨B + 1, 2, none⟩) (g9.block (B + 1) hlt8 (by simp))).trans hS) (fun hS => ?_)
        clear hK K
        refine wpAnyH_take (i := 6) (v := ?rv348) rfl (by kernel_rfl) (by kernel_rfl) (by kernel_rfl) (fun _ _ _ h => h) (Or.inl ⟨by rfl, ?ry348⟩) hS ?_
        case ry348 => (intro wS hSw; clear hSw; go_simp; (try with_reducible rfl))
        simp only [Act.put, List.getElem_toArray, List.getElem_cons_zero, List.getElem_cons_succ, List.setIfInBounds_toArray, List.set_cons_succ, List.set_cons_zero]
        refine wpAnyH_done (by kernel_rfl) ?_ _
        try simp only [Act.put, List.getElem_toArray, List.getElem_cons_zero, List.getElem_cons_succ, List.setIfInBounds_toArray, List.set_cons_succ, List.set_cons_zero]
        have gb9 := gb8.trans (only_Below g9 (Nat.le_refl B) (by omega))
        go_wp2_with fail
        exact bodyPost_ret (v := .tuple #[.agg (cT 0), .int .i64 4]) (results_blk2 rfl rowE k9 SZ.out rfl rfl) rfl ⟨none, 0, 0, by rw [HE.out, exZ_cs]; rfl, by rw [HE.out]; exact OwnD.nil _ _, by rw [← HB.out]; exact gb9⟩
end Go.Proofs.Ytiemlnomlfebkaa

/- The walk of event.GetAll. -/
namespace Go.Proofs.Ytiemlnomlfebkaa
open Go.RowKit
open Dot Evt
namespace Evt
/-- so many right events, and the rest; or the error -/
def decEs : Nat → List UInt8 → Except Nat (List Ev × List UInt8)
  | 0, l => .ok ([], l)
  | k + 1, l => match decEs k l with
    | .error y => .error y
    | .ok (xs, r) => match decE r with
      | .error y => .error y
      | .ok (x, r') => if rightE x = true then .ok (xs ++ [x], r') else .error 4
/-- the events of bytes -/
def decA (l : List UInt8) : Except Nat (List Ev) :=
  match Vint.dec l with
  | .error y => .error y
  | .ok (n, r) => if 768 < n then .error 6 else match decEs n r with
    | .error y => .error y
    | .ok (xs, r') => if r' = [] then .ok xs else .error 4
def getAllE (l : List UInt8) : List Ev × Nat := match decA l with | .ok xs => (xs, 0) | .error y => ([], y)
theorem decEs_err {k : Nat} {l : List UInt8} {x : Nat} (h : decEs k l = .error x) : ∀ m, k ≤ m → decEs m l = .error x := by
  intro m
  induction m with
  | zero => intro hk; obtain rfl : k = 0 := by omega
            exact h
  | succ m ih =>
    intro hk
    by_cases e : k = m + 1
    · rw [← e]; exact h
    · rw [decEs, ih (by omega)]
theorem decE_l {l : List UInt8} {x : Ev} {r : List UInt8} (h : decE l = .ok (x, r)) : x.l.length ≤ 96 := by
  unfold decE at h
  split at h
  · cases h
  split at h
  · cases h
  split at h
  · cases h
  split at h
  · cases h
  split at h
  case isFalse => cases h
  split at h
  · cases h
  unfold decK at h
  split at h
  · split at h
    · cases h
    · injection h with h; injection h with h _; rw [← h]; exact Nat.zero_le _
  · split at h
    · split at h
      · cases h
      · split at h
        · cases h
        · rename_i hd
          injection h with h; injection h with h _
          rw [← h]
          exact (decL_suf hd).2.1
    · split at h
      · cases h
      · rename_i hd
        injection h with h; injection h with h _; rw [← h]
        exact (decL_suf hd).2.1
end Evt
/-- what GetAll leaves -/
def GetAllEv (w : World) (bs : List UInt8) (e : Ending) (w' : World) : Prop := ∃ A n c ys, e = .returned (.tuple #[.slice A n c, .int .i64 ((getAllE bs).2 : Nat)]) ∧ OwnEv w' w.heap.size A n c ys ∧ (∀ y ∈ ys, EvOwn w' w.heap.size y) ∧ ys.map (·.e) = (getAllE bs).1 ∧ Below w.heap.size w w'
theorem gall_close {bs : List UInt8} {w w3 : World} {B y : Nat} {tmps : Array Value} (kf : Blk w3 B 38 #[.int .i64 0]) (gb : Below B w w3) (hB : B = w.heap.size) (h2 : tmps.getD 2 undef = .slice none 0 0) (h3 : tmps.getD 3 undef = .pointer (some ⟨B, 0, none⟩)) (he : getAllE bs = ([], y)) :
    Leaves Try.prog Try.f28 tmps (GetAllEv w bs) [{ target := .fn (.func 38) #[], args := #[.pointer (some ⟨B, 0, none⟩)] }] (.panicking [{ v := eflt (y : Nat), recovered := false }]) w3 := by
  refine leaves_cons (f := 38) (args := #[.pointer (some ⟨B, 0, none⟩)]) (by simp) (by simp [go_sem]) ?_
  refine (ecaught_panic _ _ _ _ _ (kf.cell 0) (kf.free 0)).mono ?_
  rintro e u' w4 ⟨rfl, rfl, rfl⟩
  have k4 := (kf.alloc (.cells #[.int .i64 (y : Nat)] 101)).set_ 0 (.int .i64 (y : Nat))
  have c4 := k4.cell 0
  have g4 : Below B w ((w3.alloc (.cells #[.int .i64 (y : Nat)] 101)).setCell ⟨B, 0, none⟩ (.int .i64 (y : Nat))) := (gb.alloc (by have := gb.size; omega) _).setCell (by show B ≤ B; omega) _
  have h2' : tmps[2]?.getD undef = .slice none 0 0 := by simpa using h2
  have h3' : tmps[3]?.getD undef = .pointer (some ⟨B, 0, none⟩) := by simpa using h3
  refine ⟨.tuple #[.slice none 0 0, .int .i64 (y : Nat)], by simp [results, Try.results28, h2', h3', go_sem, c4], none, 0, 0, [], by rw [he], OwnEv.nil _ _, fun z hz => by simp at hz, by rw [he]; rfl, by rw [← hB]; exact g4⟩
theorem keepOwn {g x0 base : Nat} {wr w6 w7 : World} {t : TypeId} {s : Nat} {A : Option Addr} {n c : Nat} {xs : List Value} {tR : TypeId} {cs : Array Value} (h : wr.ownsRow base t s (.slice A n c) n xs) (b1 : Below wr.heap.size wr w6) (o : Only (GB g x0) w6 w7) (hx : wr.heap.size ≤ x0) (kg : Blk wr g tR cs) (hne : tR ≠ t) : w7.ownsRow base t s (.slice A n c) n xs :=
  ownsRow_keep h fun k hk => by
    have hl := ownsRow_lt h hk
    refine (o.block k (by have := b1.size; omega) ?_).trans (b1.block k hl)
    rintro (e | e)
    · exact own_ne h kg hne (by rw [hk, e])
    · omega
set_option maxRecDepth 100000 in
set_option maxHeartbeats 4000000 in
theorem egetAll_any (A : Option Addr) (n c : Nat) (bs : List UInt8) (w : World) (hb : RdB w w.heap.size A n bs) (hl : n ≤ 1000000000) :
    Calls Try.prog 28 #[.slice A n c] w (GetAllEv w bs) := by
  have HBS := Lib.hid fun (w' : World) (h : Below w.heap.size w w') => hb.below h
  have HL := Lib.hid hl
  clear hb hl
  go_enter_defers Try.func28, Try.ntmps28
  go_upto_region 2 with fail
  refine nameW ?_
  intro W hW
  obtain ⟨B, hB⟩ : ∃ B, B = w.heap.size := ⟨_, rfl⟩
  rw [← hB]
  have kf : Blk W B 38 #[.int .i64 0] := by rw [hW, hB]; exact Blk.new w _ _
  have gb : Below B w W := by rw [hW, hB]; exact (Below.refl _ _).alloc (Nat.le_refl _) _
  have HB := Lib.hid hB
  rw [← hB] at HBS
  clear hW hB
  go_wp2_with fail
  refine (new_any A n c bs B W (HBS.out W gb) (by have := kf.lt; omega) (by have := HL.out; omega)).mono ?_
  rintro e w1 ⟨A1, c1, g, rfl, hg, hR, b1⟩
  have kf1 := kf.below b1 kf.lt
  have gb1 := gb.trans (b1.mono (by have := kf.lt; omega))
  have hgB : B < g := by have := kf.lt; omega
  clear kf gb b1 hg
  go_upto_region 4 with fail
  refine nameW ?_
  intro W2 hW2
  obtain ⟨v, hv⟩ : ∃ v, v = w1.heap.size := ⟨_, rfl⟩
  rw [← hv]
  have kv : Blk W2 v 83 #[.pointer (some ⟨g, 0, none⟩)] := by rw [hW2, hv]; exact (Blk.new w1 _ _).alloc _
  have kn : Blk W2 (v + 1) 3 #[.int .i64 0] := by
    have h := Blk.new (w1.alloc (.cells #[.pointer (some ⟨g, 0, none⟩)] 83)) 3 #[.int .i64 0]
    rw [show (w1.alloc (.cells #[.pointer (some ⟨g, 0, none⟩)] 83)).heap.size = w1.heap.size + 1 by simp] at h
    rw [hW2, hv]
    exact h
  have bA : Below w1.heap.size w1 W2 := by rw [hW2]; exact ((Below.refl _ _).alloc (Nat.le_refl _) _).alloc (by simp) _
  have kf2 := kf1.below bA kf1.lt
  have gb2 := gb1.trans (bA.mono (by have := kf1.lt; omega))
  have hR2 := hR.below (bA.mono (by have := hR.lt; omega))
  have hgv : g < v := by have := hR.lt; omega
  have cv : W2.cell? ⟨v, 0, none⟩ = some (.pointer (some ⟨g, 0, none⟩)) := kv.cell 0
  clear hW2 hv kf1 gb1 hR bA
  go_wp2_with fail
  refine (rdnum_any g (v + 1) 3 _ 0 A1 bs.length c1 bs W2 hR2 kn (by omega) (by simp)).mono ?_
  intro e w3 hn
  have kf3 := kf2.only hn.1 (by rintro (h | h) <;> omega)
  have kv3 := kv.only hn.1 (by rintro (h | h) <;> omega)
  have gb3 := gb2.trans (hn.1.to_below (B := B) (by rintro k (h | h) <;> omega) (by have := kf2.lt; omega))
  rcases hd : Vint.dec bs with y | ⟨m, l0⟩
  · obtain ⟨rfl, _⟩ := hn.bad hd
    have HE := Lib.hid (show getAllE bs = ([], y) by simp [getAllE, decA, hd])
    clear hd hn
    go_wp2_with fail
    exact gall_close kf3 gb3 HB.out rfl rfl HE.out
  obtain ⟨rfl, ⟨A3, c3, hR3⟩, kn3, _⟩ := hn.good hd
  have kn3 : Blk w3 (v + 1) 3 #[.int .i64 (m : Nat)] := kn3
  have HD := Lib.hid hd
  have cn : w3.cell? ⟨v + 1, 0, none⟩ = some (.int .i64 (m : Nat)) := kn3.cell 0
  have cv : w3.cell? ⟨v, 0, none⟩ = some (.pointer (some ⟨g, 0, none⟩)) := kv3.cell 0
  clear hd hn kf2 kv kn gb2 hR2 kn3
  by_cases hbig : 768 < m
  · have hmd : decide ((768 : Int) < (m : Int)) = true := decide_eq_true (by omega)
    have HE := Lib.hid (show getAllE bs = ([], 6) by simp [getAllE, decA, HD.out, hbig])
    clear hbig
    go_wp2_with fail
    refine (rdfail_any g 6 _).mono ?_
    rintro e w4 ⟨rfl, b4⟩
    have kf4 := kf3.below b4 kf3.lt
    have gb4 := gb3.trans (b4.mono (by have := kf3.lt; omega))
    go_wp2_with fail
    exact gall_close (y := 6) kf4 gb4 HB.out rfl rfl HE.out
  have hmd : decide ((768 : Int) < (m : Int)) = false := decide_eq_false (by omega)
  have H768 := Lib.hid (show m ≤ 768 by omega)
  have HERR := Lib.hid (show ∀ k y, k ≤ m → decEs k l0 = .error y → getAllE bs = ([], y) from fun k y hk h => by
    have h2 := decEs_err h m hk
    simp [getAllE, decA, HD.out, hbig, h2])
  have HALL := Lib.hid (show ∀ xs r, decEs m l0 = .ok (xs, r) → getAllE bs = if r = [] then (xs, 0) else ([], 4) from fun xs r h => by
    by_cases hr : r = []
    · simp [getAllE, decA, HD.out, hbig, h, hr]
    · simp [getAllE, decA, HD.out, hbig, h, hr])
  clear hbig
  go_wp2_with fail
  go_loopw [6, 18] (fun s i wr => ∃ (k : Nat) (xs : List Ev) (ys : List EvV) (A' : Option Addr) (c' : Nat) (r : List UInt8) (Ar : Option Addr) (cr : Nat), k ≤ m ∧ i = .int .i64 k ∧ s = .slice A' k c' ∧ decEs k l0 = .ok (xs, r) ∧ OwnEv wr (g + 1) A' k c' ys ∧ (∀ y ∈ ys, EvOwn wr B y) ∧ ys.map (·.e) = xs ∧ Rdr wr g Ar r.length cr r 0 ∧ Blk wr v 83 #[.pointer (some ⟨g, 0, none⟩)] ∧ Blk wr B 38 #[.int .i64 0] ∧ Below B w wr) (fun _ i _ => m - (intOf i).toNat)
  case atStart => exact ⟨0, [], [], none, 0, l0, A3, c3, by omega, rfl, rfl, rfl, OwnEv.nil _ _, fun y hy => by simp at hy, rfl, hR3, kv3, kf3, gb3⟩
  case round =>
    clear hR3 kv3 kf3 gb3 cn cv
    obtain ⟨k, xs, ys, A', c', r, Ar, cr, hk, rfl, rfl, hdk, ho, hys, hmp, hR, kv, kf, gb⟩ := hrel
    have HDK := Lib.hid hdk
    have HYS := Lib.hid hys
    have HMP := Lib.hid hmp
    have hgs : B < wr.heap.size := kf.lt
    clear hdk hys hmp
    by_cases hlt : k < m
    · go_upto_region 11 with fail
      refine nameW ?_
      intro w6 hw6
      obtain ⟨x0, hx0⟩ : ∃ x0, x0 = wr.heap.size := ⟨_, rfl⟩
      rw [← hx0]
      have kx : Blk w6 x0 28 (cT 0) := by rw [hw6, hx0]; exact Blk.new _ _ _
      have b6 : Below wr.heap.size wr w6 := by rw [hw6]; exact (Below.refl _ _).alloc (Nat.le_refl _) _
      have hR6 := hR.below (b6.mono (by have := hR.lt; omega))
      have kv6 := kv.below b6 kv.lt
      have kf6 := kf.below b6 kf.lt
      have gb6 := gb.trans (b6.mono (by omega))
      have hgx : g < x0 := by have := hR.lt; omega
      have hvx : v < x0 := by have := kv.lt; omega
      have hBx : B < x0 := by omega
      have cv : w6.cell? ⟨v, 0, none⟩ = some (.pointer (some ⟨g, 0, none⟩)) := kv6.cell 0
      have kg : Blk wr g 104 _ := hR.1
      have HK7 := Lib.hid (show ∀ w7, Only (GB g x0) w6 w7 → OwnEv w7 (g + 1) A' k c' ys ∧ ∀ y ∈ ys, EvOwn w7 B y from fun w7 o => ⟨⟨ho.1, keepOwn ho.2 b6 o (by omega) kg (by decide)⟩, fun y hy => by
        obtain ⟨q1, q2, q3⟩ := HYS.out y hy
        exact ⟨q1, ⟨q2.1, keepOwn q2.2 b6 o (by omega) kg (by decide)⟩, q3⟩⟩)
      clear hw6 hx0 b6 hR kv kf gb ho HYS kg
      go_wp2_with fail
      refine (thrr_any x0 g Ar r.length cr r w6 hR6 kx hgx).mono ?_
      rintro e w7 ⟨oo, hh⟩
      have kf7 := kf6.only oo (by rintro (h | h) <;> omega)
      have kv7 := kv6.only oo (by rintro (h | h) <;> omega)
      have gb7 := gb6.trans (oo.to_below (B := B) (by rintro k (h | h) <;> omega) (by have := kf6.lt; omega))
      obtain ⟨ho7, hys7⟩ := HK7.out w7 oo
      rcases hh with ⟨x, r', hd, rfl, ⟨A7, c7, hR7⟩, A8, m8, c8, kx7, o8⟩ | ⟨y, hd, rfl⟩
      case inr =>
        have HE := Lib.hid (HERR.out (k + 1) y (by omega) (by simp [decEs, HDK.out, hd]))
        clear hd oo
        go_wp2_with fail
        exact gall_close kf7 gb7 HB.out rfl rfl HE.out
      have o9 := o8.mono (base' := B) (by have := kf6.lt; omega)
      have hz : EvOwn w7 B ⟨x, A8, m8, c8⟩ := ⟨decE_p hd, o9, by show m8 ≤ _; rw [o8.1]; have := decE_l hd; omega⟩
      obtain ⟨z, hzz⟩ : ∃ z : EvV, z = ⟨x, A8, m8, c8⟩ := ⟨_, rfl⟩
      have hze : z.e = x := by rw [hzz]
      have hcz : ec x (.slice A8 m8 c8) = z.cs := by rw [hzz]; rfl
      have hrt := eright_any x (decE_p hd) A8 m8 c8 w7 o9.rd.size
      rw [← hzz] at hz
      rw [hcz] at kx7 hrt
      obtain ⟨cz, hcz2⟩ : ∃ cz, cz = z.cs := ⟨_, rfl⟩
      have HBS2 := Lib.hid (fun w => buildE1 z w)
      rw [← hcz2] at kx7 hrt HBS2
      have SZ := Lib.hid (show cz.size = 14 by rw [hcz2]; rfl)
      have HCZ := Lib.hid hcz2
      have HZ := Lib.hid hz
      have HZE := Lib.hid hze
      have HRT := Lib.hid hrt
      have HYS7 := Lib.hid hys7
      have HDE := Lib.hid hd
      clear hz hzz hze hcz hcz2 hrt hys7 o8 o9 oo hd kx kf6 kv6 gb6 HK7 hR6
      go_wp2_with first
        | ((with_reducible refine wpList_ld rowE kx7 SZ.out ?_ ?_); rotate_left; (rfl))
      refine HRT.out.mono ?_
      rintro e w8 ⟨rfl, b8⟩
      have kf8 := kf7.below b8 kf7.lt
      have kv8 := kv7.below b8 kv7.lt
      have kx8 := kx7.below b8 kx7.lt
      have gb8 := gb7.trans (b8.mono (by have := kf7.lt; omega))
      have hR8 := hR7.below (b8.mono (by have := hR7.lt; omega))
      have cv8 : w8.cell? ⟨v, 0, none⟩ = some (.pointer (some ⟨g, 0, none⟩)) := kv8.cell 0
      cases hrx : rightE x
      case false =>
        have HE := Lib.hid (HERR.out (k + 1) 4 (by omega) (by simp [decEs, HDK.out, HDE.out, hrx]))
        clear hrx
        go_wp2_with fail
        refine (rdfail_any g 4 _).mono ?_
        rintro e w9 ⟨rfl, b9⟩
        have kf9 := kf8.below b9 kf8.lt
        have gb9 := gb8.trans (b9.mono (by have := kf8.lt; omega))
        go_wp2_with fail
        exact gall_close (y := 4) kf9 gb9 HB.out rfl rfl HE.out
      case true =>
        have HDN := Lib.hid (show decEs (k + 1) l0 = .ok (xs ++ [x], r') by simp [decEs, HDK.out, HDE.out, hrx])
        have ho8 := ho7.below b8 (Nat.le_refl _)
        have hys8 : ∀ y ∈ ys, EvOwn w8 B y := fun y hy => by
          obtain ⟨q1, q2, q3⟩ := HYS7.out y hy
          exact ⟨q1, q2.below b8 (Nat.le_refl _), q3⟩
        have hz8 : EvOwn w8 B z := by
          obtain ⟨q1, q2, q3⟩ := HZ.out
          exact ⟨q1, q2.below b8 (Nat.le_refl _), q3⟩
        have HYS8 := Lib.hid hys8
        have HZ8 := Lib.hid hz8
        have hs8 : B < w8.heap.size := kf8.lt
        have hg8 : g < w8.heap.size := hR8.lt
        clear hrx hys8 hz8 HYS7 HZ HRT kf7 kv7 kx7 gb7 b8 ho7 hR7
        go_wp2_with first
          | ((with_reducible refine wpList_ld rowE kx8 SZ.out ?_ ?_); rotate_left; (rfl))
          | ((refine wpList_bs (v := .slice (some ⟨w8.heap.size, 0, none⟩) 1 1) (w' := w8.alloc (.cells cz 28)) rfl 31 1 #[(0, .tmp 29)] rfl ?_ ?_); (simp only [List.map_toArray, List.map_cons, List.map_nil]; exact HBS2.out w8))
          | (at_builtin; refine wpList_appE rfl (.tmp 28) (.tmp 30) rfl rfl (ho8.alloc _) rfl (news := [z]) (B := w8.heap.size + 1) ?hd1 rfl ?hd2 ?hd3 ?_)
        case hd1 =>
          have h := Rd.made w8 cz 28 (0, 0)
          rw [show ecsL [z] = cz.toList by rw [HCZ.out]; simp [ecsL]]
          exact h
        case hd2 => have := H768.out; omega
        case hd3 => simp; omega
        intro A9 c9 w9 o9 g9 m9 b9
        have bx : Below w8.heap.size w8 (w8.alloc (.cells cz 28)) := (Below.refl _ _).alloc (Nat.le_refl _) _
        have gb9 := gb8.trans (((Below.refl _ _).alloc (by omega) (.cells cz 28)).trans (b9.mono (by omega)))
        have hys9 : ∀ y ∈ ys ++ [z], EvOwn w9 B y := fun y hy => by
          have hy2 : EvOwn w8 B y := by
            rcases List.mem_append.1 hy with h | h
            · exact HYS8.out y h
            · simp at h; rw [h]; exact HZ8.out
          exact ⟨hy2.1, (hy2.2.1.alloc (.cells cz 28)).grown g9 (own2_ne hy2.2.1.2 ho8.2 (by decide)), hy2.2.2⟩
        have kf9 := (kf8.alloc (.cells cz 28)).grown g9 (own_ne ho8.2 kf8 (by decide))
        have kv9 := (kv8.alloc (.cells cz 28)).grown g9 (own_ne ho8.2 kv8 (by decide))
        have hR9 := hR8.below (((Below.refl (g + 1) w8).alloc (by omega) (.cells cz 28)).trans b9)
        have HYS9 := Lib.hid hys9
        clear hys9 g9 m9 b9 HYS8 bx
        go_wp2_with fail
        go_roundw
        case rel => exact ⟨k + 1, xs ++ [x], ys ++ [z], A9, c9, r', A7, c7, by omega, num_succ k (by have := H768.out; omega), rfl, HDN.out, o9, HYS9.out, by rw [List.map_append, HMP.out]; simp [HZE.out], hR9, kv9, kf9, gb9⟩
        case measure => exact meas_succ k m hlt (by have := H768.out; omega)
    · obtain rfl : k = m := by omega
      have hfin := HALL.out xs r HDK.out
      have HF := Lib.hid hfin
      have hkd : decide ((k : Int) < (k : Int)) = false := decide_eq_false (by omega)
      have cv : wr.cell? ⟨v, 0, none⟩ = some (.pointer (some ⟨g, 0, none⟩)) := kv.cell 0
      clear hfin
      go_wp2_with fail
      refine (rdend_any g Ar r.length cr r true wr hR).mono ?_
      rintro e w8 ⟨he, b8⟩
      have kf8 := kf.below b8 kf.lt
      have gb8 := gb.trans (b8.mono (by omega))
      by_cases hr : r = []
      · rw [if_pos ⟨hr, rfl⟩] at he
        subst he
        have HE := Lib.hid (show getAllE bs = (xs, 0) by rw [HF.out, if_pos hr])
        have ho8 := ho.below b8 (Nat.le_refl _)
        have HYS8 := Lib.hid (show ∀ y ∈ ys, EvOwn w8 B y from fun y hy => by
          obtain ⟨q1, q2, q3⟩ := HYS.out y hy
          exact ⟨q1, q2.below b8 (Nat.le_refl _), q3⟩)
        have cf8 : w8.cell? ⟨B, 0, none⟩ = some (.int .i64 0) := kf8.cell 0
        have ff8 := kf8.free 0
        clear hr b8 kv kf hR HYS ho
        go_wp2_with fail
        refine leaves_cons (f := 38) (args := #[.pointer (some ⟨B, 0, none⟩)]) (by simp) (by simp [go_sem]) ?_
        refine (ecaught_none _ _).mono ?_
        rintro e u' w9 ⟨rfl, rfl, rfl⟩
        have f9 := kf8.set_ 0 (.int .i64 0)
        have c9 := f9.cell 0
        have o9 : OwnEv (w8.setCell ⟨B, 0, none⟩ (.int .i64 0)) (g + 1) A' k c' ys := ⟨ho8.1, ownsRow_keep ho8.2 fun j hj => Below.heap_setCell w8 _ _ j (fun e => own_ne ho8.2 kf8 (by decide) (by rw [hj, e]))⟩
        have y9 : ∀ y ∈ ys, EvOwn (w8.setCell ⟨B, 0, none⟩ (.int .i64 0)) B y := fun y hy => by
          obtain ⟨q1, q2, q3⟩ := HYS8.out y hy
          exact ⟨q1, q2.setFar (own_ne q2.2 kf8 (by decide)) _, q3⟩
        have gb9 : Below B w (w8.setCell ⟨B, 0, none⟩ (.int .i64 0)) := gb8.setCell (by show B ≤ B; omega) _
        refine ⟨.tuple #[.slice A' k c', .int .i64 0], by simp [results, Try.results28, go_sem, c9], A', k, c', ys, by rw [HE.out]; rfl, by rw [← HB.out]; exact o9.mono (by omega), by rw [← HB.out]; exact y9, by rw [HE.out]; exact HMP.out, by rw [← HB.out]; exact gb9⟩
      · rw [if_neg (fun h => hr h.1)] at he
        subst he
        have HE := Lib.hid (show getAllE bs = ([], 4) by rw [HF.out, if_neg hr])
        clear hr
        go_wp2_with fail
        exact gall_close (y := 4) kf8 gb8 HB.out rfl rfl HE.out
end Go.Proofs.Ytiemlnomlfebkaa

/- The walks of the document's ReadAll and GetAll of events. -/
namespace Go.Proofs.Ytiemlnomlfebkaa
open Go.RowKit
open Dot Evt
/-- the events of bytes, and what is left -/
def decAR (l : List UInt8) : Except Nat (List Ev × List UInt8) :=
  match Vint.dec l with
  | .error y => .error y
  | .ok (n, r) => if 768 < n then .error 6 else decEs n r
/-- how the document's ReadAll stands -/
def AllSt (xs : List Ev) (r : List UInt8) (E : Nat) (R : Except Nat (List Ev × List UInt8)) : Prop := (E = 0 → R = .ok (xs, r)) ∧ (E ≠ 0 → R = .error E)
/-- what ReadAll leaves -/
def ReadAllEv (w : World) (g : Nat) (A : Option Addr) (n c : Nat) (bs : List UInt8) (e : Ending) (w' : World) : Prop :=
  ∃ A' m' c' ys r E, e = .returned (.slice A' m' c') ∧ OwnEv w' w.heap.size A' m' c' ys ∧ (∀ y ∈ ys, EvOwn w' w.heap.size y) ∧ RSt w' g A n c bs r E ∧ w.grownBy w' (some g) ∧ AllSt (ys.map (·.e)) r E (decAR bs)
theorem keepOwn2 {g x0 base : Nat} {wr w6 w7 : World} {t : TypeId} {s : Nat} {A : Option Addr} {n c : Nat} {xs : List Value} (h : wr.ownsRow base t s (.slice A n c) n xs) (hg : wr.grownBy w7 (some g)) (hbase : g < base) : w7.ownsRow base t s (.slice A n c) n xs :=
  ownsRow_keep h fun k hk => by
    have hl := ownsRow_lt h hk
    refine hg.block k hl (fun e => ?_)
    injection e with e
    rcases h.2 with ⟨hv, _⟩ | ⟨q, cap, cur, hv, hb, _⟩
    · injection hv with hA; subst hA; cases hk
    · injection hv with hA; subst hA; injection hk with hk; simp at hk; omega
set_option maxRecDepth 100000 in
set_option maxHeartbeats 4000000 in
theorem rreadAll07_any (g : Nat) (A : Option Addr) (n c B : Nat) (bs : List UInt8) (w : World) (hR : RSt w g A n c bs bs 0) (hb : RdB w B A n bs) (hB : B ≤ g) (hglt : g < w.heap.size) (hn : n ≤ 1000000000) :
    Calls Try.prog 49 #[.pointer (some ⟨g, 0, none⟩)] w (ReadAllEv w g A n c bs) := by
  have HBG := Lib.hid (hb.more hB)
  have HGL := Lib.hid hglt
  have HNN := Lib.hid hn
  clear hb hglt hn
  obtain ⟨s, hs⟩ : ∃ s, s = w.heap.size := ⟨_, rfl⟩
  have HS := Lib.hid hs
  have HGS := Lib.hid (show g < s by have := HGL.out; omega)
  clear hs
  go_enter Try.func49, Try.ntmps49
  go_wp2_with fail
  refine (rint_m g A n c g bs bs 0 w hR HBG.out HNN.out).mono ?_
  rintro e w1 ⟨rfl, g1, R1⟩
  obtain ⟨m, r1, e1, hI⟩ : ∃ m r1 e1, Vint.intM bs 0 = (m, r1, e1) := ⟨_, _, _, rfl⟩
  rw [hI] at R1 ⊢
  simp only at R1
  have hsm := intM_small bs 0
  rw [hI] at hsm
  simp only at hsm
  -- the reader's error ahead of the loop
  obtain ⟨f1, hf1⟩ : ∃ f1 : Nat, f1 = if 768 < m then (if e1 = 0 then 6 else e1) else e1 := ⟨_, rfl⟩
  have hdec : (f1 ≠ 0 → decAR bs = .error f1 ∧ True) ∧ (f1 = 0 → m ≤ 768 ∧ decAR bs = decEs m r1) := by
    cases hd : Vint.dec bs with
    | error y =>
      have hy := Vint.dec_err hd
      rw [Vint.intM_bad hd] at hI
      injection hI with h1 h2
      injection h2 with h2 h3
      subst h1 h2 h3
      rw [if_neg (by omega)] at hf1
      subst hf1
      exact ⟨fun _ => ⟨by simp [decAR, hd], trivial⟩, fun h => by omega⟩
    | ok p =>
      obtain ⟨n', r'⟩ := p
      rw [Vint.intM_ok hd] at hI
      injection hI with h1 h2
      injection h2 with h2 h3
      subst h1 h2 h3
      by_cases hbig : 768 < n'
      · rw [if_pos hbig, if_pos rfl] at hf1
        subst hf1
        exact ⟨fun _ => ⟨by simp [decAR, hd, hbig], trivial⟩, fun h => by omega⟩
      · rw [if_neg hbig] at hf1
        subst hf1
        exact ⟨fun h => absurd rfl h, fun _ => ⟨by omega, by simp [decAR, hd, hbig]⟩⟩
  have HD := Lib.hid hdec
  have HF1 := Lib.hid hf1
  have hmb : m ≤ 1099511627776 := by
    by_cases he : e1 = 0
    · have := intM_good (l := bs) (e := 0) (by rw [hI]; exact he)
      rw [hI] at this
      exact this.2.2
    · have := hsm he
      omega
  have HMB := Lib.hid hmb
  clear hsm hf1 hdec hI hR hmb
  go_upto_if 10 with fail
  go_cut [] (fun wx => RSt wx g A n c bs r1 f1 ∧ w.grownBy wx (some g))
  case first =>
    by_cases hm : 768 < m
    · have hd : (768 : Int) < (m : Int) := by omega
      have hf : f1 = if e1 = 0 then 6 else e1 := by rw [HF1.out, if_pos hm]
      have HFF := Lib.hid hf
      clear hf hm
      go_wp2_with fail
      refine (rfail_m g 6 A n c bs r1 e1 _ R1).mono ?_
      rintro e w8 ⟨rfl, gg, R8⟩
      rw [← HFF.out] at R8
      have g8 := grown_trans g1 gg
      clear gg
      go_wp2_with fail
      go_meet
      exact ⟨R8, g8⟩
    · have hd : (m : Int) ≤ 768 := by omega
      have hf : f1 = e1 := by rw [HF1.out, if_neg hm]
      rw [← hf] at R1
      clear hf hm
      go_wp2_with fail
      go_meet
      exact ⟨R1, g1⟩
  case rest =>
  obtain ⟨R2, g2⟩ := hcut
  clear R1 g1
  rename_i _ W2
  go_upto_region 5 with fail
  go_wp2_with fail
  go_loopw [3, 5] (fun z i wr => ∃ (j : Nat) (ys : List EvV) (A' : Option Addr) (c' : Nat) (r : List UInt8) (E : Nat), j ≤ m ∧ i = .int .i64 j ∧ z = .slice A' j c' ∧ OwnEv wr s A' j c' ys ∧ (∀ y ∈ ys, EvOwn wr s y) ∧ RSt wr g A n c bs r E ∧ w.grownBy wr (some g) ∧ (f1 = 0 → AllSt (ys.map (·.e)) r E (decEs j r1)) ∧ (f1 ≠ 0 → E = f1)) (fun _ i _ => m - (intOf i).toNat)
  case atStart => exact ⟨0, [], none, 0, r1, f1, by omega, rfl, rfl, OwnEv.nil _ _, fun y hy => by simp at hy, R2, g2, fun h => ⟨fun _ => rfl, fun h2 => absurd h h2⟩, fun _ => rfl⟩
  case round =>
    clear R2 g2
    obtain ⟨j, ys, A', c', r, E, hj, rfl, rfl, ho, hys, hR, gW, hst, hbad⟩ := hrel
    have HST := Lib.hid hst
    have HBAD := Lib.hid hbad
    have HYS := Lib.hid hys
    clear hst hbad hys
    have hRst := hR
    obtain ⟨at8, _, kR, _⟩ := hR
    have c2 : wr.cell? ⟨g, 2, none⟩ = some (.int .i64 (E : Nat)) := kR.cell 2
    clear kR
    have hmb := HMB.out
    by_cases hgo : j < m ∧ E = 0
    case neg =>
      have hfin : AllSt (ys.map (·.e)) r E (decAR bs) := by
        by_cases hf : f1 = 0
        · obtain ⟨h1, h2⟩ := HD.out.2 hf
          obtain ⟨q1, q2⟩ := HST.out hf
          rw [h2]
          by_cases hE : E = 0
          · have : j = m := by
              false_or_by_contra
              exact hgo ⟨by omega, hE⟩
            rw [← this]
            exact ⟨q1, q2⟩
          · exact ⟨fun h => absurd h hE, fun h => decEs_err (q2 h) m hj⟩
        · obtain ⟨h1, _⟩ := HD.out.1 hf
          have h3 := HBAD.out hf
          exact ⟨fun h => absurd (h3.symm.trans h) hf, fun _ => by rw [h1, h3]⟩
      have HFIN := Lib.hid hfin
      clear hfin
      by_cases hlt : j < m
      case' pos =>
        have he1 : E ≠ 0 := fun h => hgo ⟨hlt, h⟩
        have hk1 : (j : Int) < (m : Int) := by omega
        have hq : (((E : Nat) : Int) == 0) = false := by rw [beq_eq_false_iff_ne]; omega
        clear hgo
        go_upto_region 12 with fail
        clear c2
      case' neg =>
        obtain rfl : j = m := by omega
        clear hgo
        go_upto_region 12 with fail
        clear c2
      all_goals
        go_wp2_with fail
        go_ret
        exact ⟨A', _, c', ys, r, E, rfl, by rw [← HS.out]; exact ho, by rw [← HS.out]; exact HYS.out, hRst, gW, HFIN.out⟩
    case pos =>
      obtain ⟨hlt, rfl⟩ := hgo
      have c2 : wr.cell? ⟨g, 2, none⟩ = some (.int .i64 0) := c2
      have hk1 : (j : Int) < (m : Int) := by omega
      have hf0 : f1 = 0 := by
        false_or_by_contra
        rename_i hne
        exact hne (HBAD.out hne).symm
      have h768 := (HD.out.2 hf0).1
      have hdj := (HST.out hf0).1 rfl
      have HDJ := Lib.hid hdj
      have HF0 := Lib.hid hf0
      have hgw := gW.size
      have hglw : g < wr.heap.size := by have := HGL.out; omega
      have HRD := Lib.hid (rread07_any g A n c g bs r wr hRst (Rdr.only HBG.out gW HGL.out) (Nat.le_refl _) hglw HNN.out)
      clear HST HBAD hdj hf0
      go_wp2_with fail
      clear c2
      refine HRD.out.mono ?_
      rintro e w4 ⟨A4, m4, c4, rfl, o4, R4, g4⟩
      have hp7 := rdE_p r
      have hl96 := rdE_l r
      obtain ⟨hOK, hER⟩ := @rdE_eq r
      obtain ⟨x, hx⟩ : ∃ x, x = (rdE r).1 := ⟨_, rfl⟩
      obtain ⟨r', hr⟩ : ∃ r', r' = (rdE r).2.1 := ⟨_, rfl⟩
      obtain ⟨E', hE⟩ : ∃ E', E' = (rdE r).2.2 := ⟨_, rfl⟩
      have hxre : rdE r = (x, r', E') := by rw [hx, hr, hE]
      rw [← hx] at o4 hp7 hl96 ⊢
      rw [← hr, ← hE] at R4
      have gW4 := grown_trans gW g4
      have ho4 : OwnEv w4 s A' j c' ys := ⟨ho.1, keepOwn2 ho.2 g4 HGS.out (x0 := 0) (w6 := wr)⟩
      have hys4 : ∀ y ∈ ys, EvOwn w4 s y := fun y hy => by
        obtain ⟨q1, q2, q3⟩ := HYS.out y hy
        exact ⟨q1, ⟨q2.1, keepOwn2 q2.2 g4 HGS.out (x0 := 0) (w6 := wr)⟩, q3⟩
      have hz : EvOwn w4 s ⟨x, A4, m4, c4⟩ := ⟨hp7, o4.mono (by have := HS.out; omega), by show m4 ≤ _; rw [o4.1]; omega⟩
      obtain ⟨z, hzz⟩ : ∃ z : EvV, z = ⟨x, A4, m4, c4⟩ := ⟨_, rfl⟩
      have hze : z.e = x := by rw [hzz]
      have hcz : ec x (.slice A4 m4 c4) = z.cs := by rw [hzz]; rfl
      rw [← hzz] at hz
      rw [hcz]
      have HZE := Lib.hid hze
      have HBS2 := Lib.hid (fun w => buildE1 z w)
      have hrt : ∀ w', RdD w' w'.heap.size z.A z.m z.e.l → Calls Try.prog 12 #[.agg z.cs] w' fun e w'' => e = .returned (.bool (rightE x)) ∧ Below w'.heap.size w' w'' := fun w' h => by
        have := eright07_any z.e (by rw [hze]; exact hp7) z.A z.m z.c w' h (by rw [hzz]; show m4 ≤ _; rw [o4.1]; omega)
        rw [hze] at this
        rw [← hcz]
        rw [hzz] at this
        exact this
      have HRT := Lib.hid hrt
      obtain ⟨cz, hcz2⟩ : ∃ cz, cz = z.cs := ⟨_, rfl⟩
      have HCZ := Lib.hid hcz2
      rw [← hcz2] at HBS2 HRT ⊢
      have SZ := Lib.hid (show cz.size = 14 by rw [hcz2]; rfl)
      have OZ := Lib.hid (show cz.all (·.oneCell') = true by rw [hcz2]; exact z.one)
      have SZ0 := Lib.hid (show (cT 0).size = 14 from rfl)
      have HX := Lib.hid hxre
      have HOK := Lib.hid hOK
      have HER := Lib.hid hER
      have hs4 : s ≤ w4.heap.size := by have := gW4.size; have := HS.out; omega
      have hg4 : g < w4.heap.size := by have := gW4.size; have := HGL.out; omega
      clear hx hr hE hxre hOK hER hzz hze hcz hcz2 hrt o4 hp7 hl96 g4 ho gW HYS hRst HRD
      go_upto_region 9 with first
        | ((with_reducible refine wpList_st rowE (Blk.new _ _ _) SZ.out SZ0.out OZ.out ?_ ?_ ?_); rotate_left; (rfl); (rfl); intro w6 k6 g6 z6)
      have bA : Below w4.heap.size w4 w6 := (((Below.refl _ _).alloc (Nat.le_refl _) _).grown g6 (by simp) (fun q hq => by injection hq with hq; omega))
      have ho6 := ho4.below bA (Nat.le_refl _)
      have hys6 : ∀ y ∈ ys, EvOwn w6 s y := fun y hy => by
        obtain ⟨q1, q2, q3⟩ := hys4 y hy
        exact ⟨q1, q2.below bA (Nat.le_refl _), q3⟩
      have hz6 : EvOwn w6 s z := ⟨hz.1, hz.2.1.below bA (Nat.le_refl _), hz.2.2⟩
      have R6 : RSt w6 g A n c bs r' E' := R4.map (fun _ _ k => k.below bA k.lt)
      have gW6 := only_below gW4 (bA.mono gW4.size)
      have hgx : g < w4.heap.size := hg4
      obtain ⟨x0, hx0⟩ : ∃ x0, x0 = w4.heap.size := ⟨_, rfl⟩
      rw [← hx0] at k6 hgx ⊢
      have hsx : s ≤ x0 := by omega
      clear hx0 g6 z6 bA ho4 hys4 hz R4 gW4 hs4 hg4
      have hdec : (E' ≠ 0 → decE r = .error E') ∧ (E' = 0 → decE r = .ok (x, r')) := by
        cases hd : decE r with
        | ok p =>
          obtain ⟨y, r''⟩ := p
          have := HOK.out y r'' hd
          rw [HX.out] at this
          injection this with h1 h
          injection h with h2 h3
          exact ⟨fun h => absurd h3 h, fun _ => by rw [h1, h2]⟩
        | error y =>
          have h1 := HER.out y hd
          rw [HX.out] at h1
          simp only at h1
          exact ⟨fun _ => by rw [h1.1], fun h => by omega⟩
      have HDEC := Lib.hid hdec
      have R6' := R6
      obtain ⟨at8, q1, kR, q2⟩ := R6'
      have c2 : w6.cell? ⟨g, 2, none⟩ = some (.int .i64 (E' : Nat)) := kR.cell 2
      clear hdec HOK HER HX q1 kR q2
      by_cases hE : E' = 0
      case' neg =>
        have hq : (((E' : Nat) : Int) == 0) = false := by rw [beq_eq_false_iff_ne]; omega
        have HREL := Lib.hid (show AllSt ((ys ++ [z]).map (·.e)) r' E' (decEs (j + 1) r1) from ⟨fun h => absurd h hE, fun h => by simp [decEs, HDJ.out, HDEC.out.1 h]⟩)
        clear hE HDEC HDJ
        go_upto_region 11 with fail
        clear c2
        obtain ⟨Ez, hEz⟩ : ∃ Ez, Ez = E' := ⟨_, rfl⟩
        rw [← hEz] at R6 HREL
        clear hEz
        generalize w6 = wt at *
      case' pos =>
        have HDX := Lib.hid (HDEC.out.2 hE)
        subst hE
        have c2 : w6.cell? ⟨g, 2, none⟩ = some (.int .i64 0) := c2
        have HR2 := Lib.hid (HRT.out w6 hz6.2.1.rd)
        go_wp2_with first
          | ((with_reducible refine wpList_ldg rowE k6 SZ.out ?_ ?_ ?_); rotate_left; (rfl); (rfl))
        refine HR2.out.mono ?_
        rintro e w7 ⟨rfl, b7⟩
        have k7 := k6.below b7 k6.lt
        have ho7 := ho6.below b7 (Nat.le_refl _)
        have hys7 : ∀ y ∈ ys, EvOwn w7 s y := fun y hy => by
          obtain ⟨q1, q2, q3⟩ := hys6 y hy
          exact ⟨q1, q2.below b7 (Nat.le_refl _), q3⟩
        have hz7 : EvOwn w7 s z := ⟨hz6.1, hz6.2.1.below b7 (Nat.le_refl _), hz6.2.2⟩
        have R7 : RSt w7 g A n c bs r' 0 := R6.map (fun _ _ k => k.below b7 k.lt)
        have gW7 := only_below gW6 (b7.mono gW6.size)
        clear k6 ho6 hys6 hz6 R6 gW6 b7 c2 HR2
        cases hx : rightE x
      case' true =>
        have HREL := Lib.hid (show AllSt ((ys ++ [z]).map (·.e)) r' 0 (decEs (j + 1) r1) from ⟨fun _ => by simp [decEs, HDJ.out, HDX.out, hx, HZE.out], fun h => absurd rfl h⟩)
        clear hx HDEC HDJ
        go_upto_region 11 with fail
        obtain ⟨Ez, hEz⟩ : ∃ Ez, Ez = 0 := ⟨_, rfl⟩
        rw [← hEz] at R7 HREL
        clear hEz
        have k6 := k7
        have ho6 := ho7
        have hys6 := hys7
        have hz6 := hz7
        have R6 := R7
        have gW6 := gW7
        clear k7 ho7 hys7 hz7 R7 gW7
        generalize w7 = wt at *
      case' false =>
        have HREL := Lib.hid (show AllSt ((ys ++ [z]).map (·.e)) r' 4 (decEs (j + 1) r1) from ⟨fun h => by omega, fun _ => by simp [decEs, HDJ.out, HDX.out, hx]⟩)
        obtain ⟨at7, q1, kR, q2⟩ := R7
        have c2 : w7.cell? ⟨g, 2, none⟩ = some (.int .i64 0) := kR.cell 2
        have f2 := kR.free 2
        have k6 := k7.far (p := ⟨g, 2, none⟩) (by show x0 ≠ g; omega) (.int .i64 4)
        have R6 : RSt (w7.setCell ⟨g, 2, none⟩ (.int .i64 4)) g A n c bs r' 4 := ⟨at7, q1, Blk.set_ kR 2 (.int .i64 4), q2⟩
        have ho6 : OwnEv (w7.setCell ⟨g, 2, none⟩ (.int .i64 4)) s A' j c' ys := ⟨ho7.1, ownsRow_keep ho7.2 fun k hk => Below.heap_setCell w7 _ _ k (fun e => own_ne ho7.2 (show Blk w7 g _ _ from kR) (by decide) (by rw [hk, e]))⟩
        have hys6 : ∀ y ∈ ys, EvOwn (w7.setCell ⟨g, 2, none⟩ (.int .i64 4)) s y := fun y hy => by
          obtain ⟨q1, q2, q3⟩ := hys7 y hy
          exact ⟨q1, q2.setFar (own_ne q2.2 (show Blk w7 g _ _ from kR) (by decide)) _, q3⟩
        have hz6 : EvOwn (w7.setCell ⟨g, 2, none⟩ (.int .i64 4)) s z := ⟨hz7.1, hz7.2.1.setFar (own_ne hz7.2.1.2 (show Blk w7 g _ _ from kR) (by decide)) _, hz7.2.2⟩
        have gW6 : w.grownBy (w7.setCell ⟨g, 2, none⟩ (.int .i64 4)) (some g) := only_set gW7 _
        have K6 := Lib.hid k6
        have RR6 := Lib.hid R6
        have HO6 := Lib.hid ho6
        have HY6 := Lib.hid hys6
        have HZ6 := Lib.hid hz6
        have GW6 := Lib.hid gW6
        clear hx HDEC HDJ k6 R6 ho6 hys6 hz6 gW6 k7 ho7 hys7 hz7 gW7 q1 q2 kR
        go_upto_region 11 with fail
        clear c2 f2
        have k6 := K6.out
        have R6 := RR6.out
        have ho6 := HO6.out
        have hys6 := HY6.out
        have hz6 := HZ6.out
        have gW6 := GW6.out
        clear K6 RR6 HO6 HY6 HZ6 GW6
        generalize w7.setCell ⟨g, 2, none⟩ (.int .i64 4) = wt at *
        obtain ⟨Ez, hEz⟩ : ∃ Ez, Ez = 4 := ⟨_, rfl⟩
        rw [← hEz] at R6 HREL
        clear hEz
      all_goals
        have HY6 := Lib.hid hys6
        have HZ6 := Lib.hid hz6
        have hst : x0 < wt.heap.size := k6.lt
        clear hys6 hz6
        go_wp2_with first
          | ((with_reducible refine wpList_ld rowE k6 SZ.out ?_ ?_); rotate_left; (rfl))
          | ((refine wpList_bs (v := .slice (some ⟨wt.heap.size, 0, none⟩) 1 1) (w' := wt.alloc (.cells cz 28)) rfl 31 1 #[(0, .tmp 41)] rfl ?_ ?_); (simp only [List.map_toArray, List.map_cons, List.map_nil]; exact HBS2.out wt))
          | (at_builtin; refine wpList_appE rfl (.tmp 40) (.tmp 42) rfl rfl (ho6.alloc _) rfl (news := [z]) (B := wt.heap.size + 1) (by
              have h := Rd.made wt cz 28 (0, 0)
              rw [show ecsL [z] = cz.toList by rw [HCZ.out]; simp [ecsL]]
              exact h) rfl (by omega) (by simp; omega) ?_)
        intro A9 c9 w9 o9 g9 m9 b9
        have hys9 : ∀ y ∈ ys ++ [z], EvOwn w9 s y := fun y hy => by
          have hy2 : EvOwn wt s y := by
            rcases List.mem_append.1 hy with h | h
            · exact HY6.out y h
            · simp at h; rw [h]; exact HZ6.out
          exact ⟨hy2.1, (hy2.2.1.alloc (.cells cz 28)).grown g9 (own2_ne hy2.2.1.2 ho6.2 (by decide)), hy2.2.2⟩
        have R9 : RSt w9 g A n c bs r' Ez := R6.map (fun _ _ k => (k.alloc (.cells cz 28)).grown g9 (fun e => by
          have := (ho6.lt g e).1
          have := HGS.out
          omega))
        have gW9 : w.grownBy w9 (some g) := only_below (only_alloc gW6 (.cells cz 28)) (b9.mono (by have := HS.out; omega))
        have HYS9 := Lib.hid hys9
        have HR9 := Lib.hid R9
        clear hys9 g9 m9 b9 HY6 HZ6 R6 gW6 ho6 k6 R9
        go_wp2_with fail
        go_roundw
        case rel => exact ⟨j + 1, ys ++ [z], A9, c9, r', Ez, by omega, by go_num, rfl, o9, HYS9.out, HR9.out, gW9, fun _ => HREL.out, fun h => absurd HF0.out h⟩
        case measure => simp [intOf]; omega
set_option maxRecDepth 100000 in
set_option maxHeartbeats 2000000 in
theorem rgetAll07_any (A : Option Addr) (n c : Nat) (bs : List UInt8) (w : World) (hb : RdB w w.heap.size A n bs) (hl : n ≤ 1000000000) :
    Calls Try.prog 29 #[.slice A n c] w (GetAllEv w bs) := by
  have HBS := Lib.hid fun (w' : World) (h : Below w.heap.size w w') => hb.below h
  have HN := Lib.hid hb.1
  have HL := Lib.hid hl
  clear hb hl
  go_enter Try.func29, Try.ntmps29
  go_upto_region 2 with fail
  refine nameW ?_
  intro W hW
  obtain ⟨B, hB⟩ : ∃ B, B = w.heap.size := ⟨_, rfl⟩
  rw [← hB]
  have kr : RSt W B A n c bs bs 0 := by
    have h := Blk.new w 89 #[.slice A n c, .int .i64 (0 : Nat), .int .i64 (0 : Nat)]
    rw [hW, hB]
    exact ⟨0, Nat.zero_le _, h, rfl⟩
  have gb : Below B w W := by rw [hW, hB]; exact (Below.refl _ _).alloc (Nat.le_refl _) _
  have hlt : B < W.heap.size := by rw [hW, hB]; simp
  have HB := Lib.hid hB
  rw [← hB] at HBS
  clear hW hB
  go_wp2_with fail
  refine (rreadAll07_any B A n c B bs W kr (HBS.out W gb) (Nat.le_refl _) hlt HL.out).mono ?_
  rintro e w1 ⟨A1, m1, c1, ys, r, E, rfl, o1, hys, R1, g1, hst⟩
  have gb1 := gb.trans (only_Below g1 (B := B) (by omega) (by omega))
  have o1 := o1.mono (base' := B) (by omega)
  have hys1 : ∀ y ∈ ys, EvOwn w1 B y := fun y hy => by
    obtain ⟨q1, q2, q3⟩ := hys y hy
    exact ⟨q1, q2.mono (by omega), q3⟩
  obtain ⟨at', kR, hat, hatn⟩ := rst_at R1 HN.out
  have c1' : w1.cell? ⟨B, 1, none⟩ = some (.int .i64 (at' : Nat)) := kR.cell 1
  have c2' : w1.cell? ⟨B, 2, none⟩ = some (.int .i64 (E : Nat)) := kR.cell 2
  have f2' := kR.free 2
  have HAT := Lib.hid hat
  have HST := Lib.hid hst
  have HYS := Lib.hid hys1
  have HL2 := HL.out
  have hgl : getAllE bs = match decAR bs with | .error y => ([], y) | .ok (xs, r') => if r' = [] then (xs, 0) else ([], 4) := by
    unfold getAllE decA decAR
    cases Vint.dec bs with
    | error y => rfl
    | ok p =>
      obtain ⟨n', r0⟩ := p
      simp only
      by_cases h : 768 < n'
      · rw [if_pos h, if_pos h]
      · rw [if_neg h, if_neg h]
        cases decEs n' r0 with
        | error y => rfl
        | ok q =>
          obtain ⟨xs, r'⟩ := q
          simp only
          by_cases hr : r' = []
          · rw [if_pos hr, if_pos hr]
          · rw [if_neg hr, if_neg hr]
  have HGL := Lib.hid hgl
  clear hat hst hys hys1 hgl R1 kr gb hlt g1
  by_cases hE : E = 0
  case neg =>
    have hq : ((E : Int) == 0) = false := by rw [beq_eq_false_iff_ne]; omega
    have hq2 : ((E : Int) != 0) = true := by rw [bne_iff_ne]; omega
    have HE := Lib.hid (show getAllE bs = ([], E) by rw [HGL.out, HST.out.2 hE])
    clear hE kR HST HGL
    go_upto_region 6 with fail
    go_quiet (fail)
    go_wp2_with fail
    go_ret2
    exact ⟨none, 0, 0, [], by rw [HE.out]; rfl, OwnEv.nil _ _, fun y hy => by simp at hy, by rw [HE.out]; rfl, by rw [← HB.out]; exact below_drewN gb1 _⟩
  case pos =>
    subst hE
    have c2' : w1.cell? ⟨B, 2, none⟩ = some (.int .i64 0) := c2'
    by_cases hr : r = []
    · have hd1 : ¬ (at' : Int) < (n : Int) := fun h => HAT.out.1 (by omega) hr
      have HE := Lib.hid (show getAllE bs = (ys.map (·.e), 0) by rw [HGL.out, HST.out.1 rfl]; simp only; rw [if_pos hr])
      clear hr kR HST HGL HAT
      go_wp2_with fail
      go_ret2
      exact ⟨A1, m1, c1, ys, by rw [HE.out]; rfl, by rw [← HB.out]; exact o1, by rw [← HB.out]; exact HYS.out, by rw [HE.out], by rw [← HB.out]; exact gb1⟩
    · have hd1 : (at' : Int) < (n : Int) := by have := HAT.out.2 hr; omega
      have HE := Lib.hid (show getAllE bs = ([], 4) by rw [HGL.out, HST.out.1 rfl]; simp only; rw [if_neg hr])
      have c7 := (Blk.set_ kR 2 (.int .i64 4)).cell 2
      have gb7 : Below B w (w1.setCell ⟨B, 2, none⟩ (.int .i64 4)) := gb1.setCell (by show B ≤ B; omega) _
      have HC := Lib.hid c7
      have HG := Lib.hid gb7
      clear hr kR HST HGL HAT c7 gb7
      go_upto_region 6 with fail
      have c27 : (w1.setCell ⟨B, 2, none⟩ (.int .i64 4)).cell? ⟨B, 2, none⟩ = some (.int .i64 4) := HC.out
      have gb7 := HG.out
      clear c1' c2' f2' HC HG gb1 o1
      generalize w1.setCell ⟨B, 2, none⟩ (.int .i64 4) = w7 at *
      go_quiet (fail)
      go_wp2_with fail
      go_ret2
      exact ⟨none, 0, 0, [], by rw [HE.out]; rfl, OwnEv.nil _ _, fun y hy => by simp at hy, by rw [HE.out]; rfl, by rw [← HB.out]; exact below_drewN gb7 _⟩
end Go.Proofs.Ytiemlnomlfebkaa

/- The walks of List, Count, Join. -/
namespace Go.Proofs.Ytiemlnomlfebkaa
open Go.RowKit
open Dot

/-- List, under way -/
def LstI (w0 : World) (base g gs : Nat) (G : Grid) (n q : Nat) (w : World) : Prop := q ≤ 98 ∧ n ≤ 8 ∧ Blk w g 115 (gc G) ∧ ∃ A m c, Blk w gs 26 #[.slice A m c] ∧ OwnD w base A m c (dotsTo G n ++ rowTo G n q) ∧ A.map (·.block) ≠ some gs ∧ Below base w0 w
theorem lst_skip (w0 : World) (base g gs : Nat) (G : Grid) (n q : Nat) (w : World) (hq : q < 98) (hg : G n q = false) (hI : LstI w0 base g gs G n q w) : LstI w0 base g gs G n (q + 1) w := by
  obtain ⟨_, hn, kg, A, m, c, ks, oD, hne, hb⟩ := hI
  refine ⟨by omega, hn, kg, A, m, c, ks, ?_, hne, hb⟩
  rw [rowTo, if_neg (by rw [hg]; simp)]
  exact oD
theorem lst_next (w0 : World) (base g gs : Nat) (G : Grid) (n : Nat) (w : World) (hn : n < 8) (hI : LstI w0 base g gs G n 98 w) : LstI w0 base g gs G (n + 1) 0 w := by
  obtain ⟨_, _, kg, A, m, c, ks, oD, hne, hb⟩ := hI
  refine ⟨by omega, by omega, kg, A, m, c, ks, ?_, hne, hb⟩
  rw [show dotsTo G (n + 1) ++ rowTo G (n + 1) 0 = dotsTo G n ++ rowTo G n 98 by rw [show rowTo G (n + 1) 0 = [] from rfl, List.append_nil]; rfl]
  exact oD
theorem results_cell {P : Program} {fn : Func} {p : Tmp} {w : World} {tmps : Array Value} {T : TypeId} {g : Nat} {v : Value} (h : fn.results = #[.cell p T]) (hag : ∀ w, (isAgg T).run P w = .ok false w) (hc : w.cell? ⟨g, 0, none⟩ = some v) (hp : tmps.getD p undef = .pointer (some ⟨g, 0, none⟩)) : (results fn tmps).run P w = .ok v w := by
  have hp' : tmps[p]?.getD undef = .pointer (some ⟨g, 0, none⟩) := by simpa using hp
  simp [results, h, hp', asAddr, loadVar, hag, hc]
/-- a row, as a call hands it back -/
def ListEnd (w : World) (l : List Dt) (e : Ending) (w' : World) : Prop := ∃ A m c, e = .returned (.slice A m c) ∧ OwnD w' w.heap.size A m c l ∧ Below w.heap.size w w'
end Go.Proofs.Ytiemlnomlfebkaa

/- The walk of the document's Right. -/
namespace Go.Proofs.Ytiemlnomlfebkaa
open Go.RowKit
open Dot
end Go.Proofs.Ytiemlnomlfebkaa

/- The walk of the document's Has. -/
namespace Go.Proofs.Ytiemlnomlfebkaa
open Go.RowKit
open Dot
theorem hasB_false1 {U : List Int} {l : List Dt} {d : Dt} (h : rightB U l = false) : hasB U l d = false := by unfold hasB hasG; rw [h]; simp
theorem hasB_false2 {U : List Int} {l : List Dt} {d : Dt} (h : mayB d = false) : hasB U l d = false := by unfold hasB; rw [h]; rfl
theorem hasB_eq {U : List Int} {l : List Dt} {y p : Nat} (h : rightB U l = true) (hm : mayB ((y : Int), (p : Int)) = true) : hasB U l ((y : Int), (p : Int)) = (decide ((p : Int) ≤ U.getD y 0) || l.contains ((y : Int), (p : Int))) := by
  have := (may_iff _).1 hm
  simp only at this
  unfold hasB hasG
  rw [h, hm]
  simp only [Int.toNat_natCast]
  rw [decide_eq_true (show y < 8 by omega), decide_eq_true (show 1 ≤ p by omega), decide_eq_true (show p ≤ 96 by omega)]
  simp
end Go.Proofs.Ytiemlnomlfebkaa

/- The walk of the document's List. -/
namespace Go.Proofs.Ytiemlnomlfebkaa
open Go.RowKit
open Dot
theorem hasG_zero (U : List Int) (l : List Dt) (n : Nat) : hasG U l n 0 = false := by simp [hasG]
theorem hasG_top (U : List Int) (l : List Dt) (n : Nat) : hasG U l n 97 = false := by simp [hasG]
theorem hasB_grid {U : List Int} {l : List Dt} {y p : Nat} (hy : y < 8) (h1 : 1 ≤ p) (h2 : p ≤ 96) : hasB U l ((y : Int), (p : Int)) = hasG U l y p := by
  have hm : mayB ((y : Int), (p : Int)) = true := (may_iff _).2 (by simp only; omega)
  unfold hasB
  rw [hm]
  simp
end Go.Proofs.Ytiemlnomlfebkaa

/- The walk of the document's Of. -/
namespace Go.Proofs.Ytiemlnomlfebkaa
open Go.RowKit
open Dot
theorem listG_no : listG [] = noG := rfl
theorem listG_snoc (l : List Dt) (d : Dt) : listG (l ++ [d]) = if mayB d = true then putG (listG l) d else listG l := by
  funext n q
  unfold listG
  rw [List.any_append]
  by_cases h : mayB d = true
  · rw [if_pos h]
    unfold putG
    simp only [List.any_cons, List.any_nil, h, Bool.true_and, Bool.or_false]
    congr 1
    rw [show decide ((n : Int) = d.1) = decide (d.1 = (n : Int)) by simp [eq_comm], show decide ((q : Int) = d.2) = decide (d.2 = (q : Int)) by simp [eq_comm]]
  · rw [if_neg h]
    simp [h]
theorem listG_zero (l : List Dt) (n : Nat) : listG l n 0 = false := by
  rw [← Bool.not_eq_true]
  intro h
  unfold listG at h
  rw [List.any_eq_true] at h
  obtain ⟨d, _, h⟩ := h
  simp only [Bool.and_eq_true, decide_eq_true_eq] at h
  have := (may_iff d).1 h.1.1
  omega
theorem listG_top (l : List Dt) (n : Nat) : listG l n 97 = false := by
  rw [← Bool.not_eq_true]
  intro h
  unfold listG at h
  rw [List.any_eq_true] at h
  obtain ⟨d, _, h⟩ := h
  simp only [Bool.and_eq_true, decide_eq_true_eq] at h
  have := (may_iff d).1 h.1.1
  omega
theorem upT_fill (G : Grid) (n q : Nat) (hn : n < 8) : (upT G n q).set n (lead (G n) 98 : Int) = upT G n 98 := upT_ext (by rw [List.length_set, upT_len]) fun j hj => by
  by_cases e : n = j
  · subst e
    rw [List.getElem?_set_self (by rw [upT_len]; omega), if_neg (by omega), if_pos rfl]
  · rw [List.getElem?_set_ne e, upT_get G n q hj]
    by_cases h1 : j < n
    · rw [if_pos h1, if_pos h1]
    · rw [if_neg h1, if_neg h1, if_neg (fun h => e h.symm), if_neg (fun h => e h.symm)]
theorem zvalG97 (w : World) : (zeroValue 114).run Try.prog w = .ok (.agg (gc noG)) w := by kernel_rfl
end Go.Proofs.Ytiemlnomlfebkaa

/- The walks of the document's Dots and Same. -/
namespace Go.Proofs.Ytiemlnomlfebkaa
open Go.RowKit
open Dot
set_option maxHeartbeats 1000000 in
theorem dots_any (A1 A2 : Option Addr) (n1 c1 n2 c2 B1 B2 : Nat) (l1 l2 : List Dt) (w : World) (h1 : RdD w B1 A1 n1 l1) (h2 : RdD w B2 A2 n2 l2) (hm : n1 ≤ 1000000) :
    Calls Try.prog 50 #[.slice A1 n1 c1, .slice A2 n2 c2] w fun e w' => e = .returned (.bool (decide (l1 = l2))) ∧ ∃ m, w' = w.drewN m := by
  have H1 := Lib.hid h1.1
  have H2 := Lib.hid h2.1
  obtain ⟨R, hR⟩ : ∃ R, R = decide (l1 = l2) := ⟨_, rfl⟩
  rw [← hR]
  have HR := Lib.hid hR
  clear hR
  by_cases hn : n1 = n2
  case neg =>
    have hf : R = false := by
      rw [HR.out]
      exact decide_eq_false (fun e => hn (by rw [H1.out, H2.out, e]))
    subst hf
    have hnd : ¬ (n1 : Int) = (n2 : Int) := by omega
    go_enter Try.func50, Try.ntmps50
    go_wp2_with fail
    go_ret
    exact ⟨rfl, 0, rfl⟩
  subst hn
  go_enter Try.func50, Try.ntmps50
  go_wp2_with fail
  go_loopw [13] (fun i wr => ∃ k m : Nat, k ≤ n1 ∧ i = .int .i64 k ∧ (∀ j, j < k → l1[j]? = l2[j]?) ∧ wr = w.drewN m) (fun i _ => n1 - (intOf i).toNat)
  case atStart => exact ⟨0, 0, by omega, rfl, fun j hj => by omega, rfl⟩
  case round =>
    obtain ⟨k, m, hk, rfl, hall, rfl⟩ := hrel
    have HA := Lib.hid hall
    clear hall
    by_cases hlt : k < n1
    · have hkl1 : k < l1.length := by rw [← H1.out]; exact hlt
      have hkl2 : k < l2.length := by rw [← H2.out]; exact hlt
      obtain ⟨ad1, rfl, q5, q0, q1⟩ := h1.2 k _ (List.getElem?_eq_getElem hkl1)
      obtain ⟨ad2, rfl, p5, p0, p1⟩ := h2.2 k _ (List.getElem?_eq_getElem hkl2)
      have e1 : l1[k]? = some l1[k] := List.getElem?_eq_getElem hkl1
      have e2 : l2[k]? = some l2[k] := List.getElem?_eq_getElem hkl2
      generalize l1[k] = d1 at *
      generalize l2[k] = d2 at *
      obtain ⟨x1, y1⟩ := d1
      obtain ⟨x2, y2⟩ := d2
      simp only at q0 q1 p0 p1
      have E1 := Lib.hid e1
      have E2 := Lib.hid e2
      have hk0 : (0 : Int) ≤ (k : Int) := by omega
      have hkn : (k : Int) < (n1 : Int) := by omega
      have q0' : (w.drewN m).cell? (ad1.add (k * 2)) = some (.int .i64 x1) := q0
      have q1' : (w.drewN m).cell? ⟨(ad1.add (k * 2)).block, (ad1.add (k * 2)).off + 1, none⟩ = some (.int .i64 y1) := q1
      have p0' : (w.drewN m).cell? (ad2.add (k * 2)) = some (.int .i64 x2) := p0
      have p1' : (w.drewN m).cell? ⟨(ad2.add (k * 2)).block, (ad2.add (k * 2)).off + 1, none⟩ = some (.int .i64 y2) := p1
      clear e1 e2
      by_cases ex : x1 = x2
      · by_cases ey : y1 = y2
        · subst ex ey
          go_upto_region 6 with fail
          go_quiet (fail)
          go_wp2_with fail
          go_roundw
          case rel => exact ⟨k + 1, m + nq, by omega, by go_num, fun j hj => by
            by_cases e : j = k
            · subst e; rw [E1.out, E2.out]
            · exact HA.out j (by omega), rfl⟩
          case measure => simp [intOf]; omega
        · have hf : R = false := by
            rw [HR.out]
            refine decide_eq_false (fun e => ?_)
            have h3 := E1.out
            rw [e, E2.out] at h3
            injection h3 with h3
            injection h3 with h3 h4
            exact ey h4.symm
          subst hf
          subst ex
          go_upto_region 6 with fail
          go_quiet (fail)
          go_wp2_with fail
          go_ret
          exact ⟨rfl, m + nq, by simp⟩
      · have hf : R = false := by
          rw [HR.out]
          refine decide_eq_false (fun e => ?_)
          have h3 := E1.out
          rw [e, E2.out] at h3
          injection h3 with h3
          injection h3 with h3 h4
          exact ex h3.symm
        subst hf
        go_upto_region 6 with fail
        go_quiet (fail)
        go_wp2_with fail
        go_ret
        exact ⟨rfl, m + nq, by simp⟩
    · have hf : R = true := by
        rw [HR.out]
        refine decide_eq_true (List.ext_getElem? fun i => ?_)
        by_cases hi : i < n1
        · exact HA.out i (by omega)
        · rw [List.getElem?_eq_none (by have := H1.out; omega), List.getElem?_eq_none (by have := H2.out; omega)]
      subst hf
      go_wp2_with fail
      go_ret
      exact ⟨rfl, m, rfl⟩
end Go.Proofs.Ytiemlnomlfebkaa

/- The walks of the document's Same and All of events that are the same. -/
namespace Go.Proofs.Ytiemlnomlfebkaa
open Go.RowKit
open Dot Evt
set_option maxRecDepth 100000 in
set_option maxHeartbeats 2000000 in
theorem rsame07_eq (x y : EvV) (w : World) (hx : EvOk w w.heap.size x) (hy : EvOk w w.heap.size y) (he : x.e = y.e) (hm : x.m ≤ 1000000) :
    Calls Try.prog 30 #[.agg x.cs, .agg y.cs] w fun e w' => e = .returned (.bool true) ∧ Below w.heap.size w w' := by
  obtain ⟨ex, A1, m1, c1⟩ := x
  obtain ⟨ey, A2, m2, c2⟩ := y
  simp only at he
  subst he
  have hd := fun (w' : World) (h : Below w.heap.size w w') => dots_any A1 A2 m1 c1 m2 c2 w.heap.size w.heap.size ex.l ex.l w' (hx.2.1.below h) (hy.2.1.below h) hm
  obtain ⟨⟨n, q⟩, t, k, wk, v, p, l⟩ := ex
  simp only [decide_true] at hd
  have HD := Lib.hid hd
  clear hd hx hy hm
  unfold EvV.cs ec
  simp only
  generalize p.getD 0 0 = p0, p.getD 1 0 = p1, p.getD 2 0 = p2, p.getD 3 0 = p3, p.getD 4 0 = p4, p.getD 5 0 = p5, p.getD 6 0 = p6
  go_enter Try.func30, Try.ntmps30
  go_upto_region 1 with fail
  refine nameW ?_
  intro wv hwv
  obtain ⟨b, hb⟩ : ∃ b, b = w.heap.size := ⟨_, rfl⟩
  rw [← hb]
  have kb : Blk wv b 28 #[.int .i64 n, .int .i64 q, .int .i64 t, .int .i64 k, .int .i64 wk, .int .i64 v, .int .i64 p0, .int .i64 p1, .int .i64 p2, .int .i64 p3, .int .i64 p4, .int .i64 p5, .int .i64 p6, .slice A1 m1 c1] := by rw [hwv, hb]; exact (Blk.new w _ _).alloc _
  have kz : Blk wv (b + 1) 28 #[.int .i64 n, .int .i64 q, .int .i64 t, .int .i64 k, .int .i64 wk, .int .i64 v, .int .i64 p0, .int .i64 p1, .int .i64 p2, .int .i64 p3, .int .i64 p4, .int .i64 p5, .int .i64 p6, .slice A2 m2 c2] := by
    have h := Blk.new (w.alloc (.cells #[.int .i64 n, .int .i64 q, .int .i64 t, .int .i64 k, .int .i64 wk, .int .i64 v, .int .i64 p0, .int .i64 p1, .int .i64 p2, .int .i64 p3, .int .i64 p4, .int .i64 p5, .int .i64 p6, .slice A1 m1 c1] 28)) 28 #[.int .i64 n, .int .i64 q, .int .i64 t, .int .i64 k, .int .i64 wk, .int .i64 v, .int .i64 p0, .int .i64 p1, .int .i64 p2, .int .i64 p3, .int .i64 p4, .int .i64 p5, .int .i64 p6, .slice A2 m2 c2]
    rw [show (w.alloc (.cells #[.int .i64 n, .int .i64 q, .int .i64 t, .int .i64 k, .int .i64 wk, .int .i64 v, .int .i64 p0, .int .i64 p1, .int .i64 p2, .int .i64 p3, .int .i64 p4, .int .i64 p5, .int .i64 p6, .slice A1 m1 c1] 28)).heap.size = w.heap.size + 1 by simp] at h
    rw [hwv, hb]
    exact h
  have gb : Below w.heap.size w wv := by rw [hwv]; exact ((Below.refl _ _).alloc (Nat.le_refl _) _).alloc (by simp) _
  have hD := HD.out wv gb
  have HD2 := Lib.hid hD
  have HG := Lib.hid gb
  clear hwv hb gb hD HD
  obtain ⟨c0, c1, c2, c3, c4, c5, c6, c7, c8, c9, c10, c11, c12, c13⟩ := ecells kb
  obtain ⟨d0, d1, d2, d3, d4, d5, d6, d7, d8, d9, d10, d11, d12, d13⟩ := ecells kz
  go_wp2_with fail
  refine HD2.out.mono ?_
  rintro e w1 ⟨rfl, mm, rfl⟩
  go_wp2_with fail
  go_ret
  exact ⟨rfl, below_drewN HG.out mm⟩
section
variable {P : Program} {T : TypeId} {n : Nat} {ad : Addr} {cs : Array Value}
theorem quiet_lda {ops : Array Oper} {rest : List Oper} {a : Act} {Q : Act → Prop} {C : World → Prop} {d : Option Tmp} {ty : TypeId} {pos : String} {aft : Array Edge} {gd : Option (Nat × Bool)} {x : Operand} (hR : RowT P T n) (hS : ∀ w, C w → ∀ (j : Nat) v, cs[j]? = some v → w.cell? (ad.add j) = some v) (hn : cs.size = n)
    (h : wpQuiet P ops C Q rest (a.put d (.agg cs))) (hx : a.eval x = .pointer (some ad)) (hw : Region.wanted ⟨d, .load T x, ty, pos, aft, gd⟩ (yielded ops a.tmps) = true) : wpQuiet P ops C Q (⟨d, .load T x, ty, pos, aft, gd⟩ :: rest) a := by
  unfold wpQuiet
  rw [if_pos hw]
  obtain ⟨e, hu, hd, hi⟩ := hR
  rw [← hn, ← Array.length_toList] at hi
  refine ⟨.agg cs, fun w hw => ?_, h⟩
  have hcl : ∀ (j : Nat) v, cs.toList[j]? = some v → w.cell? (ad.add j) = some v := fun j v hj => hS w hw j v (by simpa using hj)
  unfold Oper.quietAt execOp
  simp only [hx, Instr.loadAt, Instr.sureAddr, Sem.run_bind, Sem.run_pure, Result.andThen_ok, run_loadVar_at w ad T cs.toList e hcl hu hd hi, Array.toArray_toList]
  exact ⟨rfl, rfl⟩
end
set_option maxRecDepth 100000 in
set_option maxHeartbeats 2000000 in
theorem rall07_eq (A1 A2 : Option Addr) (n c1 c2 : Nat) (xs ys : List EvV) (w : World) (hx : RowEv w w.heap.size A1 n xs) (hy : RowEv w w.heap.size A2 n ys) (he : xs.map (·.e) = ys.map (·.e)) (hm : ∀ x ∈ xs, x.m ≤ 1000000) (hn : n ≤ 10000000000000) :
    Calls Try.prog 23 #[.slice A1 n c1, .slice A2 n c2] w fun e w' => e = .returned (.bool true) ∧ Below w.heap.size w w' := by
  have HN := Lib.hid hx.1
  have HN2 := Lib.hid hy.1
  have HX := Lib.hid fun (w' : World) (h : Below w.heap.size w w') => (hx.below h)
  have HY := Lib.hid fun (w' : World) (h : Below w.heap.size w w') => (hy.below h)
  have HE := Lib.hid he
  have HM := Lib.hid hm
  clear hx hy he hm
  go_enter Try.func23, Try.ntmps23
  go_wp2_with fail
  go_loopw [13] (fun i wr => ∃ k : Nat, k ≤ n ∧ i = .int .i64 k ∧ Below w.heap.size w wr) (fun i _ => n - (intOf i).toNat)
  case atStart => exact ⟨0, by omega, rfl, Below.refl _ _⟩
  case round =>
    obtain ⟨k, hk, rfl, gb⟩ := hrel
    by_cases hlt : k < n
    · have hkl : k < xs.length := by rw [← HN.out]; exact hlt
      have hky : k < ys.length := by rw [← HN2.out]; exact hlt
      have hX := (HX.out wr gb).2 k _ (List.getElem?_eq_getElem hkl)
      have hY := (HY.out wr gb).2 k _ (List.getElem?_eq_getElem hky)
      have hmm := HM.out _ (List.getElem_mem hkl)
      have hee : xs[k].e = ys[k].e := by
        have h := congrArg (fun l => l[k]?) HE.out
        simp only [List.getElem?_map, List.getElem?_eq_getElem hkl, List.getElem?_eq_getElem hky, Option.map_some] at h
        injection h
      generalize xs[k] = x at *
      generalize ys[k] = y at *
      obtain ⟨okx, ad1, hA1, hb1, hc1⟩ := hX
      obtain ⟨oky, ad2, hA2, hb2, hc2⟩ := hY
      subst hA1 hA2
      have hcl1 := fun (w' : World) (h : Below wr.heap.size wr w') => fun (j : Nat) (v : Value) (hv : x.cs[j]? = some v) => ((h.cell (p := (ad1.add (k * 14)).add j) (by rw [block_add, block_add]; have := gb.size; omega)).trans (hc1 j v hv))
      have hcl2 := fun (w' : World) (h : Below wr.heap.size wr w') => fun (j : Nat) (v : Value) (hv : y.cs[j]? = some v) => ((h.cell (p := (ad2.add (k * 14)).add j) (by rw [block_add, block_add]; have := gb.size; omega)).trans (hc2 j v hv))
      have hsm := fun (w' : World) (h : Below wr.heap.size wr w') => rsame07_eq x y w' ((okx.below (h.mono gb.size)).more (by have := gb.size; have := h.size; omega)) ((oky.below (h.mono gb.size)).more (by have := gb.size; have := h.size; omega)) hee hmm
      obtain ⟨cx, hcx⟩ : ∃ cx, cx = x.cs := ⟨_, rfl⟩
      obtain ⟨cy, hcy⟩ : ∃ cy, cy = y.cs := ⟨_, rfl⟩
      have SX := Lib.hid (show cx.size = 14 by rw [hcx]; rfl)
      have SY := Lib.hid (show cy.size = 14 by rw [hcy]; rfl)
      rw [← hcx, ← hcy] at hsm
      rw [← hcx] at hcl1
      rw [← hcy] at hcl2
      have HC1 := Lib.hid hcl1
      have HC2 := Lib.hid hcl2
      have HSM := Lib.hid hsm
      have hk0 : (0 : Int) ≤ (k : Int) := by omega
      have hkm : (k : Int) < (n : Int) := by omega
      clear hcl1 hcl2 hsm hcx hcy hee hmm hc1 hc2 okx oky
      go_upto_region 6 with fail
      refine wp_region_below (by kernel_rfl) (by kernel_rfl) ?_
      intro T iT F hF hT
      have HF := Lib.hid hF
      have HT := Lib.hid hT
      clear hF hT
      iterate 3 (go_big_quiet_step (fail))
      (with_reducible refine quiet_lda rowE (fun w' hw' => by obtain ⟨qf, rfl⟩ := hw'; exact HC1.out _ (HF.out qf)) SX.out ?_ ?_ ?_); rotate_left; (rfl); (rfl); simp only [Act.put, List.setIfInBounds_toArray, List.set_cons_succ, List.set_cons_zero, eq_self, decide_true, Bool.not_true, Bool.not_false, beq_self_eq_true]
      iterate 3 (go_big_quiet_step (fail))
      (with_reducible refine quiet_lda rowE (fun w' hw' => by obtain ⟨qf, rfl⟩ := hw'; exact HC2.out _ (HF.out qf)) SY.out ?_ ?_ ?_); rotate_left; (rfl); (rfl); simp only [Act.put, List.setIfInBounds_toArray, List.set_cons_succ, List.set_cons_zero, eq_self, decide_true, Bool.not_true, Bool.not_false, beq_self_eq_true]
      go_big_quiet_step ((go_at_call 30; exact calls_below HF.out HT.out (HSM.out _ (HF.out _))))
      repeat (go_big_quiet_step (fail))
      refine wpQuiet_nil ?_
      intro w' hw'
      obtain ⟨qf, rfl⟩ := hw'
      have bF := HF.out qf
      have gbF := gb.trans (bF.mono gb.size)
      clear HC1 HC2 HSM HF HT bF
      go_wp2_with fail
      go_roundw
      case rel => exact ⟨k + 1, by omega, by go_num, gbF⟩
      case measure => simp [intOf]; omega
    · have hkd : decide ((k : Int) < (n : Int)) = false := decide_eq_false (by omega)
      go_wp2_with fail
      go_ret
      exact ⟨rfl, gb⟩
end Go.Proofs.Ytiemlnomlfebkaa

/- The walks of the reference of layer 2: Put, Same, Lent, Kept. -/
namespace Go.Proofs.Ytiemlnomlfebkaa
open Go.RowKit

theorem rput_bad (A : Option Addr) (n c : Nat) (x : Int) (w : World) (hx : x < 0 ∨ 1099511627776 < x) :
    Calls Try.prog 41 #[.slice A n c, .int .i64 x] w fun e w' => e = .returned (.tuple #[.slice none 0 0, .int .i64 2]) ∧ w = w' := by
  rcases hx with hx | hx
  · have hd : decide (x < 0) = true := decide_eq_true (by omega)
    go_enter Try.func41, Try.ntmps41
    go_wp2_with fail
    go_ret2
    exact ⟨rfl, rfl⟩
  · have hd : decide (x < 0) = false := decide_eq_false (by omega)
    have hd1 : decide (1099511627776 < x) = true := decide_eq_true (by omega)
    go_enter Try.func41, Try.ntmps41
    go_wp2_with fail
    go_ret2
    exact ⟨rfl, rfl⟩
theorem u8_ref (m : Nat) : IntKind.u8.wrap (128 + (m : Int) % 128) = ((UInt8.ofNat (m % 128 + 128)).toNat : Int) := by
  rw [IntKind.wrap_u8', Vint.toNat_ofNat]; omega
set_option maxRecDepth 100000 in
theorem rput_ok (A : Option Addr) (n c : Nat) (bs : List UInt8) (x : Nat) (B : Nat) (w : World) (hb : RdB w B A n bs) (hB : B ≤ w.heap.size) (hl : n ≤ 140737488355000) (hx : x ≤ 1099511627776) :
    Calls Try.prog 41 #[.slice A n c, .int .i64 x] w (GiveBE w (bs ++ Vint.enc x) 0) := by
  have hd : decide ((x : Int) < 0) = false := decide_eq_false (by omega)
  have hd1 : decide (1099511627776 < (x : Int)) = false := decide_eq_false (by omega)
  go_enter Try.func41, Try.ntmps41
  go_wp2_with (at_builtin; refine wpList_appB rfl (.tmp 13) (.tmp 14) rfl rfl (OwnB.made w w.heap.size [] #[] 0 rfl rfl (Nat.le_refl _) (Nat.zero_le _)) rfl (hb.alloc hB _) (by omega) (by simp) ?_)
  intro A1 c1 w1 ho _ _ hbl0
  have hbl : Below w.heap.size w w1 := ((Below.refl _ _).alloc (Nat.le_refl _) _).trans hbl0
  clear hd hd1 hbl0
  have hn1 := ho.1
  have hl1 : bs.length ≤ 140737488355000 := by rw [← hb.1]; exact hl
  have HN1 := Lib.hid hn1
  clear hn1
  go_wp2_with fail
  go_loopw [1, 6] (fun i v wr => ∃ (m f : Nat) (pre : List UInt8) (A' : Option Addr) (n' c' : Nat), i = .int .i64 m ∧ v = .slice A' n' c' ∧ m < 128 ^ (f + 1) ∧ f ≤ 5 ∧ m ≤ 1099511627776 ∧ pre.length + f ≤ 5 ∧ pre ++ Vint.encF f m = Vint.enc x ∧
      OwnB wr w.heap.size A' n' c' (bs ++ pre) ∧ Below w.heap.size w wr) (fun i _ _ => (intOf i).toNat)
  case atStart => exact ⟨x, 5, [], A1, _, c1, rfl, rfl, by have : (128 : Nat) ^ 6 = 4398046511104 := by decide
                                                           show x < 128 ^ 6; omega, by omega, hx, by simp, rfl, by simpa using ho, hbl⟩
  case round =>
    obtain ⟨m, f, pre, A', n', c', rfl, rfl, hm, hf5, hmt, hpf, hpre, hown, hbel⟩ := hrel
    have hlen := hown.1
    rw [List.length_append] at hlen
    have hln : n' ≤ 140737488355005 := by omega
    have HL := Lib.hid hlen
    have HP := Lib.hid hpre
    clear hlen hpre
    by_cases hge : 128 ≤ m
    · have hf : 1 ≤ f := by
        rcases Nat.eq_zero_or_pos f with h0 | h0
        · subst h0; simp at hm; omega
        · exact h0
      obtain ⟨f, rfl⟩ : ∃ f', f = f' + 1 := ⟨f - 1, by omega⟩
      have a1 := u8_ref m
      go_wp2_with (at_builtin; refine wpList_appB rfl (.tmp 18) (.tmp 23) rfl rfl (hown.alloc _) rfl (RdB.made _ [UInt8.ofNat (m % 128 + 128)] _ _ _ ?hx1) ?hx0 ?hx2 ?_)
      case hx0 => show n' + 1 ≤ _; omega
      case hx2 => have := hbel.size; simp; omega
      intro A2 c2 w3 ho2 _ _ hbl2
      have hbel3 : Below w.heap.size w w3 := (hbel.alloc hbel.size _).trans hbl2
      go_wp2_with fail
      go_roundw
      case rel =>
        refine ⟨m / 128, f, pre ++ [UInt8.ofNat (m % 128 + 128)], _, _, _, rfl, rfl, ?_, by omega, by omega, by simp; omega, ?_, by simpa using ho2, hbel3⟩
        · rw [Nat.pow_succ] at hm; omega
        · rw [← HP.out]
          conv => rhs; unfold Vint.encF
          rw [if_neg (by omega)]; simp
      case measure => simp [intOf]; omega
    · have a1 := u8_byte m
      go_wp2_with (at_builtin; refine wpList_appB rfl (.tmp 27) (.tmp 30) rfl rfl (hown.alloc _) rfl (RdB.made _ [UInt8.ofNat m] _ _ _ ?hy1) ?hy0 ?hy2 ?_)
      case hy0 => show n' + 1 ≤ _; omega
      case hy2 => have := hbel.size; simp; omega
      intro A2 c2 w3 ho2 _ _ hbl2
      have hbel3 : Below w.heap.size w w3 := (hbel.alloc hbel.size _).trans hbl2
      go_wp2_with fail
      go_ret2
      refine ⟨_, _, _, rfl, ?_, hbel3⟩
      have e : Vint.encF f m = [UInt8.ofNat m] := by
        cases f with
        | zero => rfl
        | succ f => unfold Vint.encF; rw [if_pos (by omega)]
      rw [← HP.out, e]
      simpa using ho2

/-- n zero bytes, as cells -/
def zerosB (n : Nat) : List Value := List.replicate n (bv 0)
theorem run_makeB (W : World) (n c : Nat) (hnc : n ≤ c) (hc : c ≤ 281474976710656) : (Instr.makeSlice 37 (.int .i64 (n : Int)) (.int .i64 (c : Int))).run Try.prog W = .ok (.slice (some ⟨W.heap.size, 0, none⟩) n c) (W.alloc (.cells (zerosB c).toArray 5)) := by
  obtain ⟨i0, hi, hz0, hz1, hz2⟩ := info_parts infoB
  have h := run_make (P := Try.prog) (w := W) 37 5 i0 (.int .u8 0) Try.underlying37 hi hz0 .i64 .i64 n c (by omega) (by omega) (by rw [hz2]; omega) (by omega)
  rw [hz1] at h
  simp only [Int.toNat_natCast, Nat.mul_one] at h
  rw [h]
  have e : madeCells (Value.int IntKind.u8 0).cells c = (zerosB c).toArray := by
    apply Array.toList_inj.1
    exact toList_madeCells_one (.int .u8 0) c
  rw [e]
theorem sizeB : (Try.prog.info? 5).map (·.size) = some 1 := by kernel_rfl
/-- a lent copy, k of its spare bytes marked -/
def lentL (bs : List UInt8) (k : Nat) : List Value := bs.map bv ++ (List.replicate k (bv 171) ++ List.replicate (4 - k) (bv 0))
theorem lentL_next (bs : List UInt8) (k : Nat) (hk : k < 4) : (lentL bs k).toArray.setIfInBounds (bs.length + k) (bv 171) = (lentL bs (k + 1)).toArray := by
  apply Array.toList_inj.1
  rw [Array.toList_setIfInBounds]
  show (lentL bs k).set _ _ = lentL bs (k + 1)
  unfold lentL
  rw [List.set_append, if_neg (by simp), List.length_map, Nat.add_sub_cancel_left]
  congr 1
  match k, hk with
  | 0, _ => rfl
  | 1, _ => rfl
  | 2, _ => rfl
  | 3, _ => rfl
def Lends (w : World) (bs : List UInt8) (e : Ending) (w' : World) : Prop :=
  ∃ g, e = .returned (.slice (some ⟨g, 0, none⟩) bs.length (bs.length + 4)) ∧ w.heap.size ≤ g ∧ Blk w' g 5 (lentL bs 4).toArray ∧ Below w.heap.size w w'
theorem lent_any (A : Option Addr) (n c : Nat) (bs : List UInt8) (B : Nat) (w : World) (hb : RdB w B A n bs) (hB : B ≤ w.heap.size) (hl : n ≤ 1000000) :
    Calls Try.prog 26 #[.slice A n c] w (Lends w bs) := by
  obtain rfl := hb.1
  have hmk := fun W => run_makeB W bs.length (bs.length + 4) (by omega) (by omega)
  have e4 : ((bs.length + 4 : Nat) : Int) = (bs.length : Int) + 4 := by omega
  rw [e4] at hmk
  clear e4
  have hpos : 0 < (bs.map bv).length → (some ⟨w.heap.size, 0, none⟩ : Option Addr) = some ⟨w.heap.size, 0, none⟩ ∧ ∃ ad, A = some ad ∧ ∀ j v, (bs.map bv)[j]? = some v → (w.alloc (.cells (zerosB (bs.length + 4)).toArray 5)).cell? (ad.add j) = some v := by
    intro hp
    refine ⟨rfl, ?_⟩
    rcases A with _ | ad
    · obtain ⟨_, h, _⟩ := hb.2 0 _ (List.getElem?_eq_getElem hp)
      cases h
    · refine ⟨ad, rfl, fun j u hu => ?_⟩
      obtain ⟨_, h, h1, h2⟩ := hb.2 j u hu
      injection h with h
      subst h
      rw [World.cell?_alloc_lt _ _ _ (by rw [block_add]; omega)]
      exact h2
  have HP := Lib.hid hpos
  clear hpos
  go_enter Try.func26, Try.ntmps26
  go_wp2_with (with_reducible refine wpList_copy_splice rfl (.tmp 12) (.tmp 13) _ _ rfl 5 Try.underlying37 sizeB _ _ _ _ _ _ rfl rfl w.heap.size 0 (zerosB (bs.length + 4)) 5 (heap_alloc_new w _) (bs.map bv) (by simp) HP.out (by simp [zerosB]) (bv_one _) w.heap.size w ((Below.refl _ _).alloc (Nat.le_refl _) _) (Nat.le_refl _) ?_)
  intro w1 hw1 hbl1
  have hb0 : Blk w1 w.heap.size 5 (lentL bs 0).toArray := by
    have h := hw1.out
    have e : splice (zerosB (bs.length + 4)) 0 (bs.map bv) = lentL bs 0 := by
      simp [splice, zerosB, lentL]
    rw [e] at h
    exact h
  clear hw1
  go_wp2_with fail
  go_loopw [23] (fun i wr => ∃ k : Nat, k ≤ 4 ∧ i = .int .i64 k ∧ Blk wr w.heap.size 5 (lentL bs k).toArray ∧ Below w.heap.size w wr) (fun i _ => 4 - (intOf i).toNat)
  case atStart => exact ⟨0, by omega, rfl, hb0, hbl1⟩
  case round =>
    obtain ⟨k, hk, rfl, hbk, hbel⟩ := hrel
    by_cases hlt : k < 4
    · have hf := hbk.free (bs.length + k)
      have hc : ∃ u, wr.cell? ⟨w.heap.size, bs.length + k, none⟩ = some u := by
        rw [hbk.cell]
        exact ⟨_, Array.getElem?_eq_getElem (by simp [lentL]; omega)⟩
      obtain ⟨u, hc⟩ := hc
      have hn := hbk.set_ (bs.length + k) (bv 171)
      rw [lentL_next bs k hlt] at hn
      have HN := Lib.hid hn
      clear hn
      go_wp2_with fail
      go_roundw
      case rel => exact ⟨k + 1, by omega, by go_num, HN.out, hbel.setCell (Nat.le_refl _) _⟩
      case measure => simp [intOf]; omega
    · obtain rfl : k = 4 := by omega
      go_wp2_with fail
      go_ret
      exact ⟨_, rfl, Nat.le_refl _, hbk, hbel⟩

theorem lent_rd {w : World} {g : Nat} {bs : List UInt8} {k : Nat} (h1 : Blk w g 5 (lentL bs k).toArray) : RdB w w.heap.size (some ⟨g, 0, none⟩) bs.length bs := ⟨rfl, fun j u hu => ⟨_, rfl, h1.lt, by
    rw [add_mk, Nat.zero_add, h1.cell]
    have hj : j < (bs.map bv).length := by
      false_or_by_contra
      rw [List.getElem?_eq_none (by omega)] at hu; cases hu
    show (lentL bs k).toArray[j]? = _
    rw [List.getElem?_toArray]
    show (bs.map bv ++ _)[j]? = _
    rw [List.getElem?_append_left hj, hu]⟩⟩
theorem u8_next (z : UInt8) : IntKind.u8.wrap ((z.toNat : Int) + 1) = ((UInt8.ofNat (z.toNat + 1)).toNat : Int) := u8_byte (z.toNat + 1)
/-- A lent copy that is as it was. -/
theorem kept_any (g : Nat) (A : Option Addr) (n c : Nat) (bs : List UInt8) (B : Nat) (w : World) (h1 : Blk w g 5 (lentL bs 4).toArray) (hb : RdB w B A n bs) (hl : n ≤ 1000000) :
    Calls Try.prog 31 #[.slice (some ⟨g, 0, none⟩) bs.length (bs.length + 4), .slice A n c] w fun e w' => e = .returned (.bool true) ∧ ∃ m, w' = w.drewN m := by
  obtain rfl := hb.1
  have hr := lent_rd h1
  go_enter Try.func31, Try.ntmps31
  go_wp2_with fail
  refine (same_eq _ _ _ _ _ _ _ _ _ _ hr hb (by omega)).mono ?_
  rintro e w' ⟨rfl, m0, rfl⟩
  have hc : ∀ i, i < 4 → (w.drewN m0).cell? ⟨g, bs.length + i, none⟩ = some (bv 171) := by
    intro i hi
    show w.cell? _ = _
    rw [h1.cell]
    show (lentL bs 4).toArray[bs.length + i]? = _
    rw [List.getElem?_toArray]
    show (bs.map bv ++ _)[bs.length + i]? = _
    rw [List.getElem?_append_right (by simp), List.length_map, Nat.add_sub_cancel_left]
    match i, hi with
    | 0, _ => rfl
    | 1, _ => rfl
    | 2, _ => rfl
    | 3, _ => rfl
  go_wp2_with fail
  go_loop [19] (fun i => ∃ k : Nat, k ≤ 4 ∧ i = .int .i64 k) (fun i => 4 - (intOf i).toNat)
  case atStart => exact ⟨0, by omega, rfl⟩
  case round =>
    obtain ⟨k, hk, rfl⟩ := hrel
    by_cases hlt : k < 4
    · have hck := hc k hlt
      clear hc
      have hd4 : decide ((k : Int) < 4) = true := decide_eq_true (by omega)
      go_wp2_with fail
      go_round
      case rel => exact ⟨k + 1, by omega, by go_num⟩
      case measure => simp [intOf]; omega
    · clear hc
      go_wp2_with fail
      go_ret
      exact ⟨rfl, _, rfl⟩
end Go.Proofs.Ytiemlnomlfebkaa

/- What the rows' proofs share: how an argument that came in reads. -/
namespace Go.Proofs.Ytiemlnomlfebkaa
open Go.ChangeShapes Go.WideShapes Go.ChangeAt Go.RowKit

theorem own : ownKnob Try.prog.godebug = none := by kernel_rfl
theorem laidOut : laidOutB Try.prog = true := by kernel_rfl
/-- What a byte slice's cell reads as. -/
theorem rd_bytes {H : Type} {enc : TypeId × Value → H} {W : World} {base : Nat} {sp : Nat → Bool} {held : Bool} {fuel : Nat} {cs : List Value} {x : DataW H × List MemPlace}
    (hf : DataW.trod enc Try.prog W base sp held fuel 37 cs = some x) :
    ∃ (a : Option Addr) (n cap : Nat) (bs : List UInt8), cs = [.slice a n cap] ∧ RdB W W.heap.size a n bs ∧ n ≤ cap ∧ cap ≤ maxLen := by
  rcases open_ints Try.underlying37 Try.underlying5 (by kernel_rfl) hf with ⟨hcs, _⟩ | ⟨x, len0, cap0, zs, hcs, _, hl, hm, hz, _, hcell, hwz⟩
  · exact ⟨_, _, _, [], hcs, RdB.nil _ _ _, Nat.le_refl _, Nat.zero_le _⟩
  · have hz' : len0 ≤ zs.length := by rw [hz]; split <;> omega
    have hlen : ((zs.take len0).map fun z => UInt8.ofNat z.toNat).length = len0 := by simp; omega
    refine ⟨_, len0, cap0, (zs.take len0).map fun z => UInt8.ofNat z.toNat, hcs, ⟨hlen.symm, ?_⟩, hl, hm⟩
    intro j u hu
    simp only [List.getElem?_map, List.getElem?_take] at hu
    by_cases hj : j < len0
    · rw [if_pos hj] at hu
      have hjz : j < zs.length := by omega
      have hw := hwz zs[j] (List.getElem_mem hjz)
      have hw2 : 0 ≤ zs[j] ∧ zs[j] < 256 := by
        have hmin : IntKind.u8.min = 0 := rfl
        have hmax : IntKind.u8.max = 255 := rfl
        simp only [Lit.wf, Bool.and_eq_true, decide_eq_true_eq] at hw
        omega
      have hcj := hcell j hjz
      rw [List.getD_eq_getElem?_getD, List.getElem?_eq_getElem hjz] at hcj
      rw [List.getElem?_eq_getElem hjz] at hu
      simp only [Option.map_some, Option.some.injEq] at hu
      refine ⟨x, rfl, ?_, ?_⟩
      · have := World.block_lt_of_cell? W _ hcj
        rwa [block_add] at this
      · rw [hcj, ← hu]
        show some (Value.int .u8 zs[j]) = some (Value.int .u8 _)
        have : ((UInt8.ofNat zs[j].toNat).toNat : Int) = zs[j] := by
          rw [UInt8.toNat_ofNat']
          omega
        rw [this]
    · rw [if_neg hj] at hu; simp at hu
set_option maxRecDepth 100000
/-- A slice of bytes that came in. -/
theorem open_bytesC {H : Type} {enc : TypeId × Value → H} {W : World} {base : Nat} {sp : Nat → Bool} {held : Bool} {r : Reach} {b0 : Nat} {v : Value} {d : DataW H} {p : List MemPlace}
    (hv : Value.okWide Try.prog W r b0 37 v) (h : DataW.Trod enc Try.prog W base sp held 37 v d p) :
    ∃ (a : Option Addr) (n cap : Nat) (bs : List UInt8), v = .slice a n cap ∧ RdB W W.heap.size a n bs ∧ n ≤ cap ∧ cap ≤ maxLen := by
  obtain ⟨a0, len0, cap0, rfl⟩ := okWide_slice Try.underlying37 hv
  obtain ⟨fuel, hf⟩ := h
  obtain ⟨a, n, c, bs, h1, h2⟩ := rd_bytes hf
  simp [Value.cells] at h1
  obtain ⟨rfl, rfl, rfl⟩ := h1
  exact ⟨_, _, _, bs, rfl, h2⟩
theorem open_bytes {H : Type} {enc : TypeId × Value → H} {W : World} {base : Nat} {sp : Nat → Bool} {held : Bool} {r : Reach} {b0 : Nat} {v : Value} {d : DataW H} {p : List MemPlace}
    (hv : Value.okWide Try.prog W r b0 37 v) (h : DataW.Trod enc Try.prog W base sp held 37 v d p) :
    ∃ (a : Option Addr) (n cap : Nat) (bs : List UInt8), v = .slice a n cap ∧ RdB W W.heap.size a n bs ∧ n ≤ maxLen := by
  obtain ⟨a, n, c, bs, h1, h2, h3, h4⟩ := open_bytesC hv h
  exact ⟨a, n, c, bs, h1, h2, Nat.le_trans h3 h4⟩
end Go.Proofs.Ytiemlnomlfebkaa

/- How ints, structs and slices that came in read: on cells. -/
namespace Go.Proofs.Ytiemlnomlfebkaa
open Go.ChangeShapes Go.WideShapes Go.ChangeAt Go.RowKit Go.Deep

section
variable {H : Type} {enc : TypeId × Value → H} {W : World} {base : Nat} {sp : Nat → Bool} {held : Bool} {fuel : Nat} {cs : List Value} {x : DataW H × List MemPlace}
/-- an int's cell -/
theorem rd_int (hf : DataW.trod enc Try.prog W base sp held fuel 3 cs = some x) : ∃ z : Int, cs = [.int .i64 z] ∧ -9223372036854775808 ≤ z ∧ z ≤ 9223372036854775807 := by
  obtain ⟨z, h1, _, hw⟩ := DataW.trod_int Try.underlying3 hf
  refine ⟨z, h1, ?_⟩
  have hmin : IntKind.i64.min = -9223372036854775808 := rfl
  have hmax : IntKind.i64.max = 9223372036854775807 := rfl
  simp only [Lit.wf, Bool.and_eq_true, decide_eq_true_eq] at hw
  omega
/-- a struct's field, as its cells -/
theorem rd_field {t : TypeId} {fs : Array Field} (ht : (Try.prog).underlying t = some (.struct fs)) (hf : DataW.trod enc Try.prog W base sp held fuel t cs = some x) (j T o m : Nat)
    (hj : (fs[j]?).map (fun f => (f.type, f.offset)) = some (T, o)) (hm : (Try.prog).cellsOf T = m) : ∃ n y, DataW.trod enc Try.prog W base sp held n T ((cs.drop o).take m) = some y := by
  obtain ⟨xs, n, _, _, _, hxl, hg⟩ := DataW.trod_struct ht hf
  obtain ⟨f, hf1, hf2⟩ := Option.map_eq_some_iff.1 hj
  injection hf2 with h1 h2
  have hjl : j < xs.length := by
    rw [hxl]
    exact (Array.getElem?_eq_some_iff.1 hf1).1
  have h := hg j f hf1
  rw [h1, h2, hm, List.getElem?_eq_getElem hjl] at h
  exact ⟨n, _, h⟩
theorem rd_len {t : TypeId} {fs : Array Field} {m : Nat} (ht : (Try.prog).underlying t = some (.struct fs)) (hm : (Try.prog).cellsOf t = m) (hf : DataW.trod enc Try.prog W base sp held fuel t cs = some x) : cs.length = m := by
  obtain ⟨xs, n, _, _, hl, _⟩ := DataW.trod_struct ht hf
  rw [hl, hm]
/-- a slice's elements, each as its cells -/
theorem rd_slice {t e : TypeId} {m : Nat} (ht : (Try.prog).underlying t = some (.slice e)) (hm : (Try.prog).cellsOf e = m) (hf : DataW.trod enc Try.prog W base sp held fuel t cs = some x) :
    ∃ (a : Option Addr) (n cap : Nat), cs = [.slice a n cap] ∧ n ≤ cap ∧ cap ≤ maxLen ∧ ∀ i, i < n → ∃ (ad : Addr) (cs' : List Value) (fuel' : Nat) (x' : DataW H × List MemPlace), a = some ad ∧ cs'.length = m ∧ (∀ j, j < m → W.cell? ((ad.add (i * m)).add j) = cs'[j]?) ∧ DataW.trod enc Try.prog W base sp held fuel' e cs' = some x' := by
  rcases open_slice ht hf with ⟨h0, _⟩ | ⟨a, len, cap, k, n, D, Pl, hcs, hb, hl, hc, hk, hx, hi⟩
  · exact ⟨none, 0, 0, h0, Nat.le_refl _, Nat.zero_le _, fun i h => absurd h (Nat.not_lt_zero _)⟩
  · refine ⟨some a, len, cap, hcs, hl, hc, fun i h => ?_⟩
    have hik : i < k := by rw [hk]; split <;> omega
    obtain ⟨cs', hc', ht'⟩ := hi i hik
    rw [hm] at hc'
    obtain ⟨_, hcl, hat⟩ := World.cells?_some hc'
    exact ⟨a, cs', n, _, rfl, hcl, fun j hj => hat j hj, ht'⟩
end
end Go.Proofs.Ytiemlnomlfebkaa

namespace Go.Proofs.Ytiemlnomlfebkaa.EventGets
open Go.ChangeShapes Go.WideShapes Go.ChangeAt Go.RowKit Go.Deep
open Dot Evt
set_option linter.unusedVariables false
set_option linter.unusedSimpArgs false
theorem right_l {x : Ev} (h : rightE x = true) : x.l.length ≤ 96 := by
  unfold rightE at h
  simp only [Bool.and_eq_true, decide_eq_true_eq] at h
  exact h.1.1.2
theorem getEv_ok (bs : List UInt8) : (getEv bs).1.p.length = 7 ∧ (getEv bs).1.l.length ≤ 96 := by
  unfold getEv
  cases hd : decE bs with
  | error y => exact ⟨rfl, Nat.zero_le _⟩
  | ok p =>
    obtain ⟨x, r⟩ := p
    simp only
    by_cases h : r = [] ∧ rightE x = true
    · rw [if_pos h]; exact ⟨decE_p hd, decE_l hd⟩
    · rw [if_neg h]; exact ⟨rfl, Nat.zero_le _⟩
theorem decEs_right (k : Nat) (l : List UInt8) : ∀ xs r, decEs k l = .ok (xs, r) → ∀ x ∈ xs, rightE x = true := by
  induction k with
  | zero => intro xs r h; simp [decEs] at h; rw [h.1]; simp
  | succ k ih =>
    intro xs r h
    unfold decEs at h
    split at h
    · cases h
    · rename_i ys r1 h1
      split at h
      · cases h
      · rename_i y r2 h2
        split at h
        · rename_i hr
          injection h with h
          injection h with h _
          subst h
          intro x hx
          rcases List.mem_append.1 hx with hx | hx
          · exact ih _ _ h1 x hx
          · simp at hx; rw [hx]; exact hr
        · cases h
theorem getAll_right (bs : List UInt8) : ∀ x ∈ (getAllE bs).1, rightE x = true := by
  unfold getAllE
  cases hd : decA bs with
  | error y => simp
  | ok xs =>
    unfold decA at hd
    split at hd
    · cases hd
    · split at hd
      · cases hd
      · split at hd
        · cases hd
        · rename_i ys r h
          split at hd
          · injection hd with hd
            subst hd
            exact decEs_right _ _ _ _ h
          · cases hd
theorem decEs_len (k : Nat) (l : List UInt8) : ∀ xs r, decEs k l = .ok (xs, r) → xs.length = k := by
  induction k with
  | zero => intro xs r h; simp [decEs] at h; rw [h.1]; rfl
  | succ k ih =>
    intro xs r h
    unfold decEs at h
    split at h
    · cases h
    · rename_i ys r1 h1
      split at h
      · cases h
      · split at h
        · injection h with h
          injection h with h _
          rw [← h, List.length_append, ih _ _ h1]
          rfl
        · cases h
theorem getAll_len (bs : List UInt8) : (getAllE bs).1.length ≤ 768 := by
  unfold getAllE
  cases hd : decA bs with
  | error y => simp
  | ok xs =>
    unfold decA at hd
    split at hd
    · cases hd
    · split at hd
      · cases hd
      · split at hd
        · cases hd
        · rename_i ys r h
          split at hd
          · injection hd with hd
            subst hd
            have := decEs_len _ _ _ _ h
            simp only
            omega
          · cases hd
set_option maxRecDepth 100000 in
set_option maxHeartbeats 4000000 in
theorem walk (A : Option Addr) (n c : Nat) (bs : List UInt8) (w : World) (hb : RdB w w.heap.size A n bs) (hl : n ≤ maxLen) :
    Calls Try.prog 7 #[.slice A n c] w fun e w' => e = .returned (.bool true) ∧ Below w.heap.size w w' := by
  have HB := Lib.hid fun (w' : World) (h : Below w.heap.size w w') => hb.below h
  unfold maxLen at hl
  clear hb
  go_enter Try.func7, Try.ntmps7
  go_wp2_with fail
  refine (alive07 w).mono ?_
  rintro e w1 ⟨rfl, b1⟩
  by_cases hbig : 5000 < n
  · have hd : (5000 : Int) < (n : Int) := by omega
    clear hbig
    go_wp2_with fail
    go_ret
    exact ⟨rfl, b1⟩
  have hd : decide ((5000 : Int) < (n : Int)) = false := decide_eq_false (by omega)
  have HN5 := Lib.hid (show n ≤ 5000 by omega)
  clear hbig
  go_wp2_with fail
  refine (lent_any A n c bs w.heap.size w1 (HB.out w1 b1) b1.size (by have := HN5.out; omega)).mono ?_
  rintro e w2 ⟨g, rfl, hg, kg, b2'⟩
  have b2 := b1.trans (b2'.mono b1.size)
  have hin : RdB w2 w2.heap.size (some ⟨g, 0, none⟩) bs.length bs := lent_rd kg
  have hn := (HB.out w2 b2).1
  have HIN := Lib.hid fun (w' : World) (h : Below w2.heap.size w2 w') => (hin.below h).more h.size
  have HRB := Lib.hid fun (w' : World) (h : Below w2.heap.size w2 w') => (HB.out w' (b2.trans (h.mono b2.size))).more (b2.trans (h.mono b2.size)).size
  have HKG := Lib.hid fun (w' : World) (h : Below w2.heap.size w2 w') => kg.below h kg.lt
  have HNL := Lib.hid (show bs.length ≤ 5000 by have := HN5.out; omega)
  clear hd b1 b2' hin hn kg hg
  go_wp2_with fail
  refine (eget_any _ bs.length _ bs w2 (HIN.out w2 (Below.refl _ _)) (by have := HNL.out; omega)).mono ?_
  rintro e w3 ⟨A3, m3, c3, rfl, o3, b3⟩
  obtain ⟨p7, l96⟩ := getEv_ok bs
  have hz3 : EvOwn w3 w2.heap.size ⟨(getEv bs).1, A3, m3, c3⟩ := ⟨p7, o3, by show m3 ≤ _; rw [o3.1]; omega⟩
  have hm3 : m3 ≤ 96 := by rw [o3.1]; exact l96
  obtain ⟨z3, hz⟩ : ∃ z : EvV, z = ⟨(getEv bs).1, A3, m3, c3⟩ := ⟨_, rfl⟩
  have he3 : z3.e = (getEv bs).1 := by rw [hz]
  have hm3' : z3.m ≤ 1000000 := by rw [hz]; show m3 ≤ _; omega
  have hc3 : ec (getEv bs).1 (.slice A3 m3 c3) = z3.cs := by rw [hz]; rfl
  rw [← hz] at hz3
  rw [hc3]
  have HZ3 := Lib.hid fun (w' : World) (h : Below w3.heap.size w3 w') => (hz3.ok.below h).more h.size
  have HE3 := Lib.hid he3
  have HM3 := Lib.hid hm3'
  obtain ⟨cz3, hcz3⟩ : ∃ cz, cz = z3.cs := ⟨_, rfl⟩
  have HCZ3 := Lib.hid hcz3
  rw [← hcz3]
  have S3 := Lib.hid (show cz3.size = 14 by rw [hcz3]; rfl)
  have O3 := Lib.hid (show cz3.all (·.oneCell') = true by rw [hcz3]; exact z3.one)
  have SZ0 := Lib.hid (show (cT 0).size = 14 from rfl)
  obtain ⟨E, hE⟩ : ∃ E, E = (getEv bs).2 := ⟨_, rfl⟩
  rw [← hE]
  have HEE := Lib.hid hE
  clear hz hz3 he3 hm3 hm3' hc3 hcz3 hE o3 p7
  go_upto_region 7 with first
    | ((with_reducible refine wpList_st rowE (Blk.new _ _ _) S3.out SZ0.out O3.out ?_ ?_ ?_); rotate_left; (rfl); (rfl); intro w4 k4 g4 z4)
  have bA : Below w3.heap.size w3 w4 := (((Below.refl _ _).alloc (Nat.le_refl _) _).grown g4 (by simp) (fun q hq => by injection hq with hq; omega))
  have b4 := b3.trans (bA.mono b3.size)
  obtain ⟨x0, hx0⟩ : ∃ x0, x0 = w3.heap.size := ⟨_, rfl⟩
  rw [← hx0] at k4 ⊢
  have HBA := Lib.hid bA
  clear g4 z4 bA hx0 b3
  go_wp2_with fail
  refine (rget07_any A n c bs w4 (HRB.out w4 b4) (by have := HN5.out; omega)).mono ?_
  rintro e w5 ⟨A5, m5, c5, rfl, o5, b5⟩
  obtain ⟨p7, _⟩ := getEv_ok bs
  have hz5 : EvOwn w5 w4.heap.size ⟨(getEv bs).1, A5, m5, c5⟩ := ⟨p7, o5, by show m5 ≤ _; rw [o5.1]; omega⟩
  obtain ⟨z5, hz⟩ : ∃ z : EvV, z = ⟨(getEv bs).1, A5, m5, c5⟩ := ⟨_, rfl⟩
  have he5 : z5.e = (getEv bs).1 := by rw [hz]
  have hc5 : ec (getEv bs).1 (.slice A5 m5 c5) = z5.cs := by rw [hz]; rfl
  rw [← hz] at hz5
  rw [hc5, ← HEE.out]
  have HZ5 := Lib.hid fun (w' : World) (h : Below w5.heap.size w5 w') => (hz5.ok.below h).more h.size
  have HE5 := Lib.hid he5
  obtain ⟨cz5, hcz5⟩ : ∃ cz, cz = z5.cs := ⟨_, rfl⟩
  have HCZ5 := Lib.hid hcz5
  rw [← hcz5]
  have S5 := Lib.hid (show cz5.size = 14 by rw [hcz5]; rfl)
  have O5 := Lib.hid (show cz5.all (·.oneCell') = true by rw [hcz5]; exact z5.one)
  have k5 := k4.below b5 k4.lt
  have b35 := HBA.out.trans (b5.mono HBA.out.size)
  have b25 := b4.trans (b5.mono b4.size)
  clear hz hz5 he5 hc5 hcz5 o5 p7 l96 k4 b4 b5 HBA
  go_upto_region 8 with first
    | ((with_reducible refine wpList_st rowE (Blk.new _ _ _) S5.out SZ0.out O5.out ?_ ?_ ?_); rotate_left; (rfl); (rfl); intro w6 k6 g6 z6)
  have bA : Below w5.heap.size w5 w6 := (((Below.refl _ _).alloc (Nat.le_refl _) _).grown g6 (by simp) (fun q hq => by injection hq with hq; omega))
  have k56 := k5.below bA k5.lt
  have b36 := b35.trans (bA.mono b35.size)
  have b26 := b25.trans (bA.mono b25.size)
  obtain ⟨y0, hy0⟩ : ∃ y0, y0 = w5.heap.size := ⟨_, rfl⟩
  rw [← hy0] at k6 ⊢
  clear g6 z6 hy0 b35 b25 k5
  go_wp2_with fail
  refine (egetAll_any _ bs.length _ bs w6 (HIN.out w6 b26) (by have := HNL.out; omega)).mono ?_
  rintro e w7 ⟨A7, n7, c7, ys, rfl, o7, hys, hmp, b7⟩
  have hr7 : RowEv w7 w7.heap.size A7 n7 ys := o7.row fun y hy => (hys y hy).ok
  have hym : ∀ y ∈ ys, y.m ≤ 1000000 := fun y hy => by
    have h1 : y.e ∈ (getAllE bs).1 := by rw [← hmp]; exact List.mem_map.2 ⟨y, hy, rfl⟩
    have h2 := right_l (getAll_right bs _ h1)
    rw [(hys y hy).2.1.1]
    omega
  have HR7 := Lib.hid fun (w' : World) (h : Below w7.heap.size w7 w') => (hr7.below h).more h.size
  have HYM := Lib.hid hym
  have HN7 := Lib.hid (show n7 = ys.length from o7.1)
  have HMP := Lib.hid hmp
  have HNB := Lib.hid (ownsRow_le o7.2)
  have b37 := b36.trans (b7.mono b36.size)
  have b27 := b26.trans (b7.mono b26.size)
  have k57 := k56.below b7 k56.lt
  have k67 := k6.below b7 k6.lt
  have bA7 := bA.trans (b7.mono bA.size)
  obtain ⟨G, hG⟩ : ∃ G, G = (getAllE bs).2 := ⟨_, rfl⟩
  rw [← hG]
  have HG := Lib.hid hG
  clear o7 hys hmp hym hr7 b36 b26 k56 k6 b7 bA hG
  go_wp2_with fail
  refine (rgetAll07_any A n c bs w7 (HRB.out w7 b27) (by have := HN5.out; omega)).mono ?_
  rintro e w8 ⟨A8, n8, c8, zs, rfl, o8, hzs, hmp, b8⟩
  have hr8 : RowEv w8 w8.heap.size A8 n8 zs := o8.row fun y hy => (hzs y hy).ok
  have hnn : n8 = n7 := by
    rw [o8.1, HN7.out]
    have := congrArg List.length (hmp.trans HMP.out.symm)
    simpa using this
  rw [← HG.out]
  subst hnn
  have hme : ys.map (·.e) = zs.map (·.e) := HMP.out.trans hmp.symm
  have b38 := b37.trans (b8.mono b37.size)
  have b28 := b27.trans (b8.mono b27.size)
  have bA8 := bA7.trans (b8.mono bA7.size)
  have k58 := k57.below b8 k57.lt
  have k68 := k67.below b8 k67.lt
  have HB8 := Lib.hid b8
  have HR8 := Lib.hid fun (w' : World) (h : Below w8.heap.size w8 w') => (hr8.below h).more h.size
  have HME := Lib.hid hme
  have HS1 := Lib.hid (rsame07_eq z3 z5 w8 (HZ3.out w8 b38) (HZ5.out w8 bA8) (by rw [HE3.out, HE5.out]) HM3.out)
  rw [← HCZ3.out, ← HCZ5.out] at HS1
  have hEE : ((E : Int) == (E : Int)) = true := by simp
  have hGG : ((G : Int) == (G : Int)) = true := by simp
  clear o8 hzs hmp hme hr8 b37 b27 b38 bA7 bA8 k57 k67
  go_wp2_with first
    | ((with_reducible refine wpList_ld rowE k58 S3.out ?_ ?_); rotate_left; (rfl))
    | ((with_reducible refine wpList_ld rowE k68 S5.out ?_ ?_); rotate_left; (rfl))
  refine HS1.out.mono ?_
  rintro e w9 ⟨rfl, b9⟩
  have b29 := b28.trans (b9.mono b28.size)
  have b79 := HB8.out.trans (b9.mono HB8.out.size)
  have HAL := Lib.hid (rall07_eq A7 A8 n8 c7 c8 ys zs w9 (HR7.out w9 b79) (HR8.out w9 b9) HME.out HYM.out (by have h1 := getAll_len bs; rw [← HMP.out, List.length_map] at h1; have := HN7.out; omega))
  clear b28 b9 k58 k68 HS1
  go_wp2_with fail
  refine HAL.out.mono ?_
  rintro e w10 ⟨rfl, b10⟩
  have b210 := b29.trans (b10.mono b29.size)
  have HKP := Lib.hid (kept_any g A n c bs w10.heap.size w10 (HKG.out w10 b210) (HRB.out w10 b210) (by have := HN5.out; omega))
  go_wp2_with fail
  refine HKP.out.mono ?_
  rintro e w11 ⟨rfl, m11, rfl⟩
  go_wp2_with fail
  go_ret
  exact ⟨rfl, below_drewN (b2.trans (b210.mono b2.size)) m11⟩
set_option maxRecDepth 100000 in
theorem lifted (os : Os) (started : os.Started) (H : Type) (enc : TypeId × Value → H) :
    ReturnsInHanded {} Try.checked os 7 .any (Rows.eventGetsSpec.pre6 enc Try.prog Try.f7 Rows.eventGetsRow.domain false) (Rows.eventGetsSpec.post enc Try.prog Try.f7 false true false false) := by
  refine returnsInHanded_of_change (C := Try.checked) own started (by kernel_rfl) Try.func7
    (ChangeSpec.witness6 (enc := enc) (C := Try.checked) false ⟨#[], #[.slice none 0 0], []⟩ 8 (by kernel_rfl) (by kernel_rfl) (by kernel_rfl) (by kernel_rfl)) ?_
  intro W base args ds gs before hval0 hW hcnd _
  have hval : ∀ (j : Nat) t v, Try.f7.params[j]? = some t → args[j]? = some v → Value.okWide Try.prog W .any base t v := hval0
  have hW' := hW
  obtain ⟨p, q, hA0, hV, rfl, hfz, hnd⟩ := hW
  have hA : DataW.TrodAll enc Try.prog W 0 (fun _ => true) true Try.f7.params.toList args.toList ds p := hA0
  rw [Try.params7] at hA hval
  obtain ⟨v0, vs0, d0, ds0, p0, q0, hargs, rfl, rfl, h0, r0⟩ := trodAll_cons hA
  obtain ⟨rfl, rfl, rfl⟩ := trodAll_nil r0
  obtain rfl : args = #[v0] := by cases args; simp_all
  obtain ⟨rfl, rfl⟩ := trodVars_none hV
  have lt0 : ∀ x ∈ p0, x.block < W.heap.size := by obtain ⟨m, hm⟩ := h0; exact DataW.trod_lt m _ _ _ hm
  have k0 := h0
  obtain ⟨a0, n0, c0, b0, rfl, w0, l0⟩ := open_bytes (hval 0 37 v0 rfl rfl) h0
  clear hA0 hval0
  refine (walk a0 n0 c0 b0 W w0 l0).mono fun e W' ⟨he, bel⟩ => ?_
  subst he
  exact ⟨_, rfl, _, _, _, [], _, [], hW', trodAll_mk1 (shut_bool Try.underlying4 _), (trodAll_cons_mk (Below.trod laidOut (by kernel_rfl) (of_decide_eq_true (by kernel_rfl)) k0 bel lt0) trodAll_mk0), rfl, bel.frame _, fun h => by cases h⟩

theorem proved : Rows.EventGetsSaid :=
  OpenClaim.holds_of_wide 7 Try.f7 rfl rfl rfl rfl rfl rfl rfl ⟨rfl, rfl, rfl, rfl, rfl⟩ rfl rfl rfl rfl rfl (by kernel_rfl) Try.func7 (by kernel_rfl)
    (of_decide_eq_true (by kernel_rfl)) (by unfold Func.isWrapper; first | (rw [if_pos (by decide +kernel)]; kernel_rfl) | (rw [if_neg (by decide +kernel)]; exact ⟨rfl, rfl⟩))
    (fun os started H enc _ => lifted os started H enc)
#print axioms proved
end Go.Proofs.Ytiemlnomlfebkaa.EventGets

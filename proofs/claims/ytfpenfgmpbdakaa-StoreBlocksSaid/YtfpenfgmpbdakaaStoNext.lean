/- The walk of store's Next. -/
import Derived.Test.YtfpenfgmpbdakaaStoOps
namespace Go.Proofs.Ytfpenfgmpbdakaa
set_option linter.unusedVariables false
set_option linter.unusedSimpArgs false
set_option maxRecDepth 100000
open Go.RowKit
open Disk
namespace Sto
open _root_.Go.Proofs.Ytfpenfgmpbdakaa.Log (writeM LogEnd lwrite_any)
open _root_.Go.Proofs.Ytfpenfgmpbdakaa.Frame (frm frms frms_nil frms_cons frms_snoc frms_append frm_length frm_pos Parts AllF)
set_option maxHeartbeats 1000000 in
theorem next_any (S : Sd) (E : Value) (F : Nat → Prop) (b g size : Nat) (w : World) (h : StoAt w F b g size S E) (hu : S.used ≤ S.upto) (hU : S.upto ≤ 96) (hs : size ≤ 16384) (hl : S.b.length ≤ 16384) :
    Calls Try.prog 7 #[.pointer (some ⟨b, 0, none⟩)] w (NumOp w F b g size E (nextD size S)) := by
  have k0 := Blk.new w 25 #[.int .i64 0]
  have hbw : Below w.heap.size w (w.alloc (.cells #[.int .i64 0] 25)) := (Below.refl _ _).alloc (Nat.le_refl _) _
  have hsz : w.heap.size < (w.alloc (.cells #[.int .i64 0] 25)).heap.size := by simp
  have s0 := (h.below hbw).sw
  have hlt : b < w.heap.size := h.2.1.lt
  have hf : ∀ k, F k → k < w.heap.size := h.1.lt
  have hnF : ¬ F w.heap.size := fun q => by have := hf _ q; omega
  have hne : w.heap.size ≠ b := by omega
  clear h
  obtain ⟨sb, su, sv, si⟩ := S
  simp only at *
  have c1 := s0.blk.cell 1
  have c2 := s0.blk.cell 2
  have f1 := s0.blk.free 1
  go_enter_defers Try.func7, Try.ntmps7
  go_wp2_with fail
  generalize w.alloc (.cells #[.int .i64 0] 25) = w0 at *
  by_cases hx : su < sv
  · have hq : ((su : Int) == (sv : Int)) = false := by rw [beq_eq_false_iff_ne]; omega
    have hr : nextD size ⟨sb, su, sv, si⟩ = (su + 1, 0, ⟨sb, su + 1, sv, si⟩) := by unfold nextD; rw [if_pos hx]
    have HR := Lib.hid hr
    have H0 := Lib.hid s0
    have K0 := Lib.hid k0
    clear hr s0 k0
    go_quiet (fail)
    have s9 := H0.out.drewN nq
    have k9 := K0.out.below (below_drewN (Below.refl _ _) nq) K0.out.lt
    generalize w0.drewN nq = wq at *
    have e1 : wq.cell? ⟨b, 1, none⟩ = some (.int .i64 (su : Nat)) := s9.blk.cell 1
    have g1 := s9.blk.free 1
    have s1 : SW w0 F b g size ⟨sb, su + 1, sv, si⟩ E F (wq.setCell ⟨b, 1, none⟩ (.int .i64 ((su : Int) + 1))) := s9.set_ (u' := su + 1) (v' := sv) (i' := si) (s9.blk.set_ 1 (.int .i64 ((su : Int) + 1)))
    have k1 := k9.far (p := ⟨b, 1, none⟩) hne (.int .i64 ((su : Int) + 1))
    have f0 : wq.frozen? ⟨w.heap.size, 0, none⟩ = false := k9.free 0
    have f00 : wq.cell? ⟨w.heap.size, 0, none⟩ = some (.int .i64 0) := k9.cell 0
    have d1 : World.cell? _ ⟨b, 1, none⟩ = some (.int .i64 ((su : Int) + 1)) := s1.blk.cell 1
    have H1 := Lib.hid s1
    have K1 := Lib.hid k1
    clear s1 k1 s9 k9 H0 K0
    go_wp2_with fail
    have c4 : World.cell? _ _ = some (.int .i64 0) := (K1.out.set_ 0 (.int .i64 0)).cell 0
    refine leaves_cons (f := 10) (args := #[.pointer (some ⟨w.heap.size, 0, none⟩)]) (by simp) (by simp [go_sem]) ?_
    refine (caught_none _ _).mono ?_
    rintro e u' w'' ⟨rfl, rfl, rfl⟩
    refine ⟨.tuple #[.int .i64 ((su : Int) + 1), .int .i64 0], by simp [results, Try.results7, go_sem, c4], ?_⟩
    rw [HR.out]
    exact ⟨rfl, H1.out.err hbw hsz hlt hf 0 (.int .i64 0)⟩
  · obtain rfl : su = sv := by omega
    have hq : ((su : Int) == (su : Int)) = true := by simp
    by_cases h9 : 96 ≤ su
    · have hr : nextD size ⟨sb, su, su, si⟩ = (0, 7, ⟨sb, su, su, si⟩) := by unfold nextD; rw [if_neg hx, if_pos h9]
      have HR := Lib.hid hr
      have hd : decide ((su : Int) < ((min (su + 8) 96 : Nat) : Int)) = false := decide_eq_false (by omega)
      have hdl : ¬ (su : Int) < ((min (su + 8) 96 : Nat) : Int) := by omega
      have H0 := Lib.hid s0
      have K0 := Lib.hid k0
      clear hr s0 k0
      go_quiet (fail)
      have H1 := Lib.hid (H0.out.drewN nq)
      have K1 := Lib.hid (K0.out.below (below_drewN (Below.refl _ _) nq) K0.out.lt)
      generalize w0.drewN nq = wq at *
      have e1 : wq.cell? ⟨b, 1, none⟩ = some (.int .i64 (su : Nat)) := H1.out.blk.cell 1
      have e2 : wq.cell? ⟨b, 2, none⟩ = some (.int .i64 (su : Nat)) := H1.out.blk.cell 2
      go_wp2_with fail
      refine (must_no (b := decide ((su : Int) < 96)) (decide_eq_false (by omega)) _ _).mono ?_
      rintro e w2 ⟨rfl, rfl⟩
      go_wp2_with fail
      refine leaves_cons (f := 10) (args := #[.pointer (some ⟨w.heap.size, 0, none⟩)]) (by simp) (by simp [go_sem]) ?_
      refine (caught_panic w.heap.size 7 [] (.int .i64 0) _ (K1.out.cell 0) (K1.out.free 0)).mono ?_
      rintro e u' w'' ⟨rfl, rfl, rfl⟩
      have k9 := (K1.out.alloc (.cells #[.int .i64 7] 52)).set_ 0 (.int .i64 7)
      have c9 : World.cell? _ _ = some (.int .i64 7) := k9.cell 0
      have s9 := (H1.out.below ((Below.refl _ _).alloc (Nat.le_refl _) (.cells #[.int .i64 7] 52))).err hbw hsz hlt hf 0 (.int .i64 7)
      refine ⟨.tuple #[.int .i64 0, .int .i64 7], by simp [results, Try.results7, go_sem, c9], ?_⟩
      rw [HR.out]
      exact ⟨rfl, s9⟩
    · obtain ⟨M, hM⟩ : ∃ M, M = min (su + 8) 96 := ⟨_, rfl⟩
      have hM9 : M ≤ 96 := by omega
      rcases Nat.lt_or_ge 96 (su + 8) with h8 | h8
      · have hV : (M : Int) = 96 := by omega
        have hv8 : 96 < (su : Int) + 8 := by omega
        by_cases hroom : sb.length + (frm (told 1 M)).length ≤ size
        · have hr : nextD size ⟨sb, su, su, si⟩ = (su + 1, 0, ⟨sb ++ frm (told 1 M), su + 1, M, si⟩) := by
            unfold nextD
            rw [if_neg hx, if_neg h9]
            simp only
            rw [← hM, if_pos hroom]
          have hw : writeM size sb [] (told 1 M) = (0, sb ++ frm (told 1 M), []) := by rw [told_write, if_pos hroom]
          have HR := Lib.hid hr
          have HW := Lib.hid hw
          have H0 := Lib.hid s0
          have K0 := Lib.hid k0
          clear hr hw s0 k0
          go_quiet (fail)
          have H1 := Lib.hid (H0.out.drewN nq)
          have K1 := Lib.hid (K0.out.below (below_drewN (Below.refl _ _) nq) K0.out.lt)
          generalize w0.drewN nq = wq at *
          have e1 : wq.cell? ⟨b, 1, none⟩ = some (.int .i64 (su : Nat)) := H1.out.blk.cell 1
          have e2 : wq.cell? ⟨b, 2, none⟩ = some (.int .i64 (su : Nat)) := H1.out.blk.cell 2
          go_wp2_with fail
          refine (must_yes (b := decide ((su : Int) < 96)) (decide_eq_true (by omega)) _ _).mono ?_
          rintro e w2 ⟨rfl, rfl⟩
          go_wp2_with fail
          refine (told_lit 1 1 (96) M rfl (by omega) (by omega) _).mono ?_
          rintro e w2 ⟨A2, n2, c2', rfl, o2, b2⟩
          have s2 := H1.out.below b2
          have k2 := K1.out.below b2 K1.out.lt
          have hle := ownsRow_le o2.2
          go_wp2_with fail
          refine (write_any A2 n2 c2' _ (told 1 M) _ b g size su su si sb E w2 s2.blk s2.disk hl hs o2.rd (Nat.le_refl _) hle.1 hle.2).mono ?_
          rw [HW.out]
          rintro e w3 ⟨he, d3⟩
          obtain rfl : e = .returned (.tuple #[]) := he
          have k3 := d3.kept k2 (s2.nk hsz hnF)
          obtain ⟨F3, s3⟩ := s2.op d3
          have s4 : SW w0 F b g size ⟨_, su, M, si⟩ E F3 (World.setCell _ ⟨b, 2, none⟩ (.int .i64 (96))) := s3.set_ (u' := su) (v' := M) (i' := si) (show Blk _ b _ (sc g su M si E) by rw [← hV]; exact s3.blk.set_ 2 (.int .i64 (M : Nat)))
          have e4 : World.cell? _ ⟨b, 1, none⟩ = some (.int .i64 (su : Nat)) := s4.blk.cell 1
          have f4 := s4.blk.free 1
          have g3 := s3.blk.free 2
          have s5 : SW w0 F b g size ⟨_, su + 1, M, si⟩ E F3 (World.setCell _ ⟨b, 1, none⟩ (.int .i64 ((su : Int) + 1))) := s4.set_ (u' := su + 1) (v' := M) (i' := si) (s4.blk.set_ 1 (.int .i64 ((su : Int) + 1)))
          have e5 : World.cell? _ ⟨b, 1, none⟩ = some (.int .i64 ((su : Int) + 1)) := s5.blk.cell 1
          have e3 : w3.cell? ⟨b, 1, none⟩ = some (.int .i64 (su : Nat)) := s3.blk.cell 1
          have g1 : w3.frozen? ⟨b, 1, none⟩ = false := s3.blk.free 1
          have e6 : w3.cell? ⟨b, 2, none⟩ = some (.int .i64 (su : Nat)) := s3.blk.cell 2
          have z0 : w3.cell? ⟨w.heap.size, 0, none⟩ = some (.int .i64 0) := k3.cell 0
          have z1 : w3.frozen? ⟨w.heap.size, 0, none⟩ = false := k3.free 0
          have k4 := (k3.far (p := ⟨b, 2, none⟩) hne (.int .i64 (96))).far (p := ⟨b, 1, none⟩) hne (.int .i64 ((su : Int) + 1))
          have f5 := k4.free 0
          have H5 := Lib.hid s5
          have K4 := Lib.hid k4
          clear s2 s3 s4 s5 k2 k3 k4 d3 o2
          go_wp2_with fail
          have c4 : World.cell? _ _ = some (.int .i64 0) := (K4.out.set_ 0 (.int .i64 0)).cell 0
          refine leaves_cons (f := 10) (args := #[.pointer (some ⟨w.heap.size, 0, none⟩)]) (by simp) (by simp [go_sem]) ?_
          refine (caught_none _ _).mono ?_
          rintro e u' w'' ⟨rfl, rfl, rfl⟩
          refine ⟨.tuple #[.int .i64 ((su : Int) + 1), .int .i64 0], by simp [results, Try.results7, go_sem, c4], ?_⟩
          rw [HR.out]
          exact ⟨rfl, H5.out.err hbw hsz hlt hf 0 (.int .i64 0)⟩
        · have hr : nextD size ⟨sb, su, su, si⟩ = (0, 7, ⟨sb, su, su, si⟩) := by
            unfold nextD
            rw [if_neg hx, if_neg h9]
            simp only
            rw [← hM, if_neg hroom]
          have hw : writeM size sb [] (told 1 M) = (7, sb, []) := by rw [told_write, if_neg hroom]
          have HR := Lib.hid hr
          have HW := Lib.hid hw
          have H0 := Lib.hid s0
          have K0 := Lib.hid k0
          clear hr hw s0 k0
          go_quiet (fail)
          have H1 := Lib.hid (H0.out.drewN nq)
          have K1 := Lib.hid (K0.out.below (below_drewN (Below.refl _ _) nq) K0.out.lt)
          generalize w0.drewN nq = wq at *
          have e1 : wq.cell? ⟨b, 1, none⟩ = some (.int .i64 (su : Nat)) := H1.out.blk.cell 1
          have e2 : wq.cell? ⟨b, 2, none⟩ = some (.int .i64 (su : Nat)) := H1.out.blk.cell 2
          go_wp2_with fail
          refine (must_yes (b := decide ((su : Int) < 96)) (decide_eq_true (by omega)) _ _).mono ?_
          rintro e w2 ⟨rfl, rfl⟩
          go_wp2_with fail
          refine (told_lit 1 1 (96) M rfl (by omega) (by omega) _).mono ?_
          rintro e w2 ⟨A2, n2, c2', rfl, o2, b2⟩
          have s2 := H1.out.below b2
          have k2 := K1.out.below b2 K1.out.lt
          have hle := ownsRow_le o2.2
          go_wp2_with fail
          refine (write_any A2 n2 c2' _ (told 1 M) _ b g size su su si sb E w2 s2.blk s2.disk hl hs o2.rd (Nat.le_refl _) hle.1 hle.2).mono ?_
          rw [HW.out]
          rintro e w3 ⟨he, d3⟩
          obtain rfl : e = .panicked [{ v := flt ((7 : Nat) : Int), recovered := false }] := he
          have k3 := d3.kept k2 (s2.nk hsz hnF)
          obtain ⟨F3, s3⟩ := s2.op d3
          go_wp2_with fail
          refine leaves_cons (f := 10) (args := #[.pointer (some ⟨w.heap.size, 0, none⟩)]) (by simp) (by simp [go_sem]) ?_
          refine (caught_panic w.heap.size 7 [] (.int .i64 0) _ (k3.cell 0) (k3.free 0)).mono ?_
          rintro e u' w'' ⟨rfl, rfl, rfl⟩
          have k9 := (k3.alloc (.cells #[.int .i64 7] 52)).set_ 0 (.int .i64 7)
          have c9 : World.cell? _ _ = some (.int .i64 7) := k9.cell 0
          have s9 := (s3.below ((Below.refl _ _).alloc (Nat.le_refl _) (.cells #[.int .i64 7] 52))).err hbw hsz hlt hf 0 (.int .i64 7)
          refine ⟨.tuple #[.int .i64 0, .int .i64 7], by simp [results, Try.results7, go_sem, c9], ?_⟩
          rw [HR.out]
          exact ⟨rfl, s9⟩
      · have hV : (M : Int) = (su : Int) + 8 := by omega
        have hv8 : ¬ 96 < (su : Int) + 8 := by omega
        by_cases hroom : sb.length + (frm (told 1 M)).length ≤ size
        · have hr : nextD size ⟨sb, su, su, si⟩ = (su + 1, 0, ⟨sb ++ frm (told 1 M), su + 1, M, si⟩) := by
            unfold nextD
            rw [if_neg hx, if_neg h9]
            simp only
            rw [← hM, if_pos hroom]
          have hw : writeM size sb [] (told 1 M) = (0, sb ++ frm (told 1 M), []) := by rw [told_write, if_pos hroom]
          have HR := Lib.hid hr
          have HW := Lib.hid hw
          have H0 := Lib.hid s0
          have K0 := Lib.hid k0
          clear hr hw s0 k0
          go_quiet (fail)
          have H1 := Lib.hid (H0.out.drewN nq)
          have K1 := Lib.hid (K0.out.below (below_drewN (Below.refl _ _) nq) K0.out.lt)
          generalize w0.drewN nq = wq at *
          have e1 : wq.cell? ⟨b, 1, none⟩ = some (.int .i64 (su : Nat)) := H1.out.blk.cell 1
          have e2 : wq.cell? ⟨b, 2, none⟩ = some (.int .i64 (su : Nat)) := H1.out.blk.cell 2
          go_wp2_with fail
          refine (must_yes (b := decide ((su : Int) < (su : Int) + 8)) (decide_eq_true (by omega)) _ _).mono ?_
          rintro e w2 ⟨rfl, rfl⟩
          go_wp2_with fail
          refine (told_lit 1 1 ((su : Int) + 8) M rfl (by omega) (by omega) _).mono ?_
          rintro e w2 ⟨A2, n2, c2', rfl, o2, b2⟩
          have s2 := H1.out.below b2
          have k2 := K1.out.below b2 K1.out.lt
          have hle := ownsRow_le o2.2
          go_wp2_with fail
          refine (write_any A2 n2 c2' _ (told 1 M) _ b g size su su si sb E w2 s2.blk s2.disk hl hs o2.rd (Nat.le_refl _) hle.1 hle.2).mono ?_
          rw [HW.out]
          rintro e w3 ⟨he, d3⟩
          obtain rfl : e = .returned (.tuple #[]) := he
          have k3 := d3.kept k2 (s2.nk hsz hnF)
          obtain ⟨F3, s3⟩ := s2.op d3
          have s4 : SW w0 F b g size ⟨_, su, M, si⟩ E F3 (World.setCell _ ⟨b, 2, none⟩ (.int .i64 ((su : Int) + 8))) := s3.set_ (u' := su) (v' := M) (i' := si) (show Blk _ b _ (sc g su M si E) by rw [← hV]; exact s3.blk.set_ 2 (.int .i64 (M : Nat)))
          have e4 : World.cell? _ ⟨b, 1, none⟩ = some (.int .i64 (su : Nat)) := s4.blk.cell 1
          have f4 := s4.blk.free 1
          have g3 := s3.blk.free 2
          have s5 : SW w0 F b g size ⟨_, su + 1, M, si⟩ E F3 (World.setCell _ ⟨b, 1, none⟩ (.int .i64 ((su : Int) + 1))) := s4.set_ (u' := su + 1) (v' := M) (i' := si) (s4.blk.set_ 1 (.int .i64 ((su : Int) + 1)))
          have e5 : World.cell? _ ⟨b, 1, none⟩ = some (.int .i64 ((su : Int) + 1)) := s5.blk.cell 1
          have e3 : w3.cell? ⟨b, 1, none⟩ = some (.int .i64 (su : Nat)) := s3.blk.cell 1
          have g1 : w3.frozen? ⟨b, 1, none⟩ = false := s3.blk.free 1
          have e6 : w3.cell? ⟨b, 2, none⟩ = some (.int .i64 (su : Nat)) := s3.blk.cell 2
          have z0 : w3.cell? ⟨w.heap.size, 0, none⟩ = some (.int .i64 0) := k3.cell 0
          have z1 : w3.frozen? ⟨w.heap.size, 0, none⟩ = false := k3.free 0
          have k4 := (k3.far (p := ⟨b, 2, none⟩) hne (.int .i64 ((su : Int) + 8))).far (p := ⟨b, 1, none⟩) hne (.int .i64 ((su : Int) + 1))
          have f5 := k4.free 0
          have H5 := Lib.hid s5
          have K4 := Lib.hid k4
          clear s2 s3 s4 s5 k2 k3 k4 d3 o2
          go_wp2_with fail
          have c4 : World.cell? _ _ = some (.int .i64 0) := (K4.out.set_ 0 (.int .i64 0)).cell 0
          refine leaves_cons (f := 10) (args := #[.pointer (some ⟨w.heap.size, 0, none⟩)]) (by simp) (by simp [go_sem]) ?_
          refine (caught_none _ _).mono ?_
          rintro e u' w'' ⟨rfl, rfl, rfl⟩
          refine ⟨.tuple #[.int .i64 ((su : Int) + 1), .int .i64 0], by simp [results, Try.results7, go_sem, c4], ?_⟩
          rw [HR.out]
          exact ⟨rfl, H5.out.err hbw hsz hlt hf 0 (.int .i64 0)⟩
        · have hr : nextD size ⟨sb, su, su, si⟩ = (0, 7, ⟨sb, su, su, si⟩) := by
            unfold nextD
            rw [if_neg hx, if_neg h9]
            simp only
            rw [← hM, if_neg hroom]
          have hw : writeM size sb [] (told 1 M) = (7, sb, []) := by rw [told_write, if_neg hroom]
          have HR := Lib.hid hr
          have HW := Lib.hid hw
          have H0 := Lib.hid s0
          have K0 := Lib.hid k0
          clear hr hw s0 k0
          go_quiet (fail)
          have H1 := Lib.hid (H0.out.drewN nq)
          have K1 := Lib.hid (K0.out.below (below_drewN (Below.refl _ _) nq) K0.out.lt)
          generalize w0.drewN nq = wq at *
          have e1 : wq.cell? ⟨b, 1, none⟩ = some (.int .i64 (su : Nat)) := H1.out.blk.cell 1
          have e2 : wq.cell? ⟨b, 2, none⟩ = some (.int .i64 (su : Nat)) := H1.out.blk.cell 2
          go_wp2_with fail
          refine (must_yes (b := decide ((su : Int) < (su : Int) + 8)) (decide_eq_true (by omega)) _ _).mono ?_
          rintro e w2 ⟨rfl, rfl⟩
          go_wp2_with fail
          refine (told_lit 1 1 ((su : Int) + 8) M rfl (by omega) (by omega) _).mono ?_
          rintro e w2 ⟨A2, n2, c2', rfl, o2, b2⟩
          have s2 := H1.out.below b2
          have k2 := K1.out.below b2 K1.out.lt
          have hle := ownsRow_le o2.2
          go_wp2_with fail
          refine (write_any A2 n2 c2' _ (told 1 M) _ b g size su su si sb E w2 s2.blk s2.disk hl hs o2.rd (Nat.le_refl _) hle.1 hle.2).mono ?_
          rw [HW.out]
          rintro e w3 ⟨he, d3⟩
          obtain rfl : e = .panicked [{ v := flt ((7 : Nat) : Int), recovered := false }] := he
          have k3 := d3.kept k2 (s2.nk hsz hnF)
          obtain ⟨F3, s3⟩ := s2.op d3
          go_wp2_with fail
          refine leaves_cons (f := 10) (args := #[.pointer (some ⟨w.heap.size, 0, none⟩)]) (by simp) (by simp [go_sem]) ?_
          refine (caught_panic w.heap.size 7 [] (.int .i64 0) _ (k3.cell 0) (k3.free 0)).mono ?_
          rintro e u' w'' ⟨rfl, rfl, rfl⟩
          have k9 := (k3.alloc (.cells #[.int .i64 7] 52)).set_ 0 (.int .i64 7)
          have c9 : World.cell? _ _ = some (.int .i64 7) := k9.cell 0
          have s9 := (s3.below ((Below.refl _ _).alloc (Nat.le_refl _) (.cells #[.int .i64 7] 52))).err hbw hsz hlt hf 0 (.int .i64 7)
          refine ⟨.tuple #[.int .i64 0, .int .i64 7], by simp [results, Try.results7, go_sem, c9], ?_⟩
          rw [HR.out]
          exact ⟨rfl, s9⟩
end Sto
end Go.Proofs.Ytfpenfgmpbdakaa

/- The walk of store's Bump. -/
import Derived.Test.YtfpenfgmpbdakaaStoOps
namespace Go.Proofs.Ytfpenfgmpbdakaa
set_option linter.unusedVariables false
set_option linter.unusedSimpArgs false
set_option maxRecDepth 100000
open Go.RowKit
open Disk
namespace Sto
open _root_.Go.Proofs.Ytfpenfgmpbdakaa.Log (writeM LogEnd lwrite_any)
open _root_.Go.Proofs.Ytfpenfgmpbdakaa.Frame (frm frms frms_nil frms_cons frms_snoc frms_append frm_length frm_pos Parts AllF)
set_option maxHeartbeats 2000000 in
theorem bump_any (S : Sd) (E : Value) (F : Nat → Prop) (b g size : Nat) (w : World) (h : StoAt w F b g size S E) (hi : S.inc ≤ 1099511627776) (hs : size ≤ 16384) (hl : S.b.length ≤ 16384) :
    Calls Try.prog 9 #[.pointer (some ⟨b, 0, none⟩)] w (NumOp w F b g size E (bumpD size S)) := by
  have k0 := Blk.new w 25 #[.int .i64 0]
  have hbw : Below w.heap.size w (w.alloc (.cells #[.int .i64 0] 25)) := (Below.refl _ _).alloc (Nat.le_refl _) _
  have hsz : w.heap.size < (w.alloc (.cells #[.int .i64 0] 25)).heap.size := by simp
  have s0 := (h.below hbw).sw
  have hlt : b < w.heap.size := h.2.1.lt
  have hf : ∀ k, F k → k < w.heap.size := h.1.lt
  have hnF : ¬ F w.heap.size := fun q => by have := hf _ q; omega
  have hne : w.heap.size ≠ b := by omega
  clear h
  obtain ⟨sb, su, sv, si⟩ := S
  simp only at *
  have c3 := s0.blk.cell 3
  have f3 := s0.blk.free 3
  go_enter_defers Try.func9, Try.ntmps9
  go_wp2_with fail
  generalize w.alloc (.cells #[.int .i64 0] 25) = w0 at *
  by_cases h9 : 1099511627776 ≤ si
  · have hr : bumpD size ⟨sb, su, sv, si⟩ = (0, 7, ⟨sb, su, sv, si⟩) := by unfold bumpD; rw [if_pos h9]
    have HR := Lib.hid hr
    have hd : decide ((si : Int) < 1099511627776) = false := decide_eq_false (by omega)
    have hlt9 : ¬ (si : Int) < 1099511627776 := by omega
    clear hr
    go_wp2_with fail
    refine (must_bad _ _).mono ?_
    rintro e w2 ⟨rfl, rfl⟩
    go_wp2_with fail
    refine leaves_cons (f := 10) (args := #[.pointer (some ⟨w.heap.size, 0, none⟩)]) (by simp) (by simp [go_sem]) ?_
    refine (caught_panic w.heap.size 7 [] (.int .i64 0) _ (k0.cell 0) (k0.free 0)).mono ?_
    rintro e u' w'' ⟨rfl, rfl, rfl⟩
    have k9 := (k0.alloc (.cells #[.int .i64 7] 52)).set_ 0 (.int .i64 7)
    have c9 : World.cell? _ _ = some (.int .i64 7) := k9.cell 0
    have s9 := (s0.below ((Below.refl _ _).alloc (Nat.le_refl _) (.cells #[.int .i64 7] 52))).err hbw hsz hlt hf 0 (.int .i64 7)
    refine ⟨.tuple #[.int .i64 0, .int .i64 7], by simp [results, Try.results9, go_sem, c9], ?_⟩
    rw [HR.out]
    exact ⟨rfl, s9⟩
  · have hd : decide ((si : Int) < 1099511627776) = true := decide_eq_true (by omega)
    have hlt9 : (si : Int) < 1099511627776 := by omega
    by_cases hroom : sb.length + (frm (told 2 (si + 1))).length ≤ size
    · have hr : bumpD size ⟨sb, su, sv, si⟩ = (si + 1, 0, ⟨sb ++ frm (told 2 (si + 1)), su, sv, si + 1⟩) := by
        unfold bumpD
        rw [if_neg h9]
        simp only
        rw [if_pos hroom]
      have hw : writeM size sb [] (told 2 (si + 1)) = (0, sb ++ frm (told 2 (si + 1)), []) := by rw [told_write, if_pos hroom]
      have HR := Lib.hid hr
      have HW := Lib.hid hw
      clear hr hw
      go_wp2_with fail

      refine (must_yes (b := decide ((si : Int) < 1099511627776)) hd _ _).mono ?_
      rintro e w2 ⟨rfl, rfl⟩
      go_wp2_with fail
      refine (told_lit 2 2 _ (si + 1) rfl (by first | rfl | omega) (by omega) _).mono ?_
      rintro e w2 ⟨A2, n2, c2', rfl, o2, b2⟩
      have s2 := s0.below b2
      have k2 := k0.below b2 k0.lt
      have hle := ownsRow_le o2.2
      go_wp2_with fail
      refine (write_any A2 n2 c2' _ (told 2 (si + 1)) _ b g size su sv si sb E w2 s2.blk s2.disk hl hs o2.rd (Nat.le_refl _) hle.1 hle.2).mono ?_
      rw [HW.out]
      rintro e w3 ⟨he, d3⟩
      obtain rfl : e = .returned (.tuple #[]) := he
      have k3 := d3.kept k2 (s2.nk hsz hnF)
      obtain ⟨F3, s3⟩ := s2.op d3
      have e3 : w3.cell? ⟨b, 3, none⟩ = some (.int .i64 (si : Nat)) := s3.blk.cell 3
      have z0 : w3.cell? ⟨w.heap.size, 0, none⟩ = some (.int .i64 0) := k3.cell 0
      have z1 : w3.frozen? ⟨w.heap.size, 0, none⟩ = false := k3.free 0
      have g3 := s3.blk.free 3
      have s5 : SW w0 F b g size ⟨_, su, sv, si + 1⟩ E F3 (World.setCell _ ⟨b, 3, none⟩ (.int .i64 ((si : Int) + 1))) := s3.set_ (u' := su) (v' := sv) (i' := si + 1) (s3.blk.set_ 3 (.int .i64 ((si : Int) + 1)))
      have e5 : World.cell? _ ⟨b, 3, none⟩ = some (.int .i64 ((si : Int) + 1)) := s5.blk.cell 3
      have k4 := k3.far (p := ⟨b, 3, none⟩) hne (.int .i64 ((si : Int) + 1))
      have f5 := k4.free 0
      have H5 := Lib.hid s5
      have K4 := Lib.hid k4
      clear s2 s3 s5 s0 k0 k2 k3 k4 d3 o2 hd hlt9
      go_wp2_with fail
      have c4 : World.cell? _ _ = some (.int .i64 0) := (K4.out.set_ 0 (.int .i64 0)).cell 0
      refine leaves_cons (f := 10) (args := #[.pointer (some ⟨w.heap.size, 0, none⟩)]) (by simp) (by simp [go_sem]) ?_
      refine (caught_none _ _).mono ?_
      rintro e u' w'' ⟨rfl, rfl, rfl⟩
      refine ⟨.tuple #[.int .i64 ((si : Int) + 1), .int .i64 0], by simp [results, Try.results9, go_sem, c4], ?_⟩
      rw [HR.out]
      exact ⟨rfl, H5.out.err hbw hsz hlt hf 0 (.int .i64 0)⟩
    · have hr : bumpD size ⟨sb, su, sv, si⟩ = (0, 7, ⟨sb, su, sv, si⟩) := by
        unfold bumpD
        rw [if_neg h9]
        simp only
        rw [if_neg hroom]
      have hw : writeM size sb [] (told 2 (si + 1)) = (7, sb, []) := by rw [told_write, if_neg hroom]
      have HR := Lib.hid hr
      have HW := Lib.hid hw
      clear hr hw
      go_wp2_with fail
      refine (must_yes (b := decide ((si : Int) < 1099511627776)) hd _ _).mono ?_
      rintro e w2 ⟨rfl, rfl⟩
      go_wp2_with fail
      refine (told_lit 2 2 _ (si + 1) rfl (by first | rfl | omega) (by omega) _).mono ?_
      rintro e w2 ⟨A2, n2, c2', rfl, o2, b2⟩
      have s2 := s0.below b2
      have k2 := k0.below b2 k0.lt
      have hle := ownsRow_le o2.2
      go_wp2_with fail
      refine (write_any A2 n2 c2' _ (told 2 (si + 1)) _ b g size su sv si sb E w2 s2.blk s2.disk hl hs o2.rd (Nat.le_refl _) hle.1 hle.2).mono ?_
      rw [HW.out]
      rintro e w3 ⟨he, d3⟩
      obtain rfl : e = .panicked [{ v := flt ((7 : Nat) : Int), recovered := false }] := he
      have k3 := d3.kept k2 (s2.nk hsz hnF)
      obtain ⟨F3, s3⟩ := s2.op d3
      go_wp2_with fail
      refine leaves_cons (f := 10) (args := #[.pointer (some ⟨w.heap.size, 0, none⟩)]) (by simp) (by simp [go_sem]) ?_
      refine (caught_panic w.heap.size 7 [] (.int .i64 0) _ (k3.cell 0) (k3.free 0)).mono ?_
      rintro e u' w'' ⟨rfl, rfl, rfl⟩
      have k9 := (k3.alloc (.cells #[.int .i64 7] 52)).set_ 0 (.int .i64 7)
      have c9 : World.cell? _ _ = some (.int .i64 7) := k9.cell 0
      have s9 := (s3.below ((Below.refl _ _).alloc (Nat.le_refl _) (.cells #[.int .i64 7] 52))).err hbw hsz hlt hf 0 (.int .i64 7)
      refine ⟨.tuple #[.int .i64 0, .int .i64 7], by simp [results, Try.results9, go_sem, c9], ?_⟩
      rw [HR.out]
      exact ⟨rfl, s9⟩
end Sto
end Go.Proofs.Ytfpenfgmpbdakaa

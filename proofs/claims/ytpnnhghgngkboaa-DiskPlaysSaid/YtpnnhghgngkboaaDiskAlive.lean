/- The document's example of layer 13; a disk of the call's own. -/
import Derived.Test.YtpnnhghgngkboaaDiskOps
import Derived.Test.YtpnnhghgngkboaaStr
import Derived.Lib.SlBytesConst
namespace Go.Proofs.Ytpnnhghgngkboaa
open Go.RowKit
open Disk

/-- A disk that the call has made: on blocks that were not there when it began. -/
def DL (w : World) (F : Nat → Prop) (g size : Nat) (lasts : List UInt8) (ws : List W) (w' : World) : Prop := DiskAt w' F g size lasts ws ∧ (∀ k, F k → w.heap.size ≤ k) ∧ Below w.heap.size w w'
section
variable {w w1 w2 : World} {F : Nat → Prop} {g size : Nat} {lasts l2 : List UInt8} {ws ws2 : List W}
theorem DL.op (h : DL w F g size lasts ws w1) (ho : DiskOp w1 F g size l2 ws2 w2) : ∃ F2, DL w F2 g size l2 ws2 w2 ∧ Only F w1 w2 ∧ Grows F F2 w1 := by
  obtain ⟨h1, h2, h3⟩ := h
  obtain ⟨F2, o1, o2, o3⟩ := ho
  exact ⟨F2, ⟨o1, fun k hk => by rcases o3 k hk with h | h; exact h2 k h; have := h3.size; omega, h3.trans (o2.to_below h2 h3.size)⟩, o2, o3⟩
theorem DL.below (h : DL w F g size lasts ws w1) (hb : Below w1.heap.size w1 w2) : DL w F g size lasts ws w2 := ⟨h.1.below hb, h.2.1, h.2.2.trans (hb.mono h.2.2.size)⟩
theorem DL.of_new (h0 : Below w.heap.size w w1) (h : DiskAt w2 F g size lasts ws) (hF : ∀ k, F k → w1.heap.size ≤ k) (hb : Below w1.heap.size w1 w2) : DL w F g size lasts ws w2 :=
  ⟨h, fun k hk => Nat.le_trans h0.size (hF k hk), h0.trans (hb.mono h0.size)⟩
end
theorem ex1 : afterL (readL [] ([] ++ [(false, [97, 98])])) ([] ++ [(false, [99, 100])]) 1 = [97, 98, 99] := by decide +kernel
theorem ex2 : readL [97, 98, 99] [] = [97, 98, 99] := by decide +kernel
theorem ex3 : afterL [97, 98, 99] ([] ++ [(true, [120])]) 0 = [97, 98, 99] := by decide +kernel
theorem ex4 : afterL [97, 98, 99] ([] ++ [(true, [120])]) 1 = [120] := by decide +kernel
theorem ex5 : readL [120] [] = [120] := by decide +kernel
set_option maxRecDepth 100000 in
set_option maxHeartbeats 2000000 in
theorem alive13 (w : World) : Calls Try.prog 7 #[] w fun e w' => e = .returned (.bool true) ∧ Below w.heap.size w w' := by
  have kc := fun (w : World) (C : Array Value) (n c : Nat) => Lib.run_convert_bytes_const (P := Try.prog) w 32 5 C n c Try.underlying32 Try.underlying5
  go_enter Try.func7, Try.ntmps7
  go_wp2_with fail
  refine (dnew_any 9 w (by omega) (by omega)).mono ?_
  rintro e w1 ⟨g, F1, rfl, hD1, hF1, hb1⟩
  have L1 := DL.of_new (Below.refl _ w) hD1 hF1 hb1
  go_wp2_with fail
  refine (append_any _ _ _ _ [97, 98] F1 g 9 [] [] _ (L1.1.below ((Below.refl _ _).alloc (Nat.le_refl _) _)) (by simp [mass]) (by simp) (by omega) (RdB.made _ _ _ _ _ rfl) (by decide)).mono ?_
  rintro e w2 ⟨rfl, h2⟩
  obtain ⟨F2, L2, _, _⟩ := (L1.below ((Below.refl _ _).alloc (Nat.le_refl _) _)).op h2
  clear h2 L1 hD1 hb1
  go_wp2_with fail
  refine (sync_any F2 g 9 _ _ _ L2.1 (by decide) (by decide)).mono ?_
  rintro e w3 ⟨rfl, h3⟩
  obtain ⟨F3, L3, _, _⟩ := L2.op h3
  clear h3 L2
  go_wp2_with fail
  refine (append_any _ _ _ _ [99, 100] F3 g 9 _ _ _ (L3.1.below ((Below.refl _ _).alloc (Nat.le_refl _) _)) (by decide) (by decide) (by omega) (RdB.made _ _ _ _ _ rfl) (by decide)).mono ?_
  rintro e w4 ⟨rfl, h4⟩
  obtain ⟨F4, L4, _, _⟩ := (L3.below ((Below.refl _ _).alloc (Nat.le_refl _) _)).op h4
  clear h4 L3
  go_wp2_with fail
  refine (crash_nat 1 F4 g 9 _ _ _ L4.1 (by decide) (by decide) (by omega)).mono ?_
  rintro e w5 ⟨rfl, h5⟩
  obtain ⟨F5, L5, _, _⟩ := L4.op h5
  clear h5 L4
  rw [ex1] at L5
  go_wp2_with fail
  refine (read_any F5 g 9 _ _ _ L5.1 (by decide) (by decide)).mono ?_
  rintro e w6 ⟨A6, n6, c6, rfl, o6, h6⟩
  rw [ex2] at o6
  obtain rfl := o6.1
  have s6 := run_str w6 _ A6 3 c6 [97, 98, 99] o6.rd (by decide)
  have L6 := L5.below h6
  clear L5
  go_wp2_with fail
  clear s6 o6 h6
  refine (swap_any _ _ _ _ [120] F5 g 9 _ _ _ (L6.1.below ((Below.refl _ _).alloc (Nat.le_refl _) _)) (by decide) (by omega) (RdB.made _ _ _ _ _ rfl) (by decide)).mono ?_
  rintro e w7 ⟨rfl, h7⟩
  obtain ⟨F7, L7, _, _⟩ := (L6.below ((Below.refl _ _).alloc (Nat.le_refl _) _)).op h7
  clear h7 L6
  go_wp2_with fail
  refine (crash_nat 0 F7 g 9 _ _ _ L7.1 (by decide) (by decide) (by omega)).mono ?_
  rintro e w8 ⟨rfl, h8⟩
  obtain ⟨F8, L8, _, _⟩ := L7.op h8
  rw [ex3] at L8
  clear h8 L7
  go_wp2_with fail
  refine (read_any F8 g 9 _ _ _ L8.1 (by decide) (by decide)).mono ?_
  rintro e w9 ⟨A9, n9, c9, rfl, o9, h9⟩
  rw [ex2] at o9
  obtain rfl := o9.1
  have s9 := run_str w9 _ A9 3 c9 [97, 98, 99] o9.rd (by decide)
  have L9 := L8.below h9
  clear L8
  go_wp2_with fail
  clear s9 o9 h9
  refine (swap_any _ _ _ _ [120] F8 g 9 _ _ _ (L9.1.below ((Below.refl _ _).alloc (Nat.le_refl _) _)) (by decide) (by omega) (RdB.made _ _ _ _ _ rfl) (by decide)).mono ?_
  rintro e w10 ⟨rfl, h10⟩
  obtain ⟨F10, L10, _, _⟩ := (L9.below ((Below.refl _ _).alloc (Nat.le_refl _) _)).op h10
  clear h10 L9
  go_wp2_with fail
  refine (crash_nat 1 F10 g 9 _ _ _ L10.1 (by decide) (by decide) (by omega)).mono ?_
  rintro e w11 ⟨rfl, h11⟩
  obtain ⟨F11, L11, _, _⟩ := L10.op h11
  rw [ex4] at L11
  clear h11 L10
  go_wp2_with fail
  refine (read_any F11 g 9 _ _ _ L11.1 (by decide) (by decide)).mono ?_
  rintro e w12 ⟨A12, n12, c12, rfl, o12, h12⟩
  rw [ex5] at o12
  obtain rfl := o12.1
  have s12 := run_str w12 _ A12 1 c12 [120] o12.rd (by decide)
  have L12 := L11.below h12
  clear L11
  go_wp2_with fail
  clear s12 o12 h12
  refine (room_any F11 g 9 _ _ _ L12.1 (by decide) (by decide) (by omega)).mono ?_
  rintro e w13 ⟨rfl, h13⟩
  have L13 := L12.below h13
  rw [show ((9 : Nat) : Int) - ((readL [120] []).length : Int) = 8 by decide +kernel]
  clear L12 h13
  go_wp2_with fail
  refine (sync_nil _).mono ?_
  rintro e w14 ⟨rfl, rfl⟩
  go_wp2_with fail
  go_ret
  exact ⟨rfl, L13.2.2⟩
end Go.Proofs.Ytpnnhghgngkboaa

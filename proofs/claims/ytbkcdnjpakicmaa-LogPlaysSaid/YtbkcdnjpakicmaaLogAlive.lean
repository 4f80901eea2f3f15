/- The document's example of layer 14. -/
import Derived.Test.YtbkcdnjpakicmaaLogOps
import Derived.Lib.SlBytesConst
namespace Go.Proofs.Ytbkcdnjpakicmaa
open Go.RowKit
open Disk
namespace Log
open _root_.Go.Proofs.Ytbkcdnjpakicmaa.Frame (frm frms frms_nil frms_cons frms_snoc frms_append frm_length frm_pos Parts AllF)
theorem LogEnd.at_ {w w' : World} {F : Nat → Prop} {g size x : Nat} {r : Res} {e : Ending} {b : List UInt8} {ws : List W} (h : LogEnd w F g size r e w') (hr : r = (x, b, ws)) : e = .returned (.int .i64 (x : Nat)) ∧ DiskOp w F g size b ws w' := by subst hr; exact h
theorem frm1 (x : UInt8) : (frm [x]).length = 7 := by rw [frm_length]; rfl
theorem frms1 (x : UInt8) : frms [[x]] = frm [x] := by rw [frms_cons, frms_nil, List.append_nil]
theorem al1 : writeM 100 [] [] [97] = (0, frms [[97]], []) := by
  unfold writeM
  rw [if_neg (by simp), if_pos (by rw [frm1]; simp [readL, afterL]), frms1]
  rfl
theorem al2 : writeM 100 (frms [[97]]) [] [98] = (0, frms [[97], [98]], []) := by
  unfold writeM
  have e : readL (frms [[97]]) [] = frms [[97]] := rfl
  rw [if_neg (by simp), e, frms1, if_pos (by rw [frm1, frm1]; omega), frms_cons, frms1]
theorem al_len2 : (frms [[97], [98]]).length = 14 := by rw [frms_cons, frms1, List.length_append, frm1, frm1]
theorem al3 : afterL (frms [[97], [98]]) ([] ++ [(false, [1, 1, 99])]) 2 = frms [[97], [98]] ++ [1, 1] := by simp [afterL, units, doW]
theorem dec11 : Frame.dec [1, 1] = .error 3 := Frame.dec_short (k := 1) (r := []) (Vint.dec_enc (n := 1) (by decide) []) (by omega) (by simp)
theorem al4 : Parts (readL (frms [[97], [98]] ++ [1, 1]) []) [[97], [98]] [1, 1] := ⟨rfl, by simp, 3, dec11⟩
theorem al5 : mendM (frms [[97], [98]] ++ [1, 1]) [] [[97], [98]] = (0, frms [[97], [98]], []) := by
  unfold mendM
  rw [if_pos (by show _ < (frms [[97], [98]] ++ [1, 1]).length; rw [List.length_append]; simp)]
theorem al6 : writeM 100 (frms [[97], [98]]) [] [99] = (0, frms [[97], [98], [99]], []) := by
  unfold writeM
  have e : readL (frms [[97], [98]]) [] = frms [[97], [98]] := rfl
  rw [if_neg (by simp), e, if_pos (by rw [frm1, al_len2]; omega), show [[97], [98], [99]] = [[97], [98]] ++ [[(99 : UInt8)]] from rfl, frms_snoc]
theorem al_len3 : (frms [[97], [98], [99]]).length = 21 := by rw [show [[97], [98], [99]] = [[97], [98]] ++ [[(99 : UInt8)]] from rfl, frms_snoc, List.length_append, al_len2, frm1]
theorem al7 : Parts (readL (frms [[97], [98], [99]]) []) [[97], [98], [99]] [] := ⟨by rw [List.append_nil]; rfl, by simp, 3, rfl⟩
set_option maxRecDepth 100000 in
set_option maxHeartbeats 2000000 in
theorem alive14 (w : World) : Calls Try.prog 22 #[] w fun e w' => e = .returned (.bool true) ∧ Below w.heap.size w w' := by
  have hal := fun w0 : World => (Below.refl w0.heap.size w0).alloc (Nat.le_refl _)
  have HAL := Lib.hid hal
  clear hal
  have kc := fun (w : World) (C : Array Value) (n c : Nat) => Lib.run_convert_bytes_const (P := Try.prog) w 22 5 C n c Try.underlying22 Try.underlying5
  go_enter Try.func22, Try.ntmps22
  go_wp2_with fail
  refine (dnew_any 100 w (by omega) (by omega)).mono ?_
  rintro e w1 ⟨g, F1, rfl, hD1, hF1, hb1⟩
  have L1 := DL.of_new (Below.refl _ w) hD1 hF1 hb1
  clear hD1 hb1
  go_wp2_with fail
  refine (lwrite_any _ 1 1 (World.heap _).size [97] F1 g 100 [] [] _ (L1.1.below (HAL.out _ _)) (by simp [mass]) (by simp) (by omega) (by exact (RdB.made _ [97] _ _ _ rfl).size) (Nat.le_refl _) (by omega) (by unfold maxLen; omega)).mono ?_
  rintro e w2 q2
  obtain ⟨rfl, h2⟩ := q2.at_ al1
  obtain ⟨F2, L2, _, _⟩ := (L1.below (HAL.out _ _)).op h2
  clear h2 q2 L1
  have hm2 : (frms [[97]]).length + mass [] ≤ 500000000000 := by rw [frms1, frm1]; simp [mass]
  go_wp2_with fail
  refine (lwrite_any _ 1 1 (World.heap _).size [98] F2 g 100 _ [] _ (L2.1.below (HAL.out _ _)) hm2 (by simp) (by omega) (by exact (RdB.made _ [98] _ _ _ rfl).size) (Nat.le_refl _) (by omega) (by unfold maxLen; omega)).mono ?_
  rintro e w3 q3
  obtain ⟨rfl, h3⟩ := q3.at_ al2
  obtain ⟨F3, L3, _, _⟩ := (L2.below (HAL.out _ _)).op h3
  clear h3 q3 L2 hm2
  have hm3 : (frms [[97], [98]]).length + mass [] ≤ 500000000000 := by rw [al_len2]; simp [mass]
  have hn3 : ((3 : Nat) : Int) ≤ ((100 : Nat) : Int) - (readL (frms [[97], [98]]) []).length := by
    show ((3 : Nat) : Int) ≤ ((100 : Nat) : Int) - (frms [[97], [98]]).length
    rw [al_len2]; omega
  go_wp2_with fail
  refine (append_any _ _ _ _ [1, 1, 99] F3 g 100 _ [] _ (L3.1.below (HAL.out _ _)) (by omega) (by simp) (by omega) (by exact RdB.made _ [1, 1, 99] _ _ _ rfl) hn3).mono ?_
  rintro e w4 ⟨rfl, h4⟩
  obtain ⟨F4, L4, _, _⟩ := (L3.below (HAL.out _ _)).op h4
  clear h4 L3
  have hm4 : (frms [[97], [98]]).length + mass ([] ++ [(false, [1, 1, 99])]) ≤ 1099511627776 := by rw [al_len2]; decide
  go_wp2_with fail
  refine (crash_nat 2 F4 g 100 _ _ _ L4.1 hm4 (by decide) (by omega)).mono ?_
  rintro e w5 ⟨rfl, h5⟩
  obtain ⟨F5, L5, _, _⟩ := L4.op h5
  clear h5 L4
  rw [al3] at L5
  have hm5 : (frms [[97], [98]] ++ [1, 1]).length + mass [] ≤ 500000000000 := by rw [List.length_append, al_len2]; decide
  go_wp2_with fail
  refine (lread_any F5 g 100 _ _ _ L5.1 hm5 (by decide)).mono ?_
  rintro e w6 ⟨l6, r6, A6, c6, hp6, rfl, bo6, h6⟩
  obtain ⟨rfl, rfl⟩ := hp6.same al4
  have L6 := L5.below h6
  clear hp6 L5 h6
  have hd6 : decide ((frms [[97], [98]]).length < (readL (frms [[97], [98]] ++ [1, 1]) []).length) = true := decide_eq_true (by show _ < (frms [[97], [98]] ++ [1, 1]).length; rw [List.length_append]; simp)
  rw [hd6]
  clear hd6
  go_wp2_with fail
  refine (lmend_any F5 g 100 _ _ _ L6.1 hm5 (by decide) (by omega) (by show (frms [[97], [98]] ++ [1, 1]).length ≤ _; rw [List.length_append, al_len2]; decide)).mono ?_
  rintro e w7 ⟨l7, r7, hp7, q7⟩
  obtain ⟨rfl, rfl⟩ := hp7.same al4
  obtain ⟨rfl, h7⟩ := q7.at_ al5
  obtain ⟨F7, L7, _, _⟩ := L6.op h7
  clear h7 q7 hp7 L6
  go_wp2_with fail
  refine (lwrite_any _ 1 1 (World.heap _).size [99] F7 g 100 _ [] _ (L7.1.below (HAL.out _ _)) hm3 (by simp) (by omega) (by exact (RdB.made _ [99] _ _ _ rfl).size) (Nat.le_refl _) (by omega) (by unfold maxLen; omega)).mono ?_
  rintro e w8 q8
  obtain ⟨rfl, h8⟩ := q8.at_ al6
  obtain ⟨F8, L8, _, _⟩ := (L7.below (HAL.out _ _)).op h8
  clear h8 q8 L7
  have hm8 : (frms [[97], [98], [99]]).length + mass [] ≤ 500000000000 := by rw [al_len3]; decide
  go_wp2_with fail
  refine (lread_any F8 g 100 _ _ _ L8.1 hm8 (by decide)).mono ?_
  rintro e w9 ⟨l9, r9, A9, c9, hp9, rfl, bo9, h9⟩
  obtain ⟨rfl, rfl⟩ := hp9.same al7
  have L9 := L8.below h9
  clear hp9 L8 h9
  have hd9 : decide ((frms [[97], [98], [99]]).length < (readL (frms [[97], [98], [99]]) []).length) = false := decide_eq_false (by show ¬ _ < (frms [[97], [98], [99]]).length; omega)
  rw [hd9]
  clear hd9
  go_wp2_with fail
  refine (lmend_nil _).mono ?_
  rintro e w10 ⟨rfl, h10⟩
  go_wp2_with fail
  go_ret
  exact ⟨rfl, L9.2.2.trans (h10.mono L9.2.2.size)⟩
end Log
end Go.Proofs.Ytbkcdnjpakicmaa

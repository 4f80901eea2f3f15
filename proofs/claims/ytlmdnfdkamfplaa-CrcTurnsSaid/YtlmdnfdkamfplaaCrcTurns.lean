/- CrcTurns: one bit turned, anywhere, turns the sum; so do two unlike bytes put into each other's place: the whole statement, without a condition. -/
import Derived.Test.YtlmdnfdkamfplaaCrcWalks
import Derived.Test.YtlmdnfdkamfplaaBytes
import Derived.Test.YtlmdnfdkamfplaaShell
namespace Go.Proofs.Ytlmdnfdkamfplaa.CrcTurns
open Go.ChangeShapes Go.WideShapes Go.ChangeAt Go.RowKit
set_option linter.unusedVariables false

theorem turn_bit (x : UInt8) (k : Nat) (hk : k < 8) : ∃ y : UInt8, y ≠ x ∧ bits .xor .u8 (x.toNat : Int) ((2 : Int) ^ k % 256) = (y.toNat : Int) := by
  have hx := x.toNat_lt
  have h : ∀ m : Nat, 0 < m → m < 256 → (2 : Int) ^ k % 256 = (m : Int) → ∃ y : UInt8, y ≠ x ∧ bits .xor .u8 (x.toNat : Int) ((2 : Int) ^ k % 256) = (y.toNat : Int) := by
    intro m h0 h1 he
    have hl : x.toNat ^^^ m < 256 := Nat.xor_lt_two_pow (n := 8) (by omega) (by omega)
    have hy : (UInt8.ofNat (x.toNat ^^^ m)).toNat = x.toNat ^^^ m := by rw [Crc.toNat_ofNat]; omega
    refine ⟨UInt8.ofNat (x.toNat ^^^ m), fun e => ?_, ?_⟩
    · have h2 := congrArg UInt8.toNat e
      rw [hy] at h2
      have h3 : x.toNat ^^^ (x.toNat ^^^ m) = x.toNat ^^^ x.toNat := by rw [h2]
      rw [← Nat.xor_assoc, Nat.xor_self, Nat.zero_xor] at h3
      omega
    · rw [he, hy]
      exact u8_xor_nat x.toNat m (by omega) (by omega)
  match k, hk with
  | 0, _ => exact h 1 (by omega) (by omega) (by decide)
  | 1, _ => exact h 2 (by omega) (by omega) (by decide)
  | 2, _ => exact h 4 (by omega) (by omega) (by decide)
  | 3, _ => exact h 8 (by omega) (by omega) (by decide)
  | 4, _ => exact h 16 (by omega) (by omega) (by decide)
  | 5, _ => exact h 32 (by omega) (by omega) (by decide)
  | 6, _ => exact h 64 (by omega) (by omega) (by decide)
  | 7, _ => exact h 128 (by omega) (by omega) (by decide)

theorem set_ne (l : List UInt8) (i : Nat) (hi : i < l.length) (y : UInt8) (h : y ≠ l[i]) : Crc.sum (l.set i y) ≠ Crc.sum l := by
  have e1 : l.set i y = l.take i ++ y :: l.drop (i + 1) := List.set_eq_take_append_cons_drop.trans (if_pos hi)
  have e2 : l = l.take i ++ l[i] :: l.drop (i + 1) := by rw [List.getElem_cons_drop, List.take_append_drop]
  rw [e1]
  conv => rhs; rw [e2]
  exact Crc.sum_one h
theorem swap_sum (l : List UInt8) (i : Nat) (hi : i + 1 < l.length) (h : l[i] ≠ l[i + 1]) : Crc.sum ((l.set i l[i + 1]).set (i + 1) l[i]) ≠ Crc.sum l := by
  have e2 : l = l.take i ++ l[i] :: l[i + 1] :: l.drop (i + 2) := by rw [List.getElem_cons_drop, List.getElem_cons_drop, List.take_append_drop]
  have ht : (l.take i).length = i := by rw [List.length_take]; omega
  have e1 : (l.set i l[i + 1]).set (i + 1) l[i] = l.take i ++ l[i + 1] :: l[i] :: l.drop (i + 2) := by
    generalize l[i] = p at *
    generalize l[i + 1] = q at *
    generalize l.drop (i + 2) = r at *
    generalize l.take i = s at *
    subst e2
    subst ht
    simp
  rw [e1]
  conv => rhs; rw [e2]
  exact Crc.sum_swap h

theorem walk (a0 : Option Addr) (n0 c0 : Nat) (b0 : List UInt8) (s : Nat) (w : World) (hb0 : RdB w w.heap.size a0 n0 b0) (hl0 : n0 ≤ maxLen) (hs : s < 65536) :
    Calls Try.prog 5 #[.slice a0 n0 c0, .int .u16 s] w fun e w' => e = .returned (.bool true) ∧ Below w.heap.size w w' := by
  unfold maxLen at hl0
  by_cases hz : n0 = 0
  · subst hz
    go_enter Try.func5, Try.ntmps5
    go_wp2_with fail
    refine (Crc.alive_any _).mono ?_
    rintro e w1 ⟨rfl, h1⟩
    go_wp2_with fail
    go_ret
    exact ⟨rfl, h1⟩
  · have hd0 : ((n0 : Int) == 0) = false := by simp; omega
    by_cases hg : n0 ≤ 2000
    · have hd1 : decide ((2000 : Int) < (n0 : Int)) = false := by simp; omega
      obtain ⟨i, hi⟩ : ∃ i : Nat, i = s / 8 % n0 := ⟨_, rfl⟩
      have hin : i < n0 := by rw [hi]; exact Nat.mod_lt _ (by omega)
      have ei : (s : Int) / 8 % (n0 : Int) = (i : Int) := by rw [hi]; push_cast; rfl
      clear hi
      go_enter Try.func5, Try.ntmps5
      go_wp2_with fail
      refine (Crc.alive_any _).mono ?_
      rintro e w1 ⟨rfl, h1⟩
      go_wp2_with (at_builtin; refine wpList_appB rfl (.tmp 18) (.tmp 19) rfl rfl (OwnB.made w1 w1.heap.size [] #[] 0 rfl rfl (Nat.le_refl _) (Nat.zero_le _)) rfl ((hb0.below h1).alloc h1.size _) (by omega) (by simp) ?_)
      intro A' c' w2 ho1 _ _ hbl1
      obtain ⟨g, rfl, hg1, hg2⟩ := ho1.form (by omega)
      have hlen := Lib.hid ho1.1
      have hib : i < b0.length := by rw [← hlen.out]; exact hin
      have hc := ho1.cell hib
      have hf := ho1.free i
      obtain ⟨x, hx⟩ : ∃ x, x = b0[i] := ⟨_, rfl⟩
      rw [← hx] at hc
      have HX := Lib.hid hx
      clear hx
      obtain ⟨y, hy, ey⟩ := turn_bit x (s % 8) (by omega)
      have HY := Lib.hid hy
      have EY := Lib.hid ey
      clear hy ey
      go_wp2_with fail
      rw [EY.out]
      have ho2 := ho1.set_ i y
      have hns : ((Crc.sum (b0.set i y) : Int) == (Crc.sum b0 : Int)) = false := by
        have := set_ne b0 i hib y (by rw [← HX.out]; exact HY.out)
        rw [beq_eq_false_iff_ne]; omega
      have hB2 : Below w.heap.size w w2 := (h1.alloc h1.size _).trans (hbl1.mono h1.size)
      have hB3 : Below w.heap.size w (w2.setCell ⟨g, i, none⟩ (bv y)) := hB2.setCell (by have := h1.size; show _ ≤ g; omega) _
      generalize w2.setCell ⟨g, i, none⟩ (bv y) = w3 at *
      refine (Crc.sum_any _ _ _ _ _ _ ho2.rd (by unfold maxLen; omega)).mono ?_
      rintro e w4 ⟨rfl, rfl⟩
      go_wp2_with fail
      refine (Crc.sum_any _ _ _ _ _ _ (hb0.below hB3) (by unfold maxLen; omega)).mono ?_
      rintro e w4 ⟨rfl, rfl⟩
      clear hc hf ho1 ho2 hbl1 hg1 hg2
      go_wp2_with (at_builtin; refine wpList_appB rfl (.tmp 43) (.tmp 44) rfl rfl (OwnB.made w3 w3.heap.size [] #[] 0 rfl rfl (Nat.le_refl _) (Nat.zero_le _)) rfl ((hb0.below hB3).alloc hB3.size _) (by omega) (by simp) ?_)
      intro A' c2 w4 ho1 _ _ hbl1
      obtain ⟨g2, rfl, hg1, hg2⟩ := ho1.form (by omega)
      have hB4 : Below w.heap.size w w4 := (hB3.alloc hB3.size _).trans (hbl1.mono hB3.size)
      have hc0 := ho1.cell hib
      have hf0 := ho1.free i
      rw [← HX.out] at hc0
      by_cases hi1 : i + 1 < n0
      · have hib1 : i + 1 < b0.length := by rw [← hlen.out]; exact hi1
        have hd5 : decide ((i : Int) + 1 < (n0 : Int)) = true := by simp; omega
        have hc1 := ho1.cell hib1
        have hf1 := ho1.free (i + 1)
        obtain ⟨z, hz⟩ : ∃ z, z = b0[i + 1] := ⟨_, rfl⟩
        rw [← hz] at hc1
        have HZ := Lib.hid hz
        clear hz
        by_cases hxz : x = z
        · have hq : ((x.toNat : Int) != (z.toNat : Int)) = false := by rw [hxz]; simp
          go_wp2_with fail
          go_quiet (fail)
          go_wp2_with fail
          go_ret
          exact ⟨rfl, below_drewN hB4 _⟩
        · have hq : ((x.toNat : Int) != (z.toNat : Int)) = true := by
            rw [bne_iff_ne]; intro h; exact hxz (UInt8.toNat_inj.1 (by omega))
          go_wp2_with fail
          go_quiet (fail)
          go_wp2_with fail
          go_region
          go_wp2_with fail
          have ho5 : OwnB (w4.drewN (nq + 1)) w3.heap.size (some ⟨g2, 0, none⟩) n0 c2 b0 := ho1
          have ho6 := (ho5.set_ i z).set_ (i + 1) x
          have hns2 : ((Crc.sum ((b0.set i z).set (i + 1) x) : Int) != (Crc.sum b0 : Int)) = true := by
            have := swap_sum b0 i hib1 (by rw [← HX.out, ← HZ.out]; exact hxz)
            rw [← HX.out, ← HZ.out] at this
            rw [bne_iff_ne]; omega
          have hB6 : Below w.heap.size w (((w4.drewN (nq + 1)).setCell ⟨g2, i, none⟩ (bv z)).setCell ⟨g2, i + 1, none⟩ (bv x)) :=
            ((below_drewN hB4 _).setCell (by have := hB3.size; show _ ≤ g2; omega) _).setCell (by have := hB3.size; show _ ≤ g2; omega) _
          generalize ((w4.drewN (nq + 1)).setCell ⟨g2, i, none⟩ (bv z)).setCell ⟨g2, i + 1, none⟩ (bv x) = w6 at *
          refine (Crc.sum_any _ _ _ _ _ _ ho6.rd (by unfold maxLen; omega)).mono ?_
          rintro e w7 ⟨rfl, rfl⟩
          go_wp2_with fail
          refine (Crc.sum_any _ _ _ _ _ _ (hb0.below hB6) (by unfold maxLen; omega)).mono ?_
          rintro e w7 ⟨rfl, rfl⟩
          go_wp2_with fail
          go_ret
          exact ⟨rfl, hB6⟩
      · have hd5 : decide ((i : Int) + 1 < (n0 : Int)) = false := by simp; omega
        go_wp2_with fail
        go_quiet (fail)
        go_wp2_with fail
        go_ret
        exact ⟨rfl, below_drewN hB4 _⟩
    · have hd1 : decide ((2000 : Int) < (n0 : Int)) = true := by simp; omega
      go_enter Try.func5, Try.ntmps5
      go_wp2_with fail
      refine (Crc.alive_any _).mono ?_
      rintro e w1 ⟨rfl, h1⟩
      go_wp2_with fail
      go_ret
      exact ⟨rfl, h1⟩
set_option maxRecDepth 100000 in
theorem lifted (os : Os) (started : os.Started) (H : Type) (enc : TypeId × Value → H) :
    ReturnsInHanded {} Try.checked os 5 .any (Rows.crcTurnsSpec.pre6 enc Try.prog Try.f5 Rows.crcTurnsRow.domain false) (Rows.crcTurnsSpec.post enc Try.prog Try.f5 false true false false) := by
  refine returnsInHanded_of_change (C := Try.checked) own started (by kernel_rfl) Try.func5
    (ChangeSpec.witness6 (enc := enc) (C := Try.checked) false ⟨#[], #[.slice none 0 0, .int .u16 0], []⟩ 8 (by kernel_rfl) (by kernel_rfl) (by kernel_rfl) (by kernel_rfl)) ?_
  intro W base args ds gs before hval0 hW hcnd _
  have hval : ∀ (j : Nat) t v, Try.f5.params[j]? = some t → args[j]? = some v → Value.okWide Try.prog W .any base t v := hval0
  have hW' := hW
  obtain ⟨p, q, hA0, hV, rfl, hfz, hnd⟩ := hW
  have hA : DataW.TrodAll enc Try.prog W 0 (fun _ => true) true Try.f5.params.toList args.toList ds p := hA0
  rw [Try.params5] at hA hval
  obtain ⟨v0, vs0, d0, ds0, p0, q0, hargs, rfl, rfl, h0, r0⟩ := trodAll_cons hA
  obtain ⟨v1, vs1, d1, ds1, p1, q1, rfl, rfl, rfl, h1, r1⟩ := trodAll_cons r0
  obtain ⟨rfl, rfl, rfl⟩ := trodAll_nil r1
  obtain rfl : args = #[v0, v1] := by cases args; simp_all
  obtain ⟨rfl, rfl⟩ := trodVars_none hV
  have lt0 : ∀ x ∈ p0, x.block < W.heap.size := by obtain ⟨m, hm⟩ := h0; exact DataW.trod_lt m _ _ _ hm
  have k0 := h0
  have lt1 : ∀ x ∈ p1, x.block < W.heap.size := by obtain ⟨m, hm⟩ := h1; exact DataW.trod_lt m _ _ _ hm
  have k1 := h1
  obtain ⟨a0, n0, c0, b0, rfl, w0, l0⟩ := open_bytes (hval 0 22 v0 rfl rfl) h0
  obtain ⟨x1, rfl, rfl, rfl, wf1⟩ := open_int Try.underlying29 (hval 1 29 v1 rfl rfl) h1
  have hb1 : 0 ≤ x1 ∧ x1 < 65536 := by
    have hmin : IntKind.u16.min = 0 := rfl
    have hmax : IntKind.u16.max = 65535 := rfl
    simp only [Lit.wf, Bool.and_eq_true, decide_eq_true_eq] at wf1
    omega
  obtain ⟨s1, rfl⟩ := Int.eq_ofNat_of_zero_le hb1.1
  clear hA0 hval0
  refine (walk a0 n0 c0 b0 s1 W w0 l0 (by omega)).mono fun e W' ⟨he, bel⟩ => ?_
  subst he
  exact ⟨_, rfl, _, _, _, [], _, [], hW', trodAll_mk1 (shut_bool Try.underlying4 _), (trodAll_cons_mk (Below.trod laidOut (by kernel_rfl) (of_decide_eq_true (by kernel_rfl)) k0 bel lt0) (trodAll_cons_mk (Below.trod laidOut (by kernel_rfl) (of_decide_eq_true (by kernel_rfl)) k1 bel lt1) trodAll_mk0)), rfl, bel.frame _, fun h => by cases h⟩

theorem proved : Rows.CrcTurnsSaid :=
  OpenClaim.holds_of_wide 5 Try.f5 rfl rfl rfl rfl rfl rfl rfl ⟨rfl, rfl, rfl, rfl, rfl⟩ rfl rfl rfl rfl rfl (by kernel_rfl) Try.func5 (by kernel_rfl)
    (of_decide_eq_true (by kernel_rfl)) (by unfold Func.isWrapper; first | (rw [if_pos (by decide +kernel)]; kernel_rfl) | (rw [if_neg (by decide +kernel)]; exact ⟨rfl, rfl⟩))
    (fun os started H enc _ => lifted os started H enc)
#print axioms proved
end Go.Proofs.Ytlmdnfdkamfplaa.CrcTurns

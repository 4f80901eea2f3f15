/- The reference's disk: Sync, Do. -/
import Derived.Test.YtpnnhghgngkboaaDiskRef4
import Derived.Test.YtpnnhghgngkboaaDiskMore
namespace Go.Proofs.Ytpnnhghgngkboaa
open Go.RowKit
open Disk

theorem rsync_any (F : Nat → Prop) (g size : Nat) (lasts : List UInt8) (us : List U) (w : World) (hD : RefAt w F g size lasts us) (hm : lasts.length + massU us ≤ 1099511627776) (hul : us.length ≤ 1099511627776) :
    Calls Try.prog 24 #[.pointer (some ⟨g, 0, none⟩)] w fun e w' => e = .returned (.tuple #[]) ∧ RefOp w F g size (afterU lasts us) [] w' := by
  have hD0 := hD
  obtain ⟨es, AL, cL, AW, cW, he, hE⟩ := hD0
  have c2 := hE.blk.cell 2
  have hel : es.length = us.length := by rw [← he]; simp
  have hc := rcrash_nat us.length F g size lasts us w hD hm hul (es.length : Int) (by omega) (by omega) (by omega)
  rw [List.take_length] at hc
  clear hel he
  go_enter Try.func24, Try.ntmps24
  go_wp2_with fail
  refine hc.mono ?_
  rintro e w1 ⟨rfl, h⟩
  have HP := Lib.hid h
  clear h
  go_wp2_with fail
  go_end0
  exact ⟨rfl, HP.out⟩

/-- The reference's state beside the program's: the same bytes, the units of its writes. -/
def RStepEnd (w : World) (F : Nat → Prop) (g size : Nat) (r : Nat × List UInt8 × List W) (e : Ending) (w' : World) : Prop := e = .returned (.int .i64 (r.1 : Nat)) ∧ RefOp w F g size r.2.1 (exp r.2.2) w'
set_option maxHeartbeats 1000000 in
theorem rdo_any (o : Op13) (A : Option Addr) (n c B : Nat) (F : Nat → Prop) (g size : Nat) (lasts : List UInt8) (ws : List W) (w : World) (hD : RefAt w F g size lasts (exp ws)) (hm : lasts.length + mass ws ≤ 1099511627776) (hs : size ≤ 16384)
    (hpl : pend ws ≤ 1099511627776) (hb : RdB w B A n o.bs) (hB : B ≤ w.heap.size) (hFB : ∀ k, F k → B ≤ k) (hn : n ≤ 140737488355328) (hn1 : -9223372036854775808 ≤ o.num) (hn2 : o.num ≤ 9223372036854775807) :
    Calls Try.prog 12 #[.pointer (some ⟨g, 0, none⟩), .agg #[.int .i64 o.kind, .int .i64 o.num, .slice A n c]] w (RStepEnd w F g size (stepM size lasts ws o)) := by
  obtain ⟨k, z, bs⟩ := o
  simp only at hb hn1 hn2 ⊢
  have hmU : lasts.length + massU (exp ws) ≤ 1099511627776 := by rw [exp_mass]; exact hm
  have hlU : (exp ws).length ≤ 1099511627776 := by rw [exp_length]; exact hpl
  have hrd : afterU lasts (exp ws) = readL lasts ws := by
    have := after_exp lasts ws (pend ws)
    rw [← exp_length, List.take_length, exp_length] at this
    exact this
  obtain ⟨w1, hw1⟩ : ∃ w1, w1 = w.alloc (.cells #[.int .i64 k, .int .i64 z, .slice A n c] 37) := ⟨_, rfl⟩
  have h1 : Below w.heap.size w w1 := by rw [hw1]; exact (Below.refl _ _).alloc (Nat.le_refl _) _
  have hD1 := hD.below h1
  have hb1 := hb.below (h1.mono hB)
  have hB1 : B ≤ w1.heap.size := Nat.le_trans hB h1.size
  have HW := Lib.hid hw1
  clear hw1
  by_cases k1 : k = 1
  · subst k1
    by_cases hf : bs.length + (readL lasts ws).length ≤ size
    · have he : stepM size lasts ws ⟨1, z, bs⟩ = (0, lasts, ws ++ [(false, bs)]) := by simp [stepM, hf]
      rw [he]
      clear he
      have hc := rappend_any A n c B bs F g size lasts (exp ws) w1 hD1 hmU hlU hb1 hB1 hFB hs (by rw [hrd, hb.1]; omega)
      have hx : exp (ws ++ [(false, bs)]) = exp ws ++ bs.map U.byte := by rw [exp_append]; simp [exp]
      rw [← hx] at hc
      clear hx hrd
      go_enter Try.func12, Try.ntmps12
      go_wp2_with fail
      rw [← HW.out]
      refine hc.mono ?_
      rintro e w2 ⟨rfl, h2⟩
      have HP := Lib.hid (h2.of_below h1)
      clear h2
      go_wp2_with fail
      go_ret
      exact ⟨rfl, HP.out⟩
    · have he : stepM size lasts ws ⟨1, z, bs⟩ = (7, lasts, ws) := by simp [stepM, hf]
      rw [he]
      clear he
      have hc := rappend_full A n c F g size lasts (exp ws) w1 hD1 hmU hn (by rw [hrd, hb.1]; omega)
      clear hrd
      go_enter Try.func12, Try.ntmps12
      go_wp2_with fail
      rw [← HW.out]
      refine hc.mono ?_
      rintro e w2 ⟨rfl, h2⟩
      have HP := Lib.hid (RefOp.refl hD (h1.trans (h2.mono h1.size)))
      clear h2
      go_wp2_with fail
      go_ret
      exact ⟨rfl, HP.out⟩
  · by_cases k2 : k = 2
    · subst k2
      clear hrd
      by_cases hf : bs.length ≤ size
      · have he : stepM size lasts ws ⟨2, z, bs⟩ = (0, lasts, ws ++ [(true, bs)]) := by simp [stepM, hf]
        rw [he]
        clear he k1
        have hc := rswap_any A n c B bs F g size lasts (exp ws) w1 hD1 hlU hb1 (by rw [hb.1]; omega) hs
        have hx : exp (ws ++ [(true, bs)]) = exp ws ++ [U.swap bs] := by rw [exp_append]; simp [exp]
        rw [← hx] at hc
        clear hx
        go_enter Try.func12, Try.ntmps12
        go_wp2_with fail
        rw [← HW.out]
        refine hc.mono ?_
        rintro e w2 ⟨rfl, h2⟩
        have HP := Lib.hid (h2.of_below h1)
        clear h2
        go_wp2_with fail
        go_ret
        exact ⟨rfl, HP.out⟩
      · have he : stepM size lasts ws ⟨2, z, bs⟩ = (7, lasts, ws) := by simp [stepM, hf]
        rw [he]
        clear he k1
        have hc := rswap_full A n c F g size lasts (exp ws) w1 hD1 (by rw [hb.1]; omega)
        go_enter Try.func12, Try.ntmps12
        go_wp2_with fail
        rw [← HW.out]
        refine hc.mono ?_
        rintro e w2 ⟨rfl, h2⟩
        subst h2
        have HP := Lib.hid (RefOp.refl hD h1)
        go_wp2_with fail
        go_ret
        exact ⟨rfl, HP.out⟩
    · by_cases k3 : k = 3
      · subst k3
        have he : stepM size lasts ws ⟨3, z, bs⟩ = (0, readL lasts ws, []) := by simp [stepM]
        rw [he]
        clear he k1 k2
        have hc := rsync_any F g size lasts (exp ws) w1 hD1 hmU hlU
        rw [hrd] at hc
        clear hrd
        go_enter Try.func12, Try.ntmps12
        go_wp2_with fail
        rw [← HW.out]
        refine hc.mono ?_
        rintro e w2 ⟨rfl, h2⟩
        have HP := Lib.hid (h2.of_below h1)
        clear h2
        go_wp2_with fail
        go_ret
        exact ⟨rfl, HP.out⟩
      · by_cases k4 : k = 4
        · subst k4
          have he : stepM size lasts ws ⟨4, z, bs⟩ = (0, afterL lasts ws z.toNat, []) := by simp [stepM]
          rw [he]
          clear he k1 k2 k3 hrd
          have hc := rcrash_nat z.toNat F g size lasts (exp ws) w1 hD1 hmU hlU z rfl hn1 hn2
          rw [after_exp] at hc
          go_enter Try.func12, Try.ntmps12
          go_wp2_with fail
          rw [← HW.out]
          refine hc.mono ?_
          rintro e w2 ⟨rfl, h2⟩
          have HP := Lib.hid (h2.of_below h1)
          clear h2
          go_wp2_with fail
          go_ret
          exact ⟨rfl, HP.out⟩
        · have he : stepM size lasts ws ⟨k, z, bs⟩ = (0, lasts, ws) := by simp [stepM, k1, k2, k3, k4]
          rw [he]
          clear he hrd
          have q1 : (k == 1) = false := by rw [beq_eq_false_iff_ne]; exact k1
          have q2 : (k == 2) = false := by rw [beq_eq_false_iff_ne]; exact k2
          have q3 : (k == 3) = false := by rw [beq_eq_false_iff_ne]; exact k3
          have q4 : (k == 4) = false := by rw [beq_eq_false_iff_ne]; exact k4
          have HP := Lib.hid (RefOp.refl hD h1)
          clear k1 k2 k3 k4
          go_enter Try.func12, Try.ntmps12
          go_wp2_with fail
          go_ret
          rw [HW.out] at HP
          exact ⟨rfl, HP.out⟩
end Go.Proofs.Ytpnnhghgngkboaa

/- Steps of a disk that came in: how they read; great and do. -/
import Derived.Test.YtpnnhghgngkboaaDisk2
import Derived.Test.YtpnnhghgngkboaaOpen
import Derived.Test.YtpnnhghgngkboaaSame
namespace Go.Proofs.Ytpnnhghgngkboaa
open Go.ChangeShapes Go.WideShapes Go.ChangeAt Go.RowKit Go.Deep
open Disk

/-- A step: its kind, its number, its bytes. -/
structure Op13 where
  kind : Int
  num : Int
  bs : List UInt8
/-- The cells of a step. -/
def OpCells (W : World) (cs : List Value) (o : Op13) : Prop := ∃ a n c, cs = [.int .i64 o.kind, .int .i64 o.num, .slice a n c] ∧ RdB W W.heap.size a n o.bs ∧ n ≤ c ∧ c ≤ maxLen ∧
  (-9223372036854775808 ≤ o.kind ∧ o.kind ≤ 9223372036854775807) ∧ -9223372036854775808 ≤ o.num ∧ o.num ≤ 9223372036854775807
/-- Steps, as a slice reads. -/
def OpsAt (W : World) (a : Option Addr) (n : Nat) (l : List Op13) : Prop := n = l.length ∧ ∀ i o, l[i]? = some o → ∃ ad A m c, a = some ad ∧ W.cell? (ad.add (i * 3)) = some (.int .i64 o.kind) ∧ W.cell? ⟨(ad.add (i * 3)).block, (ad.add (i * 3)).off + 1, none⟩ = some (.int .i64 o.num) ∧
  W.cell? ⟨(ad.add (i * 3)).block, (ad.add (i * 3)).off + 2, none⟩ = some (.slice A m c) ∧ RdB W W.heap.size A m o.bs ∧ m ≤ c ∧ c ≤ maxLen ∧ (-9223372036854775808 ≤ o.kind ∧ o.kind ≤ 9223372036854775807) ∧ -9223372036854775808 ≤ o.num ∧ o.num ≤ 9223372036854775807

section
variable {H : Type} {enc : TypeId × Value → H} {W : World} {base : Nat} {sp : Nat → Bool} {held : Bool} {fuel : Nat} {cs : List Value} {x : DataW H × List MemPlace}
theorem cellsI : (Try.prog).cellsOf 3 = 1 := by kernel_rfl
theorem cellsBs : (Try.prog).cellsOf 32 = 1 := by kernel_rfl
theorem cellsOp : (Try.prog).cellsOf 34 = 3 := by kernel_rfl
theorem rd_op (hf : DataW.trod enc Try.prog W base sp held fuel 34 cs = some x) : ∃ o : Op13, OpCells W cs o := by
  have hlen := rd_len Try.underlying34 cellsOp hf
  obtain ⟨_, _, g0⟩ := rd_field Try.underlying34 hf 0 3 0 1 rfl cellsI
  obtain ⟨_, _, g1⟩ := rd_field Try.underlying34 hf 1 3 1 1 rfl cellsI
  obtain ⟨_, _, g2⟩ := rd_field Try.underlying34 hf 2 32 2 1 rfl cellsBs
  match cs, hlen with
  | [v0, v1, v2], _ =>
    obtain ⟨k, hk, hk1⟩ := rd_int g0
    obtain ⟨m, hm, hm1⟩ := rd_int g1
    obtain ⟨a, l, c, bs, hb, hb1, hb2, hb3⟩ := rd_bytes g2
    injection hk with hk _
    injection hm with hm _
    injection hb with hb _
    subst hk hm hb
    exact ⟨⟨k, m, bs⟩, a, l, c, rfl, hb1, hb2, hb3, hk1, hm1⟩
theorem add_add1 (a : Addr) (n : Nat) (hn : n ≠ 0) : a.add n = ⟨a.block, a.off + n, none⟩ := by unfold Addr.add; rw [if_neg hn]
theorem rd_ops (hf : DataW.trod enc Try.prog W base sp held fuel 22 cs = some x) : ∃ (a : Option Addr) (n c : Nat) (l : List Op13), cs = [.slice a n c] ∧ OpsAt W a n l ∧ n ≤ c ∧ c ≤ maxLen := by
  obtain ⟨a, n, c, h1, h2, h3, h4⟩ := rd_slice Try.underlying22 cellsOp hf
  have hex : ∀ i, ∃ o : Op13, i < n → ∃ ad A m c, a = some ad ∧ W.cell? (ad.add (i * 3)) = some (.int .i64 o.kind) ∧ W.cell? ⟨(ad.add (i * 3)).block, (ad.add (i * 3)).off + 1, none⟩ = some (.int .i64 o.num) ∧
      W.cell? ⟨(ad.add (i * 3)).block, (ad.add (i * 3)).off + 2, none⟩ = some (.slice A m c) ∧ RdB W W.heap.size A m o.bs ∧ m ≤ c ∧ c ≤ maxLen ∧ (-9223372036854775808 ≤ o.kind ∧ o.kind ≤ 9223372036854775807) ∧ -9223372036854775808 ≤ o.num ∧ o.num ≤ 9223372036854775807 := by
    intro i
    by_cases hi : i < n
    · obtain ⟨ad, cs', fu, x', ha, hl, hc, ht⟩ := h4 i hi
      obtain ⟨o, A, m, c', he, r1, r2, r3, r4⟩ := rd_op ht
      subst he
      have c0 := hc 0 (by omega)
      have c1 := hc 1 (by omega)
      have c2 := hc 2 (by omega)
      rw [add_add1 _ 1 (by omega)] at c1
      rw [add_add1 _ 2 (by omega)] at c2
      exact ⟨o, fun _ => ⟨ad, A, m, c', ha, c0, c1, c2, r1, r2, r3, r4⟩⟩
    · exact ⟨⟨0, 0, []⟩, fun h => absurd h hi⟩
  refine ⟨a, n, c, (List.range n).map fun i => (hex i).choose, h1, ⟨by simp, fun i o ho => ?_⟩, h2, h3⟩
  rw [List.getElem?_map] at ho
  by_cases hi : i < n
  · rw [List.getElem?_range hi] at ho
    simp only [Option.map_some, Option.some.injEq] at ho
    subst ho
    exact (hex i).choose_spec hi
  · rw [List.getElem?_eq_none (by simp; omega)] at ho; cases ho
end
theorem OpsAt.keep {w w' : World} {a : Option Addr} {n : Nat} {l : List Op13} (h : OpsAt w a n l) (hb : Below w.heap.size w w') : ∀ i o, l[i]? = some o → ∃ ad A m c, a = some ad ∧ w'.cell? (ad.add (i * 3)) = some (.int .i64 o.kind) ∧ w'.cell? ⟨(ad.add (i * 3)).block, (ad.add (i * 3)).off + 1, none⟩ = some (.int .i64 o.num) ∧
  w'.cell? ⟨(ad.add (i * 3)).block, (ad.add (i * 3)).off + 2, none⟩ = some (.slice A m c) ∧ RdB w' w.heap.size A m o.bs ∧ m ≤ c ∧ c ≤ maxLen ∧ (-9223372036854775808 ≤ o.kind ∧ o.kind ≤ 9223372036854775807) ∧ -9223372036854775808 ≤ o.num ∧ o.num ≤ 9223372036854775807 := by
  intro i o ho
  obtain ⟨ad, A, m, c, h1, h2, h3, h4, h5, h6⟩ := h.2 i o ho
  have hc : ∀ p v, w.cell? p = some v → w'.cell? p = some v := fun p v h => (hb.cell (World.block_lt_of_cell? w p h)).trans h
  exact ⟨ad, A, m, c, h1, hc _ _ h2, hc _ _ h3, hc _ _ h4, h5.below hb, h6⟩

/-- how many bytes steps have, each counted up to 10000 -/
def opsSum (l : List Op13) : Nat := (l.map fun o => min o.bs.length 10000).sum
theorem opsSum_snoc (l : List Op13) (o : Op13) : opsSum (l ++ [o]) = opsSum l + min o.bs.length 10000 := by simp [opsSum]
theorem opsSum_le (l : List Op13) : opsSum l ≤ 10000 * l.length := by
  induction l with
  | nil => simp [opsSum]
  | cons o l ih => simp [opsSum] at *; omega
theorem opsSum_take (l : List Op13) (k : Nat) : opsSum (l.take k) ≤ opsSum l := by
  induction l generalizing k with
  | nil => simp
  | cons o l ih => cases k with
    | zero => simp [opsSum]
    | succ k => have := ih k; simp [opsSum] at *; omega

theorem great_long (a : Option Addr) (n c : Nat) (l : List Op13) (w : World) (hl : OpsAt w a n l) (hc : c ≤ maxLen) (hn : n ≤ c) (hbig : 200 < n) :
    Calls Try.prog 8 #[.slice a n c] w fun e w' => e = .returned (.bool true) ∧ Below w.heap.size w w' := by
  unfold maxLen at hc
  have HL := Lib.hid hl.1
  have hd : decide (200 < n) = true := decide_eq_true hbig
  go_enter Try.func8, Try.ntmps8
  go_wp2_with fail
  go_loopw [3, 8] (fun s i wr => ∃ (k : Nat) (z : Int), k ≤ n ∧ i = .int .i64 k ∧ s = .int .i64 z ∧ Below w.heap.size w wr) (fun _ i _ => n - (intOf i).toNat)
  case atStart => exact ⟨0, 0, by omega, rfl, rfl, Below.refl _ _⟩
  case round =>
    obtain ⟨k, z, hk, rfl, rfl, hbel⟩ := hrel
    by_cases hlt : k < n
    · have hkl : k < l.length := by rw [← HL.out]; exact hlt
      obtain ⟨ad, A, m, c', rfl, q0, q1, q2, _⟩ := hl.keep hbel k _ (List.getElem?_eq_getElem hkl)
      generalize l[k] = o at q0 q1 q2
      go_wp2_with fail
      all_goals
        go_roundw
        case rel => exact ⟨k + 1, _, by omega, by go_num, rfl, hbel.alloc hbel.size _⟩
        case measure => simp [intOf]; omega
    · go_wp2_with fail
      go_ret
      exact ⟨rfl, hbel⟩
theorem great_short (a : Option Addr) (n c : Nat) (l : List Op13) (w : World) (hl : OpsAt w a n l) (hbig : n ≤ 200) :
    Calls Try.prog 8 #[.slice a n c] w fun e w' => e = .returned (.bool (decide (20000 < opsSum l))) ∧ Below w.heap.size w w' := by
  have HL := Lib.hid hl.1
  have hd : decide (200 < n) = false := decide_eq_false (by omega)
  have hsl := opsSum_le l
  rw [← HL.out] at hsl
  go_enter Try.func8, Try.ntmps8
  go_wp2_with fail
  go_loopw [3, 8] (fun s i wr => ∃ (k : Nat), k ≤ n ∧ i = .int .i64 k ∧ s = .int .i64 (opsSum (l.take k) : Nat) ∧ Below w.heap.size w wr) (fun _ i _ => n - (intOf i).toNat)
  case atStart => exact ⟨0, by omega, rfl, rfl, Below.refl _ _⟩
  case round =>
    obtain ⟨k, hk, rfl, rfl, hbel⟩ := hrel
    have htk := opsSum_take l k
    by_cases hlt : k < n
    · have hkl : k < l.length := by rw [← HL.out]; exact hlt
      obtain ⟨ad, A, m, c', rfl, q0, q1, q2, q3, _⟩ := hl.keep hbel k _ (List.getElem?_eq_getElem hkl)
      have hst := opsSum_snoc (l.take k) l[k]
      rw [← take_snoc l hkl, ← q3.1] at hst
      have HS := Lib.hid hst
      clear hst
      generalize l[k] = o at q0 q1 q2
      by_cases hm : 10000 < m
      · go_wp2_with fail
        go_roundw
        case rel => exact ⟨k + 1, by omega, by go_num, by rw [HS.out, Nat.min_eq_right (by omega)]; go_num, hbel.alloc hbel.size _⟩
        case measure => simp [intOf]; omega
      · go_wp2_with fail
        go_roundw
        case rel => exact ⟨k + 1, by omega, by go_num, by rw [HS.out, Nat.min_eq_left (by omega)]; go_num, hbel.alloc hbel.size _⟩
        case measure => simp [intOf]; omega
    · have hfull : l.take k = l := List.take_of_length_le (by rw [← HL.out]; omega)
      rw [hfull]
      have HF := Lib.hid hfull
      clear hfull
      go_wp2_with fail
      go_ret
      exact ⟨by simp; rw [decide_eq_false (by omega : ¬ (200 : Int) < (n : Int)), Bool.false_or]; exact decide_eq_decide.2 (by omega), hbel⟩

/-- A step: the error's number, the bytes that last, the writes that wait. -/
def stepM (size : Nat) (b : List UInt8) (ws : List W) (o : Op13) : Nat × List UInt8 × List W :=
  if o.kind = 1 then (if o.bs.length + (readL b ws).length ≤ size then (0, b, ws ++ [(false, o.bs)]) else (7, b, ws))
  else if o.kind = 2 then (if o.bs.length ≤ size then (0, b, ws ++ [(true, o.bs)]) else (7, b, ws))
  else if o.kind = 3 then (0, readL b ws, [])
  else if o.kind = 4 then (0, afterL b ws o.num.toNat, [])
  else (0, b, ws)
theorem stepM_mass (size : Nat) (b : List UInt8) (ws : List W) (o : Op13) : (stepM size b ws o).2.1.length + mass (stepM size b ws o).2.2 ≤ b.length + mass ws + size ∧ (stepM size b ws o).2.2.length ≤ ws.length + 1 := by
  have h1 := after_len b ws (pend ws)
  have h2 := after_len b ws o.num.toNat
  unfold stepM
  repeat' split
  all_goals simp [mass_append, mass, readL] at *
  all_goals omega
def StepEnd (w : World) (F : Nat → Prop) (g size : Nat) (r : Nat × List UInt8 × List W) (e : Ending) (w' : World) : Prop := e = .returned (.int .i64 (r.1 : Nat)) ∧ DiskOp w F g size r.2.1 r.2.2 w'
set_option maxHeartbeats 1000000 in
theorem do_any (o : Op13) (A : Option Addr) (n c B : Nat) (F : Nat → Prop) (g size : Nat) (lasts : List UInt8) (ws : List W) (w : World) (hD : DiskAt w F g size lasts ws) (hm : lasts.length + mass ws ≤ 1099511627776) (hl : ws.length ≤ 1099511627776) (hs : size ≤ 1099511627776)
    (hb : RdB w B A n o.bs) (hn1 : -9223372036854775808 ≤ o.num) (hn2 : o.num ≤ 9223372036854775807) :
    Calls Try.prog 11 #[.pointer (some ⟨g, 0, none⟩), .agg #[.int .i64 o.kind, .int .i64 o.num, .slice A n c]] w (StepEnd w F g size (stepM size lasts ws o)) := by
  obtain ⟨k, z, bs⟩ := o
  simp only at hb hn1 hn2 ⊢
  obtain ⟨w1, hw1⟩ : ∃ w1, w1 = w.alloc (.cells #[.int .i64 k, .int .i64 z, .slice A n c] 34) := ⟨_, rfl⟩
  have h1 : Below w.heap.size w w1 := by rw [hw1]; exact (Below.refl _ _).alloc (Nat.le_refl _) _
  have hD1 := hD.below h1
  have hb1 := hb.size.below h1
  have HW := Lib.hid hw1
  clear hw1
  by_cases k1 : k = 1
  · subst k1
    by_cases hf : bs.length + (readL lasts ws).length ≤ size
    · have he : stepM size lasts ws ⟨1, z, bs⟩ = (0, lasts, ws ++ [(false, bs)]) := by simp [stepM, hf]
      rw [he]
      have HE := Lib.hid he
      clear he
      go_enter Try.func11, Try.ntmps11
      go_wp2_with fail
      rw [← HW.out]
      refine (append_any _ _ _ _ bs F g size lasts ws w1 hD1 hm hl hs hb1 (by rw [hb.1]; omega)).mono ?_
      rintro e w2 ⟨rfl, h2⟩
      have HP := Lib.hid (h2.of_below h1)
      clear h2
      go_wp2_with fail
      go_ret
      exact ⟨rfl, HP.out⟩
    · have he : stepM size lasts ws ⟨1, z, bs⟩ = (7, lasts, ws) := by simp [stepM, hf]
      rw [he]
      clear he
      go_enter Try.func11, Try.ntmps11
      go_wp2_with fail
      rw [← HW.out]
      refine (append_full _ _ _ F g size lasts ws w1 hD1 hm hl hs (by rw [hb.1]; omega)).mono ?_
      rintro e w2 ⟨rfl, h2⟩
      have HP := Lib.hid (DiskOp.refl hD (h1.trans (h2.mono h1.size)))
      clear h2
      go_wp2_with fail
      go_ret
      exact ⟨rfl, HP.out⟩
  · by_cases k2 : k = 2
    · subst k2
      by_cases hf : bs.length ≤ size
      · have he : stepM size lasts ws ⟨2, z, bs⟩ = (0, lasts, ws ++ [(true, bs)]) := by simp [stepM, hf]
        rw [he]
        clear he k1
        go_enter Try.func11, Try.ntmps11
        go_wp2_with fail
        rw [← HW.out]
        refine (swap_any _ _ _ _ bs F g size lasts ws w1 hD1 hl hs hb1 (by rw [hb.1]; omega)).mono ?_
        rintro e w2 ⟨rfl, h2⟩
        have HP := Lib.hid (h2.of_below h1)
        clear h2
        go_wp2_with fail
        go_ret
        exact ⟨rfl, HP.out⟩
      · have he : stepM size lasts ws ⟨2, z, bs⟩ = (7, lasts, ws) := by simp [stepM, hf]
        rw [he]
        clear he k1
        go_enter Try.func11, Try.ntmps11
        go_wp2_with fail
        rw [← HW.out]
        refine (swap_full _ _ _ F g size lasts ws w1 hD1 (by rw [hb.1]; omega)).mono ?_
        rintro e w2 ⟨rfl, h2⟩
        subst h2
        have HP := Lib.hid (DiskOp.refl hD h1)
        go_wp2_with fail
        go_ret
        exact ⟨rfl, HP.out⟩
    · by_cases k3 : k = 3
      · subst k3
        have he : stepM size lasts ws ⟨3, z, bs⟩ = (0, readL lasts ws, []) := by simp [stepM]
        rw [he]
        clear he k1 k2
        go_enter Try.func11, Try.ntmps11
        go_wp2_with fail
        rw [← HW.out]
        refine (sync_any F g size lasts ws w1 hD1 hm hl).mono ?_
        rintro e w2 ⟨rfl, h2⟩
        have HP := Lib.hid (h2.of_below h1)
        clear h2
        go_wp2_with fail
        go_ret
        exact ⟨rfl, HP.out⟩
      · by_cases k4 : k = 4
        · subst k4
          have he : stepM size lasts ws ⟨4, z, bs⟩ = (0, afterL lasts ws z.toNat, []) := by simp [stepM]
          rw [he]
          clear he k1 k2 k3
          by_cases hz : z < 0
          · have hz0 : z.toNat = 0 := by omega
            rw [hz0]
            clear hz0
            go_enter Try.func11, Try.ntmps11
            go_wp2_with fail
            rw [← HW.out]
            refine (crash_neg z F g size lasts ws w1 hD1 hm hl hz).mono ?_
            rintro e w2 ⟨rfl, h2⟩
            have HP := Lib.hid (h2.of_below h1)
            clear h2
            go_wp2_with fail
            go_ret
            exact ⟨rfl, HP.out⟩
          · obtain ⟨y, rfl⟩ := Int.eq_ofNat_of_zero_le (show 0 ≤ z by omega)
            rw [Int.toNat_natCast]
            clear hz
            go_enter Try.func11, Try.ntmps11
            go_wp2_with fail
            rw [← HW.out]
            refine (crash_nat y F g size lasts ws w1 hD1 hm hl (by omega)).mono ?_
            rintro e w2 ⟨rfl, h2⟩
            have HP := Lib.hid (h2.of_below h1)
            clear h2
            go_wp2_with fail
            go_ret
            exact ⟨rfl, HP.out⟩
        · have he : stepM size lasts ws ⟨k, z, bs⟩ = (0, lasts, ws) := by simp [stepM, k1, k2, k3, k4]
          rw [he]
          clear he
          have q1 : (k == 1) = false := by rw [beq_eq_false_iff_ne]; exact k1
          have q2 : (k == 2) = false := by rw [beq_eq_false_iff_ne]; exact k2
          have q3 : (k == 3) = false := by rw [beq_eq_false_iff_ne]; exact k3
          have q4 : (k == 4) = false := by rw [beq_eq_false_iff_ne]; exact k4
          have HP := Lib.hid (DiskOp.refl hD h1)
          clear k1 k2 k3 k4
          go_enter Try.func11, Try.ntmps11
          go_wp2_with fail
          go_ret
          rw [HW.out] at HP
          exact ⟨rfl, HP.out⟩
end Go.Proofs.Ytpnnhghgngkboaa

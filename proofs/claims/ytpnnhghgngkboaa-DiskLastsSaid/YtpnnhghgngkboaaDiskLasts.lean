/- DiskLasts: what was synced is there behind any crash: the whole statement, without a condition. -/
import Derived.Test.YtpnnhghgngkboaaDiskMore
namespace Go.Proofs.Ytpnnhghgngkboaa.DiskLasts
open Go.ChangeShapes Go.WideShapes Go.ChangeAt Go.RowKit Go.Deep
open Disk
set_option linter.unusedVariables false

/-- Slices of bytes, as a slice reads. -/
def RowsAt (W : World) (a : Option Addr) (n : Nat) (l : List (List UInt8)) : Prop := n = l.length ∧ ∀ i b, l[i]? = some b → ∃ ad A m c, a = some ad ∧ W.cell? (ad.add i) = some (.slice A m c) ∧ RdB W W.heap.size A m b ∧ m ≤ c ∧ c ≤ maxLen
theorem RowsAt.below {w w' : World} {a : Option Addr} {n : Nat} {l : List (List UInt8)} (h : RowsAt w a n l) (hb : Below w.heap.size w w') : RowsAt w' a n l := by
  refine ⟨h.1, fun i b hi => ?_⟩
  obtain ⟨ad, A, m, c, h1, h2, h3, h4⟩ := h.2 i b hi
  exact ⟨ad, A, m, c, h1, (hb.cell (World.block_lt_of_cell? w _ h2)).trans h2, (h3.below hb).more hb.size, h4⟩
section
variable {H : Type} {enc : TypeId × Value → H} {W : World} {base : Nat} {sp : Nat → Bool} {held : Bool} {fuel : Nat} {cs : List Value} {x : DataW H × List MemPlace}
theorem rd_rows (hf : DataW.trod enc Try.prog W base sp held fuel 45 cs = some x) : ∃ (a : Option Addr) (n c : Nat) (l : List (List UInt8)), cs = [.slice a n c] ∧ RowsAt W a n l ∧ n ≤ c ∧ c ≤ maxLen := by
  obtain ⟨a, n, c, h1, h2, h3, h4⟩ := rd_slice Try.underlying45 cellsBs hf
  have hex : ∀ i, ∃ b : List UInt8, i < n → ∃ ad A m c, a = some ad ∧ W.cell? (ad.add i) = some (.slice A m c) ∧ RdB W W.heap.size A m b ∧ m ≤ c ∧ c ≤ maxLen := by
    intro i
    by_cases hi : i < n
    · obtain ⟨ad, cs', fu, x', ha, hl, hc, ht⟩ := h4 i hi
      obtain ⟨A, m, c', b, he, r1, r2, r3⟩ := rd_bytes ht
      subst he
      have c0 := hc 0 (by omega)
      rw [Nat.mul_one, show (ad.add i).add 0 = ad.add i from by unfold Addr.add; simp] at c0
      exact ⟨b, fun _ => ⟨ad, A, m, c', ha, c0, r1, r2, r3⟩⟩
    · exact ⟨[], fun h => absurd h hi⟩
  refine ⟨a, n, c, (List.range n).map fun i => (hex i).choose, h1, ⟨by simp, fun i o ho => ?_⟩, h2, h3⟩
  rw [List.getElem?_map] at ho
  by_cases hi : i < n
  · rw [List.getElem?_range hi] at ho
    simp only [Option.map_some, Option.some.injEq] at ho
    subst ho
    exact (hex i).choose_spec hi
  · rw [List.getElem?_eq_none (by simp; omega)] at ho; cases ho
end
theorem cellsL : (Try.prog).cellsOf 47 = 4 := by kernel_rfl
theorem cellsO : (Try.prog).cellsOf 22 = 1 := by kernel_rfl
theorem cellsR : (Try.prog).cellsOf 45 = 1 := by kernel_rfl
/-- The struct that came in. -/
theorem open_q {H : Type} {enc : TypeId × Value → H} {W : World} {base : Nat} {sp : Nat → Bool} {held : Bool} {r : Reach} {b0 : Nat} {v : Value} {d : DataW H} {p : List MemPlace}
    (hv : Value.okWide Try.prog W r b0 47 v) (h : DataW.Trod enc Try.prog W base sp held 47 v d p) :
    ∃ (s : Int) (a : Option Addr) (n c : Nat) (l : List Op13) (a2 : Option Addr) (n2 c2 : Nat) (l2 : List (List UInt8)) (z : Int), v = .agg #[.int .i64 s, .slice a n c, .slice a2 n2 c2, .int .i64 z] ∧
      (OpsAt W a n l ∧ n ≤ c ∧ c ≤ maxLen) ∧ (RowsAt W a2 n2 l2 ∧ n2 ≤ c2 ∧ c2 ≤ maxLen) ∧ (-9223372036854775808 ≤ s ∧ s ≤ 9223372036854775807) ∧ -9223372036854775808 ≤ z ∧ z ≤ 9223372036854775807 := by
  obtain ⟨cs, rfl, hsz⟩ := okWide_struct Try.underlying47 hv
  rw [cellsL] at hsz
  obtain ⟨fuel, hf0⟩ := h
  have hf : DataW.trod enc Try.prog W base sp held fuel 47 cs.toList = some (d, p) := hf0
  obtain ⟨_, _, g0⟩ := rd_field Try.underlying47 hf 0 3 0 1 rfl cellsI
  obtain ⟨_, _, g1⟩ := rd_field Try.underlying47 hf 1 22 1 1 rfl cellsO
  obtain ⟨_, _, g2⟩ := rd_field Try.underlying47 hf 2 45 2 1 rfl cellsR
  obtain ⟨_, _, g3⟩ := rd_field Try.underlying47 hf 3 3 3 1 rfl cellsI
  clear hf hf0
  obtain ⟨l⟩ := cs
  match l, hsz with
  | [v0, v1, v2, v3], _ =>
    obtain ⟨s, e0, hs⟩ := rd_int g0
    obtain ⟨a1, n1, c1, b1, e1, r1⟩ := rd_ops g1
    obtain ⟨a2, n2, c2, b2, e2, r2⟩ := rd_rows g2
    obtain ⟨z, e3, hz⟩ := rd_int g3
    injection e0 with e0 _
    injection e1 with e1 _
    injection e2 with e2 _
    injection e3 with e3 _
    subst e0 e1 e2 e3
    exact ⟨s, a1, n1, c1, b1, a2, n2, c2, b2, z, rfl, r1, r2, hs, hz⟩

/-- Two disks of the call's own, apart. -/
def Two (w : World) (F : Nat → Prop) (g : Nat) (G : Nat → Prop) (c size : Nat) (lasts : List UInt8) (ws : List W) (l2 : List UInt8) (ws2 : List W) (w' : World) : Prop :=
  DL w F g size lasts ws w' ∧ DL w G c size l2 ws2 w' ∧ ∀ k, F k → ¬ G k
section
variable {w w1 w2 : World} {F G : Nat → Prop} {g c size : Nat} {lasts l2 l3 : List UInt8} {ws ws2 ws3 : List W}
theorem Two.fst (h : Two w F g G c size lasts ws l2 ws2 w1) (ho : DiskOp w1 F g size l3 ws3 w2) : ∃ F', Two w F' g G c size l3 ws3 l2 ws2 w2 ∧ Only F w1 w2 := by
  obtain ⟨h1, h2, h3⟩ := h
  obtain ⟨F', k1, k2, k3⟩ := h1.op ho
  refine ⟨F', ⟨k1, ⟨h2.1.keep (k2.keeps (fun k hk hf => h3 k hf hk) h2.1.lt), h2.2.1, k1.2.2⟩, fun k hk hg => ?_⟩, k2⟩
  rcases k3 k hk with h | h
  · exact h3 k h hg
  · have := h2.1.lt k hg; omega
theorem Two.snd (h : Two w F g G c size lasts ws l2 ws2 w1) (ho : DiskOp w1 G c size l3 ws3 w2) : ∃ G', Two w F g G' c size lasts ws l3 ws3 w2 ∧ Only G w1 w2 := by
  obtain ⟨h1, h2, h3⟩ := h
  obtain ⟨G', k1, k2, k3⟩ := h2.op ho
  refine ⟨G', ⟨⟨h1.1.keep (k2.keeps (fun k hk hf => h3 k hk hf) h1.1.lt), h1.2.1, k1.2.2⟩, k1, fun k hk hg => ?_⟩, k2⟩
  rcases k3 k hg with h | h
  · exact h3 k hk h
  · have := h1.1.lt k hk; omega
theorem Two.below (h : Two w F g G c size lasts ws l2 ws2 w1) (hb : Below w1.heap.size w1 w2) : Two w F g G c size lasts ws l2 ws2 w2 := ⟨h.1.below hb, h.2.1.below hb, h.2.2⟩
theorem Two.of (h : DL w F g size lasts ws w1) (h2 : DiskAt w2 G c size l2 ws2) (hG : ∀ k, G k → w1.heap.size ≤ k) (hb : Below w1.heap.size w1 w2) : Two w F g G c size lasts ws l2 ws2 w2 :=
  ⟨h.below hb, DL.of_new h.2.2 h2 hG hb, fun k hk hg => by have := h.1.lt k hk; have := hG k hg; omega⟩
end

theorem waiting_none (F : Nat → Prop) (g size : Nat) (lasts : List UInt8) (w : World) (hD : DiskAt w F g size lasts []) :
    Calls Try.prog 16 #[.pointer (some ⟨g, 0, none⟩)] w fun e w' => e = .returned (.int .i64 0) ∧ Below w.heap.size w w' := waiting_any F g size lasts [] w hD (by simp [mass]) (by simp)
/-- What waits is appends: bytes T. -/
def Apps (X : List UInt8) (ws : List W) (T : List UInt8) : Prop := pend ws = T.length ∧ mass ws = T.length ∧ ∀ n, afterL X ws n = X ++ T.take n
theorem Apps.nil (X : List UInt8) : Apps X [] [] := ⟨rfl, rfl, fun n => by simp [afterL]⟩
theorem Apps.snoc {X : List UInt8} {ws : List W} {T : List UInt8} (h : Apps X ws T) (b : List UInt8) : Apps X (ws ++ [(false, b)]) (T ++ b) := by
  obtain ⟨h1, h2, h3⟩ := h
  refine ⟨by rw [pend_append, h1]; simp [pend, units], by rw [mass_append, h2]; simp [mass], fun n => ?_⟩
  rw [after_append, h3, h1, List.take_append]
  simp only [afterL, units, doW]
  simp
  rw [← List.take_take, List.take_length]
  by_cases hz : 0 < min (n - T.length) b.length
  · rw [if_pos hz]
  · rw [if_neg hz]
    have : b.take (n - T.length) = [] := by
      rw [List.take_eq_nil_iff]
      by_cases h : 0 < n - T.length
      · exact .inr (List.length_eq_zero_iff.1 (by omega))
      · exact .inl (by omega)
    rw [this, List.append_nil]
/-- No block of F. -/
def Far (F : Nat → Prop) (A : Option Addr) : Prop := ∀ k, A.map (·.block) = some k → ¬ F k
theorem OwnB.far {w w' : World} {F : Nat → Prop} {base n c : Nat} {A : Option Addr} {bs : List UInt8} (h : OwnB w base A n c bs) (ho : Only F w w') (hF : Far F A) : OwnB w' base A n c bs :=
  ⟨h.1, ownsRow_keep h.2 fun k hk => ho.block k (h.lt k hk).2 (hF k hk)⟩
theorem Far.grow {w : World} {F F' : Nat → Prop} {base n c : Nat} {A : Option Addr} {bs : List UInt8} (hF : Far F A) (h : OwnB w base A n c bs) (hg : Grows F F' w) : Far F' A := fun k hk hf => by
  rcases hg k hf with h1 | h1
  · exact hF k hk h1
  · have := (h.lt k hk).2; omega
theorem Apps.read {X : List UInt8} {ws : List W} {T : List UInt8} (h : Apps X ws T) : readL X ws = X ++ T := by
  unfold readL
  rw [h.2.2, h.1, List.take_length]

set_option maxRecDepth 100000 in
set_option maxHeartbeats 4000000 in
theorem walk (s : Int) (a : Option Addr) (n c : Nat) (l : List Op13) (a2 : Option Addr) (n2 c2 : Nat) (l2 : List (List UInt8)) (z : Int) (w : World) (hl : OpsAt w a n l ∧ n ≤ c ∧ c ≤ maxLen) (hl2 : RowsAt w a2 n2 l2 ∧ n2 ≤ c2 ∧ c2 ≤ maxLen)
    (hs : -9223372036854775808 ≤ s ∧ s ≤ 9223372036854775807) (hz : -9223372036854775808 ≤ z ∧ z ≤ 9223372036854775807) :
    Calls Try.prog 4 #[.agg #[.int .i64 s, .slice a n c, .slice a2 n2 c2, .int .i64 z]] w fun e w' => e = .returned (.bool true) ∧ Below w.heap.size w w' := by
  obtain ⟨hl, hn, hc⟩ := hl
  obtain ⟨hl2, hn2, hc2⟩ := hl2
  have HL := Lib.hid hl.1
  have HL2 := Lib.hid hl2.1
  obtain ⟨wb, hwb⟩ : ∃ wb, wb = w.alloc (.cells #[.int .i64 s, .slice a n c, .slice a2 n2 c2, .int .i64 z] 47) := ⟨_, rfl⟩
  have hb0 : Below w.heap.size w wb := by rw [hwb]; exact (Below.refl _ _).alloc (Nat.le_refl _) _
  have hk0 : Blk wb w.heap.size 47 #[.int .i64 s, .slice a n c, .slice a2 n2 c2, .int .i64 z] := by rw [hwb]; exact Blk.new w _ _
  have HW := Lib.hid hwb
  clear hwb
  by_cases hbig : 200 < n
  case pos =>
    go_enter Try.func4, Try.ntmps4
    go_wp2_with fail
    rw [← HW.out]
    refine (alive13 _).mono ?_
    rintro e w1 ⟨rfl, h1⟩
    have hk1 := hk0.below h1 hk0.lt
    have q0 := hk1.cell 0
    have q1 := hk1.cell 1
    have q2 := hk1.cell 2
    have q3 := hk1.cell 3
    go_wp2_with fail
    go_quiet (fail)
    have B1 := below_drewN (hb0.trans (h1.mono hb0.size)) nq
    clear q0 q1 q2 q3 hk1 h1
    generalize w1.drewN nq = wq at B1
    go_wp2_with fail
    refine (great_long a n c l _ (hl.below B1) hc hn hbig).mono ?_
    rintro e w2 ⟨rfl, h2⟩
    go_wp2_with fail
    go_ret
    exact ⟨rfl, B1.trans (h2.mono B1.size)⟩
  by_cases hsum : 20000 < opsSum l
  case pos =>
    have hd := Lib.hid (decide_eq_true hsum)
    go_enter Try.func4, Try.ntmps4
    go_wp2_with fail
    rw [← HW.out]
    refine (alive13 _).mono ?_
    rintro e w1 ⟨rfl, h1⟩
    have hk1 := hk0.below h1 hk0.lt
    have q0 := hk1.cell 0
    have q1 := hk1.cell 1
    have q2 := hk1.cell 2
    have q3 := hk1.cell 3
    go_wp2_with fail
    go_quiet (fail)
    have B1 := below_drewN (hb0.trans (h1.mono hb0.size)) nq
    clear q0 q1 q2 q3 hk1 h1
    generalize w1.drewN nq = wq at B1
    go_wp2_with fail
    refine (great_short a n c l _ (hl.below B1) (by omega)).mono ?_
    rw [hd.out]
    rintro e w2 ⟨rfl, h2⟩
    go_wp2_with fail
    go_ret
    exact ⟨rfl, B1.trans (h2.mono B1.size)⟩
  have hd := Lib.hid (decide_eq_false hsum)
  by_cases hmore : 50 < n2
  case pos =>
    have dm : decide ((50 : Int) < (n2 : Int)) = true := decide_eq_true (by omega)
    go_enter Try.func4, Try.ntmps4
    go_wp2_with fail
    rw [← HW.out]
    refine (alive13 _).mono ?_
    rintro e w1 ⟨rfl, h1⟩
    have hk1 := hk0.below h1 hk0.lt
    have q0 := hk1.cell 0
    have q1 := hk1.cell 1
    have q2 := hk1.cell 2
    have q3 := hk1.cell 3
    go_wp2_with fail
    go_quiet (fail)
    have B1 := below_drewN (hb0.trans (h1.mono hb0.size)) nq
    clear q0 q1 q2 q3 hk1 h1
    generalize w1.drewN nq = wq at B1
    go_wp2_with fail
    refine (great_short a n c l _ (hl.below B1) (by omega)).mono ?_
    rw [hd.out]
    rintro e w2 ⟨rfl, h2⟩
    go_wp2_with fail
    go_ret
    exact ⟨rfl, B1.trans (h2.mono B1.size)⟩
  have dm : decide ((50 : Int) < (n2 : Int)) = false := decide_eq_false (by omega)
  by_cases hbad : s < 1 ∨ 16384 < s
  case pos =>
    go_enter Try.func4, Try.ntmps4
    go_wp2_with fail
    rw [← HW.out]
    refine (alive13 _).mono ?_
    rintro e w1 ⟨rfl, h1⟩
    have hk1 := hk0.below h1 hk0.lt
    have q0 := hk1.cell 0
    have q1 := hk1.cell 1
    have q2 := hk1.cell 2
    have q3 := hk1.cell 3
    go_wp2_with fail
    go_quiet (fail)
    have B1 := below_drewN (hb0.trans (h1.mono hb0.size)) nq
    clear q0 q1 q2 q3 hk1 h1
    generalize w1.drewN nq = wq at B1
    go_wp2_with fail
    refine (great_short a n c l _ (hl.below B1) (by omega)).mono ?_
    rw [hd.out]
    rintro e w2 ⟨rfl, h2⟩
    go_wp2_with fail
    refine (dnew_bad s _ hbad).mono ?_
    rintro e w3 ⟨rfl, rfl⟩
    go_wp2_with fail
    refine (dnew_bad s _ hbad).mono ?_
    rintro e w3 ⟨rfl, rfl⟩
    go_wp2_with fail
    go_ret
    exact ⟨rfl, B1.trans (h2.mono B1.size)⟩
  obtain ⟨size, rfl⟩ := Int.eq_ofNat_of_zero_le (show 0 ≤ s by omega)
  have hs1 : 1 ≤ size := by omega
  have hs2 : size ≤ 16384 := by omega
  clear hbad hs hsum
  go_enter Try.func4, Try.ntmps4
  go_wp2_with fail
  rw [← HW.out]
  refine (alive13 _).mono ?_
  rintro e w1 ⟨rfl, h1⟩
  have hk1 := hk0.below h1 hk0.lt
  have q0 := hk1.cell 0
  have q1 := hk1.cell 1
  have q2 := hk1.cell 2
  have q3 := hk1.cell 3
  go_wp2_with fail
  go_quiet (fail)
  have B1 := below_drewN (hb0.trans (h1.mono hb0.size)) nq
  clear q0 q1 q2 q3 hk1 h1
  generalize w1.drewN nq = wq at B1
  go_wp2_with fail
  refine (great_short a n c l _ (hl.below B1) (by omega)).mono ?_
  rw [hd.out]
  rintro e w2 ⟨rfl, h2⟩
  have B2 := B1.trans (h2.mono B1.size)
  clear h2 B1
  go_wp2_with fail
  refine (dnew_any size _ hs1 hs2).mono ?_
  rintro e w3 ⟨gd, Fd, rfl, hD1, hF1, hb1⟩
  have L1 := DL.of_new B2 hD1 hF1 hb1
  clear hD1 hF1 hb1 B2
  go_wp2_with fail
  refine (dnew_any size _ hs1 hs2).mono ?_
  rintro e w4 ⟨gc, Fc, rfl, hD2, hF2, hb2⟩
  have T1 := Two.of L1 hD2 hF2 hb2
  clear L1 hD2 hF2 hb2
  go_wp2_with fail
  go_loopw [58] (fun i wr => ∃ (k : Nat) (F G : Nat → Prop) (lasts : List UInt8) (ws : List W), k ≤ n ∧ i = .int .i64 k ∧ Two w F gd G gc size lasts ws lasts ws wr ∧ Fits size lasts ws ∧ lasts.length + mass ws ≤ (k + 1) * 16384 ∧ ws.length ≤ k) (fun i _ => n - (intOf i).toNat)
  case atStart => exact ⟨0, Fd, Fc, [], [], by omega, rfl, T1, Fits.empty _, by simp [mass], by simp⟩
  case round =>
    clear T1
    obtain ⟨k, F, G, lasts, ws, hk, rfl, T, hF, hms, hwl⟩ := hrel
    by_cases hlt : k < n
    · have hkl : k < l.length := by rw [← HL.out]; exact hlt
      obtain ⟨ad, A, m, c', rfl, q0, q1, q2, q3, q4, q5, q6, q7⟩ := hl.keep T.1.2.2 k _ (List.getElem?_eq_getElem hkl)
      generalize l[k] = o at q0 q1 q2 q3 q6 q7
      have hms2 : lasts.length + mass ws ≤ 4000000 := by omega
      obtain ⟨wv, hwv⟩ : ∃ wv, wv = wr.alloc (.cells #[.int .i64 o.kind, .int .i64 o.num, .slice A m c'] 34) := ⟨_, rfl⟩
      have hb1 : Below wr.heap.size wr wv := by rw [hwv]; exact (Below.refl _ _).alloc (Nat.le_refl _) _
      have hv : Blk wv wr.heap.size 34 #[.int .i64 o.kind, .int .i64 o.num, .slice A m c'] := by rw [hwv]; exact Blk.new wr _ _
      have HWV := Lib.hid hwv
      clear hwv
      have hFlt := T.1.1.lt
      have hGlt := T.2.1.1.lt
      have v4 : wr.heap.size < wv.heap.size := hv.lt
      have T2 := T.below hb1
      have hbr := hb1.mono T.1.2.2.size
      have f2 := step_fits o hF
      have m2 := stepM_mass size lasts ws o
      have q3v := q3.below hbr
      have t0 := hv.cell 0
      have t1 := hv.cell 1
      have t2 := hv.cell 2
      go_wp2_with fail
      rw [← HWV.out]
      refine (do_any o A m c' _ F gd size lasts ws _ T2.1.1 (by omega) (by omega) (by omega) q3v q7.1 q7.2).mono ?_
      rintro e w5 ⟨rfl, h5⟩
      obtain ⟨F5, T3, ho⟩ := T2.fst h5
      have hv5 := hv.only ho (fun h => by have := hFlt _ h; omega)
      have hbr5 : Below w.heap.size wr w5 := hbr.trans (ho.to_below T2.1.2.1 T2.1.2.2.size)
      have q3w := q3.below hbr5
      clear h5 ho T2 t0 t1 t2 hv q3v hb1 hbr hbr5
      have t0 := hv5.cell 0
      have t1 := hv5.cell 1
      have t2 := hv5.cell 2
      go_wp2_with fail
      refine (do_any o A m c' _ G gc size lasts ws _ T3.2.1.1 (by omega) (by omega) (by omega) q3w q7.1 q7.2).mono ?_
      rintro e w6 ⟨rfl, h6⟩
      obtain ⟨G6, T4, ho⟩ := T3.snd h6
      clear h6 ho T3 q3w hv5 t0 t1 t2
      generalize stepM size lasts ws o = r at *
      obtain ⟨x, l3, ws3⟩ := r
      simp only at f2 m2 T4 ⊢
      have m3 : l3.length + mass ws3 ≤ (k + 1 + 1) * 16384 := by have := m2.1; omega
      have m4 : ws3.length ≤ k + 1 := by have := m2.2; omega
      clear m2
      go_wp2_with fail
      go_roundw
      case rel => exact ⟨k + 1, F5, G6, l3, ws3, by omega, by go_num, T4, f2, m3, m4⟩
      case measure => simp [intOf]; omega
    · have m5 : lasts.length + mass ws ≤ 4000000 := by omega
      have m6 : ws.length ≤ 4000000 := by omega
      have m7 := pend_le ws
      clear hms hwl
      go_wp2_with fail
      refine (sync_any F gd size lasts ws _ T.1.1 (Nat.le_trans m5 (by decide)) (Nat.le_trans m6 (by decide))).mono ?_
      rintro e w5 ⟨rfl, h5⟩
      obtain ⟨F5, T2, _⟩ := T.fst h5
      clear h5 T
      go_wp2_with fail
      refine (waiting_any G gc size lasts ws _ T2.2.1.1 (Nat.le_trans (by omega) (show 4000000 ≤ _ by decide)) (Nat.le_trans m6 (by decide))).mono ?_
      rintro e w6 ⟨rfl, h6⟩
      have T3 := T2.below h6
      clear T2 h6
      go_wp2_with fail
      refine (crash_nat (pend ws) G gc size lasts ws _ T3.2.1.1 (Nat.le_trans m5 (by decide)) (Nat.le_trans m6 (by decide)) (by omega)).mono ?_
      rintro e w7 ⟨rfl, h7⟩
      obtain ⟨G7, T4, _⟩ := T3.snd h7
      rw [show afterL lasts ws (pend ws) = readL lasts ws from rfl] at T4
      have hX : (readL lasts ws).length ≤ 16384 := Nat.le_trans hF.read hs2
      generalize readL lasts ws = X at T4 hX
      clear h7 T3 m7 m6 m5 hF
      obtain ⟨pw, hpw⟩ : ∃ pw, pw = pend ws := ⟨_, rfl⟩
      rw [← hpw]
      clear hpw
      go_wp2_with fail
      refine (read_any F5 gd size X [] _ T4.1.1 (by simp [mass]; omega) (by simp)).mono ?_
      rintro e w8 ⟨A8, n8, c8, rfl, o8, h8⟩
      have hX0 : readL X [] = X := rfl
      rw [hX0] at o8
      have T5 := T4.below h8
      have hF5 := T4.1.1.lt
      clear h8 T4
      go_wp2_with fail
      refine (read_any G7 gc size X [] _ T5.2.1.1 (by simp [mass]; omega) (by simp)).mono ?_
      rintro e w9 ⟨A9, n9, c9, rfl, o9, h9⟩
      rw [hX0] at o9
      have o8b := o8.below h9 (Nat.le_refl _)
      have T6 := T5.below h9
      clear o8
      go_wp2_with fail
      refine (same_eq _ _ _ _ _ _ X _ _ _ o8b.rd o9.rd (by rw [o8b.1]; omega)).mono ?_
      rintro e w10 ⟨rfl, m10, rfl⟩
      have L1 : DL w F5 gd size X [] (w9.drewN m10) := T6.1.below (below_drewN (Below.refl _ _) _)
      have o8c := o8b.below (below_drewN (Below.refl w9.heap.size w9) m10) (Nat.le_refl _)
      have hfar : Far F5 A8 := fun k hk hf => by have := hF5 k hf; have := (o8c.lt k hk).1; omega
      have o8d := o8c.mono (Nat.zero_le _)
      clear T5 T6 o8b o9 h9 o8c hF5
      generalize w9.drewN m10 = wd at L1 o8d
      obtain rfl := o8d.1
      go_wp2_with fail
      refine (waiting_none F5 gd size X _ L1.1).mono ?_
      rintro e w11 ⟨rfl, h11⟩
      have L2 := L1.below h11
      have o8e := o8d.below h11 (Nat.le_refl _)
      clear L1 o8d h11
      go_wp2_with fail
      obtain ⟨wo, rfl⟩ : ∃ wo, wo = wr := ⟨_, rfl⟩
      go_loopw [14, 89] (fun s i wr => ∃ (k : Nat) (F : Nat → Prop) (ws : List W) (T : List UInt8), k ≤ n2 ∧ i = .int .i64 k ∧ s = .int .i64 (T.length : Nat) ∧ DL w F gd size X ws wr ∧ Apps X ws T ∧ T.length ≤ k * 1000 ∧ ws.length ≤ k ∧ OwnB wr 0 A8 X.length c8 X ∧ Far F A8) (fun _ i _ => n2 - (intOf i).toNat)
      case atStart => exact ⟨0, F5, [], [], by omega, rfl, rfl, L2, Apps.nil _, by simp, by simp, o8e, hfar⟩
      case round =>
        clear L2 o8e hfar
        obtain ⟨k, F, ws, T, hk, rfl, rfl, L, hA, hTl, hwl, ho8, hfar⟩ := hrel
        have hread := Lib.hid hA.read
        have hT := hA.2.1
        by_cases hlt : k < n2
        · have hkl : k < l2.length := by rw [← HL2.out]; exact hlt
          obtain ⟨ad, A, m, c', rfl, q0, q3, q4, q5⟩ := (hl2.below L.2.2).2 k _ (List.getElem?_eq_getElem hkl)
          generalize l2[k] = b at q0 q3
          have hm := Lib.hid q3.1
          by_cases hbl : 1000 < m
          · have db : decide ((1000 : Int) < (m : Int)) = true := decide_eq_true (by omega)
            go_wp2_with fail
            go_ret
            exact ⟨rfl, L.2.2⟩
          · have db : decide ((1000 : Int) < (m : Int)) = false := decide_eq_false (by omega)
            have hbm : b.length ≤ 1000 := by rw [← hm.out]; omega
            have hlen : (readL X ws).length = X.length + T.length := by rw [hread.out, List.length_append]
            have HLE := Lib.hid hlen
            clear hlen
            by_cases hfit : (m : Int) ≤ (size : Int) - ((readL X ws).length : Int)
            · go_wp2_with fail
              refine (append_any A m c' _ b F gd size X ws _ L.1 (by omega) (by omega) (by omega) q3 hfit).mono ?_
              rintro e w12 ⟨rfl, h12⟩
              obtain ⟨F2, L2, ho, hg⟩ := L.op h12
              have ho9 := OwnB.far ho8 ho hfar
              have hfar2 := hfar.grow ho8 hg
              have hA2 := hA.snoc b
              have hwl2 : (ws ++ [(false, b)]).length ≤ k + 1 := by simp; omega
              have hTl2 : (T ++ b).length ≤ (k + 1) * 1000 := by simp; omega
              have hl3 : ((T ++ b).length : Int) = (T.length : Int) + (m : Int) := by rw [List.length_append, hm.out]; omega
              have HL3 := Lib.hid hl3
              clear h12 L ho hg hfar ho8 hA hl3
              go_wp2_with fail
              go_roundw
              case rel => exact ⟨k + 1, F2, _, T ++ b, by omega, by go_num, by rw [HL3.out], L2, hA2, hTl2, hwl2, ho9, hfar2⟩
              case measure => simp [intOf]; omega
            · have hfx := Lib.hid hfit
              go_wp2_with fail
              refine (append_full A m c' F gd size X ws _ L.1 (by omega) (by omega) (by omega) (by omega)).mono ?_
              rintro e w12 ⟨rfl, h12⟩
              have L2 := L.below h12
              have ho9 := ho8.below h12 (Nat.le_refl _)
              clear L ho8
              go_wp2_with fail
              go_roundw
              case rel => exact ⟨k + 1, F, _, T, by omega, by go_num, rfl, L2, hA, by omega, by omega, ho9, hfar⟩
              case measure => simp [intOf]; omega
        · have mb : X.length + mass ws ≤ 4000000 := by omega
          have wb' : ws.length ≤ 4000000 := by omega
          have hTb : T.length ≤ 4000000 := by omega
          have hP := hA.1
          go_wp2_with fail
          refine (read_any F gd size X ws _ L.1 (Nat.le_trans mb (by decide)) (Nat.le_trans wb' (by decide))).mono ?_
          rintro e w12 ⟨A12, n12, c12, rfl, o12, h12⟩
          rw [hread.out] at o12
          have hn12 : n12 = X.length + T.length := by rw [o12.1, List.length_append]
          subst hn12
          have hc12 := ownsRow_le o12.2
          have hFlt := L.1.lt
          have L2 := L.below h12
          have o8f := ho8.below h12 (Nat.le_refl _)
          clear L ho8 h12
          go_wp2_with fail
          refine (waiting_any F gd size X ws _ L2.1 (by omega) (by omega)).mono ?_
          rw [hP]
          rintro e w13 ⟨rfl, h13⟩
          have L3 := L2.below h13
          have o8g := o8f.below h13 (Nat.le_refl _)
          have o12b := o12.below h13 (Nat.le_refl _)
          clear L2 o8f o12 h13
          have ew : IntKind.i64.wrap ((X.length : Int) + (T.length : Int)) = (X.length : Int) + (T.length : Int) := IntWalk.i64_in _ (by omega)
          have hcr : Calls Try.prog 19 #[.pointer (some ⟨gd, 0, none⟩), .int .i64 z] w13 fun e w' => e = .returned (.tuple #[]) ∧ DiskOp w13 F gd size (X ++ T.take z.toNat) [] w' := by
            by_cases hzn : z < 0
            · have := crash_neg z F gd size _ _ _ L3.1 (Nat.le_trans mb (by decide)) (Nat.le_trans wb' (by decide)) hzn
              rw [hA.2.2] at this
              rw [show z.toNat = 0 by omega]
              exact this
            · obtain ⟨y, rfl⟩ := Int.eq_ofNat_of_zero_le (show 0 ≤ z by omega)
              have := crash_nat y F gd size _ _ _ L3.1 (Nat.le_trans mb (by decide)) (Nat.le_trans wb' (by decide)) (by omega)
              rw [hA.2.2] at this
              exact this
          have HCR := Lib.hid hcr
          clear hcr hT hP hA
          go_wp2_with fail
          refine HCR.out.mono ?_
          rintro e w14 ⟨rfl, h14⟩
          obtain ⟨F2, L4, ho, hg⟩ := L3.op h14
          have o8h := OwnB.far o8g ho hfar
          have o12c := OwnB.only o12b ho hFlt
          clear h14 L3 HCR
          go_wp2_with fail
          refine (read_any F2 gd size _ [] _ L4.1 (by simp [mass]; omega) (by simp)).mono ?_
          rintro e w15 ⟨A15, n15, c15, rfl, o15, h15⟩
          obtain ⟨j, hj⟩ : ∃ j, j = min z.toNat T.length := ⟨_, rfl⟩
          have htk : T.take z.toNat = T.take j := by rw [hj, ← List.take_take, List.take_length]
          have hjT : j ≤ T.length := by omega
          rw [htk] at o15 L4
          rw [show readL (X ++ T.take j) [] = X ++ T.take j from rfl] at o15
          have L5 := L4.below h15
          have o8i := o8h.below h15 (Nat.le_refl _)
          have o12d := o12c.below h15 (Nat.le_refl _)
          have hn15 : n15 = X.length + j := by rw [o15.1, List.length_append, List.length_take, Nat.min_eq_left hjT]
          subst hn15
          obtain ⟨q, e1⟩ : ∃ q : Int, (if (T.length : Int) < z then (T.length : Int) else z) = q := ⟨_, rfl⟩
          have e2 : (if 0 < q then q else 0) = (j : Int) := by rw [← e1]; split <;> split <;> omega
          have ew2 : IntKind.i64.wrap ((X.length : Int) + (j : Int)) = (X.length : Int) + (j : Int) := IntWalk.i64_in _ (by omega)
          have e3 : ((X.length : Int) + (j : Int)).toNat = X.length + j := by omega
          have e4 : 0 ≤ (X.length : Int) + (j : Int) := by omega
          have e5 : (X.length : Int) + (j : Int) ≤ (c12 : Int) := by omega
          have e6 : X.length ≤ c12 := by omega
          have rj : RdB w15 w15.heap.size A12 (X.length + j) (X ++ T.take j) := by
            have h := o12d.rd.take (k := X.length + j) (by omega)
            rw [List.take_length_add_append] at h
            exact h
          have rx : RdB w15 w15.heap.size A12 X.length X := by
            have h := o12d.rd.take (k := X.length) (by omega)
            rw [List.take_left' rfl] at h
            exact h
          clear o12d o12c o12b o8g o8h L4 h15 hj htk ho hg
          go_wp2_with fail
          refine (same_eq _ _ _ _ _ _ (X ++ T.take j) _ _ _ o15.rd rj (by omega)).mono ?_
          rintro e w16 ⟨rfl, m16, rfl⟩
          have rx2 : RdB (w15.drewN m16) w15.heap.size A12 X.length X := rx
          have o8j : OwnB (w15.drewN m16) 0 A8 X.length c8 X := o8i
          have L6 := L5.below (below_drewN (Below.refl _ _) m16)
          clear rx rj o8i o15 L5
          generalize w15.drewN m16 = w17 at *
          go_wp2_with fail
          refine (same_eq _ _ _ _ _ _ X _ _ _ rx2 o8j.rd (by omega)).mono ?_
          rintro e w18 ⟨rfl, m18, rfl⟩
          have L7 := L6.below (below_drewN (Below.refl _ _) m18)
          clear L6 rx2 o8j
          generalize w17.drewN m18 = w19 at *
          go_wp2_with fail
          refine (waiting_none F2 gd size _ _ L7.1).mono ?_
          rintro e w20 ⟨rfl, h20⟩
          go_wp2_with fail
          go_ret
          exact ⟨rfl, (L7.below h20).2.2⟩
set_option maxRecDepth 100000 in
theorem lifted (os : Os) (started : os.Started) (H : Type) (enc : TypeId × Value → H) :
    ReturnsInHanded {} Try.checked os 4 .any (Rows.diskLastsSpec.pre6 enc Try.prog Try.f4 Rows.diskLastsRow.domain false) (Rows.diskLastsSpec.post enc Try.prog Try.f4 false true false false) := by
  refine returnsInHanded_of_change (C := Try.checked) own started (by kernel_rfl) Try.func4
    (ChangeSpec.witness6 (enc := enc) (C := Try.checked) false ⟨#[], #[.agg #[.int .i64 0, .slice none 0 0, .slice none 0 0, .int .i64 0]], []⟩ 8 (by kernel_rfl) (by kernel_rfl) (by kernel_rfl) (by kernel_rfl)) ?_
  intro W base args ds gs before hval0 hW hcnd _
  have hval : ∀ (j : Nat) t v, Try.f4.params[j]? = some t → args[j]? = some v → Value.okWide Try.prog W .any base t v := hval0
  have hW' := hW
  obtain ⟨p, q, hA0, hV, rfl, hfz, hnd⟩ := hW
  have hA : DataW.TrodAll enc Try.prog W 0 (fun _ => true) true Try.f4.params.toList args.toList ds p := hA0
  rw [Try.params4] at hA hval
  obtain ⟨v0, vs0, d0, ds0, p0, q0, hargs, rfl, rfl, h0, r0⟩ := trodAll_cons hA
  obtain ⟨rfl, rfl, rfl⟩ := trodAll_nil r0
  obtain rfl : args = #[v0] := by cases args; simp_all
  obtain ⟨rfl, rfl⟩ := trodVars_none hV
  have lt0 : ∀ x ∈ p0, x.block < W.heap.size := by obtain ⟨m, hm⟩ := h0; exact DataW.trod_lt m _ _ _ hm
  have k0 := h0
  obtain ⟨s, a, n, c, l, a2, n2, c2, l2, z, rfl, hl, hl2, hs, hz⟩ := open_q (hval 0 47 v0 rfl rfl) h0
  clear hA0 hval0
  refine (walk s a n c l a2 n2 c2 l2 z W hl hl2 hs hz).mono fun e W' ⟨he, bel⟩ => ?_
  subst he
  exact ⟨_, rfl, _, _, _, [], _, [], hW', trodAll_mk1 (shut_bool Try.underlying4 _), (trodAll_cons_mk (Below.trod laidOut (by kernel_rfl) (of_decide_eq_true (by kernel_rfl)) k0 bel lt0) trodAll_mk0), rfl, bel.frame _, fun h => by cases h⟩

theorem proved : Rows.DiskLastsSaid :=
  OpenClaim.holds_of_wide 4 Try.f4 rfl rfl rfl rfl rfl rfl rfl ⟨rfl, rfl, rfl, rfl, rfl⟩ rfl rfl rfl rfl rfl (by kernel_rfl) Try.func4 (by kernel_rfl)
    (of_decide_eq_true (by kernel_rfl)) (by unfold Func.isWrapper; first | (rw [if_pos (by decide +kernel)]; kernel_rfl) | (rw [if_neg (by decide +kernel)]; exact ⟨rfl, rfl⟩))
    (fun os started H enc _ => lifted os started H enc)
#print axioms proved
end Go.Proofs.Ytpnnhghgngkboaa.DiskLasts

/- LogPlays: through any steps what each answers, and which records there are, is the document's: the whole statement, without a condition. -/
import Derived.Test.YtbkcdnjpakicmaaLogOpen
import Derived.Test.YtbkcdnjpakicmaaLogRef
import Derived.Deep.CutBlock
import Derived.Deep.DeepCutAuto
import Derived.Deep.RegionHeld3
import Derived.Deep.DrawnRows
namespace Go.Proofs.Ytbkcdnjpakicmaa.LogPlays
open Go.ChangeShapes Go.WideShapes Go.ChangeAt Go.RowKit Go.Deep
open Go.Proofs.Ytbkcdnjpakicmaa.Log Go.Proofs.Ytbkcdnjpakicmaa.Disk
open Go.Proofs.Ytbkcdnjpakicmaa.Frame (frm frms frms_nil frms_cons frms_snoc frms_append frm_length frm_pos Parts AllF)
set_option linter.unusedVariables false
set_option linter.unusedSimpArgs false
attribute [local go_sem ↓] Go.wp_at_zero Go.wp_at_succ

set_option maxRecDepth 100000 in
/-- Steps that came in. -/
theorem open_ops {H : Type} {enc : TypeId × Value → H} {W : World} {base : Nat} {sp : Nat → Bool} {held : Bool} {r : Reach} {b0 : Nat} {v : Value} {d : DataW H} {p : List MemPlace}
    (hv : Value.okWide Try.prog W r b0 58 v) (h : DataW.Trod enc Try.prog W base sp held 58 v d p) (hs : Sz 58 d) :
    ∃ (a : Option Addr) (n c : Nat) (l : List Op14), v = .slice a n c ∧ OpsAt W W.heap.size a n l ∧ n ≤ c ∧ c ≤ maxLen := by
  obtain ⟨a0, len0, cap0, rfl⟩ := okWide_slice Try.underlying58 hv
  obtain ⟨fuel, hf⟩ := h
  obtain ⟨a, n, c, l, h1, h2⟩ := rd_ops hf hs
  simp [Value.cells] at h1
  obtain ⟨rfl, rfl, rfl⟩ := h1
  exact ⟨_, _, _, l, rfl, h2⟩
/-- A result that fits. -/
structure OkRes (size : Nat) (lasts : List UInt8) (ws : List W) (r : Res) : Prop where
  e : r.1 ≤ 7
  fits : Fits size r.2.1 r.2.2
  mass : r.2.1.length + mass r.2.2 ≤ lasts.length + mass ws + 16384
  len : r.2.2.length ≤ ws.length + 1
theorem fits_nil {size : Nat} {b : List UInt8} (h : b.length ≤ size) : Fits size b [] := ⟨fun n => h, fun x hx => by simp at hx⟩
theorem same_ok {size e : Nat} {lasts : List UInt8} {ws : List W} (h : Fits size lasts ws) (he : e ≤ 7) : OkRes size lasts ws (e, lasts, ws) := ⟨he, h, Nat.le_add_right _ _, Nat.le_succ _⟩
theorem new_ok {size : Nat} {lasts b : List UInt8} {ws : List W} (hs : size ≤ 16384) (h : b.length ≤ size) : OkRes size lasts ws (0, b, []) := ⟨Nat.zero_le _, fits_nil h, by simp [Disk.mass]; omega, by simp⟩
theorem write_ok {size : Nat} {lasts : List UInt8} {ws : List W} (hs : size ≤ 16384) (h : Fits size lasts ws) (x : List UInt8) : OkRes size lasts ws (writeM size lasts ws x) := by
  unfold writeM
  split
  · exact same_ok h (by omega)
  · split
    · exact new_ok hs (by rw [List.length_append]; assumption)
    · exact same_ok h (by omega)
theorem rewrite_ok {size : Nat} {lasts : List UInt8} {ws : List W} (hs : size ≤ 16384) (h : Fits size lasts ws) (x : List (List UInt8)) : OkRes size lasts ws (rewriteM size lasts ws x) := by
  unfold rewriteM
  split
  · split
    · exact new_ok hs (by assumption)
    · exact same_ok h (by omega)
  · exact same_ok h (by omega)
theorem mend_ok {size : Nat} {lasts : List UInt8} {ws : List W} (hs : size ≤ 16384) (h : Fits size lasts ws) (l : List (List UInt8)) : OkRes size lasts ws (mendM lasts ws l) := by
  unfold mendM
  split
  · have := h.read
    exact new_ok hs (by omega)
  · exact same_ok h (by omega)
def appendM (size : Nat) (lasts : List UInt8) (ws : List W) (x : List UInt8) : Res := if (readL lasts ws).length + x.length ≤ size then (0, lasts, ws ++ [(false, x)]) else (7, lasts, ws)
def swapM (size : Nat) (lasts : List UInt8) (ws : List W) (x : List UInt8) : Res := if x.length ≤ size then (0, lasts, ws ++ [(true, x)]) else (7, lasts, ws)
theorem append_ok {size : Nat} {lasts : List UInt8} {ws : List W} (hs : size ≤ 16384) (h : Fits size lasts ws) (x : List UInt8) : OkRes size lasts ws (appendM size lasts ws x) := by
  unfold appendM
  split
  · exact ⟨Nat.zero_le _, h.app (by assumption), by rw [mass_append]; simp [Disk.mass]; omega, by simp⟩
  · exact same_ok h (by omega)
theorem swap_ok {size : Nat} {lasts : List UInt8} {ws : List W} (hs : size ≤ 16384) (h : Fits size lasts ws) (x : List UInt8) : OkRes size lasts ws (swapM size lasts ws x) := by
  unfold swapM
  split
  · exact ⟨Nat.zero_le _, h.swap (by assumption), by rw [mass_append]; simp [Disk.mass]; omega, by simp⟩
  · exact same_ok h (by omega)
theorem crash_ok {size : Nat} {lasts : List UInt8} {ws : List W} (hs : size ≤ 16384) (h : Fits size lasts ws) (n : Nat) : OkRes size lasts ws (0, afterL lasts ws n, []) := new_ok hs (h.1 n)
/-- an append, a swap, whatever comes of it -/
theorem lappend_any (A : Option Addr) (n c B : Nat) (bs : List UInt8) (F : Nat → Prop) (g size : Nat) (lasts : List UInt8) (ws : List W) (w : World) (hD : DiskAt w F g size lasts ws) (hm : lasts.length + mass ws ≤ 500000000000) (hl : ws.length ≤ 500000000000) (hs : size ≤ 16384) (hb : RdB w B A n bs) :
    Calls Try.prog 25 #[.pointer (some ⟨g, 0, none⟩), .slice A n c] w (LogEnd w F g size (appendM size lasts ws bs)) := by
  have hn := hb.1
  unfold appendM
  by_cases h : (readL lasts ws).length + bs.length ≤ size
  · rw [if_pos h]
    exact append_any A n c B bs F g size lasts ws w hD (by omega) (by omega) (by omega) hb (by omega)
  · rw [if_neg h]
    exact (append_full A n c F g size lasts ws w hD (by omega) (by omega) (by omega) (by omega)).mono fun e w' ⟨he, hb⟩ => ⟨he, DiskOp.refl hD hb⟩
theorem lswp_any (A : Option Addr) (n c B : Nat) (bs : List UInt8) (F : Nat → Prop) (g size : Nat) (lasts : List UInt8) (ws : List W) (w : World) (hD : DiskAt w F g size lasts ws) (hl : ws.length ≤ 500000000000) (hs : size ≤ 16384) (hb : RdB w B A n bs) :
    Calls Try.prog 39 #[.pointer (some ⟨g, 0, none⟩), .slice A n c] w (LogEnd w F g size (swapM size lasts ws bs)) := by
  have hn := hb.1
  unfold swapM
  by_cases h : bs.length ≤ size
  · rw [if_pos h]
    exact swap_any A n c B bs F g size lasts ws w hD (by omega) (by omega) hb (by omega)
  · rw [if_neg h]
    exact (swap_full A n c F g size lasts ws w hD (by omega)).mono fun e w' ⟨he, hb⟩ => ⟨he, by subst hb; exact DiskOp.refl hD (Below.refl _ _)⟩
theorem rlappend_any (A : Option Addr) (n c B : Nat) (bs : List UInt8) (F : Nat → Prop) (g size : Nat) (lasts : List UInt8) (ws : List W) (w : World) (hD : RefAt w F g size lasts (exp ws)) (hm : lasts.length + mass ws ≤ 500000000000) (hp : pend ws ≤ 500000000000) (hs : size ≤ 16384) (hb : RdB w B A n bs) (hB : B ≤ w.heap.size) (hFB : ∀ k, F k → B ≤ k) (hn2 : n ≤ 140737488351232) :
    Calls Try.prog 37 #[.pointer (some ⟨g, 0, none⟩), .slice A n c] w (RLogEnd w F g size (appendM size lasts ws bs)) := by
  have hn := hb.1
  unfold appendM
  by_cases h : (readL lasts ws).length + bs.length ≤ size
  · rw [if_pos h]
    refine (rappend_any A n c B bs F g size lasts (exp ws) w hD (by rw [exp_mass]; omega) (by rw [exp_length]; omega) hb hB hFB hs (by rw [after_all]; omega)).mono fun e w' ⟨he, ho⟩ => ⟨he, ?_⟩
    rw [← exp_app] at ho
    exact ho
  · rw [if_neg h]
    exact (rappend_full A n c F g size lasts (exp ws) w hD (by rw [exp_mass]; omega) (by omega) (by rw [after_all]; omega)).mono fun e w' ⟨he, hb⟩ => ⟨he, RefOp.refl hD hb⟩
theorem rlswp_any (A : Option Addr) (n c B : Nat) (bs : List UInt8) (F : Nat → Prop) (g size : Nat) (lasts : List UInt8) (ws : List W) (w : World) (hD : RefAt w F g size lasts (exp ws)) (hp : pend ws ≤ 500000000000) (hs : size ≤ 16384) (hb : RdB w B A n bs) :
    Calls Try.prog 40 #[.pointer (some ⟨g, 0, none⟩), .slice A n c] w (RLogEnd w F g size (swapM size lasts ws bs)) := by
  have hn := hb.1
  unfold swapM
  by_cases h : bs.length ≤ size
  · rw [if_pos h]
    refine (rswap_any A n c B bs F g size lasts (exp ws) w hD (by rw [exp_length]; omega) hb (by omega) hs).mono fun e w' ⟨he, ho⟩ => ⟨he, ?_⟩
    rw [← exp_swap] at ho
    exact ho
  · rw [if_neg h]
    exact (rswap_full A n c F g size lasts (exp ws) w hD (by omega)).mono fun e w' ⟨he, hb⟩ => ⟨he, by subst hb; exact RefOp.refl hD (Below.refl _ _)⟩
theorem crash_any (keep : Int) (F : Nat → Prop) (g size : Nat) (lasts : List UInt8) (ws : List W) (w : World) (hD : DiskAt w F g size lasts ws) (hm : lasts.length + mass ws ≤ 1099511627776) (hl : ws.length ≤ 1099511627776) (h2 : keep ≤ 9223372036854775807) :
    Calls Try.prog 26 #[.pointer (some ⟨g, 0, none⟩), .int .i64 keep] w fun e w' => e = .returned (.tuple #[]) ∧ DiskOp w F g size (afterL lasts ws keep.toNat) [] w' := by
  by_cases h : keep < 0
  · rw [Int.toNat_of_nonpos (by omega)]
    exact crash_neg keep F g size lasts ws w hD hm hl h
  · obtain ⟨k, rfl⟩ := Int.eq_ofNat_of_zero_le (show 0 ≤ keep by omega)
    exact crash_nat k F g size lasts ws w hD hm hl (by omega)
/-- Behind a round's switch: the disks. -/
def MidL (w : World) (size g r : Nat) (m k : Nat) (wx : World) : Prop :=
  ∃ F G lasts ws, Both w size F g lasts ws G r lasts (exp ws) wx ∧ Fits size lasts ws ∧ lasts.length + mass ws ≤ m ∧ ws.length ≤ k
theorem mend_zero (b : List UInt8) (ws : List W) (l : List (List UInt8)) : mendM b ws l = (0, (mendM b ws l).2.1, (mendM b ws l).2.2) := by unfold mendM; split <;> rfl
theorem MidL.of {w wx : World} {size g r : Nat} {F G : Nat → Prop} {lasts : List UInt8} {ws : List W} {R : Res} (hR : OkRes size lasts ws R) (hb : Both w size F g R.2.1 R.2.2 G r R.2.1 (exp R.2.2) wx) : MidL w size g r (lasts.length + mass ws + 16384) (ws.length + 1) wx :=
  ⟨F, G, _, _, hb, hR.fits, hR.mass, hR.len⟩
set_option maxRecDepth 100000 in
set_option maxHeartbeats 4000000 in
theorem walk (z : Int) (a : Option Addr) (n c : Nat) (l : List Op14) (w : World) (hz0 : -9223372036854775808 ≤ z) (hz1 : z ≤ 9223372036854775807) (hl : OpsAt w w.heap.size a n l) (hn : n ≤ c) (hc : c ≤ maxLen) :
    Calls Try.prog 9 #[.int .i64 z, .slice a n c] w fun e w' => e = .returned (.bool true) ∧ Below w.heap.size w w' := by
  have HL := Lib.hid hl.1
  go_enter Try.func9, Try.ntmps9
  go_wp2_with fail
  refine (alive14 _).mono ?_
  rintro e w1 ⟨rfl, h1⟩
  go_wp2_with fail
  refine (great_any a n c _ l _ (hl.below h1) h1.size hn hc).mono ?_
  rintro e w2 ⟨v, rfl, h2, hg⟩
  have h12 := h1.trans (h2.mono h1.size)
  clear h1 h2
  cases v
  case true =>
    go_wp2_with fail
    go_ret
    exact ⟨rfl, h12⟩
  obtain ⟨hg1, hg2⟩ := hg rfl
  have HG2 := Lib.hid hg2
  clear hg hg2
  by_cases hz : z < 1 ∨ 16384 < z
  case pos =>
    go_wp2_with fail
    refine (dnew_bad z _ hz).mono ?_
    rintro e w3 ⟨rfl, rfl⟩
    go_wp2_with fail
    refine (rnew_bad z _ hz).mono ?_
    rintro e w3 ⟨rfl, rfl⟩
    go_wp2_with fail
    go_ret
    exact ⟨rfl, h12⟩
  obtain ⟨size, rfl⟩ := Int.eq_ofNat_of_zero_le (show 0 ≤ z by omega)
  have hs1 : 1 ≤ size := by omega
  have hs2 : size ≤ 16384 := by omega
  clear hz hz0 hz1
  go_wp2_with fail
  refine (dnew_any size _ hs1 hs2).mono ?_
  rintro e w3 ⟨g, F1, rfl, hD1, hF1, hb1⟩
  have L1 := DL.of_new h12 hD1 hF1 hb1
  clear hD1 hF1 hb1 h12
  go_wp2_with fail
  refine (rnew_any size _ hs1 hs2).mono ?_
  rintro e w4 ⟨r, G1, rfl, hD2, hG1, hb2⟩
  have T1 := Both.of L1 hD2 hG1 hb2
  clear L1 hD2 hG1 hb2
  go_wp2_with fail
  go_loopw [43] (fun i wr => ∃ (k : Nat), k ≤ n ∧ i = .int .i64 k ∧ MidL w size g r ((k + 1) * 16384) k wr) (fun i _ => n - (intOf i).toNat)
  case atStart => exact ⟨0, by omega, rfl, F1, G1, [], [], T1, Fits.empty _, by simp [Disk.mass], by simp⟩
  case round =>
    clear T1
    obtain ⟨k, hk, rfl, F, G, lasts, ws, T, hF, hms, hwl⟩ := hrel
    by_cases hlt : k < n
    · have hkl : k < l.length := by rw [← HL.out]; exact hlt
      obtain ⟨ad, A, m, c', A2, m2, c2, rfl, q0, q1, q2, q3, r1, hmc, hmr, r2, hm2, hkd, hnm⟩ := (hl.below T.1.2.2).at_ (List.getElem?_eq_getElem hkl)
      have hml := HG2.out l[k] (List.getElem_mem hkl)
      rw [← r2.len] at hml
      generalize l[k] = o at *
      obtain ⟨kd, nm, bs, ls⟩ := o
      simp only at q0 q1 r1 r2 hkd hnm
      go_upto_region 13 with fail
      obtain ⟨b0, hb0⟩ : ∃ b0, b0 = wr.heap.size := ⟨_, rfl⟩
      obtain ⟨wv, hwv⟩ : ∃ wv, wv = wr.alloc (.cells #[.int .i64 kd, .int .i64 nm, .slice A m c', .slice A2 m2 c2] 64) := ⟨_, rfl⟩
      have hbv : Below wr.heap.size wr wv := by rw [hwv]; exact (Below.refl _ _).alloc (Nat.le_refl _) _
      have K0 : Blk wv b0 64 #[.int .i64 kd, .int .i64 nm, .slice A m c', .slice A2 m2 c2] := by rw [hwv, hb0]; exact Blk.new wr _ _
      have hwb : w.heap.size ≤ b0 := by rw [hb0]; exact T.1.2.2.size
      have hFlt : ∀ k, F k → k < b0 := by rw [hb0]; exact T.1.1.lt
      have hGlt : ∀ k, G k → k < b0 := by rw [hb0]; exact T.2.1.lt
      have r1v := r1.below (hbv.mono T.1.2.2.size)
      have r2v := r2.below (hbv.mono T.1.2.2.size)
      have T2 := T.below hbv
      have hs0 := T2.1.2.2.size
      rw [← hwv, ← hb0]
      clear T hbv q0 q1 q2 q3 r1 r2 hwv hb0
      have t0 : wv.cell? ⟨b0, 0, none⟩ = some (.int .i64 kd) := K0.cell 0
      have t1 : wv.cell? ⟨b0, 1, none⟩ = some (.int .i64 nm) := K0.cell 1
      have t2 : wv.cell? ⟨b0, 2, none⟩ = some (.slice A m c') := K0.cell 2
      have t3 : wv.cell? ⟨b0, 3, none⟩ = some (.slice A2 m2 c2) := K0.cell 3
      go_upto_block 2 with fail
      have hpl := pend_le ws
      have hms2 : lasts.length + mass ws ≤ 1671168 := by omega
      have hwl2 : ws.length ≤ 100 := by omega
      have hpl2 : pend ws ≤ 1671268 := by omega
      have HF := Lib.hid hF
      have HMS := Lib.hid hms
      have HWL := Lib.hid hwl
      have HN1 := Lib.hid hnm.1
      have HN2 := Lib.hid hnm.2
      have hn2 := hnm.2
      have hfit := hF.read
      clear hF hms hwl hpl hnm
      go_cut [11, 12] (fun x y wx => ∃ q : Nat, x = .int .i64 q ∧ y = .int .i64 q ∧ MidL w size g r (lasts.length + mass ws + 16384) (ws.length + 1) wx)
      case first =>
        by_cases k1 : kd = 1
        · subst k1
          have T2d := T2.below (Below.refl _ _).drew
          have r1d : RdB wv.drew w.heap.size A m bs := r1v
          have r2d : RdS wv.drew w.heap.size A2 m2 ls := r2v.keep fun _ _ => rfl
          go_wp2_with fail
          go_region_with (first
            | (go_at_call 24; (refine (lwrite_any A m c' w.heap.size bs F g size lasts ws _ T2d.1.1 (by omega) (by omega) hs2 r1d T2d.1.2.2.size hmc.1 hmc.2).mono ?_; rintro e wa ⟨rfl, ha⟩; obtain ⟨F6, T6, ho6, hg6⟩ := T2d.fst ha; have K0c := K0.drew.only ho6 (fun h => by have := hFlt _ h; omega); have s2 : wa.cell? ⟨b0, 2, none⟩ = some (.slice A m c') := K0c.cell 2; have s3 : wa.cell? ⟨b0, 3, none⟩ = some (.slice A2 m2 c2) := K0c.cell 3; have r1b := r1d.below (ho6.to_below T2d.1.2.1 T2d.1.2.2.size); have r2b := r2d.below (ho6.to_below T2d.1.2.1 T2d.1.2.2.size)))
            | (go_at_call 33; (refine (rlwrite_any A m c' w.heap.size bs G r size lasts ws _ T6.2.1 (by omega) (by omega) hs2 r1b T6.1.2.2.size).mono ?_; rintro e wb ⟨rfl, hb⟩; obtain ⟨G7, T7, ho7, hg7⟩ := T6.snd hb)))
          all_goals
            have HM := Lib.hid (MidL.of (write_ok hs2 HF.out bs) T7)
            clear T7 T6 ho6 ho7 hg6 hg7 T2d
            go_wp2_with fail
            go_meet
            exact ⟨_, rfl, rfl, HM.out⟩
        have e1 : (kd == 1) = false := by rw [beq_eq_false_iff_ne]; exact k1
        have K1 := Lib.hid k1
        clear k1
        by_cases k2 : kd = 2
        · subst k2
          go_wp2_with fail
          refine (lmend_any F g size lasts ws _ T2.1.1 (by omega) (by omega) hs2 hfit).mono ?_
          rintro e wa ⟨l1, p1, hp1, hlog⟩
          obtain ⟨rfl, ha⟩ := hlog.at_ (mend_zero lasts ws l1)
          obtain ⟨F6, T6, ho6, hg6⟩ := T2.fst ha
          have HP1 := Lib.hid hp1
          clear hp1 ha hlog
          go_wp2_with fail
          refine (rlmend_any G r size lasts ws _ T6.2.1 (by omega) (by omega) hs2 hfit).mono ?_
          rintro e wb ⟨l2, p2, hp2, rfl, hb⟩
          obtain ⟨rfl, rfl⟩ := HP1.out.same hp2
          obtain ⟨G7, T7, ho7, hg7⟩ := T6.snd hb
          have HM := Lib.hid (MidL.of (mend_ok hs2 HF.out l1) T7)
          clear T7 T6 ho6 ho7 hg6 hg7 hb hp2
          go_wp2_with fail
          go_meet
          exact ⟨0, rfl, rfl, HM.out⟩
        have e2 : (kd == 2) = false := by rw [beq_eq_false_iff_ne]; exact k2
        have K2 := Lib.hid k2
        clear k2
        by_cases k3 : kd = 3
        · subst k3
          have T2d := T2.below (Below.refl _ _).drew
          have r1d : RdB wv.drew w.heap.size A m bs := r1v
          have r2d : RdS wv.drew w.heap.size A2 m2 ls := r2v.keep fun _ _ => rfl
          go_wp2_with fail
          go_region_with (first
            | (go_at_call 35; (refine (lrewrite_any A2 m2 c2 w.heap.size ls F g size lasts ws _ T2d.1.1 (by omega) (by omega) hs2 r2d T2d.1.2.2.size (by omega)).mono ?_; rintro e wa ⟨rfl, ha⟩; obtain ⟨F6, T6, ho6, hg6⟩ := T2d.fst ha; have K0c := K0.drew.only ho6 (fun h => by have := hFlt _ h; omega); have s2 : wa.cell? ⟨b0, 2, none⟩ = some (.slice A m c') := K0c.cell 2; have s3 : wa.cell? ⟨b0, 3, none⟩ = some (.slice A2 m2 c2) := K0c.cell 3; have r1b := r1d.below (ho6.to_below T2d.1.2.1 T2d.1.2.2.size); have r2b := r2d.below (ho6.to_below T2d.1.2.1 T2d.1.2.2.size)))
            | (go_at_call 36; (refine (rlrewrite_any A2 m2 c2 w.heap.size ls G r size lasts ws _ T6.2.1 (by omega) (by omega) hs2 r2b T6.1.2.2.size (by omega)).mono ?_; rintro e wb ⟨rfl, hb⟩; obtain ⟨G7, T7, ho7, hg7⟩ := T6.snd hb)))
          all_goals
            have HM := Lib.hid (MidL.of (rewrite_ok hs2 HF.out ls) T7)
            clear T7 T6 ho6 ho7 hg6 hg7 T2d
            go_wp2_with fail
            go_meet
            exact ⟨_, rfl, rfl, HM.out⟩
        have e3 : (kd == 3) = false := by rw [beq_eq_false_iff_ne]; exact k3
        have K3 := Lib.hid k3
        clear k3
        by_cases k4 : kd = 4
        · subst k4
          have T2d := T2.below (Below.refl _ _).drew
          have r1d : RdB wv.drew w.heap.size A m bs := r1v
          have r2d : RdS wv.drew w.heap.size A2 m2 ls := r2v.keep fun _ _ => rfl
          go_wp2_with fail
          go_region_with (first
            | (go_at_call 25; (refine (lappend_any A m c' w.heap.size bs F g size lasts ws _ T2d.1.1 (by omega) (by omega) hs2 r1d).mono ?_; rintro e wa ⟨rfl, ha⟩; obtain ⟨F6, T6, ho6, hg6⟩ := T2d.fst ha; have K0c := K0.drew.only ho6 (fun h => by have := hFlt _ h; omega); have s2 : wa.cell? ⟨b0, 2, none⟩ = some (.slice A m c') := K0c.cell 2; have s3 : wa.cell? ⟨b0, 3, none⟩ = some (.slice A2 m2 c2) := K0c.cell 3; have r1b := r1d.below (ho6.to_below T2d.1.2.1 T2d.1.2.2.size); have r2b := r2d.below (ho6.to_below T2d.1.2.1 T2d.1.2.2.size)))
            | (go_at_call 37; (refine (rlappend_any A m c' w.heap.size bs G r size lasts ws _ T6.2.1 (by omega) (by omega) hs2 r1b T6.1.2.2.size T6.2.2.1 hmr).mono ?_; rintro e wb ⟨rfl, hb⟩; obtain ⟨G7, T7, ho7, hg7⟩ := T6.snd hb)))
          all_goals
            have HM := Lib.hid (MidL.of (append_ok hs2 HF.out bs) T7)
            clear T7 T6 ho6 ho7 hg6 hg7 T2d
            go_wp2_with fail
            go_meet
            exact ⟨_, rfl, rfl, HM.out⟩
        have e4 : (kd == 4) = false := by rw [beq_eq_false_iff_ne]; exact k4
        have K4 := Lib.hid k4
        clear k4
        by_cases k5 : kd = 5
        · subst k5
          go_wp2_with fail
          refine (crash_any nm F g size lasts ws _ T2.1.1 (by omega) (by omega) hn2).mono ?_
          rintro e wa ⟨rfl, ha⟩
          obtain ⟨F6, T6, ho6, hg6⟩ := T2.fst ha
          have K0c := K0.only ho6 (fun h => by have := hFlt _ h; omega)
          have s1 : wa.cell? ⟨b0, 1, none⟩ = some (.int .i64 nm) := K0c.cell 1
          clear ha
          go_wp2_with fail
          refine (rcrash_nat nm.toNat G r size lasts (exp ws) _ T6.2.1 (by rw [exp_mass]; omega) (by rw [exp_length]; omega) nm rfl HN1.out HN2.out).mono ?_
          rintro e wb ⟨rfl, hb⟩
          rw [after_exp] at hb
          obtain ⟨G7, T7, ho7, hg7⟩ := T6.snd hb
          have HM := Lib.hid (MidL.of (R := (0, afterL lasts ws nm.toNat, [])) (crash_ok hs2 HF.out nm.toNat) T7)
          clear T7 T6 ho6 ho7 hg6 hg7 hb
          go_wp2_with fail
          go_meet
          exact ⟨0, rfl, rfl, HM.out⟩
        have e5 : (kd == 5) = false := by rw [beq_eq_false_iff_ne]; exact k5
        have K5 := Lib.hid k5
        clear k5
        by_cases k6 : kd = 6
        · subst k6
          have T2d := T2.below (Below.refl _ _).drew
          have r1d : RdB wv.drew w.heap.size A m bs := r1v
          have r2d : RdS wv.drew w.heap.size A2 m2 ls := r2v.keep fun _ _ => rfl
          go_wp2_with fail
          go_region_with (first
            | (go_at_call 39; (refine (lswp_any A m c' w.heap.size bs F g size lasts ws _ T2d.1.1 (by omega) hs2 r1d).mono ?_; rintro e wa ⟨rfl, ha⟩; obtain ⟨F6, T6, ho6, hg6⟩ := T2d.fst ha; have K0c := K0.drew.only ho6 (fun h => by have := hFlt _ h; omega); have s2 : wa.cell? ⟨b0, 2, none⟩ = some (.slice A m c') := K0c.cell 2; have s3 : wa.cell? ⟨b0, 3, none⟩ = some (.slice A2 m2 c2) := K0c.cell 3; have r1b := r1d.below (ho6.to_below T2d.1.2.1 T2d.1.2.2.size); have r2b := r2d.below (ho6.to_below T2d.1.2.1 T2d.1.2.2.size)))
            | (go_at_call 40; (refine (rlswp_any A m c' w.heap.size bs G r size lasts ws _ T6.2.1 (by omega) hs2 r1b).mono ?_; rintro e wb ⟨rfl, hb⟩; obtain ⟨G7, T7, ho7, hg7⟩ := T6.snd hb)))
          all_goals
            have HM := Lib.hid (MidL.of (swap_ok hs2 HF.out bs) T7)
            clear T7 T6 ho6 ho7 hg6 hg7 T2d
            go_wp2_with fail
            go_meet
            exact ⟨_, rfl, rfl, HM.out⟩
        have e6 : (kd == 6) = false := by rw [beq_eq_false_iff_ne]; exact k6
        have K6 := Lib.hid k6
        clear k6
        have HM := Lib.hid (MidL.of (R := (0, lasts, ws)) (same_ok HF.out (by omega)) T2)
        go_wp2_with fail
        go_meet
        exact ⟨0, rfl, rfl, HM.out⟩
      case rest =>
        obtain ⟨q, rfl, rfl, hM⟩ := hcut
        clear T2 K0 t0 t1 t2 t3 r1v r2v hFlt hGlt hfit HF
        have hms := HMS.out
        have hwl := HWL.out
        obtain ⟨F, G, lasts', ws', T, hF, hm', hl'⟩ := hM
        have hpl := pend_le ws'
        have hm2' : lasts'.length + mass ws' ≤ (k + 1 + 1) * 16384 := by omega
        have hl2' : ws'.length ≤ k + 1 := by omega
        have hm3 : lasts'.length + mass ws' ≤ 1700000 := by omega
        have hl3 : ws'.length ≤ 101 := by omega
        have hrl : (readL lasts' ws').length ≤ 16384 := Nat.le_trans hF.read hs2
        have HM2 := Lib.hid hm2'
        have HL2 := Lib.hid hl2'
        have HF := Lib.hid hF
        clear hms hwl hm' hl' hpl hF hm2' hl2' hms2 hwl2 hpl2 HMS HWL
        go_wp2_with fail
        refine (lread_any F g size lasts' ws' _ T.1.1 (by omega) (by omega)).mono ?_
        rintro e wa ⟨l1, p1, A1, c1, hp1, rfl, bo1, ha⟩
        have Ta := T.below ha
        have hx1 := parts_len hp1
        have hx11 := hx1.2.1
        have HX1 := Lib.hid hx1.2.2
        have hr1 := bo1.rd
        clear T ha hx1 bo1
        go_wp2_with fail
        refine (rlread_any G r size lasts' ws' _ Ta.2.1 (by omega)).mono ?_
        rintro e wb ⟨l2, p2, A2', c2', hp2, rfl, bo2, hb⟩
        obtain ⟨rfl, rfl⟩ := hp1.same hp2
        have Tb := Ta.below hb
        have hr1b := hr1.next hb
        have hr2b := bo2.rd
        clear Ta hb hr1 bo2 hp1 hp2
        generalize decide ((frms l1).length < (readL lasts' ws').length) = tv
        go_wp2_with fail
        refine (Frame.rsame_eq _ _ _ _ _ _ _ _ _ _ hr1b hr2b (by omega) (fun x hx => by have := HX1.out x hx; omega)).mono ?_
        rintro e wc ⟨rfl, mc, rfl⟩
        have Tc := Tb.below (below_drewN (Below.refl _ _) mc)
        generalize wb.drewN mc = wc at *
        clear Tb hr1b hr2b
        go_wp2_with fail
        refine (read_any F g size lasts' ws' _ Tc.1.1 (by omega) (by omega)).mono ?_
        rintro e wd ⟨A3, n3, c3, rfl, o3, hd⟩
        have Td := Tc.below hd
        have hr3 := o3.rd
        have hn3 := o3.1
        have HN3 := Lib.hid hn3
        have hn3' : n3 ≤ 16384 := by omega
        clear hn3 Tc hd o3
        go_wp2_with fail
        refine (rread_any G r size lasts' (exp ws') _ Td.2.1 (by rw [exp_mass]; omega)).mono ?_
        rintro e we ⟨A4, n4, c4, rfl, o4, he⟩
        rw [after_all] at o4
        have Te := Td.below he
        have hr3e := hr3.next he
        have hr4 := o4.rd
        clear Td he hr3 o4
        go_wp2_with fail
        refine (same_eq _ _ _ _ _ _ _ _ _ _ hr3e hr4 (by omega)).mono ?_
        rintro e wf ⟨rfl, mf, rfl⟩
        have Tf := Te.below (below_drewN (Below.refl _ _) mf)
        generalize we.drewN mf = wf at *
        clear Te hr3e hr4
        go_wp2_with fail
        go_roundw
        case rel => exact ⟨k + 1, by omega, by go_num, F, G, lasts', ws', Tf, HF.out, HM2.out, HL2.out⟩
        case measure => simp [intOf]; omega
    · go_wp2_with fail
      go_ret
      exact ⟨rfl, T.1.2.2⟩
set_option maxRecDepth 100000 in
theorem lifted (os : Os) (started : os.Started) (H : Type) (enc : TypeId × Value → H) :
    ReturnsInHanded {} Try.checked os 9 .any (Rows.logPlaysSpec.pre6 enc Try.prog Try.f9 Rows.logPlaysRow.domain false) (Rows.logPlaysSpec.post enc Try.prog Try.f9 false true false false) := by
  refine returnsInHanded_of_change_sized (C := Try.checked) own started (by kernel_rfl) Try.func9
    (ChangeSpec.witness6 (enc := enc) (C := Try.checked) false ⟨#[], #[.int .i64 0, .slice none 0 0], []⟩ 8 (by kernel_rfl) (by kernel_rfl) (by kernel_rfl) (by kernel_rfl)) ?_
  intro W base args ds gs before hval0 hW hcnd hsz0 _
  have hsz : (DataW.weightsEach Try.prog (Try.f9.params.toList ++ []) (ds ++ gs)).all (· ≤ reachBytes) = true := hsz0
  have hval : ∀ (j : Nat) t v, Try.f9.params[j]? = some t → args[j]? = some v → Value.okWide Try.prog W .any base t v := hval0
  have hW' := hW
  obtain ⟨p, q, hA0, hV, rfl, hfz, hnd⟩ := hW
  have hA : DataW.TrodAll enc Try.prog W 0 (fun _ => true) true Try.f9.params.toList args.toList ds p := hA0
  rw [Try.params9] at hA hval hsz
  obtain ⟨v0, vs0, d0, ds0, p0, q0, hargs, rfl, rfl, h0, r0⟩ := trodAll_cons hA
  obtain ⟨v1, vs1, d1, ds1, p1, q1, rfl, rfl, rfl, h1, r1⟩ := trodAll_cons r0
  obtain ⟨rfl, rfl, rfl⟩ := trodAll_nil r1
  obtain rfl : args = #[v0, v1] := by cases args; simp_all
  obtain ⟨rfl, rfl⟩ := trodVars_none hV
  have lt0 : ∀ x ∈ p0, x.block < W.heap.size := by obtain ⟨m, hm⟩ := h0; exact DataW.trod_lt m _ _ _ hm
  have k0 := h0
  have lt1 : ∀ x ∈ p1, x.block < W.heap.size := by obtain ⟨m, hm⟩ := h1; exact DataW.trod_lt m _ _ _ hm
  have k1 := h1
  obtain ⟨x0, rfl, rfl, rfl, wf0⟩ := open_int Try.underlying3 (hval 0 3 v0 rfl rfl) h0
  have hb0 : -9223372036854775808 ≤ x0 ∧ x0 ≤ 9223372036854775807 := by
    have hmin : IntKind.i64.min = -9223372036854775808 := rfl
    have hmax : IntKind.i64.max = 9223372036854775807 := rfl
    simp only [Lit.wf, Bool.and_eq_true, decide_eq_true_eq] at wf0
    omega
  have sz1 : Sz 58 d1 := sz_arg (j := 1) hsz rfl rfl
  obtain ⟨a, n, c, l, rfl, hl, hn, hc⟩ := open_ops (hval 1 58 v1 rfl rfl) h1 sz1
  clear hA0 hval0
  refine (walk x0 a n c l W hb0.1 hb0.2 hl hn hc).mono fun e W' ⟨he, bel⟩ => ?_
  subst he
  exact ⟨_, rfl, _, _, _, [], _, [], hW', trodAll_mk1 (shut_bool Try.underlying4 _), (trodAll_cons_mk (Below.trod laidOut (by kernel_rfl) (of_decide_eq_true (by kernel_rfl)) k0 bel lt0) (trodAll_cons_mk (Below.trod laidOut (by kernel_rfl) (of_decide_eq_true (by kernel_rfl)) k1 bel lt1) trodAll_mk0)), rfl, bel.frame _, fun h => by cases h⟩

theorem proved : Rows.LogPlaysSaid :=
  OpenClaim.holds_of_wide 9 Try.f9 rfl rfl rfl rfl rfl rfl rfl ⟨rfl, rfl, rfl, rfl, rfl⟩ rfl rfl rfl rfl rfl (by kernel_rfl) Try.func9 (by kernel_rfl)
    (of_decide_eq_true (by kernel_rfl)) (by unfold Func.isWrapper; first | (rw [if_pos (by decide +kernel)]; kernel_rfl) | (rw [if_neg (by decide +kernel)]; exact ⟨rfl, rfl⟩))
    (fun os started H enc _ => lifted os started H enc)
#print axioms proved
end Go.Proofs.Ytbkcdnjpakicmaa.LogPlays

/- DiskPlays: through any steps what each answers, and what is on the disk, is the document's: the whole statement, without a condition. -/
import Derived.Test.YtpnnhghgngkboaaDiskRef5
import Derived.Test.YtpnnhghgngkboaaSized
import Derived.Test.YtpnnhghgngkboaaStop
import Derived.Deep.DeepCutAuto
import Derived.Deep.RegionHeld3
import Derived.Deep.DrawnRows
namespace Go.Proofs.Ytpnnhghgngkboaa.DiskPlays
open Go.ChangeShapes Go.WideShapes Go.ChangeAt Go.RowKit Go.Deep
open Disk
set_option linter.unusedVariables false
set_option linter.unusedSimpArgs false
attribute [local go_sem ↓] Go.wp_at_zero Go.wp_at_succ

/-- Steps that came in, and how long their bytes may be. -/
theorem open_opsZ {H : Type} {enc : TypeId × Value → H} {W : World} {base : Nat} {sp : Nat → Bool} {held : Bool} {r : Reach} {b0 : Nat} {v : Value} {d : DataW H} {p : List MemPlace}
    (hv : Value.okWide Try.prog W r b0 22 v) (h : DataW.Trod enc Try.prog W base sp held 22 v d p) (hs : Sz 22 d) :
    ∃ (a : Option Addr) (n c : Nat) (l : List Op13), v = .slice a n c ∧ OpsAt W a n l ∧ n ≤ c ∧ c ≤ maxLen ∧ ∀ o ∈ l, o.bs.length ≤ reachBytes := by
  obtain ⟨a0, len0, cap0, rfl⟩ := okWide_slice Try.underlying22 hv
  obtain ⟨fuel, hf⟩ := h
  obtain ⟨a, n, c, l, h1, h2, h3, h4⟩ := rd_ops hf
  obtain ⟨a', n', c', k1, _, _, _, k5⟩ := rdz_slice Try.underlying22 cellsOp hf hs
  simp [Value.cells] at h1 k1
  obtain ⟨rfl, rfl, rfl⟩ := h1
  obtain ⟨rfl, rfl, rfl⟩ := k1
  refine ⟨_, _, _, l, rfl, h2, h3, h4, fun o ho => ?_⟩
  obtain ⟨i, hi⟩ := List.getElem?_of_mem ho
  obtain ⟨ad, A, m, c, e1, _, _, q2, q3, _⟩ := h2.2 i o hi
  obtain ⟨ad', cs', fu, x', e2, hl, hc, ht, hz⟩ := k5 i (by rw [h2.1]; exact (List.getElem?_eq_some_iff.1 hi).1)
  rw [e1] at e2
  injection e2 with e2
  subst e2
  have c2 := hc 2 (by omega)
  rw [add_add1 _ 2 (by omega), q2] at c2
  obtain ⟨_, _, g2, z2⟩ := rdz_field Try.underlying34 ht hz 2 32 2 1 rfl cellsBs
  obtain ⟨A', m', c', bs', e3, _, _, _, hm⟩ := rdz_bytes g2 z2
  have : (cs'.drop 2).take 1 = [.slice A m c] := by
    match cs', hl, c2 with
    | [x, y, z], _, c2 => simp at c2; subst c2; rfl
  rw [this] at e3
  injection e3 with e3 _
  injection e3 with _ e3 _
  rw [← q3.1, e3]; exact hm

/-- The program's disk and the document's, apart: both of the call's own. -/
def Both (w : World) (size : Nat) (F : Nat → Prop) (g : Nat) (lasts : List UInt8) (ws : List W) (G : Nat → Prop) (r : Nat) (l2 : List UInt8) (us : List U) (w' : World) : Prop :=
  DL w F g size lasts ws w' ∧ RefAt w' G r size l2 us ∧ (∀ k, G k → w.heap.size ≤ k) ∧ ∀ k, F k → ¬ G k
section
variable {w w1 w2 : World} {F G E : Nat → Prop} {g r size : Nat} {lasts l2 l3 : List UInt8} {ws ws3 : List W} {us us3 : List U}
theorem Both.fst (h : Both w size F g lasts ws G r l2 us w1) (ho : DiskOp w1 F g size l3 ws3 w2) : ∃ F', Both w size F' g l3 ws3 G r l2 us w2 ∧ Only F w1 w2 ∧ Grows F F' w1 := by
  obtain ⟨h1, h2, h3, h4⟩ := h
  obtain ⟨F', k1, k2, k3⟩ := h1.op ho
  refine ⟨F', ⟨k1, h2.keep (k2.keeps (fun k hk hf => h4 k hf hk) h2.lt), h3, fun k hk hg => ?_⟩, k2, k3⟩
  rcases k3 k hk with h | h
  · exact h4 k h hg
  · have := h2.lt k hg; omega
theorem Both.snd (h : Both w size F g lasts ws G r l2 us w1) (ho : RefOp w1 G r size l3 us3 w2) : ∃ G', Both w size F g lasts ws G' r l3 us3 w2 ∧ Only G w1 w2 ∧ Grows G G' w1 := by
  obtain ⟨h1, h2, h3, h4⟩ := h
  obtain ⟨G', k1, k2, k3⟩ := ho
  refine ⟨G', ⟨⟨h1.1.keep (k2.keeps (fun k hk hg => h4 k hk hg) h1.1.lt), h1.2.1, h1.2.2.trans (k2.to_below h3 h1.2.2.size)⟩, k1, fun k hk => ?_, fun k hk hg => ?_⟩, k2, k3⟩
  · rcases k3 k hk with h | h
    · exact h3 k h
    · have := h1.2.2.size; omega
  · rcases k3 k hg with h | h
    · exact h4 k hk h
    · have := h1.1.lt k hk; omega
theorem Both.below (h : Both w size F g lasts ws G r l2 us w1) (hb : Below w1.heap.size w1 w2) : Both w size F g lasts ws G r l2 us w2 := ⟨h.1.below hb, h.2.1.below hb, h.2.2.1, h.2.2.2⟩
theorem Both.only (h : Both w size F g lasts ws G r l2 us w1) (ho : Only E w1 w2) (h0 : ∀ k, E k → w.heap.size ≤ k) (h1 : ∀ k, F k → ¬ E k) (h2 : ∀ k, G k → ¬ E k) : Both w size F g lasts ws G r l2 us w2 :=
  ⟨⟨h.1.1.keep (ho.keeps h1 h.1.1.lt), h.1.2.1, h.1.2.2.trans (ho.to_below h0 h.1.2.2.size)⟩, h.2.1.keep (ho.keeps h2 h.2.1.lt), h.2.2.1, h.2.2.2⟩
theorem Both.of (h : DL w F g size lasts ws w1) (h2 : RefAt w2 G r size l2 us) (hG : ∀ k, G k → w1.heap.size ≤ k) (hb : Below w1.heap.size w1 w2) : Both w size F g lasts ws G r l2 us w2 :=
  ⟨h.below hb, h2, fun k hk => Nat.le_trans h.2.2.size (hG k hk), fun k hk hg => by have := h.1.lt k hk; have := hG k hg; omega⟩
end
theorem RefAt.waits {w : World} {F : Nat → Prop} {g size : Nat} {lasts : List UInt8} {us : List U} (h : RefAt w F g size lasts us) : ∃ A c, w.cell? ⟨g, 2, none⟩ = some (.slice A us.length c) := by
  obtain ⟨es, AL, cL, AW, cW, rfl, hE⟩ := h
  exact ⟨AW, cW, by rw [List.length_map]; exact hE.blk.cell 2⟩
theorem plus1 (x : UInt8) : ∃ y : UInt8, IntKind.u8.wrap ((x.toNat : Int) + 1) = (y.toNat : Int) := ⟨x + 1, by
  have := x.toNat_lt
  have e : (x + 1).toNat = (x.toNat + 1) % 256 := by rw [UInt8.toNat_add]; rfl
  rw [e]
  rw [IntKind.wrap_u8]; omega⟩


/-- Behind a round's two steps: the disks, the variable p, its bytes. -/
def Mid (w : World) (size : Nat) (g r : Nat) (R : Nat × List UInt8 × List W) (b : Nat) (k z : Int) (A : Option Addr) (m c : Nat) (wx : World) : Prop :=
  ∃ F G bs, Both w size F g R.2.1 R.2.2 G r R.2.1 (exp R.2.2) wx ∧ Blk wx (b + 1) 34 #[.int .i64 k, .int .i64 z, .slice A m c] ∧ OwnB wx (b + 2) A m c bs ∧ ∀ i, A.map (·.block) = some i → ¬ F i ∧ ¬ G i
set_option maxRecDepth 100000 in
set_option maxHeartbeats 4000000 in
theorem walk (z : Int) (a : Option Addr) (n c : Nat) (l : List Op13) (w : World) (hz0 : -9223372036854775808 ≤ z) (hz1 : z ≤ 9223372036854775807) (hl : OpsAt w a n l) (hn : n ≤ c) (hc : c ≤ maxLen) (hlz : ∀ o ∈ l, o.bs.length ≤ reachBytes) :
    Calls Try.prog 3 #[.int .i64 z, .slice a n c] w fun e w' => e = .returned (.bool true) ∧ Below w.heap.size w w' := by
  have HL := Lib.hid hl.1
  have HLZ := Lib.hid hlz
  clear hlz
  by_cases hbig : 200 < n
  case pos =>
    go_enter Try.func3, Try.ntmps3
    go_wp2_with fail
    refine (alive13 _).mono ?_
    rintro e w1 ⟨rfl, h1⟩
    go_wp2_with fail
    refine (great_long a n c l _ (hl.below h1) hc hn hbig).mono ?_
    rintro e w2 ⟨rfl, h2⟩
    go_wp2_with fail
    go_ret
    exact ⟨rfl, h1.trans (h2.mono h1.size)⟩
  by_cases hsum : 20000 < opsSum l
  case pos =>
    have hd := Lib.hid (decide_eq_true hsum)
    go_enter Try.func3, Try.ntmps3
    go_wp2_with fail
    refine (alive13 _).mono ?_
    rintro e w1 ⟨rfl, h1⟩
    go_wp2_with fail
    refine (great_short a n c l _ (hl.below h1) (by omega)).mono ?_
    rw [hd.out]
    rintro e w2 ⟨rfl, h2⟩
    go_wp2_with fail
    go_ret
    exact ⟨rfl, h1.trans (h2.mono h1.size)⟩
  have hd := Lib.hid (decide_eq_false hsum)
  by_cases hz : z < 1 ∨ 16384 < z
  case pos =>
    go_enter Try.func3, Try.ntmps3
    go_wp2_with fail
    refine (alive13 _).mono ?_
    rintro e w1 ⟨rfl, h1⟩
    go_wp2_with fail
    refine (great_short a n c l _ (hl.below h1) (by omega)).mono ?_
    rw [hd.out]
    rintro e w2 ⟨rfl, h2⟩
    go_wp2_with fail
    refine (dnew_bad z _ hz).mono ?_
    rintro e w3 ⟨rfl, rfl⟩
    go_wp2_with fail
    refine (rnew_bad z _ hz).mono ?_
    rintro e w3 ⟨rfl, rfl⟩
    go_wp2_with fail
    go_ret
    exact ⟨rfl, h1.trans (h2.mono h1.size)⟩
  obtain ⟨size, rfl⟩ := Int.eq_ofNat_of_zero_le (show 0 ≤ z by omega)
  have hs1 : 1 ≤ size := by omega
  have hs2 : size ≤ 16384 := by omega
  clear hz hz0 hz1 hsum
  go_enter Try.func3, Try.ntmps3
  go_wp2_with fail
  refine (alive13 _).mono ?_
  rintro e w1 ⟨rfl, h1⟩
  go_wp2_with fail
  refine (great_short a n c l _ (hl.below h1) (by omega)).mono ?_
  rw [hd.out]
  rintro e w2 ⟨rfl, h2⟩
  have h12 := h1.trans (h2.mono h1.size)
  clear h1 h2
  go_wp2_with fail
  refine (dnew_any size _ hs1 hs2).mono ?_
  rintro e w3 ⟨g, F1, rfl, hD1, hF1, hb1⟩
  have L1 := DL.of_new h12 hD1 hF1 hb1
  clear hD1 hF1 hb1 h12
  go_wp2_with fail
  refine (rnew_any size _ hs1 hs2).mono ?_
  rintro e w4 ⟨r, G1, rfl, hD2, hG1, hb2⟩
  have T1 := Both.of L1 hD2 hG1 hb2
  clear L1 hD2 hG1 hb2
  go_wp2_with fail
  go_loopw [45] (fun i wr => ∃ (k : Nat) (F G : Nat → Prop) (lasts : List UInt8) (ws : List W), k ≤ n ∧ i = .int .i64 k ∧ Both w size F g lasts ws G r lasts (exp ws) wr ∧ Fits size lasts ws ∧ lasts.length + mass ws ≤ (k + 1) * 16384 ∧ ws.length ≤ k) (fun i _ => n - (intOf i).toNat)
  case atStart => exact ⟨0, F1, G1, [], [], by omega, rfl, T1, Fits.empty _, by simp [mass], by simp⟩
  case round =>
    clear T1
    obtain ⟨k, F, G, lasts, ws, hk, rfl, T, hF, hms, hwl⟩ := hrel
    by_cases hlt : k < n
    · have hkl : k < l.length := by rw [← HL.out]; exact hlt
      obtain ⟨ad, A, m, c', rfl, q0, q1, q2, q3, q4, q5, q6, q7⟩ := hl.keep T.1.2.2 k _ (List.getElem?_eq_getElem hkl)
      have hreach : m ≤ 140737488351232 := by have := HLZ.out _ (List.getElem_mem hkl); rw [← q3.1] at this; exact this
      generalize l[k] = o at q0 q1 q2 q3 q6 q7
      have hms2 : lasts.length + mass ws ≤ 4000000 := by omega
      obtain ⟨wv, hwv⟩ : ∃ wv, wv = (wr.alloc (.cells #[.int .i64 o.kind, .int .i64 o.num, .slice A m c'] 34)).alloc (.cells #[.int .i64 o.kind, .int .i64 o.num, .slice A m c'] 34) := ⟨_, rfl⟩
      have HWV := Lib.hid hwv
      clear hwv
      go_upto_region 13 with fail
      obtain ⟨b0, hb0⟩ : ∃ b0, b0 = wr.heap.size := ⟨_, rfl⟩
      have K0 : Blk wv b0 34 #[.int .i64 o.kind, .int .i64 o.num, .slice A m c'] := by rw [HWV.out, hb0]; exact (Blk.new wr _ _).alloc _
      have K1 : Blk wv (b0 + 1) 34 #[.int .i64 o.kind, .int .i64 o.num, .slice A m c'] := by
        have h := Blk.new (wr.alloc (.cells #[.int .i64 o.kind, .int .i64 o.num, .slice A m c'] 34)) 34 #[.int .i64 o.kind, .int .i64 o.num, .slice A m c']
        rw [HWV.out, hb0]; simpa using h
      have hbv : Below wr.heap.size wr wv := by rw [HWV.out]; exact ((Below.refl _ _).alloc (Nat.le_refl _) _).alloc (by simp) _
      have hsv : wv.heap.size = b0 + 2 := by rw [HWV.out, hb0]; simp
      have q3v := q3.below (hbv.mono T.1.2.2.size)
      have hwb : w.heap.size ≤ b0 := by rw [hb0]; exact T.1.2.2.size
      have hFlt : ∀ k, F k → k < b0 := by rw [hb0]; exact T.1.1.lt
      have hGlt : ∀ k, G k → k < b0 := by rw [hb0]; exact T.2.1.lt
      have T2 := T.below hbv
      have HB := Lib.hid hb0
      have HSV := Lib.hid hsv
      clear T hbv q0 q1 q2 q3 hsv
      rw [← HWV.out, ← HB.out]
      clear HB HWV hb0
      have t0 := (K0.alloc (.cells #[] 5)).cell 2
      go_wp2_with (at_builtin; refine stop ?_)
      unfold Stop
      refine wpList_appB rfl (.tmp 50) (.tmp 52) rfl (by rfl) (OwnB.made wv (b0 + 2) [] #[] 0 rfl rfl (by rw [HSV.out]; exact Nat.le_refl _) (by decide)) (by rfl) (q3v.alloc T2.1.2.2.size _) (by omega) (by simp [HSV.out]) ?_
      intro A' c2 w1 ho1 _ _ hb1
      rw [Nat.zero_add, List.nil_append] at ho1
      rw [Nat.zero_add]
      have hbe : Below (b0 + 2) wv w1 := ((Below.refl _ _).alloc (by rw [HSV.out]; exact Nat.le_refl _) _).trans hb1
      have K0a := K0.below hbe (by omega)
      have K1a := K1.below hbe (by omega)
      have T3 := T2.below (hbe.mono (by rw [HSV.out]; exact Nat.le_refl _))
      have t1 := K1a.cell 2
      have t2 := K1a.free 2
      have hA' : A'.map (·.block) ≠ some (b0 + 1) := fun e => by have := (ho1.lt _ e).1; omega
      obtain ⟨w5, hw5⟩ : ∃ w5, w5 = w1.setCell ⟨b0 + 1, 2, none⟩ (.slice A' m c2) := ⟨_, rfl⟩
      have K0b : Blk w5 b0 34 #[.int .i64 o.kind, .int .i64 o.num, .slice A m c'] := by rw [hw5]; exact K0a.far (p := ⟨b0 + 1, 2, none⟩) (by simp) _
      have K1b : Blk w5 (b0 + 1) 34 #[.int .i64 o.kind, .int .i64 o.num, .slice A' m c2] := by rw [hw5]; exact K1a.set_ 2 _
      have ho5 : OwnB w5 (b0 + 2) A' m c2 o.bs := by rw [hw5]; exact ho1.setFar (p := ⟨b0 + 1, 2, none⟩) hA' _
      have T5 := T3.only (w2 := w5) (E := fun k => k = b0 + 1) (by rw [hw5]; exact (Only.refl (fun k => k = b0 + 1) w1).setCell (p := ⟨b0 + 1, 2, none⟩) (.inl rfl) _) (fun k hk => by omega) (fun k hk => by have := hFlt k hk; omega) (fun k hk => by have := hGlt k hk; omega)
      have q35 : RdB w5 w.heap.size A m o.bs := q3v.below ((hbe.mono (by omega)).trans (by rw [hw5]; exact (Below.refl _ _).setCell (by simp; omega) _))
      have HW5 := Lib.hid hw5
      clear hw5
      go_upto_region 14 with fail
      rw [← HW5.out]
      clear HW5 t0 t1 t2 T3 K0a K1a ho1 hbe hb1 T2 K0 K1 HSV q3v hA'
      have T5d := T5.below (Below.refl _ _).drew
      have HF := Lib.hid hF
      have hpl := pend_le ws
      have hwl2 : ws.length ≤ 200 := by omega
      have HMS := Lib.hid hms
      have HWL := Lib.hid hwl
      clear T5 hF hms hwl HL HLZ
      have t0 := K0b.cell 0
      have t1 := K0b.cell 1
      have t2 := K0b.cell 2
      have t3 := K1b.cell 0
      have t4 := K1b.cell 1
      have t5 := K1b.cell 2
      have hFA : ∀ i, A'.map (·.block) = some i → ¬ F i ∧ ¬ G i := fun i hi => ⟨fun h => by have := hFlt i h; have := (ho5.lt i hi).1; omega, fun h => by have := hGlt i h; have := (ho5.lt i hi).1; omega⟩
      go_cut [61] (fun s wx => s = .bool false ∧ Mid w size g r (stepM size lasts ws o) b0 o.kind o.num A' m c2 wx)
      case first =>
       go_region_with (first
        | (go_at_call 11; (refine (do_any o A' m c2 _ F g size lasts ws _ T5d.1.1 (by omega) (by omega) (by omega) (show RdB w5.drew _ A' m o.bs from ho5.rd) q7.1 q7.2).mono ?_; rintro e wa ⟨rfl, ha⟩; obtain ⟨F6, T6, ho6, hg6⟩ := T5d.fst ha; have K0c := K0b.drew.only ho6 (fun h => by have := hFlt _ h; omega); have s0 := K0c.cell 0; have s1 := K0c.cell 1; have s2 := K0c.cell 2; have q36 := (show RdB w5.drew w.heap.size A m o.bs from q35).below (ho6.to_below T5d.1.2.1 T5d.1.2.2.size)))
        | (go_at_call 12; (refine (rdo_any o A m c' w.heap.size G r size lasts ws _ T6.2.1 (by omega) hs2 (by omega) q36 T6.1.2.2.size T6.2.2.1 (by omega) q7.1 q7.2).mono ?_; rintro e wb ⟨rfl, hb⟩; obtain ⟨G7, T7, ho7, hg7⟩ := T6.snd hb)))
       all_goals
        have ho8 : OwnB wb (b0 + 2) A' m c2 o.bs := OwnB.only (OwnB.only (w := w5.drew) ho5 ho6 (fun k h => by have := hFlt k h; omega)) ho7 (fun k h => by have := hGlt k h; omega)
        have hM : Mid w size g r (stepM size lasts ws o) b0 o.kind o.num A' m c2 wb := by
          refine ⟨F6, G7, o.bs, T7, Blk.only (Blk.only (w := w5.drew) K1b ho6 (fun h => by have := hFlt _ h; omega)) ho7 (fun h => by have := hGlt _ h; omega), ho8, fun i hi => ⟨fun h => ?_, fun h => ?_⟩⟩
          · rcases hg6 i h with h | h
            · exact (hFA i hi).1 h
            · have h2 := (ho5.lt i hi).2; have h3 : w5.heap.size ≤ i := h; omega
          · rcases hg7 i h with h | h
            · exact (hFA i hi).2 h
            · have h2 := (ho5.lt i hi).2; have h3 := ho6.size; have h4 : w5.heap.size ≤ wa.heap.size := h3; omega
        have HM := Lib.hid hM
        clear hM ho8 T7 T6 ho6 ho7 hg6 hg7
        go_wp2_with fail
        go_meet
        exact ⟨rfl, HM.out⟩
      case rest =>
       obtain ⟨rfl, hM⟩ := hcut
       clear T5d q35 K0b K1b t0 t1 t2 t3 t4 t5 ho5 hFA hFlt hGlt
       have f2 := step_fits o HF.out
       have m2 := stepM_mass size lasts ws o
       have hms := HMS.out
       have hwl := HWL.out
       clear HF HMS HWL
       generalize stepM size lasts ws o = R at *
       obtain ⟨x, l3, ws3⟩ := R
       simp only at f2 m2
       have m3 : l3.length + mass ws3 ≤ (k + 1 + 1) * 16384 := by have := m2.1; omega
       have m4 : ws3.length ≤ k + 1 := by have := m2.2; omega
       clear m2 hms hwl
       obtain ⟨F6, G7, bs, T, K, O, hfar⟩ := hM
       simp only at T
       have p2 := K.cell 2
       have hm63 : m ≤ 9223372036854775807 := by omega
       go_wp2_with fail
       clear p2
       obtain ⟨wo, rfl⟩ : ∃ wo, wo = wr := ⟨_, rfl⟩
       go_loopw [65] (fun i wx => ∃ (j : Nat) (bs : List UInt8), j ≤ m ∧ i = .int .i64 j ∧ Both w size F6 g l3 ws3 G7 r l3 (exp ws3) wx ∧ Blk wx (b0 + 1) 34 #[.int .i64 o.kind, .int .i64 o.num, .slice A' m c2] ∧ OwnB wx (b0 + 2) A' m c2 bs) (fun i _ => m - (intOf i).toNat)
       case atStart => exact ⟨0, bs, by omega, rfl, T, K, O⟩
       case round =>
         clear T K O bs
         obtain ⟨j, bs, hj, rfl, T, K, O⟩ := hrel
         by_cases hjm : j < m
         · have p2 := K.cell 2
           obtain ⟨q, rfl, hq1, hq2⟩ := O.form (by omega)
           have hjb : j < bs.length := by have := O.1; omega
           have c0 := O.cell hjb
           have c1 := O.free j
           obtain ⟨y, hy⟩ := plus1 bs[j]
           have hj0 : (0 : Int) ≤ (j : Int) := by omega
           have hj1 : (j : Int) < (m : Int) := by omega
           go_wp2_with fail
           go_region
           have hq := hfar q rfl
           have T2 : Both w size F6 g l3 ws3 G7 r l3 (exp ws3) ((wr.setCell ⟨q, j, none⟩ (bv y)).drew) :=
             (T.only (E := fun k => k = q) ((Only.refl (fun k => k = q) wr).setCell (p := ⟨q, j, none⟩) (.inl rfl) _) (fun k hk => by omega) (fun k hk he => by subst he; exact hq.1 hk) (fun k hk he => by subst he; exact hq.2 hk)).below (Below.refl _ _).drew
           have K2 : Blk ((wr.setCell ⟨q, j, none⟩ (bv y)).drew) (b0 + 1) 34 #[.int .i64 o.kind, .int .i64 o.num, .slice (some ⟨q, 0, none⟩) m c2] := K.far (p := ⟨q, j, none⟩) (by simp; omega) _
           have O2 : OwnB ((wr.setCell ⟨q, j, none⟩ (bv y)).drew) (b0 + 2) (some ⟨q, 0, none⟩) m c2 (bs.set j y) := O.set_ j y
           have HT := Lib.hid T2
           have HO := Lib.hid O2
           clear T2 O2 T K O p2 hy c0 c1
           go_wp2_with fail
           go_roundw
           case rel => exact ⟨j + 1, bs.set j y, by omega, by go_num, HT.out, K2, HO.out⟩
           case measure => simp [intOf]; omega
         · have hrd : afterU l3 (exp ws3) = readL l3 ws3 := by
             have := after_exp l3 ws3 (pend ws3)
             rw [← exp_length, List.take_length, exp_length] at this
             exact this
           have HRD := Lib.hid hrd
           have hmx : l3.length + massU (exp ws3) ≤ 1099511627776 := by rw [exp_mass]; omega
           have hrl := f2.read
           have hpl3 := pend_le ws3
           clear K O hrd
           have hl3 : l3.length + mass ws3 ≤ 1099511627776 := by omega
           have hw3 : ws3.length ≤ 1099511627776 := by omega
           go_wp2_with fail
           refine (read_any F6 g size l3 ws3 _ T.1.1 hl3 hw3).mono ?_
           obtain ⟨X, hX⟩ : ∃ X, readL l3 ws3 = X := ⟨_, rfl⟩
           rw [hX] at hrl HRD ⊢
           have HX := Lib.hid hX
           clear hX
           rintro e w8 ⟨A8, n8, c8, rfl, o8, h8⟩
           have HN := Lib.hid o8.1
           rw [← o8.1] at hrl
           have hfar8 : ∀ i, A8.map (·.block) = some i → ¬ F6 i ∧ ¬ G7 i := fun i hi => ⟨fun h => by have := T.1.1.lt i h; have := (o8.lt i hi).1; omega, fun h => by have := T.2.1.lt i h; have := (o8.lt i hi).1; omega⟩
           have T8 := T.below h8
           have hw8 : w.heap.size ≤ wr.heap.size := T.1.2.2.size
           clear T h8
           clear hjm
           have T8d := T8.below (Below.refl _ _).drew
           go_upto_region 22 with fail
           go_cut [104] (fun s wx => s = .bool false ∧ Both w size F6 g l3 ws3 G7 r l3 (exp ws3) wx ∧ OwnB wx wr.heap.size A8 n8 c8 X)
           case first =>
             have ew : IntKind.i64.wrap ((size : Int) - (n8 : Int)) = (size : Int) - (n8 : Int) := IntWalk.i64_in _ (by omega)
             have h63 : n8 ≤ 9223372036854775807 := by omega
             have hm3 : mass ws3 ≤ 1099511627776 := by omega
             have hsz3 : size ≤ 1099511627776 := by omega
             have hqq : (((size : Int) - (n8 : Int)) != ((size : Int) - (n8 : Int))) = false := by simp
             refine wp_region_any (by kernel_rfl) ?_
             try (change wpAny _ _ _ _ _ _ _ (World.drew _))
             refine wpAny_take (i := 0) (v := ?rv339) rfl (by kernel_rfl) (by kernel_rfl) (by kernel_rfl) (fun _ _ _ h => h) (Or.inl ⟨by rfl, ?ry339⟩) ?_
             case ry339 => ((intro w; go_simp); (try with_reducible rfl))
             simp only [Act.put, List.getElem_toArray, List.getElem_cons_zero, List.getElem_cons_succ, List.setIfInBounds_toArray, List.set_cons_succ, List.set_cons_zero]
             refine wpAny_take (i := 1) (v := ?rv342) rfl (by kernel_rfl) (by kernel_rfl) (by kernel_rfl) (fun _ _ _ h => h) (Or.inl ⟨by rfl, ?ry342⟩) ?_
             case ry342 => ((intro w; go_simp); (try with_reducible rfl))
             simp only [Act.put, List.getElem_toArray, List.getElem_cons_zero, List.getElem_cons_succ, List.setIfInBounds_toArray, List.set_cons_succ, List.set_cons_zero]
             refine wpAny_ready (rs := [2]) (by kernel_rfl) (by simp) ?_
             refine AllReady.cons rfl (fun K hK => ?_) AllReady.nil
             go_simp
             refine (rread_any G7 r size l3 (exp ws3) _ T8d.2.1 hmx).mono ?_
             rw [HRD.out]
             rintro e w9 ⟨A9, n9, c9, rfl, o9, h9⟩
             have T9 := T8d.below h9
             have o8b := OwnB.below (w := w8.drew) o8 h9 (Nat.le_refl _)
             obtain ⟨AW, cW, cw9⟩ := RefAt.waits T9.2.1
             rw [exp_length] at cw9
             refine hK _ _ ?_
             clear hK K
             refine wpAny_ready (rs := [3]) (by kernel_rfl) (by simp) ?_
             refine AllReady.cons rfl (fun K hK => ?_) AllReady.nil
             go_simp
             refine (same_eq _ _ _ _ _ _ X _ _ _ o8b.rd o9.rd h63).mono ?_
             rintro e w10 ⟨rfl, m10, rfl⟩
             have T10 := T9.below (below_drewN (Below.refl _ _) m10)
             have o8c := o8b.below (below_drewN (Below.refl _ _) m10) (Nat.le_refl _)
             refine hK _ _ ?_
             clear hK K
             refine wpAny_take (i := 4) (v := ?rv366) rfl (by kernel_rfl) (by kernel_rfl) (by kernel_rfl) (fun _ _ _ h => h) (Or.inl ⟨by rfl, ?ry366⟩) ?_
             case ry366 => ((intro w; go_simp); (try with_reducible rfl))
             simp only [Act.put, List.getElem_toArray, List.getElem_cons_zero, List.getElem_cons_succ, List.setIfInBounds_toArray, List.set_cons_succ, List.set_cons_zero]
             refine wpAny_take (i := 5) (v := ?rv369) rfl (by kernel_rfl) (by kernel_rfl) (by kernel_rfl) (fun _ _ _ h => h) (Or.inl ⟨by rfl, ?ry369⟩) ?_
             case ry369 => ((intro w; go_simp); (try with_reducible rfl))
             simp only [Act.put, List.getElem_toArray, List.getElem_cons_zero, List.getElem_cons_succ, List.setIfInBounds_toArray, List.set_cons_succ, List.set_cons_zero]
             refine wpAny_take (i := 6) (v := ?rv372) rfl (by kernel_rfl) (by kernel_rfl) (by kernel_rfl) (fun _ _ _ h => h) (Or.inl ⟨by rfl, ?ry372⟩) ?_
             case ry372 => ((intro w; go_simp); (try with_reducible rfl))
             simp only [Act.put, List.getElem_toArray, List.getElem_cons_zero, List.getElem_cons_succ, List.setIfInBounds_toArray, List.set_cons_succ, List.set_cons_zero]
             refine wpAny_take (i := 8) (v := ?rv375) rfl (by kernel_rfl) (by kernel_rfl) (by kernel_rfl) (fun _ _ _ h => h) (Or.inl ⟨by rfl, ?ry375⟩) ?_
             case ry375 => ((intro w; go_simp); (try with_reducible rfl))
             simp only [Act.put, List.getElem_toArray, List.getElem_cons_zero, List.getElem_cons_succ, List.setIfInBounds_toArray, List.set_cons_succ, List.set_cons_zero]
             refine wpAny_take (i := 9) (v := ?rv378) rfl (by kernel_rfl) (by kernel_rfl) (by kernel_rfl) (fun _ _ _ h => h) (Or.inl ⟨by rfl, ?ry378⟩) ?_
             case ry378 => ((intro w; go_simp); (try with_reducible rfl))
             simp only [Act.put, List.getElem_toArray, List.getElem_cons_zero, List.getElem_cons_succ, List.setIfInBounds_toArray, List.set_cons_succ, List.set_cons_zero]
             refine wpAny_take (i := 10) (v := ?rv381) rfl (by kernel_rfl) (by kernel_rfl) (by kernel_rfl) (fun _ _ _ h => h) (Or.inl ⟨by rfl, ?ry381⟩) ?_
             case ry381 => ((intro w; go_simp); (try with_reducible rfl))
             simp only [Act.put, List.getElem_toArray, List.getElem_cons_zero, List.getElem_cons_succ, List.setIfInBounds_toArray, List.set_cons_succ, List.set_cons_zero]
             refine wpAny_ready (rs := [7, 11]) (by kernel_rfl) (by simp) ?_
             refine AllReady.cons rfl (fun K hK => ?_) (AllReady.cons rfl (fun K hK => ?_) AllReady.nil)
             · go_simp
               refine (waiting_any F6 g size l3 ws3 _ T10.1.1 hm3 hw3).mono ?_
               rintro e w11 ⟨rfl, h11⟩
               have T11 := T10.below h11
               have o8d := o8c.below h11 (Nat.le_refl _)
               obtain ⟨AW2, cW2, cw11⟩ := RefAt.waits T11.2.1
               rw [exp_length] at cw11
               refine hK _ _ ?_
               clear hK K
               refine wpAny_ready (rs := [11]) (by kernel_rfl) (by simp) ?_
               refine AllReady.cons rfl (fun K hK => ?_) AllReady.nil
               go_simp
               refine hK _ _ ?_
               clear hK K
               refine wpAny_take (i := 12) (v := ?rv400) rfl (by kernel_rfl) (by kernel_rfl) (by kernel_rfl) (fun _ _ _ h => h) (Or.inl ⟨by rfl, ?ry400⟩) ?_
               case ry400 => ((intro w; go_simp); (try with_reducible rfl))
               simp only [Act.put, List.getElem_toArray, List.getElem_cons_zero, List.getElem_cons_succ, List.setIfInBounds_toArray, List.set_cons_succ, List.set_cons_zero]
               refine wpAny_take (i := 13) (v := ?rv403) rfl (by kernel_rfl) (by kernel_rfl) (by kernel_rfl) (fun _ _ _ h => h) (Or.inl ⟨by rfl, ?ry403⟩) ?_
               case ry403 => ((intro w; go_simp); (try with_reducible rfl))
               simp only [Act.put, List.getElem_toArray, List.getElem_cons_zero, List.getElem_cons_succ, List.setIfInBounds_toArray, List.set_cons_succ, List.set_cons_zero]
               refine wpAny_take (i := 14) (v := ?rv406) rfl (by kernel_rfl) (by kernel_rfl) (by kernel_rfl) (fun _ _ _ h => h) (Or.inl ⟨by rfl, ?ry406⟩) ?_
               case ry406 => ((intro w; go_simp); (try with_reducible rfl))
               simp only [Act.put, List.getElem_toArray, List.getElem_cons_zero, List.getElem_cons_succ, List.setIfInBounds_toArray, List.set_cons_succ, List.set_cons_zero]
               refine wpAny_take (i := 15) (v := ?rv409) rfl (by kernel_rfl) (by kernel_rfl) (by kernel_rfl) (fun _ _ _ h => h) (Or.inl ⟨by rfl, ?ry409⟩) ?_
               case ry409 => ((intro w; go_simp); (try with_reducible rfl))
               simp only [Act.put, List.getElem_toArray, List.getElem_cons_zero, List.getElem_cons_succ, List.setIfInBounds_toArray, List.set_cons_succ, List.set_cons_zero]
               refine wpAny_take (i := 16) (v := ?rv412) rfl (by kernel_rfl) (by kernel_rfl) (by kernel_rfl) (fun _ _ _ h => h) (Or.inl ⟨by rfl, ?ry412⟩) ?_
               case ry412 => ((intro w; go_simp); (try with_reducible rfl))
               simp only [Act.put, List.getElem_toArray, List.getElem_cons_zero, List.getElem_cons_succ, List.setIfInBounds_toArray, List.set_cons_succ, List.set_cons_zero]
               refine wpAny_take (i := 18) (v := ?rv415) rfl (by kernel_rfl) (by kernel_rfl) (by kernel_rfl) (fun _ _ _ h => h) (Or.inl ⟨by rfl, ?ry415⟩) ?_
               case ry415 => ((intro w; go_simp); (try with_reducible rfl))
               simp only [Act.put, List.getElem_toArray, List.getElem_cons_zero, List.getElem_cons_succ, List.setIfInBounds_toArray, List.set_cons_succ, List.set_cons_zero]
               refine wpAny_take (i := 19) (v := ?rv418) rfl (by kernel_rfl) (by kernel_rfl) (by kernel_rfl) (fun _ _ _ h => h) (Or.inl ⟨by rfl, ?ry418⟩) ?_
               case ry418 => ((intro w; go_simp); (try with_reducible rfl))
               simp only [Act.put, List.getElem_toArray, List.getElem_cons_zero, List.getElem_cons_succ, List.setIfInBounds_toArray, List.set_cons_succ, List.set_cons_zero]
               refine wpAny_take (i := 20) (v := ?rv421) rfl (by kernel_rfl) (by kernel_rfl) (by kernel_rfl) (fun _ _ _ h => h) (Or.inl ⟨by rfl, ?ry421⟩) ?_
               case ry421 => ((intro w; go_simp); (try with_reducible rfl))
               simp only [Act.put, List.getElem_toArray, List.getElem_cons_zero, List.getElem_cons_succ, List.setIfInBounds_toArray, List.set_cons_succ, List.set_cons_zero]
               refine wpAny_take (i := 21) (v := ?rv424) rfl (by kernel_rfl) (by kernel_rfl) (by kernel_rfl) (fun _ _ _ h => h) (Or.inl ⟨by rfl, ?ry424⟩) ?_
               case ry424 => ((intro w; go_simp); (try with_reducible rfl))
               simp only [Act.put, List.getElem_toArray, List.getElem_cons_zero, List.getElem_cons_succ, List.setIfInBounds_toArray, List.set_cons_succ, List.set_cons_zero]
               refine wpAny_ready (rs := [17]) (by kernel_rfl) (by simp) ?_
               refine AllReady.cons rfl (fun K hK => ?_) AllReady.nil
               go_simp
               refine (room_any F6 g size l3 ws3 _ T11.1.1 hl3 hw3 hsz3).mono ?_
               rw [HX.out, ← HN.out]
               rintro e w12 ⟨rfl, h12⟩
               have T12 := T11.below h12
               have o8e := o8d.below h12 (Nat.le_refl _)
               refine hK _ _ ?_
               clear hK K
               refine wpAny_take (i := 22) (v := ?rv437) rfl (by kernel_rfl) (by kernel_rfl) (by kernel_rfl) (fun _ _ _ h => h) (Or.inl ⟨by rfl, ?ry437⟩) ?_
               case ry437 => ((intro w; go_simp); (try with_reducible rfl))
               simp only [Act.put, List.getElem_toArray, List.getElem_cons_zero, List.getElem_cons_succ, List.setIfInBounds_toArray, List.set_cons_succ, List.set_cons_zero]
               refine wpAny_take (i := 23) (v := ?rv440) rfl (by kernel_rfl) (by kernel_rfl) (by kernel_rfl) (fun _ _ _ h => h) (Or.inl ⟨by rfl, ?ry440⟩) ?_
               case ry440 => ((intro w; go_simp); (try with_reducible rfl))
               simp only [Act.put, List.getElem_toArray, List.getElem_cons_zero, List.getElem_cons_succ, List.setIfInBounds_toArray, List.set_cons_succ, List.set_cons_zero]
               refine wpAny_done (by kernel_rfl) ?_ _
               go_wp2_with fail
               go_meet
               exact ⟨rfl, T12, o8e⟩
             · go_simp
               refine hK _ _ ?_
               clear hK K
               refine wpAny_take (i := 12) (v := ?rv450) rfl (by kernel_rfl) (by kernel_rfl) (by kernel_rfl) (fun _ _ _ h => h) (Or.inl ⟨by rfl, ?ry450⟩) ?_
               case ry450 => ((intro w; go_simp); (try with_reducible rfl))
               simp only [Act.put, List.getElem_toArray, List.getElem_cons_zero, List.getElem_cons_succ, List.setIfInBounds_toArray, List.set_cons_succ, List.set_cons_zero]
               refine wpAny_ready (rs := [7]) (by kernel_rfl) (by simp) ?_
               refine AllReady.cons rfl (fun K hK => ?_) AllReady.nil
               go_simp
               refine (waiting_any F6 g size l3 ws3 _ T10.1.1 hm3 hw3).mono ?_
               rintro e w11 ⟨rfl, h11⟩
               have T11 := T10.below h11
               have o8d := o8c.below h11 (Nat.le_refl _)
               obtain ⟨AW2, cW2, cw11⟩ := RefAt.waits T11.2.1
               rw [exp_length] at cw11
               refine hK _ _ ?_
               clear hK K
               refine wpAny_take (i := 13) (v := ?rv464) rfl (by kernel_rfl) (by kernel_rfl) (by kernel_rfl) (fun _ _ _ h => h) (Or.inl ⟨by rfl, ?ry464⟩) ?_
               case ry464 => ((intro w; go_simp); (try with_reducible rfl))
               simp only [Act.put, List.getElem_toArray, List.getElem_cons_zero, List.getElem_cons_succ, List.setIfInBounds_toArray, List.set_cons_succ, List.set_cons_zero]
               refine wpAny_take (i := 14) (v := ?rv467) rfl (by kernel_rfl) (by kernel_rfl) (by kernel_rfl) (fun _ _ _ h => h) (Or.inl ⟨by rfl, ?ry467⟩) ?_
               case ry467 => ((intro w; go_simp); (try with_reducible rfl))
               simp only [Act.put, List.getElem_toArray, List.getElem_cons_zero, List.getElem_cons_succ, List.setIfInBounds_toArray, List.set_cons_succ, List.set_cons_zero]
               refine wpAny_take (i := 15) (v := ?rv470) rfl (by kernel_rfl) (by kernel_rfl) (by kernel_rfl) (fun _ _ _ h => h) (Or.inl ⟨by rfl, ?ry470⟩) ?_
               case ry470 => ((intro w; go_simp); (try with_reducible rfl))
               simp only [Act.put, List.getElem_toArray, List.getElem_cons_zero, List.getElem_cons_succ, List.setIfInBounds_toArray, List.set_cons_succ, List.set_cons_zero]
               refine wpAny_take (i := 16) (v := ?rv473) rfl (by kernel_rfl) (by kernel_rfl) (by kernel_rfl) (fun _ _ _ h => h) (Or.inl ⟨by rfl, ?ry473⟩) ?_
               case ry473 => ((intro w; go_simp); (try with_reducible rfl))
               simp only [Act.put, List.getElem_toArray, List.getElem_cons_zero, List.getElem_cons_succ, List.setIfInBounds_toArray, List.set_cons_succ, List.set_cons_zero]
               refine wpAny_take (i := 18) (v := ?rv476) rfl (by kernel_rfl) (by kernel_rfl) (by kernel_rfl) (fun _ _ _ h => h) (Or.inl ⟨by rfl, ?ry476⟩) ?_
               case ry476 => ((intro w; go_simp); (try with_reducible rfl))
               simp only [Act.put, List.getElem_toArray, List.getElem_cons_zero, List.getElem_cons_succ, List.setIfInBounds_toArray, List.set_cons_succ, List.set_cons_zero]
               refine wpAny_take (i := 19) (v := ?rv479) rfl (by kernel_rfl) (by kernel_rfl) (by kernel_rfl) (fun _ _ _ h => h) (Or.inl ⟨by rfl, ?ry479⟩) ?_
               case ry479 => ((intro w; go_simp); (try with_reducible rfl))
               simp only [Act.put, List.getElem_toArray, List.getElem_cons_zero, List.getElem_cons_succ, List.setIfInBounds_toArray, List.set_cons_succ, List.set_cons_zero]
               refine wpAny_take (i := 20) (v := ?rv482) rfl (by kernel_rfl) (by kernel_rfl) (by kernel_rfl) (fun _ _ _ h => h) (Or.inl ⟨by rfl, ?ry482⟩) ?_
               case ry482 => ((intro w; go_simp); (try with_reducible rfl))
               simp only [Act.put, List.getElem_toArray, List.getElem_cons_zero, List.getElem_cons_succ, List.setIfInBounds_toArray, List.set_cons_succ, List.set_cons_zero]
               refine wpAny_take (i := 21) (v := ?rv485) rfl (by kernel_rfl) (by kernel_rfl) (by kernel_rfl) (fun _ _ _ h => h) (Or.inl ⟨by rfl, ?ry485⟩) ?_
               case ry485 => ((intro w; go_simp); (try with_reducible rfl))
               simp only [Act.put, List.getElem_toArray, List.getElem_cons_zero, List.getElem_cons_succ, List.setIfInBounds_toArray, List.set_cons_succ, List.set_cons_zero]
               refine wpAny_ready (rs := [17]) (by kernel_rfl) (by simp) ?_
               refine AllReady.cons rfl (fun K hK => ?_) AllReady.nil
               go_simp
               refine (room_any F6 g size l3 ws3 _ T11.1.1 hl3 hw3 hsz3).mono ?_
               rw [HX.out, ← HN.out]
               rintro e w12 ⟨rfl, h12⟩
               have T12 := T11.below h12
               have o8e := o8d.below h12 (Nat.le_refl _)
               refine hK _ _ ?_
               clear hK K
               refine wpAny_take (i := 22) (v := ?rv498) rfl (by kernel_rfl) (by kernel_rfl) (by kernel_rfl) (fun _ _ _ h => h) (Or.inl ⟨by rfl, ?ry498⟩) ?_
               case ry498 => ((intro w; go_simp); (try with_reducible rfl))
               simp only [Act.put, List.getElem_toArray, List.getElem_cons_zero, List.getElem_cons_succ, List.setIfInBounds_toArray, List.set_cons_succ, List.set_cons_zero]
               refine wpAny_take (i := 23) (v := ?rv501) rfl (by kernel_rfl) (by kernel_rfl) (by kernel_rfl) (fun _ _ _ h => h) (Or.inl ⟨by rfl, ?ry501⟩) ?_
               case ry501 => ((intro w; go_simp); (try with_reducible rfl))
               simp only [Act.put, List.getElem_toArray, List.getElem_cons_zero, List.getElem_cons_succ, List.setIfInBounds_toArray, List.set_cons_succ, List.set_cons_zero]
               refine wpAny_done (by kernel_rfl) ?_ _
               go_wp2_with fail
               go_meet
               exact ⟨rfl, T12, o8e⟩
           case rest =>
             obtain ⟨rfl, T9, o9⟩ := hcut
             clear T8d T8 o8
             have hl63 : n8 ≤ 9223372036854775807 := by omega
             have hle := ownsRow_le o9.2
             go_wp2_with fail
             obtain ⟨wo2, rfl⟩ : ∃ wo2, wo2 = wr := ⟨_, rfl⟩
             go_loopw [107] (fun i wx => ∃ (j : Nat) (bs : List UInt8), j ≤ n8 ∧ i = .int .i64 j ∧ Both w size F6 g l3 ws3 G7 r l3 (exp ws3) wx ∧ OwnB wx wo2.heap.size A8 n8 c8 bs) (fun i _ => n8 - (intOf i).toNat)
             case atStart => exact ⟨0, X, by omega, rfl, T9, o9⟩
             case round =>
               clear T9 o9
               obtain ⟨j, bs, hj, rfl, T, O⟩ := hrel
               by_cases hjm : j < n8
               · obtain ⟨q, rfl, hq1, hq2⟩ := O.form (by omega)
                 have hjb : j < bs.length := by have := O.1; omega
                 have c0 := O.cell hjb
                 have c1 := O.free j
                 obtain ⟨y, hy⟩ := plus1 bs[j]
                 have hq := hfar8 q rfl
                 have T2 : Both w size F6 g l3 ws3 G7 r l3 (exp ws3) (wr.setCell ⟨q, j, none⟩ (bv y)) :=
                   T.only (E := fun k => k = q) ((Only.refl (fun k => k = q) wr).setCell (p := ⟨q, j, none⟩) (.inl rfl) _) (fun k hk => by omega) (fun k hk he => by subst he; exact hq.1 hk) (fun k hk he => by subst he; exact hq.2 hk)
                 have O2 := O.set_ j y
                 have HT := Lib.hid T2
                 have HO := Lib.hid O2
                 clear T2 O2 T O
                 go_wp2_with fail
                 go_roundw
                 case rel => exact ⟨j + 1, bs.set j y, by omega, by go_num, HT.out, HO.out⟩
                 case measure => simp [intOf]; omega
               · clear O
                 go_wp2_with fail
                 go_roundw
                 case rel => exact ⟨k + 1, F6, G7, l3, ws3, by omega, by go_num, T, f2, m3, m4⟩
                 case measure => simp [intOf]; omega
    · go_wp2_with fail
      go_ret
      exact ⟨rfl, T.1.2.2⟩
set_option maxRecDepth 100000 in
theorem lifted (os : Os) (started : os.Started) (H : Type) (enc : TypeId × Value → H) :
    ReturnsInHanded {} Try.checked os 3 .any (Rows.diskPlaysSpec.pre6 enc Try.prog Try.f3 Rows.diskPlaysRow.domain false) (Rows.diskPlaysSpec.post enc Try.prog Try.f3 false true false false) := by
  refine returnsInHanded_of_change_sized (C := Try.checked) own started (by kernel_rfl) Try.func3
    (ChangeSpec.witness6 (enc := enc) (C := Try.checked) false ⟨#[], #[.int .i64 0, .slice none 0 0], []⟩ 8 (by kernel_rfl) (by kernel_rfl) (by kernel_rfl) (by kernel_rfl)) ?_
  intro W base args ds gs before hval0 hW hcnd hsz0 _
  have hsz : (DataW.weightsEach Try.prog (Try.f3.params.toList ++ []) (ds ++ gs)).all (· ≤ reachBytes) = true := hsz0
  have hval : ∀ (j : Nat) t v, Try.f3.params[j]? = some t → args[j]? = some v → Value.okWide Try.prog W .any base t v := hval0
  have hW' := hW
  obtain ⟨p, q, hA0, hV, rfl, hfz, hnd⟩ := hW
  have hA : DataW.TrodAll enc Try.prog W 0 (fun _ => true) true Try.f3.params.toList args.toList ds p := hA0
  rw [Try.params3] at hA hval hsz
  obtain ⟨v0, vs0, d0, ds0, p0, q0, hargs, rfl, rfl, h0, r0⟩ := trodAll_cons hA
  obtain ⟨v1, vs1, d1, ds1, p1, q1, rfl, rfl, rfl, h1, r1⟩ := trodAll_cons r0
  obtain ⟨rfl, rfl, rfl⟩ := trodAll_nil r1
  obtain rfl : args = #[v0, v1] := by cases args; simp_all
  obtain ⟨rfl, rfl⟩ := trodVars_none hV
  have lt0 : ∀ x ∈ p0, x.block < W.heap.size := by obtain ⟨m, hm⟩ := h0; exact DataW.trod_lt m _ _ _ hm
  have k0 := h0
  have lt1 : ∀ x ∈ p1, x.block < W.heap.size := by obtain ⟨m, hm⟩ := h1; exact DataW.trod_lt m _ _ _ hm
  have k1 := h1
  obtain ⟨x0, rfl, rfl, rfl, wf0⟩ := open_int Try.underlying3 (hval 0 3 v0 rfl rfl) h0
  have hb0 : -9223372036854775808 ≤ x0 ∧ x0 ≤ 9223372036854775807 := by
    have hmin : IntKind.i64.min = -9223372036854775808 := rfl
    have hmax : IntKind.i64.max = 9223372036854775807 := rfl
    simp only [Lit.wf, Bool.and_eq_true, decide_eq_true_eq] at wf0
    omega
  have sz1 : Sz 22 d1 := sz_arg (j := 1) hsz rfl rfl
  obtain ⟨a, n, c, l, rfl, hl, hn, hc, hz⟩ := open_opsZ (hval 1 22 v1 rfl rfl) h1 sz1
  clear hA0 hval0
  refine (walk x0 a n c l W hb0.1 hb0.2 hl hn hc hz).mono fun e W' ⟨he, bel⟩ => ?_
  subst he
  exact ⟨_, rfl, _, _, _, [], _, [], hW', trodAll_mk1 (shut_bool Try.underlying4 _), (trodAll_cons_mk (Below.trod laidOut (by kernel_rfl) (of_decide_eq_true (by kernel_rfl)) k0 bel lt0) (trodAll_cons_mk (Below.trod laidOut (by kernel_rfl) (of_decide_eq_true (by kernel_rfl)) k1 bel lt1) trodAll_mk0)), rfl, bel.frame _, fun h => by cases h⟩

theorem proved : Rows.DiskPlaysSaid :=
  OpenClaim.holds_of_wide 3 Try.f3 rfl rfl rfl rfl rfl rfl rfl ⟨rfl, rfl, rfl, rfl, rfl⟩ rfl rfl rfl rfl rfl (by kernel_rfl) Try.func3 (by kernel_rfl)
    (of_decide_eq_true (by kernel_rfl)) (by unfold Func.isWrapper; first | (rw [if_pos (by decide +kernel)]; kernel_rfl) | (rw [if_neg (by decide +kernel)]; exact ⟨rfl, rfl⟩))
    (fun os started H enc _ => lifted os started H enc)
#print axioms proved
end Go.Proofs.Ytpnnhghgngkboaa.DiskPlays

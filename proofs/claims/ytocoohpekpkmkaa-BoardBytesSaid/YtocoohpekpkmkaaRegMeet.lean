/- The walk of reg.Meet (printed by gen/regmeet.py). -/
import Derived.Test.YtocoohpekpkmkaaRegMeetM
import Derived.Test.YtocoohpekpkmkaaRegSort
import Derived.Test.YtocoohpekpkmkaaInv
namespace Go.Proofs.Ytocoohpekpkmkaa
set_option linter.unusedVariables false
set_option linter.unusedSimpArgs false
open Go.RowKit
open Reg
theorem own_facts (U : List Int) (l : List Vl) : RightF (ownM U l).1 (ownM U l).2 := by
  unfold ownM
  cases h : rightM U l
  · refine ⟨fun i => ?_, fun v hv => (by cases hv), fun v hv => (by cases hv), List.Pairwise.nil⟩
    have : ([0, 0, 0, 0, 0, 0, 0, 0] : List Int).getD i 0 = 0 := by
      rw [List.getD_eq_getElem?_getD]
      rcases i with _ | _ | _ | _ | _ | _ | _ | _ | i <;> simp
    rw [if_neg (by simp)]
    rw [this]
    exact Int.le_refl 0
  · exact right_facts h
theorem own_len {U : List Int} (hU : U.length = 8) (l : List Vl) : (ownM U l).1.length = 8 := by
  unfold ownM
  split
  · exact hU
  · rfl
/-- the greater ones -/
def maxL (U V : List Int) : List Int := (List.range 8).map fun i => max (U.getD i 0) (V.getD i 0)
theorem maxL_len (U V : List Int) : (maxL U V).length = 8 := by simp [maxL]
/-- the greater ones of the first k nodes -/
def halfM (U V : List Int) (k : Nat) : List Int := (List.range 8).map fun i => if i < k then max (U.getD i 0) (V.getD i 0) else 0
theorem halfM_len (U V : List Int) (k : Nat) : (halfM U V k).length = 8 := by simp [halfM]
theorem halfM_zero (U V : List Int) : halfM U V 0 = z8 := rfl
theorem halfM_all (U V : List Int) : halfM U V 8 = maxL U V := by
  unfold halfM maxL
  refine List.map_congr_left fun i hi => ?_
  rw [if_pos (List.mem_range.1 hi)]
theorem halfM_set (U V : List Int) {k : Nat} (hk : k < 8) : (halfM U V k).set k (max (U.getD k 0) (V.getD k 0)) = halfM U V (k + 1) := by
  apply List.ext_getElem
  · simp [halfM]
  · intro i h1 h2
    have hi : i < 8 := by simpa [halfM] using h2
    rw [List.getElem_set]
    simp only [halfM, List.getElem_map, List.getElem_range]
    by_cases e : k = i
    · subst e
      rw [if_pos rfl, if_pos (Nat.lt_succ_self _)]
    · rw [if_neg e]
      by_cases h : i < k
      · rw [if_pos h, if_pos (by omega)]
      · rw [if_neg h, if_neg (by omega)]
theorem right_len {U : List Int} {l : List Vl} (h : RightF U l) : l.length ≤ 8 := by
  have hg : ∀ i (hi : i < l.length), (i : Int) ≤ l[i].1 := by
    intro i
    induction i with
    | zero => intro hi; exact (h.node _ (List.getElem_mem hi)).1
    | succ i ih =>
      intro hi
      have h1 := ih (by omega)
      have h2 := (List.pairwise_iff_getElem.1 h.up) i (i + 1) (by omega) hi (by omega)
      omega
  by_cases h8 : 8 < l.length
  · have h1 := hg 8 h8
    have h2 := (h.node _ (List.getElem_mem h8)).2
    omega
  · omega
/-- own's answer, once it is there -/
def OwnQ (B : Nat) (R : List Int × List Vl) (b : Bool) (q : Value) (w : World) : Prop := b = true → ∃ A m c, q = .agg (uc R.1 (.slice A m c)) ∧ RdV w B A m R.2 ∧ m ≤ 100000
theorem OwnQ.below {B : Nat} {R : List Int × List Vl} {b : Bool} {q : Value} {w w' : World} (h : OwnQ B R b q w) (hb : Below B w w') : OwnQ B R b q w' := fun e => by
  obtain ⟨A, m, c, h1, h2, h3⟩ := h e
  exact ⟨A, m, c, h1, h2.below hb, h3⟩
/-- a block that is stored to once -/
def StQ (g : Nat) (T : TypeId) (c0 : Array Value) (b : Bool) (q : Value) (w : World) : Prop := (b = false → Blk w g T c0) ∧ (b = true → ∃ cs, q = .agg cs ∧ Blk w g T cs)
theorem StQ.start {g : Nat} {T : TypeId} {c0 : Array Value} {b : Bool} {q : Value} {w : World} (h : Blk w g T c0) (hb : b = false) : StQ g T c0 b q w := ⟨fun _ => h, fun e => by rw [hb] at e; cases e⟩
theorem StQ.below {g : Nat} {T : TypeId} {c0 : Array Value} {b : Bool} {q : Value} {w w' : World} (h : StQ g T c0 b q w) (hb : Below w.heap.size w w') (hf : b = false) : StQ g T c0 b q w' := StQ.start ((h.1 hf).below hb (h.1 hf).lt) hf
theorem StQ.none {g : Nat} {T : TypeId} {c0 : Array Value} {b : Bool} {q q' : Value} {w : World} (h : StQ g T c0 b q w) (hf : b = false) : StQ g T c0 b q' w := StQ.start (h.1 hf) hf
theorem StQ.grown {g k : Nat} {T : TypeId} {c0 : Array Value} {b : Bool} {q : Value} {w w' : World} (h : StQ g T c0 b q w) (hg : w.grownBy w' (some k)) (hne : k ≠ g) : StQ g T c0 b q w' :=
  ⟨fun e => (h.1 e).grown hg (by intro h; injection h; omega), fun e => by
    obtain ⟨cs, h1, h2⟩ := h.2 e
    exact ⟨cs, h1, h2.grown hg (by intro h; injection h; omega)⟩⟩
set_option maxRecDepth 100000 in
set_option maxHeartbeats 4000000 in
theorem meet29_any (U V : List Int) (hU : U.length = 8) (hV : V.length = 8) (A A2 : Option Addr) (n c n2 c2 : Nat) (l l2 : List Vl) (w : World) (hl : RdV w w.heap.size A n l) (hl2 : RdV w w.heap.size A2 n2 l2) (hn : n ≤ 100000) (hn2 : n2 ≤ 100000) :
    Calls Try.prog 13 #[.agg (uc U (.slice A n c)), .agg (uc V (.slice A2 n2 c2))] w (CopyV 49 w (maxL (ownM U l).1 (ownM V l2).1) (meetL (ownM U l).1 (ownM V l2).1 (ownM U l).2 (ownM V l2).2)) := by
  obtain ⟨B, hB⟩ : ∃ B, B = w.heap.size := ⟨_, rfl⟩
  have hO1 := fun (w' : World) (hb : Below B w w') => own29_any U hU A n c l w' B ((hB ▸ hl : RdV w B A n l).below hb) (by have := hb.size; omega) hn
  have hO2 := fun (w' : World) (hb : Below B w w') => own29_any V hV A2 n2 c2 l2 w' B ((hB ▸ hl2 : RdV w B A2 n2 l2).below hb) (by have := hb.size; omega) hn2
  have HO1 := Lib.hid hO1
  have HO2 := Lib.hid hO2
  have HRA := Lib.hid (own_facts U l)
  have HRB := Lib.hid (own_facts V l2)
  have HA8 := Lib.hid (own_len hU l)
  have HB8 := Lib.hid (own_len hV l2)
  have HS1 := Lib.hid (uc_size hU (.slice A n c))
  have HS2 := Lib.hid (uc_size hV (.slice A2 n2 c2))
  generalize ownM U l = RA at *
  generalize ownM V l2 = RB at *
  clear hO1 hO2 hl hl2 hn hn2 hU hV
  go_enter Try.func13, Try.ntmps13
  go_upto_region 1 with fail
  rw [← hB]
  refine nameW ?_
  intro wv hwv
  have k2 : Blk wv B 31 (uc U (.slice A n c)) := by rw [hwv, hB]; exact ((Blk.new w _ _).alloc _).alloc _
  have k3 : Blk wv (B + 1) 31 (uc V (.slice A2 n2 c2)) := by
    have h := (Blk.new (w.alloc (.cells (uc U (.slice A n c)) 31)) 31 (uc V (.slice A2 n2 c2))).alloc (.cells #[.int .i64 0, .int .i64 0, .int .i64 0, .int .i64 0, .int .i64 0, .int .i64 0, .int .i64 0, .int .i64 0, .slice none 0 0] 31)
    rw [hwv, hB]
    simpa using h
  have k4 : Blk wv (B + 1 + 1) 31 (uc z8 (.slice none 0 0)) := by
    have h := Blk.new ((w.alloc (.cells (uc U (.slice A n c)) 31)).alloc (.cells (uc V (.slice A2 n2 c2)) 31)) 31 (uc z8 (.slice none 0 0))
    have hz : uc z8 (.slice none 0 0) = #[.int .i64 0, .int .i64 0, .int .i64 0, .int .i64 0, .int .i64 0, .int .i64 0, .int .i64 0, .int .i64 0, .slice none 0 0] := by kernel_rfl
    rw [hz] at h ⊢
    rw [hwv, hB]
    simpa using h
  have gb : Below B w wv := by rw [hwv, hB]; exact (((Below.refl _ _).alloc (Nat.le_refl _) _).alloc (by simp) _).alloc (by simp; omega) _
  have hBw : B + 1 + 1 + 1 = wv.heap.size := by rw [hwv, hB]; simp
  have HK2 := Lib.hid k2
  have HK3 := Lib.hid k3
  have HK4 := Lib.hid k4
  have HGB := Lib.hid gb
  clear hwv k2 k3 k4 gb
  have HB := Lib.hid hB
  clear hB
  refine wp_region_inv (fun L a wx => ∃ q0 q1 q2 q3 : Value, a = { tmps := (.agg (uc U (.slice A n c)) :: .agg (uc V (.slice A2 n2 c2)) :: .pointer (some ⟨B, 0, none⟩) :: .pointer (some ⟨B + 1, 0, none⟩) :: .pointer (some ⟨B + 1 + 1, 0, none⟩) :: undef :: undef :: undef :: q0 :: q1 :: q2 :: q3 :: undef :: undef :: undef :: undef :: undef :: undef :: undef :: undef :: undef :: undef :: undef :: undef :: undef :: undef :: undef :: undef :: undef :: undef :: undef :: undef :: undef :: undef :: undef :: undef :: undef :: undef :: undef :: undef :: undef :: undef :: undef :: undef :: undef :: []).toArray, defers := [] } ∧ Below B w wx ∧ Blk wx (B + 1 + 1) 31 (uc z8 (.slice none 0 0)) ∧ (L 0 = true → q0 = .agg (uc U (.slice A n c))) ∧ (L 2 = true → q2 = .agg (uc V (.slice A2 n2 c2))) ∧ OwnQ B RA (L 1) q1 wx ∧ OwnQ B RB (L 3) q3 wx ∧ StQ B 31 (uc U (.slice A n c)) (L 4) q1 wx ∧ StQ (B + 1) 31 (uc V (.slice A2 n2 c2)) (L 5) q3 wx ∧ (L 4 = true → L 0 = true ∧ L 1 = true ∧ L 2 = true ∧ L 3 = true) ∧ (L 5 = true → L 0 = true ∧ L 1 = true ∧ L 2 = true ∧ L 3 = true) ∧ (L 3 = true → L 2 = true)) (by kernel_rfl) (by kernel_rfl) ?h0 ?hst ?hend
  case h0 =>
    intro L h0
    have h0 : ∀ i, i < 6 → L i = false := h0
    have z : ∀ {i : Nat} {p : Prop}, i < 6 → L i = true → p := fun hi h => by rw [h0 _ hi] at h; cases h
    exact ⟨undef, undef, undef, undef, rfl, HGB.out.trans (Below.refl _ _).drew, HK4.out.drew, z (by omega), z (by omega), z (by omega), z (by omega), StQ.start HK2.out.drew (h0 4 (by omega)), StQ.start HK3.out.drew (h0 5 (by omega)), z (by omega), z (by omega), z (by omega)⟩
  case hst =>
    show InvSteps _ _ _ _ _ [0, 1, 2, 3, 4, 5]
    refine @InvSteps.cons _ _ _ _ _ 0 _ [] _ rfl (by kernel_rfl) ?s0 ?_
    rotate_left
    refine @InvSteps.cons _ _ _ _ _ 1 _ [0] _ rfl (by kernel_rfl) ?s1 ?_
    rotate_left
    refine @InvSteps.cons _ _ _ _ _ 2 _ [] _ rfl (by kernel_rfl) ?s2 ?_
    rotate_left
    refine @InvSteps.cons _ _ _ _ _ 3 _ [2, 1] _ rfl (by kernel_rfl) ?s3 ?_
    rotate_left
    refine @InvSteps.cons _ _ _ _ _ 4 _ [1, 3, 0, 1] _ rfl (by kernel_rfl) ?s4 ?_
    rotate_left
    refine @InvSteps.cons _ _ _ _ _ 5 _ [3, 4, 0, 1, 2, 3, 4] _ rfl (by kernel_rfl) ?s5 ?_
    rotate_left
    exact InvSteps.nil
    case s0 =>
      rintro L a wx hL hd ⟨q0, q1, q2, q3, rfl, hb, kz, l0, l2, f1, f3, s4, s5, o4, o5, o3⟩ K hK
      have h4 : L 4 = false := by cases h : L 4; · rfl
                                  · have := (o4 h).1; rw [hL] at this; cases this
      have kk := s4.1 h4
      refine step_ld rfl rowM (.tmp 2) rfl rfl kk HS1.out ?_
      exact hK.out _ _ ⟨.agg (uc U (.slice A n c)), q1, q2, q3, rfl, hb, kz, fun _ => rfl, l2, f1, f3, s4, s5, fun h => ⟨rfl, (o4 h).2⟩, fun h => ⟨rfl, (o5 h).2⟩, o3⟩
    case s1 =>
      rintro L a wx hL hd ⟨q0, q1, q2, q3, rfl, hb, kz, l0, l2, f1, f3, s4, s5, o4, o5, o3⟩ K hK
      have h4 : L 4 = false := by cases h : L 4; · rfl
                                  · have := (o4 h).2.1; rw [hL] at this; cases this
      have h5 : L 5 = false := by cases h : L 5; · rfl
                                  · have := (o5 h).2.1; rw [hL] at this; cases this
      have l0t := hd 0 (by simp)
      obtain rfl := l0 l0t
      go_simp
      refine (HO1.out wx hb).mono ?_
      rintro e wy ⟨A1, m1, c1, rfl, r1, hm1, _, bb⟩
      have hs := hb.size
      have hbs : B ≤ wx.heap.size := by have := kz.lt; omega
      exact hK.out _ _ ⟨_, .agg (uc RA.1 (.slice A1 m1 c1)), q2, q3, rfl, hb.trans (bb.mono hbs), kz.below bb kz.lt, fun _ => rfl, l2, fun _ => ⟨A1, m1, c1, rfl, r1, hm1⟩, f3.below (bb.mono hbs), (s4.below bb h4).none h4, s5.below bb h5, fun h => ⟨l0t, rfl, (o4 h).2.2⟩, fun h => ⟨l0t, rfl, (o5 h).2.2⟩, o3⟩
    case s2 =>
      rintro L a wx hL hd ⟨q0, q1, q2, q3, rfl, hb, kz, l0, l2, f1, f3, s4, s5, o4, o5, o3⟩ K hK
      have h5 : L 5 = false := by cases h : L 5; · rfl
                                  · have := (o5 h).2.2.1; rw [hL] at this; cases this
      have kk := s5.1 h5
      refine step_ld rfl rowM (.tmp 3) rfl rfl kk HS2.out ?_
      exact hK.out _ _ ⟨q0, q1, .agg (uc V (.slice A2 n2 c2)), q3, rfl, hb, kz, l0, fun _ => rfl, f1, f3, s4, s5, fun h => ⟨(o4 h).1, (o4 h).2.1, rfl, (o4 h).2.2.2⟩, fun h => ⟨(o5 h).1, (o5 h).2.1, rfl, (o5 h).2.2.2⟩, fun _ => rfl⟩
    case s3 =>
      rintro L a wx hL hd ⟨q0, q1, q2, q3, rfl, hb, kz, l0, l2, f1, f3, s4, s5, o4, o5, o3⟩ K hK
      have h4 : L 4 = false := by cases h : L 4; · rfl
                                  · have := (o4 h).2.2.2; rw [hL] at this; cases this
      have h5 : L 5 = false := by cases h : L 5; · rfl
                                  · have := (o5 h).2.2.2; rw [hL] at this; cases this
      have l2t := hd 2 (by simp)
      obtain rfl := l2 l2t
      go_simp
      refine (HO2.out wx hb).mono ?_
      rintro e wy ⟨A1, m1, c1, rfl, r1, hm1, _, bb⟩
      have hbs : B ≤ wx.heap.size := by have := kz.lt; omega
      exact hK.out _ _ ⟨q0, q1, _, .agg (uc RB.1 (.slice A1 m1 c1)), rfl, hb.trans (bb.mono hbs), kz.below bb kz.lt, l0, fun _ => rfl, f1.below (bb.mono hbs), fun _ => ⟨A1, m1, c1, rfl, r1, hm1⟩, s4.below bb h4, (s5.below bb h5).none h5, fun h => ⟨(o4 h).1, (o4 h).2.1, l2t, rfl⟩, fun h => ⟨(o5 h).1, (o5 h).2.1, l2t, rfl⟩, fun _ => l2t⟩
    case s4 =>
      rintro L a wx hL hd ⟨q0, q1, q2, q3, rfl, hb, kz, l0, l2, f1, f3, s4, s5, o4, o5, o3⟩ K hK
      have h5 : L 5 = false ∨ L 5 = true := by cases L 5 <;> simp
      obtain ⟨A1, m1, c1, rfl, r1, hm1⟩ := f1 (hd 1 (by simp))
      have kk := s4.1 hL
      have HSR := uc_size HA8.out (.slice A1 m1 c1)
      have HOR := uc_one (U := RA.1) (s := .slice A1 m1 c1) rfl
      refine step_st (cs := uc RA.1 (.slice A1 m1 c1)) rfl rowM (.tmp 2) (.tmp 9) rfl rfl rfl kk HSR HS1.out HOR ?_
      intro wy ky gy zy
      have bY : Below B wx wy := (Below.refl _ _).grown gy (by have := kz.lt; omega) (fun q hq => by injection hq; omega)
      exact hK.out _ _ ⟨q0, .agg (uc RA.1 (.slice A1 m1 c1)), q2, q3, rfl, hb.trans bY, kz.grown gy (by intro h; injection h; omega), l0, l2, fun _ => ⟨A1, m1, c1, rfl, r1.below bY, hm1⟩, f3.below bY, ⟨fun h => (by cases h), fun _ => ⟨_, rfl, ky⟩⟩, s5.grown gy (by omega), fun _ => ⟨hd 0 (by simp), hd 1 (by simp), o3 (hd 3 (by simp)), hd 3 (by simp)⟩, o5, o3⟩
    case s5 =>
      rintro L a wx hL hd ⟨q0, q1, q2, q3, rfl, hb, kz, l0, l2, f1, f3, s4, s5, o4, o5, o3⟩ K hK
      obtain ⟨A1, m1, c1, rfl, r1, hm1⟩ := f3 (hd 3 (by simp))
      have kk := s5.1 hL
      have HSR := uc_size HB8.out (.slice A1 m1 c1)
      have HOR := uc_one (U := RB.1) (s := .slice A1 m1 c1) rfl
      refine step_st (cs := uc RB.1 (.slice A1 m1 c1)) rfl rowM (.tmp 3) (.tmp 11) rfl rfl rfl kk HSR HS2.out HOR ?_
      intro wy ky gy zy
      have bY : Below B wx wy := (Below.refl _ _).grown gy (by have := kz.lt; omega) (fun q hq => by injection hq; omega)
      exact hK.out _ _ ⟨q0, q1, q2, .agg (uc RB.1 (.slice A1 m1 c1)), rfl, hb.trans bY, kz.grown gy (by intro h; injection h; omega), l0, l2, f1.below bY, fun _ => ⟨A1, m1, c1, rfl, r1.below bY, hm1⟩, s4.grown gy (by omega), ⟨fun h => (by cases h), fun _ => ⟨_, rfl, ky⟩⟩, o4, fun _ => ⟨hd 0 (by simp), hd 1 (by simp), hd 2 (by simp), hd 3 (by simp)⟩, o3⟩
  case hend =>
  rintro L a wx hall ⟨q0, q1, q2, q3, rfl, hb, kz, l0, l2, f1, f3, s4, s5, o4, o5, o3⟩
  have hL : ∀ i, i < 6 → L i = true := hall
  obtain ⟨Aa, ma, ca, rfl, ra, hma⟩ := f1 (hL 1 (by omega))
  obtain ⟨Ab, mb, cb, rfl, rb, hmb⟩ := f3 (hL 3 (by omega))
  obtain ⟨cs, e1, ka⟩ := s4.2 (hL 4 (by omega))
  injection e1 with e1
  subst e1
  obtain ⟨cs, e1, kb⟩ := s5.2 (hL 5 (by omega))
  injection e1 with e1
  subst e1
  have l0 := l0 (hL 0 (by omega))
  have l2 := l2 (hL 2 (by omega))
  subst l0 l2
  have HKZ := Lib.hid kz
  have HGB2 := Lib.hid hb
  clear f1 f3 s4 s5 o4 o5 o3 hall hL hb HK2 HK3 HK4 HGB hBw HO1 HO2
  have la8 := right_len HRA.out
  have lb8 := right_len HRB.out
  have hma8 : ma ≤ 8 := by rw [ra.1]; exact la8
  have hmb8 : mb ≤ 8 := by rw [rb.1]; exact lb8
  have HSA := Lib.hid (uc_size HA8.out (.slice Aa ma ca))
  have HSB := Lib.hid (uc_size HB8.out (.slice Ab mb cb))
  have hBx : B + 1 + 1 < wx.heap.size := kz.lt
  clear la8 lb8 hma hmb
  go_upto_region 3 with fail
  refine nameW ?_
  intro w1 hw1
  have kg : Blk w1 wx.heap.size 31 (uc (halfM RA.1 RB.1 0) (.slice none 0 0)) := by
    have h := Blk.new wx 31 (uc z8 (.slice none 0 0))
    have hz : uc z8 (.slice none 0 0) = #[.int .i64 0, .int .i64 0, .int .i64 0, .int .i64 0, .int .i64 0, .int .i64 0, .int .i64 0, .int .i64 0, .slice none 0 0] := by kernel_rfl
    rw [halfM_zero, hw1, hz]
    rw [hz] at h
    exact h
  have bx : Below wx.heap.size wx w1 := by rw [hw1]; exact (Below.refl _ _).alloc (Nat.le_refl _) _
  clear hw1
  go_wp2_with fail
  go_loopw [12] (fun i wr => ∃ k : Nat, k ≤ 8 ∧ i = .int .i64 k ∧ Blk wr wx.heap.size 31 (uc (halfM RA.1 RB.1 k) (.slice none 0 0)) ∧ Below wx.heap.size wx wr) (fun i _ => 8 - (intOf i).toNat)
  case atStart => exact ⟨0, by omega, rfl, kg, bx⟩
  case round =>
  clear kg bx
  obtain ⟨k, hk, rfl, kg, bx⟩ := hrel
  have ka1 := ka.below bx ka.lt
  have kb1 := kb.below bx kb.lt
  by_cases hlt : k < 8
  case pos =>
    have e1 : wr.cell? ⟨B, k, none⟩ = some (.int .i64 (RA.1.getD k 0)) := (ka1.cell k).trans (uc_at HA8.out _ hlt)
    have e2 : wr.cell? ⟨B + 1, k, none⟩ = some (.int .i64 (RB.1.getD k 0)) := (kb1.cell k).trans (uc_at HB8.out _ hlt)
    have e3 := (kg.cell k).trans (uc_at (halfM_len _ _ _) _ hlt)
    have e4 := kg.free k
    have k5 := kg.set_ k (.int .i64 (max (RA.1.getD k 0) (RB.1.getD k 0)))
    rw [uc_set (halfM_len _ _ _) _ hlt, halfM_set _ _ hlt] at k5
    have b5 := bx.setCell (p := ⟨wx.heap.size, k, none⟩) (Nat.le_refl _) (.int .i64 (max (RA.1.getD k 0) (RB.1.getD k 0)))
    generalize (halfM RA.1 RB.1 k).getD k 0 = zz at e3
    generalize RA.1.getD k 0 = u at *
    generalize RB.1.getD k 0 = v at *
    have hk0 : (0 : Int) ≤ (k : Int) := by omega
    have hk1 : (k : Int) < 8 := by omega
    have hgl := kg.lt
    have HK := Lib.hid (And.intro k5 b5)
    clear kg bx k5 b5 ka1 kb1
    go_wp2_with fail
    go_region
    go_wp2_with fail
    go_roundw
    case rel => exact ⟨k + 1, by omega, by go_num, HK.out.1.drew, HK.out.2.trans (Below.refl _ _).drew⟩
    case measure => simp [intOf]; omega
  obtain rfl : k = 8 := by omega
  rw [halfM_all] at kg
  have HML := Lib.hid (maxL_len RA.1 RB.1)
  have ra1 := (ra.more (B' := wx.heap.size) (by omega)).below bx
  have rb1 := (rb.more (B' := wx.heap.size) (by omega)).below bx
  have hGw := kg.lt
  have c2 : wr.cell? ⟨B, 8, none⟩ = some (.slice Aa ma ca) := (ka1.cell 8).trans (uc_last HA8.out _)
  have hkeep1 := keep29_any 50 (.agg (uc RB.1 (.slice Ab mb cb))) (keptB RB.1 RB.2) (maxL RA.1 RB.1) HML.out wx.heap.size Aa ma ca RA.2 none 0 0 [] wr (fun _ _ => rfl)
    (fun v hv w' hb => kept29_any RB.1 HB8.out Ab mb cb wx.heap.size RB.2 v (HRA.out.node v hv).1 (HRA.out.node v hv).2 w' (rb1.below hb) (by omega) (by have := hb.size; omega))
    ra1 (by omega) (by omega) kg (OwnV.nil _ _ _)
  have HKP1 := Lib.hid hkeep1
  have HBX := Lib.hid bx
  clear hkeep1 kg bx kz ka kb ra rb hlt hk
  go_wp2_with ((with_reducible refine wpList_ld rowM kb1 HSB.out ?_ ?_); rotate_left; (rfl))
  refine HKP1.out.mono ?_
  rintro e w2 ⟨rfl, A3, m3, c3, kg2, o2, b2⟩
  have ka2 := ka1.below b2 (by omega)
  have kb2 := kb1.below b2 (by omega)
  have rb2 := rb1.below b2
  have hm3 : m3 ≤ 1000 := by
    have h1 := keepL_len (keptB RB.1 RB.2) RA.2 []
    rw [← o2.1, ← ra1.1] at h1
    simp at h1
    omega
  have c3' : w2.cell? ⟨B + 1, 8, none⟩ = some (.slice Ab mb cb) := (kb2.cell 8).trans (uc_last HB8.out _)
  have hkeep2 := keep29_any 51 (.agg (uc RA.1 (.slice Aa ma ca))) (newsB RA.1) (maxL RA.1 RB.1) HML.out wx.heap.size Ab mb cb RB.2 A3 m3 c3 _ w2 (fun _ _ => rfl)
    (fun v hv w' hb => news29_any RA.1 HA8.out _ v (HRB.out.node v hv).1 (HRB.out.node v hv).2 w')
    rb2 (by omega) hm3 kg2 o2
  have HKP2 := Lib.hid hkeep2
  have HB2 := Lib.hid b2
  clear hkeep2 kg2 o2 b2 ra1 rb1 ka1 kb1 c2 HKP1 rb2
  go_wp2_with ((with_reducible refine wpList_ld rowM ka2 HSA.out ?_ ?_); rotate_left; (rfl))
  refine HKP2.out.mono ?_
  rintro e w3 ⟨rfl, A4, m4, c4, kg3, o3, b3⟩
  have hpm := meet_perm HRA.out HRB.out
  have hm4 : m4 ≤ 8 := by
    rw [o3.1, hpm.length_eq]
    exact meetL_len _ _ _ _
  have hnode : ∀ v, v ∈ keepL (newsB RA.1) (keepL (keptB RB.1 RB.2) [] RA.2) RB.2 → 0 ≤ v.1 ∧ v.1 < 8 := fun v hv => by
    rw [hpm.mem_iff, mem_meetL HRA.out HRB.out] at hv
    rcases hv with h | h
    · exact HRA.out.node v h.1
    · exact HRB.out.node v h.1
  have hsort : Calls Try.prog 52 #[.slice A4 m4 c4, .func (.func 53) #[] #[]] w3 fun e w' => e = .returned (.tuple #[]) ∧ OwnV 49 w' (wx.heap.size + 1) A4 m4 c4 (meetL RA.1 RB.1 RA.2 RB.2) ∧ Below (wx.heap.size + 1) w3 w' := by
    have hf := o3.2.2
    rcases hf with ⟨hv, h0⟩ | ⟨gq, cap, cur, hv, hq, _⟩
    · injection hv with h1 h2 h3
      subst h1 h2 h3
      refine (sortNil_any 0 _ w3).mono ?_
      rintro e w' ⟨rfl, rfl⟩
      have hnil := List.length_eq_zero_iff.1 o3.1.symm
      rw [hnil] at hpm
      rw [List.nil_perm.1 hpm]
      exact ⟨rfl, OwnV.nil _ _ _, Below.refl _ _⟩
    · injection hv with h1 h2 h3
      subst h1 h3
      refine (sort29_any (wx.heap.size + 1) gq m4 c4 _ hnode (by omega) w3 o3).mono ?_
      rintro e w' ⟨rfl, l', o4, hp4, hs4, hg4⟩
      have hl' := perm_sorted (hp4.trans hpm) hs4 (meetL_up HRA.out HRB.out)
      subst hl'
      have hgl := o3.lt gq rfl
      exact ⟨rfl, o4, (Below.refl _ _).grown hg4 (by omega) (fun q hq' => by injection hq' with hq'; omega)⟩
  have HSO := Lib.hid hsort
  have c5 : w3.cell? ⟨wx.heap.size, 8, none⟩ = some (.slice A4 m4 c4) := (kg3.cell 8).trans (uc_last HML.out _)
  have HB3 := Lib.hid b3
  clear hsort hpm hnode o3 HKP2 b3 ka2 kb2 c3'
  go_wp2_with fail
  refine HSO.out.mono ?_
  rintro e w4 ⟨rfl, o4, b4⟩
  have kg4 := kg3.below b4 (by omega)
  have bXall : Below wx.heap.size wx w4 := (HBX.out.trans (HB2.out.trans HB3.out)).trans (b4.mono (by omega))
  have kz4 : Blk w4 (B + 1 + 1) 31 (uc z8 (.slice none 0 0)) := HKZ.out.below bXall hBx
  have gb4 : Below B w w4 := HGB2.out.trans (bXall.mono (by omega))
  have HSM := Lib.hid (uc_size HML.out (.slice A4 m4 c4))
  have H1M := Lib.hid (uc_one (U := maxL RA.1 RB.1) (s := .slice A4 m4 c4) rfl)
  have HSZ8 := Lib.hid (z8_size (.slice none 0 0))
  clear c5 kg3 b4 HSO bXall
  go_wp2_with first
    | ((with_reducible refine wpList_ld rowM kg4 HSM.out ?_ ?_); rotate_left; (rfl))
    | ((with_reducible refine wpList_st rowM kz4 HSM.out HSZ8.out H1M.out ?_ ?_ ?_); rotate_left; (rfl); (rfl); intro w5 k5 g5 z5)
  have hne : A4.map (·.block) ≠ some (B + 1 + 1) := fun e => by have := (o4.lt _ e).1; omega
  have o5 := (o4.grown g5 (.inr hne)).mono (base' := w.heap.size) (by have := HB.out; omega)
  have gb5 := gb4.grown g5 (by have := kz4.lt; omega) (fun q hq => by injection hq; omega)
  obtain rfl := HB.out
  exact bodyPost_ret (v := .agg (uc (maxL RA.1 RB.1) (.slice A4 m4 c4))) (results_blk rfl rowM k5 HSM.out rfl) rfl ⟨A4, m4, c4, rfl, o5, gb5⟩
end Go.Proofs.Ytocoohpekpkmkaa

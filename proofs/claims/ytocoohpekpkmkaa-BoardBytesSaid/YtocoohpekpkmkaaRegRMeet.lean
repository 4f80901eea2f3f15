/- The walk of the document's Meet (printed by gen/regmeet.py). -/
import Derived.Test.YtocoohpekpkmkaaRegMeet
import Derived.Test.YtocoohpekpkmkaaRegROf
import Derived.Test.YtocoohpekpkmkaaFacts
namespace Go.Proofs.Ytocoohpekpkmkaa
set_option linter.unusedVariables false
set_option linter.unusedSimpArgs false
open Go.RowKit
open Reg
set_option maxRecDepth 100000 in
set_option maxHeartbeats 4000000 in
theorem rmeet29_any (U V : List Int) (hU : U.length = 8) (hV : V.length = 8) (A A2 : Option Addr) (n c n2 c2 : Nat) (l l2 : List Vl) (w : World) (hl : RdV w w.heap.size A n l) (hl2 : RdV w w.heap.size A2 n2 l2) (hn : n ≤ 100000) (hn2 : n2 ≤ 100000) :
    Calls Try.prog 18 #[.agg (uc U (.slice A n c)), .agg (uc V (.slice A2 n2 c2))] w (CopyV 105 w (maxL (ownM U l).1 (ownM V l2).1) (meetL (ownM U l).1 (ownM V l2).1 (ownM U l).2 (ownM V l2).2)) := by
  obtain ⟨B, hB⟩ : ∃ B, B = w.heap.size := ⟨_, rfl⟩
  have hO1 := fun (w' : World) (hb : Below B w w') => rown29_any U hU A n c l w' B ((hB ▸ hl : RdV w B A n l).below hb) (by have := hb.size; omega) hn
  have hO2 := fun (w' : World) (hb : Below B w w') => rown29_any V hV A2 n2 c2 l2 w' B ((hB ▸ hl2 : RdV w B A2 n2 l2).below hb) (by have := hb.size; omega) hn2
  have HO1 := Lib.hid hO1
  have HO2 := Lib.hid hO2
  have HRA := Lib.hid (own_facts U l)
  have HRB := Lib.hid (own_facts V l2)
  have HA8 := Lib.hid (own_len hU l)
  have HB8 := Lib.hid (own_len hV l2)
  have HS1 := Lib.hid (uc_size hU (.slice A n c))
  have HS2 := Lib.hid (uc_size hV (.slice A2 n2 c2))
  generalize ownM U l = RA at *
  generalize ownM V l2 = RB at *
  clear hO1 hO2 hl hl2 hn hn2 hU hV
  go_enter Try.func18, Try.ntmps18
  go_upto_region 1 with fail
  rw [← hB]
  refine nameW ?_
  intro wv hwv
  have k2 : Blk wv B 25 (uc U (.slice A n c)) := by rw [hwv, hB]; exact ((Blk.new w _ _).alloc _).alloc _
  have k3 : Blk wv (B + 1) 25 (uc V (.slice A2 n2 c2)) := by
    have h := (Blk.new (w.alloc (.cells (uc U (.slice A n c)) 25)) 25 (uc V (.slice A2 n2 c2))).alloc (.cells #[.int .i64 0, .int .i64 0, .int .i64 0, .int .i64 0, .int .i64 0, .int .i64 0, .int .i64 0, .int .i64 0, .slice none 0 0] 25)
    rw [hwv, hB]
    simpa using h
  have k4 : Blk wv (B + 1 + 1) 25 (uc z8 (.slice none 0 0)) := by
    have h := Blk.new ((w.alloc (.cells (uc U (.slice A n c)) 25)).alloc (.cells (uc V (.slice A2 n2 c2)) 25)) 25 (uc z8 (.slice none 0 0))
    have hz : uc z8 (.slice none 0 0) = #[.int .i64 0, .int .i64 0, .int .i64 0, .int .i64 0, .int .i64 0, .int .i64 0, .int .i64 0, .int .i64 0, .slice none 0 0] := by kernel_rfl
    rw [hz] at h ⊢
    rw [hwv, hB]
    simpa using h
  have gb : Below B w wv := by rw [hwv, hB]; exact (((Below.refl _ _).alloc (Nat.le_refl _) _).alloc (by simp) _).alloc (by simp; omega) _
  have hBw : B + 1 + 1 + 1 = wv.heap.size := by rw [hwv, hB]; simp
  have HK2 := Lib.hid k2
  have HK3 := Lib.hid k3
  have HK4 := Lib.hid k4
  have HGB := Lib.hid gb
  clear hwv k2 k3 k4 gb
  have HB := Lib.hid hB
  clear hB
  refine wp_region_inv (fun L a wx => ∃ q0 q1 q2 q3 : Value, a = { tmps := (.agg (uc U (.slice A n c)) :: .agg (uc V (.slice A2 n2 c2)) :: .pointer (some ⟨B, 0, none⟩) :: .pointer (some ⟨B + 1, 0, none⟩) :: .pointer (some ⟨B + 1 + 1, 0, none⟩) :: undef :: undef :: undef :: undef :: q0 :: q1 :: q2 :: q3 :: undef :: undef :: undef :: undef :: undef :: undef :: undef :: undef :: undef :: undef :: undef :: undef :: undef :: undef :: undef :: undef :: undef :: undef :: undef :: undef :: undef :: undef :: undef :: undef :: undef :: undef :: undef :: undef :: undef :: undef :: undef :: undef :: undef :: undef :: undef :: undef :: undef :: undef :: undef :: undef :: undef :: undef :: undef :: undef :: undef :: undef :: undef :: undef :: undef :: undef :: undef :: undef :: undef :: undef :: undef :: undef :: undef :: undef :: undef :: []).toArray, defers := [] } ∧ Below B w wx ∧ Blk wx (B + 1 + 1) 25 (uc z8 (.slice none 0 0)) ∧ (L 0 = true → q0 = .agg (uc U (.slice A n c))) ∧ (L 2 = true → q2 = .agg (uc V (.slice A2 n2 c2))) ∧ OwnQ B RA (L 1) q1 wx ∧ OwnQ B RB (L 3) q3 wx ∧ StQ B 25 (uc U (.slice A n c)) (L 4) q1 wx ∧ StQ (B + 1) 25 (uc V (.slice A2 n2 c2)) (L 5) q3 wx ∧ (L 4 = true → L 0 = true ∧ L 1 = true ∧ L 2 = true ∧ L 3 = true) ∧ (L 5 = true → L 0 = true ∧ L 1 = true ∧ L 2 = true ∧ L 3 = true) ∧ (L 3 = true → L 2 = true)) (by kernel_rfl) (by kernel_rfl) ?h0 ?hst ?hend
  case h0 =>
    intro L h0
    have h0 : ∀ i, i < 6 → L i = false := h0
    have z : ∀ {i : Nat} {p : Prop}, i < 6 → L i = true → p := fun hi h => by rw [h0 _ hi] at h; cases h
    exact ⟨undef, undef, undef, undef, rfl, HGB.out.trans (Below.refl _ _).drew, HK4.out.drew, z (by omega), z (by omega), z (by omega), z (by omega), StQ.start HK2.out.drew (h0 4 (by omega)), StQ.start HK3.out.drew (h0 5 (by omega)), z (by omega), z (by omega), z (by omega)⟩
  case hst =>
    show InvSteps _ _ _ _ _ [0, 1, 2, 3, 4, 5]
    refine @InvSteps.cons _ _ _ _ _ 0 _ [] _ rfl (by kernel_rfl) ?s0 ?_
    rotate_left
    refine @InvSteps.cons _ _ _ _ _ 1 _ [0] _ rfl (by kernel_rfl) ?s1 ?_
    rotate_left
    refine @InvSteps.cons _ _ _ _ _ 2 _ [] _ rfl (by kernel_rfl) ?s2 ?_
    rotate_left
    refine @InvSteps.cons _ _ _ _ _ 3 _ [2, 1] _ rfl (by kernel_rfl) ?s3 ?_
    rotate_left
    refine @InvSteps.cons _ _ _ _ _ 4 _ [1, 3, 0, 1] _ rfl (by kernel_rfl) ?s4 ?_
    rotate_left
    refine @InvSteps.cons _ _ _ _ _ 5 _ [3, 4, 0, 1, 2, 3, 4] _ rfl (by kernel_rfl) ?s5 ?_
    rotate_left
    exact InvSteps.nil
    case s0 =>
      rintro L a wx hL hd ⟨q0, q1, q2, q3, rfl, hb, kz, l0, l2, f1, f3, s4, s5, o4, o5, o3⟩ K hK
      have h4 : L 4 = false := by cases h : L 4; · rfl
                                  · have := (o4 h).1; rw [hL] at this; cases this
      have kk := s4.1 h4
      refine step_ld rfl rowRM (.tmp 2) rfl rfl kk HS1.out ?_
      exact hK.out _ _ ⟨.agg (uc U (.slice A n c)), q1, q2, q3, rfl, hb, kz, fun _ => rfl, l2, f1, f3, s4, s5, fun h => ⟨rfl, (o4 h).2⟩, fun h => ⟨rfl, (o5 h).2⟩, o3⟩
    case s1 =>
      rintro L a wx hL hd ⟨q0, q1, q2, q3, rfl, hb, kz, l0, l2, f1, f3, s4, s5, o4, o5, o3⟩ K hK
      have h4 : L 4 = false := by cases h : L 4; · rfl
                                  · have := (o4 h).2.1; rw [hL] at this; cases this
      have h5 : L 5 = false := by cases h : L 5; · rfl
                                  · have := (o5 h).2.1; rw [hL] at this; cases this
      have l0t := hd 0 (by simp)
      obtain rfl := l0 l0t
      go_simp
      refine (HO1.out wx hb).mono ?_
      rintro e wy ⟨A1, m1, c1, rfl, r1, hm1, _, bb⟩
      have hs := hb.size
      have hbs : B ≤ wx.heap.size := by have := kz.lt; omega
      exact hK.out _ _ ⟨_, .agg (uc RA.1 (.slice A1 m1 c1)), q2, q3, rfl, hb.trans (bb.mono hbs), kz.below bb kz.lt, fun _ => rfl, l2, fun _ => ⟨A1, m1, c1, rfl, r1, hm1⟩, f3.below (bb.mono hbs), (s4.below bb h4).none h4, s5.below bb h5, fun h => ⟨l0t, rfl, (o4 h).2.2⟩, fun h => ⟨l0t, rfl, (o5 h).2.2⟩, o3⟩
    case s2 =>
      rintro L a wx hL hd ⟨q0, q1, q2, q3, rfl, hb, kz, l0, l2, f1, f3, s4, s5, o4, o5, o3⟩ K hK
      have h5 : L 5 = false := by cases h : L 5; · rfl
                                  · have := (o5 h).2.2.1; rw [hL] at this; cases this
      have kk := s5.1 h5
      refine step_ld rfl rowRM (.tmp 3) rfl rfl kk HS2.out ?_
      exact hK.out _ _ ⟨q0, q1, .agg (uc V (.slice A2 n2 c2)), q3, rfl, hb, kz, l0, fun _ => rfl, f1, f3, s4, s5, fun h => ⟨(o4 h).1, (o4 h).2.1, rfl, (o4 h).2.2.2⟩, fun h => ⟨(o5 h).1, (o5 h).2.1, rfl, (o5 h).2.2.2⟩, fun _ => rfl⟩
    case s3 =>
      rintro L a wx hL hd ⟨q0, q1, q2, q3, rfl, hb, kz, l0, l2, f1, f3, s4, s5, o4, o5, o3⟩ K hK
      have h4 : L 4 = false := by cases h : L 4; · rfl
                                  · have := (o4 h).2.2.2; rw [hL] at this; cases this
      have h5 : L 5 = false := by cases h : L 5; · rfl
                                  · have := (o5 h).2.2.2; rw [hL] at this; cases this
      have l2t := hd 2 (by simp)
      obtain rfl := l2 l2t
      go_simp
      refine (HO2.out wx hb).mono ?_
      rintro e wy ⟨A1, m1, c1, rfl, r1, hm1, _, bb⟩
      have hbs : B ≤ wx.heap.size := by have := kz.lt; omega
      exact hK.out _ _ ⟨q0, q1, _, .agg (uc RB.1 (.slice A1 m1 c1)), rfl, hb.trans (bb.mono hbs), kz.below bb kz.lt, l0, fun _ => rfl, f1.below (bb.mono hbs), fun _ => ⟨A1, m1, c1, rfl, r1, hm1⟩, s4.below bb h4, (s5.below bb h5).none h5, fun h => ⟨(o4 h).1, (o4 h).2.1, l2t, rfl⟩, fun h => ⟨(o5 h).1, (o5 h).2.1, l2t, rfl⟩, fun _ => l2t⟩
    case s4 =>
      rintro L a wx hL hd ⟨q0, q1, q2, q3, rfl, hb, kz, l0, l2, f1, f3, s4, s5, o4, o5, o3⟩ K hK
      have h5 : L 5 = false ∨ L 5 = true := by cases L 5 <;> simp
      obtain ⟨A1, m1, c1, rfl, r1, hm1⟩ := f1 (hd 1 (by simp))
      have kk := s4.1 hL
      have HSR := uc_size HA8.out (.slice A1 m1 c1)
      have HOR := uc_one (U := RA.1) (s := .slice A1 m1 c1) rfl
      refine step_st (cs := uc RA.1 (.slice A1 m1 c1)) rfl rowRM (.tmp 2) (.tmp 10) rfl rfl rfl kk HSR HS1.out HOR ?_
      intro wy ky gy zy
      have bY : Below B wx wy := (Below.refl _ _).grown gy (by have := kz.lt; omega) (fun q hq => by injection hq; omega)
      exact hK.out _ _ ⟨q0, .agg (uc RA.1 (.slice A1 m1 c1)), q2, q3, rfl, hb.trans bY, kz.grown gy (by intro h; injection h; omega), l0, l2, fun _ => ⟨A1, m1, c1, rfl, r1.below bY, hm1⟩, f3.below bY, ⟨fun h => (by cases h), fun _ => ⟨_, rfl, ky⟩⟩, s5.grown gy (by omega), fun _ => ⟨hd 0 (by simp), hd 1 (by simp), o3 (hd 3 (by simp)), hd 3 (by simp)⟩, o5, o3⟩
    case s5 =>
      rintro L a wx hL hd ⟨q0, q1, q2, q3, rfl, hb, kz, l0, l2, f1, f3, s4, s5, o4, o5, o3⟩ K hK
      obtain ⟨A1, m1, c1, rfl, r1, hm1⟩ := f3 (hd 3 (by simp))
      have kk := s5.1 hL
      have HSR := uc_size HB8.out (.slice A1 m1 c1)
      have HOR := uc_one (U := RB.1) (s := .slice A1 m1 c1) rfl
      refine step_st (cs := uc RB.1 (.slice A1 m1 c1)) rfl rowRM (.tmp 3) (.tmp 12) rfl rfl rfl kk HSR HS2.out HOR ?_
      intro wy ky gy zy
      have bY : Below B wx wy := (Below.refl _ _).grown gy (by have := kz.lt; omega) (fun q hq => by injection hq; omega)
      exact hK.out _ _ ⟨q0, q1, q2, .agg (uc RB.1 (.slice A1 m1 c1)), rfl, hb.trans bY, kz.grown gy (by intro h; injection h; omega), l0, l2, f1.below bY, fun _ => ⟨A1, m1, c1, rfl, r1.below bY, hm1⟩, s4.grown gy (by omega), ⟨fun h => (by cases h), fun _ => ⟨_, rfl, ky⟩⟩, o4, fun _ => ⟨hd 0 (by simp), hd 1 (by simp), hd 2 (by simp), hd 3 (by simp)⟩, o3⟩
  case hend =>
  rintro L a wx hall ⟨q0, q1, q2, q3, rfl, hb, kz, l0, l2, f1, f3, s4, s5, o4, o5, o3⟩
  have hL : ∀ i, i < 6 → L i = true := hall
  obtain ⟨Aa, ma, ca, rfl, ra, hma⟩ := f1 (hL 1 (by omega))
  obtain ⟨Ab, mb, cb, rfl, rb, hmb⟩ := f3 (hL 3 (by omega))
  obtain ⟨cs, e1, ka⟩ := s4.2 (hL 4 (by omega))
  injection e1 with e1
  subst e1
  obtain ⟨cs, e1, kb⟩ := s5.2 (hL 5 (by omega))
  injection e1 with e1
  subst e1
  have l0 := l0 (hL 0 (by omega))
  have l2 := l2 (hL 2 (by omega))
  subst l0 l2
  have HKZ := Lib.hid kz
  have HGB2 := Lib.hid hb
  clear f1 f3 s4 s5 o4 o5 o3 hall hL hb HK2 HK3 HK4 HGB hBw HO1 HO2
  have la8 := right_len HRA.out
  have lb8 := right_len HRB.out
  have hma8 : ma ≤ 8 := by rw [ra.1]; exact la8
  have hmb8 : mb ≤ 8 := by rw [rb.1]; exact lb8
  have HSA := Lib.hid (uc_size HA8.out (.slice Aa ma ca))
  have HSB := Lib.hid (uc_size HB8.out (.slice Ab mb cb))
  have hBx : B + 1 + 1 < wx.heap.size := kz.lt
  have HRAa := Lib.hid fun (w' : World) (hb : Below wx.heap.size wx w') (d : Int) => rof29_any RA.1 HA8.out Aa ma ca B RA.2 d w' (ra.below (hb.mono (by omega))) (by have := hb.size; omega) (by omega)
  have HRBb := Lib.hid fun (w' : World) (hb : Below wx.heap.size wx w') (d : Int) => rof29_any RB.1 HB8.out Ab mb cb B RB.2 d w' (rb.below (hb.mono (by omega))) (by have := hb.size; omega) (by omega)
  clear la8 lb8 hma hmb ra rb
  go_upto_region 3 with fail
  refine nameW ?_
  intro w1 hw1
  have kg : Blk w1 wx.heap.size 25 (uc (halfM RA.1 RB.1 0) (.slice none 0 0)) := by
    have h := Blk.new wx 25 (uc z8 (.slice none 0 0))
    have hz : uc z8 (.slice none 0 0) = #[.int .i64 0, .int .i64 0, .int .i64 0, .int .i64 0, .int .i64 0, .int .i64 0, .int .i64 0, .int .i64 0, .slice none 0 0] := by kernel_rfl
    rw [halfM_zero, hw1, hz]
    rw [hz] at h
    exact h
  have bx : Below wx.heap.size wx w1 := by rw [hw1]; exact (Below.refl _ _).alloc (Nat.le_refl _) _
  have hbs1 : wx.heap.size + 1 ≤ w1.heap.size := kg.lt
  obtain ⟨G, hG⟩ : ∃ G, G = wx.heap.size := ⟨_, rfl⟩
  rw [← hG] at kg bx HRAa HRBb hBx hbs1 ⊢
  have HG := Lib.hid hG
  clear hw1 hG
  go_wp2_with fail
  go_loopw [6] (fun i wr => ∃ (k : Nat) (A' : Option Addr) (m' c' : Nat), k ≤ 8 ∧ m' ≤ k ∧ i = .int .i64 k ∧ Blk wr G 25 (uc (halfM RA.1 RB.1 k) (.slice A' m' c')) ∧ OwnV 105 wr (G + 1) A' m' c' ((List.range k).flatMap (meetAt RA.1 RB.1 RA.2 RB.2)) ∧ Below G wx wr) (fun i _ => 8 - (intOf i).toNat)
  case atStart => exact ⟨0, none, 0, 0, by omega, by omega, rfl, kg, OwnV.nil _ _ _, bx⟩
  case round =>
  clear kg bx hbs1
  obtain ⟨k, A', m', c', hk, hmk, rfl, kg, ho, bx⟩ := hrel
  have ka1 := ka.below bx (by omega)
  have kb1 := kb.below bx (by omega)
  by_cases hlt : k < 8
  case pos =>
    have e1 : wr.cell? ⟨B, k, none⟩ = some (.int .i64 (RA.1.getD k 0)) := (ka1.cell k).trans (uc_at HA8.out _ hlt)
    have e2 : wr.cell? ⟨B + 1, k, none⟩ = some (.int .i64 (RB.1.getD k 0)) := (kb1.cell k).trans (uc_at HB8.out _ hlt)
    have e3 := (kg.cell k).trans (uc_at (halfM_len _ _ _) _ hlt)
    have e4 := kg.free k
    have k5 := kg.set_ k (.int .i64 (max (RA.1.getD k 0) (RB.1.getD k 0)))
    rw [uc_set (halfM_len _ _ _) _ hlt, halfM_set _ _ hlt] at k5
    have b5 := bx.setCell (p := ⟨G, k, none⟩) (Nat.le_refl _) (.int .i64 (max (RA.1.getD k 0) (RB.1.getD k 0)))
    have hgl := kg.lt
    have hne : A'.map (·.block) ≠ some G := fun e => by have := (ho.lt _ e).1; omega
    have o5 := ho.setFar (p := ⟨G, k, none⟩) hne (.int .i64 (max (RA.1.getD k 0) (RB.1.getD k 0)))
    have a5 := ka1.far (p := ⟨G, k, none⟩) (by show B ≠ G; omega) (.int .i64 (max (RA.1.getD k 0) (RB.1.getD k 0)))
    have b55 := kb1.far (p := ⟨G, k, none⟩) (by show B + 1 ≠ G; omega) (.int .i64 (max (RA.1.getD k 0) (RB.1.getD k 0)))
    have s5 : (wr.setCell ⟨G, k, none⟩ (.int .i64 (max (RA.1.getD k 0) (RB.1.getD k 0)))).heap.size = wr.heap.size := by simp [World.setCell]
    have hml : (List.range (k + 1)).flatMap (meetAt RA.1 RB.1 RA.2 RB.2) = (List.range k).flatMap (meetAt RA.1 RB.1 RA.2 RB.2) ++ meetAt RA.1 RB.1 RA.2 RB.2 k := by rw [List.range_succ, List.flatMap_append, List.flatMap_singleton]
    have hma : meetAt RA.1 RB.1 RA.2 RB.2 k = if (0 < (ofV RA.2 k).2.1 ∧ ofV RA.2 k = ofV RB.2 k) ∨ RB.1.getD k 0 < (ofV RA.2 k).2.1 then [ofV RA.2 k] else if RA.1.getD k 0 < (ofV RB.2 k).2.1 then [ofV RB.2 k] else [] := rfl
    have hca := fun (w' : World) (hb : Below G wx w') => HRAa.out w' hb k
    have hcb := fun (w' : World) (hb : Below G wx w') => HRBb.out w' hb k
    have HU1 := Lib.hid (show (halfM RA.1 RB.1 (k + 1)).length = 8 from halfM_len _ _ _)
    rw [hma] at hml
    generalize (halfM RA.1 RB.1 k).getD k 0 = zz at e3
    generalize hHU : halfM RA.1 RB.1 (k + 1) = HU at *
    generalize hML1 : (List.range (k + 1)).flatMap (meetAt RA.1 RB.1 RA.2 RB.2) = ML1 at *
    have HHU := Lib.hid hHU
    have HMLe := Lib.hid hML1
    clear hHU hML1
    generalize (List.range k).flatMap (meetAt RA.1 RB.1 RA.2 RB.2) = ML0 at *
    generalize ofV RA.2 k = X at *
    generalize ofV RB.2 k = Y at *
    obtain ⟨x0, x1, x2⟩ := X
    obtain ⟨y0, y1, y2⟩ := Y
    unfold v3 at hca hcb
    simp only at hca hcb hml
    have ha8 : (uc RA.1 (.slice Aa ma ca))[k]? = some (.int .i64 (RA.1.getD k 0)) := uc_at HA8.out _ hlt
    have hb8 : (uc RB.1 (.slice Ab mb cb))[k]? = some (.int .i64 (RB.1.getD k 0)) := uc_at HB8.out _ hlt
    generalize RA.1.getD k 0 = u at *
    generalize RB.1.getD k 0 = z at *
    have hk0 : (0 : Int) ≤ (k : Int) := by omega
    have hk1 : (k : Int) < 8 := by omega
    have HK := Lib.hid (And.intro k5 (And.intro b5 (And.intro o5 (And.intro a5 (And.intro b55 s5)))))
    have HML := Lib.hid hml
    have HCA := Lib.hid hca
    have HCB := Lib.hid hcb
    have HA9 := Lib.hid ha8
    have HB9 := Lib.hid hb8
    clear kg bx k5 b5 ka1 kb1 ho o5 a5 b55 s5 hml hma hca hcb ha8 hb8
    go_wp2_with fail
    go_region
    go_upto_region 7 with fail
    refine nameW ?_
    intro w6 hw6
    have k6 : Blk w6 G 25 (uc HU (.slice A' m' c')) := by rw [hw6]; exact HK.out.1.drew
    have b6 : Below G wx w6 := by rw [hw6]; exact HK.out.2.1.trans (Below.refl _ _).drew
    have o6 : OwnV 105 w6 (G + 1) A' m' c' ML0 := by rw [hw6]; exact HK.out.2.2.1.drew
    have ka6 : Blk w6 B 25 (uc RA.1 (.slice Aa ma ca)) := by rw [hw6]; exact HK.out.2.2.2.1.drew
    have kb6 : Blk w6 (B + 1) 25 (uc RB.1 (.slice Ab mb cb)) := by rw [hw6]; exact HK.out.2.2.2.2.1.drew
    clear hw6 HK e1 e2 e3 e4
    have hG6 : G + 1 ≤ w6.heap.size := k6.lt
    refine wp_region_facts (fun L v w => v 2 = .pointer (some ⟨B, 0, none⟩) ∧ v 3 = .pointer (some ⟨B + 1, 0, none⟩) ∧ v 6 = .int .i64 (k : Nat) ∧ Below w6.heap.size w6 w ∧ (L 0 = true → v 29 = .agg (uc RA.1 (.slice Aa ma ca))) ∧ (L 1 = true → v 30 = .int .i64 (k : Nat)) ∧ (L 2 = true → v 31 = .agg #[.int .i64 x0, .int .i64 x1, .int .i64 x2]) ∧ (L 3 = true → v 32 = .agg (uc RB.1 (.slice Ab mb cb))) ∧ (L 4 = true → v 33 = .int .i64 (k : Nat)) ∧ (L 5 = true → v 34 = .agg #[.int .i64 y0, .int .i64 y1, .int .i64 y2]) ∧ Al 105 3 w6.heap.size (L 6) (L 8) (v 7) (v 31) w ∧ Al 105 3 w6.heap.size (L 7) (L 9) (v 8) (v 34) w ∧ TwoP (L 6) (L 7) (v 7) (v 8)) [29, 30, 31, 32, 33, 34, 7, 8] (by kernel_rfl) (by kernel_rfl) (by kernel_rfl) (by kernel_rfl) ?h0 ?hst ?hend
    case h0 =>
      intro L h0
      have h0 : ∀ i, i < 10 → L i = false := h0
      exact ⟨rfl, rfl, rfl, (Below.refl _ _).drew, offF h0 (i := 0) (by decide), offF h0 (i := 1) (by decide), offF h0 (i := 2) (by decide), offF h0 (i := 3) (by decide), offF h0 (i := 4) (by decide), offF h0 (i := 5) (by decide), Al.none_ (h0 6 (by decide)) (h0 8 (by decide)), Al.none_ (h0 7 (by decide)) (h0 9 (by decide)), offF h0 (i := 6) (by decide)⟩
    case hst =>
      show FactSteps _ _ _ _ [0, 1, 2, 3, 4, 5, 6, 7, 8, 9]
      refine @FactSteps.cons _ _ _ _ 0 _ [] _ rfl (by kernel_rfl) ?s0 ?_
      rotate_left
      refine @FactSteps.cons _ _ _ _ 1 _ [] _ rfl (by kernel_rfl) ?s1 ?_
      rotate_left
      refine @FactSteps.cons _ _ _ _ 2 _ [0, 1] _ rfl (by kernel_rfl) ?s2 ?_
      rotate_left
      refine @FactSteps.cons _ _ _ _ 3 _ [] _ rfl (by kernel_rfl) ?s3 ?_
      rotate_left
      refine @FactSteps.cons _ _ _ _ 4 _ [] _ rfl (by kernel_rfl) ?s4 ?_
      rotate_left
      refine @FactSteps.cons _ _ _ _ 5 _ [3, 4, 2] _ rfl (by kernel_rfl) ?s5 ?_
      rotate_left
      refine @FactSteps.cons _ _ _ _ 6 _ [] _ rfl (by kernel_rfl) ?s6 ?_
      rotate_left
      refine @FactSteps.cons _ _ _ _ 7 _ [] _ rfl (by kernel_rfl) ?s7 ?_
      rotate_left
      refine @FactSteps.cons _ _ _ _ 8 _ [6, 2, 5, 0, 1, 2, 6, 7] _ rfl (by kernel_rfl) ?s8 ?_
      rotate_left
      refine @FactSteps.cons _ _ _ _ 9 _ [7, 5, 8, 0, 1, 2, 3, 4, 5, 6, 7, 8] _ rfl (by kernel_rfl) ?s9 ?_
      rotate_left
      exact FactSteps.nil
      case s0 =>
        rintro L a v w hv hg hL hd hcl ⟨e2, e3, e6, hb, f0, f1, f2, f3, f4, f5, f6, f7, d6_7⟩ K hK
        refine step_do rfl ?_
        refine wp_ld rowRM (.tmp 2) rfl ((hv 2).trans e2) (ka6.below hb ka6.lt) HSA.out ?_
        exact hK.out _ _ ⟨e2, e3, e6, hb, fun _ => rfl, f1, f2, f3, f4, f5, f6, f7, d6_7⟩
      case s1 =>
        rintro L a v w hv hg hL hd hcl ⟨e2, e3, e6, hb, f0, f1, f2, f3, f4, f5, f6, f7, d6_7⟩ K hK
        clear hv
        refine step_do rfl ?_
        go_simp
        exact hK.out _ _ ⟨e2, e3, e6, hb, f0, fun _ => rfl, f2, f3, f4, f5, f6, f7, d6_7⟩
      case s2 =>
        rintro L a v w hv hg hL hd hcl ⟨e2, e3, e6, hb, f0, f1, f2, f3, f4, f5, f6, f7, d6_7⟩ K hK
        have c8 : L 8 = false := off_of hcl (j := 8) (by kernel_rfl : waitsAt _ 8 = [6, 2, 5, 0, 1, 2, 6, 7]) (d := 2) (by decide) hL
        have h1 := f0 (hd 0 (by decide))
        have h2 := f1 (hd 1 (by decide))
        have q1 : a.eval (.tmp 29) = _ := (hv 29).trans h1
        have q2 : a.eval (.tmp 30) = _ := (hv 30).trans h2
        clear hv
        refine step_do rfl ?_
        go_simp
        refine (HCA.out w (b6.trans (hb.mono (by omega)))).mono ?_
        rintro e wy ⟨rfl, bb⟩
        exact hK.out _ _ ⟨e2, e3, e6, (hb.trans (bb.mono hb.size)), f0, f1, fun _ => rfl, f3, f4, f5, (f6.below bb).other c8, f7.below bb, d6_7⟩
      case s3 =>
        rintro L a v w hv hg hL hd hcl ⟨e2, e3, e6, hb, f0, f1, f2, f3, f4, f5, f6, f7, d6_7⟩ K hK
        refine step_do rfl ?_
        refine wp_ld rowRM (.tmp 3) rfl ((hv 3).trans e3) (kb6.below hb kb6.lt) HSB.out ?_
        exact hK.out _ _ ⟨e2, e3, e6, hb, f0, f1, f2, fun _ => rfl, f4, f5, f6, f7, d6_7⟩
      case s4 =>
        rintro L a v w hv hg hL hd hcl ⟨e2, e3, e6, hb, f0, f1, f2, f3, f4, f5, f6, f7, d6_7⟩ K hK
        clear hv
        refine step_do rfl ?_
        go_simp
        exact hK.out _ _ ⟨e2, e3, e6, hb, f0, f1, f2, f3, fun _ => rfl, f5, f6, f7, d6_7⟩
      case s5 =>
        rintro L a v w hv hg hL hd hcl ⟨e2, e3, e6, hb, f0, f1, f2, f3, f4, f5, f6, f7, d6_7⟩ K hK
        have c9 : L 9 = false := off_of hcl (j := 9) (by kernel_rfl : waitsAt _ 9 = [7, 5, 8, 0, 1, 2, 3, 4, 5, 6, 7, 8]) (d := 5) (by decide) hL
        have h1 := f3 (hd 3 (by decide))
        have h2 := f4 (hd 4 (by decide))
        have q1 : a.eval (.tmp 32) = _ := (hv 32).trans h1
        have q2 : a.eval (.tmp 33) = _ := (hv 33).trans h2
        clear hv
        refine step_do rfl ?_
        go_simp
        refine (HCB.out w (b6.trans (hb.mono (by omega)))).mono ?_
        rintro e wy ⟨rfl, bb⟩
        exact hK.out _ _ ⟨e2, e3, e6, (hb.trans (bb.mono hb.size)), f0, f1, f2, f3, f4, fun _ => rfl, f6.below bb, (f7.below bb).other c9, d6_7⟩
      case s6 =>
        rintro L a v w hv hg hL hd hcl ⟨e2, e3, e6, hb, f0, f1, f2, f3, f4, f5, f6, f7, d6_7⟩ K hK
        refine step_do rfl ?_
        go_simp
        have bb : Below w.heap.size w (w.alloc (.cells #[.int .i64 0, .int .i64 0, .int .i64 0] 105)) := (Below.refl _ _).alloc (Nat.le_refl _) _
        rw [hL] at f6
        exact hK.out _ _ ⟨e2, e3, e6, (hb.trans (bb.mono hb.size)), f0, f1, f2, f3, f4, f5, f6.alloc_ hb.size rfl, f7.below bb, fun _ h => (by have f := f7; rw [show L 7 = true from h] at f; exact fun e => f.lt e.symm)⟩
      case s7 =>
        rintro L a v w hv hg hL hd hcl ⟨e2, e3, e6, hb, f0, f1, f2, f3, f4, f5, f6, f7, d6_7⟩ K hK
        refine step_do rfl ?_
        go_simp
        have bb : Below w.heap.size w (w.alloc (.cells #[.int .i64 0, .int .i64 0, .int .i64 0] 105)) := (Below.refl _ _).alloc (Nat.le_refl _) _
        rw [hL] at f7
        exact hK.out _ _ ⟨e2, e3, e6, (hb.trans (bb.mono hb.size)), f0, f1, f2, f3, f4, f5, f6.below bb, f7.alloc_ hb.size rfl, fun h _ => (by have f := f6; rw [show L 6 = true from h] at f; exact f.lt)⟩
      case s8 =>
        rintro L a v w hv hg hL hd hcl ⟨e2, e3, e6, hb, f0, f1, f2, f3, f4, f5, f6, f7, d6_7⟩ K hK
        have ha : L 6 = true := hd 6 (by decide)
        obtain ⟨g, ds, ep, hg, kk, hds, _⟩ := f6.2 ha
        refine step_do rfl ?_
        refine wp_st (cs := #[.int .i64 x0, .int .i64 x1, .int .i64 x2]) rowRV (.tmp 7) (.tmp 31) rfl ((hv 7).trans ep) ((hv 31).trans (f2 (hd 2 (by decide)))) kk (th_size _ _ _) hds (th_one _ _ _) ?_
        intro wy ky gy zy
        have bY : Below w6.heap.size w wy := only_Below gy hg hb.size
        exact hK.out _ _ ⟨e2, e3, e6, (hb.trans bY), f0, f1, f2, f3, f4, f5, Al.stored ha ep hg ky (th_size _ _ _) (f2 (hd 2 (by decide))), f7.far gy (fun h e => d6_7 ha h (ep.trans e.symm)), d6_7⟩
      case s9 =>
        rintro L a v w hv hg hL hd hcl ⟨e2, e3, e6, hb, f0, f1, f2, f3, f4, f5, f6, f7, d6_7⟩ K hK
        have ha : L 7 = true := hd 7 (by decide)
        obtain ⟨g, ds, ep, hg, kk, hds, _⟩ := f7.2 ha
        refine step_do rfl ?_
        refine wp_st (cs := #[.int .i64 y0, .int .i64 y1, .int .i64 y2]) rowRV (.tmp 8) (.tmp 34) rfl ((hv 8).trans ep) ((hv 34).trans (f5 (hd 5 (by decide)))) kk (th_size _ _ _) hds (th_one _ _ _) ?_
        intro wy ky gy zy
        have bY : Below w6.heap.size w wy := only_Below gy hg hb.size
        exact hK.out _ _ ⟨e2, e3, e6, (hb.trans bY), f0, f1, f2, f3, f4, f5, f6.far gy (fun h e => d6_7 h ha (e.trans ep.symm)), Al.stored ha ep hg ky (th_size _ _ _) (f5 (hd 5 (by decide))), d6_7⟩
    case hend =>
    rintro L v w7 hall ⟨e2, e3, e6, hb, f0, f1, f2, f3, f4, f5, f6, f7, d6_7⟩
    have hL : ∀ i, i < 10 → L i = true := hall
    have f0 := f0 (hL 0 (by decide))
    have f1 := f1 (hL 1 (by decide))
    have f2 := f2 (hL 2 (by decide))
    have f3 := f3 (hL 3 (by decide))
    have f4 := f4 (hL 4 (by decide))
    have f5 := f5 (hL 5 (by decide))
    rw [hL 6 (by decide), hL 8 (by decide)] at f6
    rw [hL 7 (by decide), hL 9 (by decide)] at f7
    have d6_7 := d6_7 (hL 6 (by decide)) (hL 7 (by decide))
    obtain ⟨g7, ds, e7, ey, hg7, k7, _⟩ := f6.fin
    rw [f2] at ey
    injection ey with ey
    subst ey
    obtain ⟨g8, ds, e8, ey, hg8, k8, _⟩ := f7.fin
    rw [f5] at ey
    injection ey with ey
    subst ey
    simp only [finA, List.foldl_cons, List.foldl_nil, Act.put, List.setIfInBounds_toArray, List.set_cons_succ, List.set_cons_zero, f0, f1, f2, f3, f4, f5, e7, e8]
    clear f0 f1 f2 f3 f4 f5 f6 f7 e2 e3 e6 e7 e8 d6_7 hL hall HCA HCB
    have k7a := k6.below hb k6.lt
    have b7 : Below G wx w7 := b6.trans (hb.mono (by omega))
    have o7 := o6.below hb (Nat.le_refl _)
    have ka7 := ka6.below hb ka6.lt
    have kb7 := kb6.below hb kb6.lt
    have hG7 : G + 1 ≤ w7.heap.size := by have := hb.size; omega
    clear k6 b6 o6 ka6 kb6 hb hG6
    obtain ⟨F1, hF1⟩ : ∃ F1, F1 = decide (0 < x1 ∧ ((x0, x1, x2) : Vl) = (y0, y1, y2)) := ⟨_, rfl⟩
    have HF1 := Lib.hid hF1
    clear hF1
    go_upto_region 8 with fail
    have t71 : w7.cell? ⟨g7, 1, none⟩ = some (.int .i64 x1) := k7.cell 1
    have t81 : w7.cell? ⟨g8, 1, none⟩ = some (.int .i64 y1) := k8.cell 1
    go_cut [35] (fun f wy => f = .bool F1 ∧ w7 = wy)
    case first =>
      by_cases hp : 0 < x1
      · by_cases hx : ((x0, x1, x2) : Vl) = (y0, y1, y2)
        · have hf : F1 = true := by rw [HF1.out]; simp [hp, hx]
          obtain ⟨rfl, h2⟩ := Prod.mk.inj hx
          obtain ⟨rfl, rfl⟩ := Prod.mk.inj h2
          subst hf
          have hpd : decide ((0 : Int) < x1) = true := decide_eq_true hp
          clear hx h2 hp
          go_wp2_with first
            | ((with_reducible refine wpList_ldg rowRV k7 (th_size _ _ _) ?_ ?_ ?_); rotate_left; (rfl); (rfl))
            | ((with_reducible refine wpList_ldg rowRV k8 (th_size _ _ _) ?_ ?_ ?_); rotate_left; (rfl); (rfl))
          go_meet
          exact ⟨rfl, rfl⟩
        · have hf : F1 = false := by rw [HF1.out]; exact decide_eq_false (fun h => hx h.2)
          subst hf
          have hpd : decide ((0 : Int) < x1) = true := decide_eq_true hp
          clear hp
          by_cases c0 : x0 = y0
          · by_cases c1 : x1 = y1
            · have c2 : ¬ x2 = y2 := fun c2 => hx (by rw [c0, c1, c2])
              subst c0 c1
              clear hx
              go_wp2_with first
                | ((with_reducible refine wpList_ldg rowRV k7 (th_size _ _ _) ?_ ?_ ?_); rotate_left; (rfl); (rfl))
                | ((with_reducible refine wpList_ldg rowRV k8 (th_size _ _ _) ?_ ?_ ?_); rotate_left; (rfl); (rfl))
              go_meet
              exact ⟨rfl, rfl⟩
            · subst c0
              clear hx
              go_wp2_with first
                | ((with_reducible refine wpList_ldg rowRV k7 (th_size _ _ _) ?_ ?_ ?_); rotate_left; (rfl); (rfl))
                | ((with_reducible refine wpList_ldg rowRV k8 (th_size _ _ _) ?_ ?_ ?_); rotate_left; (rfl); (rfl))
              go_meet
              exact ⟨rfl, rfl⟩
          · clear hx
            go_wp2_with first
              | ((with_reducible refine wpList_ldg rowRV k7 (th_size _ _ _) ?_ ?_ ?_); rotate_left; (rfl); (rfl))
              | ((with_reducible refine wpList_ldg rowRV k8 (th_size _ _ _) ?_ ?_ ?_); rotate_left; (rfl); (rfl))
            go_meet
            exact ⟨rfl, rfl⟩
      · have hf : F1 = false := by rw [HF1.out]; exact decide_eq_false (fun h => hp h.1)
        subst hf
        have hpd : decide ((0 : Int) < x1) = false := decide_eq_false hp
        clear hp
        go_wp2_with fail
        go_meet
        exact ⟨rfl, rfl⟩
    case rest =>
    obtain ⟨rfl, rfl⟩ := hcut
    obtain ⟨F2, hF2⟩ : ∃ F2, F2 = (F1 || decide (z < x1)) := ⟨_, rfl⟩
    obtain ⟨F3, hF3⟩ : ∃ F3, F3 = decide (u < y1) := ⟨_, rfl⟩
    have HF2 := Lib.hid hF2
    have HF3 := Lib.hid hF3
    have hML : ML1 = ML0 ++ if F2 then [(x0, x1, x2)] else if F3 then [(y0, y1, y2)] else [] := by
      rw [HML.out, hF2, hF3, HF1.out]
      congr 1
      simp only [Bool.or_eq_true, decide_eq_true_eq]
    have HML1 := Lib.hid hML
    clear hF2 hF3 hML HML HF1
    have hz8 : w7.cell? ⟨B + 1, k, none⟩ = some (.int .i64 z) := (kb7.cell k).trans HB9.out
    have hu8 : w7.cell? ⟨B, k, none⟩ = some (.int .i64 u) := (ka7.cell k).trans HA9.out
    go_upto_if 35 with fail
    go_cut [35] (fun f wy => f = .bool F2 ∧ ∃ m, wy = w7.drewN m)
    case first =>
      cases F1
      · have hf : F2 = decide (z < x1) := by rw [HF2.out]; rfl
        clear HF2
        go_wp2_with fail
        go_region
        go_wp2_with fail
        go_meet
        exact ⟨by rw [hf], 1, rfl⟩
      · have hf : F2 = true := by rw [HF2.out]; rfl
        subst hf
        go_wp2_with fail
        go_meet
        exact ⟨rfl, 0, rfl⟩
    case rest =>
    obtain ⟨rfl, m, rfl⟩ := hcut
    cases F2
    case true =>
      go_upto_region 10 with fail
      refine nameW ?_
      intro W hW
      have kW : Blk W G 25 (uc HU (.slice A' m' c')) := by rw [hW]; exact k7a.drewN m
      have oW : OwnV 105 W (G + 1) A' m' c' ML0 := by rw [hW]; exact o7
      have bW : Below G wx W := by rw [hW]; exact below_drewN b7 m
      have k7W : Blk W g7 105 #[.int .i64 x0, .int .i64 x1, .int .i64 x2] := by rw [hW]; exact k7.drewN m
      have k8W : Blk W g8 105 #[.int .i64 y0, .int .i64 y1, .int .i64 y2] := by rw [hW]; exact k8.drewN m
      have kaW : Blk W B 25 (uc RA.1 (.slice Aa ma ca)) := by rw [hW]; exact ka7.drewN m
      have hneW : A'.map (·.block) ≠ some G := fun e => by have := (oW.lt _ e).1; omega
      have c8W : W.cell? ⟨G, 8, none⟩ = some (.slice A' m' c') := (kW.cell 8).trans (uc_last HU1.out _)
      have t8W : W.cell? ⟨g8, 1, none⟩ = some (.int .i64 y1) := k8W.cell 1
      have u8W : W.cell? ⟨B, k, none⟩ = some (.int .i64 u) := (kaW.cell k).trans HA9.out
      have hGW : G + 1 ≤ W.heap.size := kW.lt
      clear hW k7a o7 b7 k7 k8 ka7 kb7 hz8 hu8 t71 t81 hG7
      have hML : ML1 = ML0 ++ [(x0, x1, x2)] := by rw [HML1.out]; rfl
      have HML1 := Lib.hid hML
      clear hML
      have hle1 : m' + 1 ≤ 1000000000000 := by omega
      go_wp2_with first
        | ((with_reducible refine wpList_ld rowRV k7W (th_size _ _ _) ?_ ?_); rotate_left; (rfl))
        | (at_builtin; refine wpList_appRV rfl (.tmp 52) (.tmp 54) rfl rfl (oW.alloc _) (news := [(x0, x1, x2)]) rfl (Rd.made _ _ _ _) rfl hle1 (le_alloc hGW _) ?_)
      intro A2 c2 w2 o2 g2 m2 b2
      have kg2 : Blk w2 G 25 (uc HU (.slice A' m' c')) := (kW.alloc _).grown g2 hneW
      have hne2 : A2.map (·.block) ≠ some G := fun e => by have := (o2.lt _ e).1; omega
      have c82 : w2.cell? ⟨G, 8, none⟩ = some (.slice A' m' c') := (kg2.cell 8).trans (uc_last HU1.out _)
      have f82 := kg2.free 8
      have bw := ((bW.alloc (by omega) (.cells #[.int .i64 x0, .int .i64 x1, .int .i64 x2] 105)).trans (b2.mono (by omega))).setCell (p := ⟨G, 8, none⟩) (Nat.le_refl _) (.slice A2 (m' + 1) c2)
      have o3 := o2.setFar (p := ⟨G, 8, none⟩) hne2 (.slice A2 (m' + 1) c2)
      have k3 := kg2.set_ 8 (.slice A2 (m' + 1) c2)
      rw [uc_set8 HU1.out] at k3
      have HO3 := Lib.hid o3
      have HB3 := Lib.hid bw
      have HK3 := Lib.hid k3
      clear g2 m2 b2 o2 o3 bw k3
      go_wp2_with fail
      go_roundw
      case rel => exact ⟨k + 1, A2, m' + 1, c2, by omega, by omega, by go_num, by rw [HHU.out]; exact HK3.out, by rw [HMLe.out, HML1.out]; exact HO3.out, HB3.out⟩
      case measure => simp [intOf]; omega
    case false =>
    go_upto_region 11 with fail
    refine nameW ?_
    intro W hW
    have kW : Blk W G 25 (uc HU (.slice A' m' c')) := by rw [hW]; exact k7a.drewN m
    have oW : OwnV 105 W (G + 1) A' m' c' ML0 := by rw [hW]; exact o7
    have bW : Below G wx W := by rw [hW]; exact below_drewN b7 m
    have k7W : Blk W g7 105 #[.int .i64 x0, .int .i64 x1, .int .i64 x2] := by rw [hW]; exact k7.drewN m
    have k8W : Blk W g8 105 #[.int .i64 y0, .int .i64 y1, .int .i64 y2] := by rw [hW]; exact k8.drewN m
    have kaW : Blk W B 25 (uc RA.1 (.slice Aa ma ca)) := by rw [hW]; exact ka7.drewN m
    have hneW : A'.map (·.block) ≠ some G := fun e => by have := (oW.lt _ e).1; omega
    have c8W : W.cell? ⟨G, 8, none⟩ = some (.slice A' m' c') := (kW.cell 8).trans (uc_last HU1.out _)
    have t8W : W.cell? ⟨g8, 1, none⟩ = some (.int .i64 y1) := k8W.cell 1
    have u8W : W.cell? ⟨B, k, none⟩ = some (.int .i64 u) := (kaW.cell k).trans HA9.out
    have hGW : G + 1 ≤ W.heap.size := kW.lt
    clear hW k7a o7 b7 k7 k8 ka7 kb7 hz8 hu8 t71 t81 hG7
    go_cut [57] (fun f wy => f = .bool F3 ∧ ∃ m, wy = W.drewN m)
    case first =>
      have HF3' := Lib.hid HF3.out
      go_region
      go_wp2_with fail
      go_meet
      exact ⟨by rw [HF3'.out], 1, rfl⟩
    case rest =>
    obtain ⟨rfl, m2, rfl⟩ := hcut
    cases F3
    case true =>
      have hML : ML1 = ML0 ++ [(y0, y1, y2)] := by rw [HML1.out]; rfl
      have HML1 := Lib.hid hML
      clear hML
      go_upto_region 12 with fail
      refine nameW ?_
      intro W2 hW
      have k8W : Blk W2 g8 105 #[.int .i64 y0, .int .i64 y1, .int .i64 y2] := by rw [hW]; exact k8W.drewN _
      have kW : Blk W2 G 25 (uc HU (.slice A' m' c')) := by rw [hW]; exact kW.drewN _
      have oW : OwnV 105 W2 (G + 1) A' m' c' ML0 := by rw [hW]; exact oW
      have bW : Below G wx W2 := by rw [hW]; exact below_drewN bW _
      have c8W : W2.cell? ⟨G, 8, none⟩ = some (.slice A' m' c') := by rw [hW]; exact c8W
      have hGW : G + 1 ≤ W2.heap.size := kW.lt
      clear hW
      have hle1 : m' + 1 ≤ 1000000000000 := by omega
      go_wp2_with first
        | ((with_reducible refine wpList_ld rowRV k8W (th_size _ _ _) ?_ ?_); rotate_left; (rfl))
        | (at_builtin; refine wpList_appRV rfl (.tmp 66) (.tmp 68) rfl rfl (oW.alloc _) (news := [(y0, y1, y2)]) rfl (Rd.made _ _ _ _) rfl hle1 (le_alloc hGW _) ?_)
      intro A2 c2 w2 o2 g2 m2 b2
      have kg2 : Blk w2 G 25 (uc HU (.slice A' m' c')) := (kW.alloc _).grown g2 hneW
      have hne2 : A2.map (·.block) ≠ some G := fun e => by have := (o2.lt _ e).1; omega
      have c82 : w2.cell? ⟨G, 8, none⟩ = some (.slice A' m' c') := (kg2.cell 8).trans (uc_last HU1.out _)
      have f82 := kg2.free 8
      have bw := ((bW.alloc (by omega) (.cells #[.int .i64 y0, .int .i64 y1, .int .i64 y2] 105)).trans (b2.mono (by omega))).setCell (p := ⟨G, 8, none⟩) (Nat.le_refl _) (.slice A2 (m' + 1) c2)
      have o3 := o2.setFar (p := ⟨G, 8, none⟩) hne2 (.slice A2 (m' + 1) c2)
      have k3 := kg2.set_ 8 (.slice A2 (m' + 1) c2)
      rw [uc_set8 HU1.out] at k3
      have HO3 := Lib.hid o3
      have HB3 := Lib.hid bw
      have HK3 := Lib.hid k3
      clear g2 m2 b2 o2 o3 bw k3
      go_wp2_with fail
      go_roundw
      case rel => exact ⟨k + 1, A2, m' + 1, c2, by omega, by omega, by go_num, by rw [HHU.out]; exact HK3.out, by rw [HMLe.out, HML1.out]; exact HO3.out, HB3.out⟩
      case measure => simp [intOf]; omega
    case false =>
      have hML : ML1 = ML0 := by rw [HML1.out]; exact List.append_nil _
      have HML1 := Lib.hid hML
      have HKW := Lib.hid (And.intro kW (And.intro oW bW))
      clear hML kW oW bW
      go_wp2_with fail
      go_roundw
      case rel => exact ⟨k + 1, A', m', c', by omega, by omega, by go_num, by rw [HHU.out]; exact HKW.out.1.drewN _, by rw [HMLe.out, HML1.out]; exact HKW.out.2.1, below_drewN HKW.out.2.2 _⟩
      case measure => simp [intOf]; omega
  obtain rfl : k = 8 := by omega
  rw [halfM_all] at kg
  have HML := Lib.hid (maxL_len RA.1 RB.1)
  have HSM := Lib.hid (uc_size HML.out (.slice A' m' c'))
  have H1M := Lib.hid (uc_one (U := maxL RA.1 RB.1) (s := .slice A' m' c') rfl)
  have HSZ8 := Lib.hid (z8_size (.slice none 0 0))
  have hGW := kg.lt
  have kz4 : Blk wr (B + 1 + 1) 25 (uc z8 (.slice none 0 0)) := HKZ.out.below bx hBx
  have gb4 : Below B w wr := HGB2.out.trans (bx.mono (by omega))
  clear ka1 kb1 hlt hk bx ka kb
  go_wp2_with first
    | ((with_reducible refine wpList_ld rowRM kg HSM.out ?_ ?_); rotate_left; (rfl))
    | ((with_reducible refine wpList_st rowRM kz4 HSM.out HSZ8.out H1M.out ?_ ?_ ?_); rotate_left; (rfl); (rfl); intro w5 k5 g5 z5)
  have hne : A'.map (·.block) ≠ some (B + 1 + 1) := fun e => by have := (ho.lt _ e).1; omega
  have o5 := (ho.grown g5 (.inr hne)).mono (base' := w.heap.size) (by have := HB.out; omega)
  have gb5 := gb4.grown g5 (by have := kz4.lt; omega) (fun q hq => by injection hq; omega)
  obtain rfl := HB.out
  exact bodyPost_ret (v := .agg (uc (maxL RA.1 RB.1) (.slice A' m' c'))) (results_blk rfl rowRM k5 HSM.out rfl) rfl ⟨A', m', c', rfl, o5, gb5⟩
end Go.Proofs.Ytocoohpekpkmkaa

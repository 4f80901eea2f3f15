/- DotsetAsks: whether any set may be, whether it has any dot, the set with it, how many and which there are, are the document's: the whole statement, without a condition. -/
import Derived.Test.YtacmdkjodnaohaaDotOpen
import Derived.Test.YtacmdkjodnaohaaDotGreat
namespace Go.Proofs.Ytacmdkjodnaohaa.DotsetAsks
open Go.ChangeShapes Go.WideShapes Go.ChangeAt Go.RowKit Go.Deep
open Dot
set_option linter.unusedVariables false
set_option linter.unusedSimpArgs false
theorem buildL {U : List Int} (h : U.length = 8) (A : Option Addr) (n c : Nat) (w : World) : (Instr.buildSlice 69 1 #[(0, .agg (uc U (.slice A n c)))]).run Try.prog w = .ok (.slice (some ⟨w.heap.size, 0, none⟩) 1 1) (w.alloc (.cells (uc U (.slice A n c)) 25)) := by
  obtain ⟨a, b, c, d, e, f, g, i, rfl⟩ := eight h
  kernel_rfl
theorem meet8 {a1 a2 a3 a4 a5 a6 a7 a8 : Type} {F : a1 → a2 → a3 → a4 → a5 → a6 → a7 → a8 → Prop} {M : a1 → a2 → a3 → a4 → a5 → a6 → a7 → a8 → Prop} {G : Prop} (hmain : (∀ x1 x2 x3 x4 x5 x6 x7 x8, F x1 x2 x3 x4 x5 x6 x7 x8 → M x1 x2 x3 x4 x5 x6 x7 x8) → G) (hkey : ∀ x1 x2 x3 x4 x5 x6 x7 x8, F x1 x2 x3 x4 x5 x6 x7 x8 → M x1 x2 x3 x4 x5 x6 x7 x8) : G := hmain hkey
set_option maxRecDepth 100000 in
set_option maxHeartbeats 4000000 in
theorem walk (U : List Int) (A : Option Addr) (n c : Nat) (l : List Dt) (x q : Int) (w : World) (hU : U.length = 8) (wU : Wf U) (hr : RdD w w.heap.size A n l) (_ : n ≤ maxLen) :
    Calls Try.prog 3 #[.agg (uc U (.slice A n c)), .agg #[.int .i64 x, .int .i64 q]] w fun e w' => e = .returned (.bool true) ∧ Below w.heap.size w w' := by
  have HS := Lib.hid (uc_size hU (.slice A n c))
  have HU := Lib.hid hU
  have HNL := Lib.hid hr.1
  have WU := Lib.hid wU
  have hrow := fun (w' : World) (hb : Below w.heap.size w w') => rowset_one ⟨U, A, n, c, l⟩ hU ((hr.below hb).more hb.size) (Nat.le_refl _) 25 (0, 0)
  have hbl := buildL hU A n c
  obtain ⟨sc, hsc⟩ : ∃ sc, sc = uc U (.slice A n c) := ⟨_, rfl⟩
  simp only at hrow
  rw [← hsc] at HS hbl hrow ⊢
  have HROW := Lib.hid hrow
  have HBL := Lib.hid hbl
  have HSC := Lib.hid hsc
  clear hsc hbl hrow hU wU
  go_enter Try.func3, Try.ntmps3
  go_upto_region 1 with fail
  refine nameW ?_
  intro wv hwv
  obtain ⟨b, hb⟩ : ∃ b, b = w.heap.size := ⟨_, rfl⟩
  rw [← hb]
  have kb : Blk wv b 25 sc := by rw [hwv, hb]; exact (Blk.new w _ _).alloc _
  have kd : Blk wv (b + 1) 27 #[.int .i64 x, .int .i64 q] := by
    have h := Blk.new (w.alloc (.cells sc 25)) 27 #[.int .i64 x, .int .i64 q]
    rw [hwv, hb]
    simpa using h
  have gb : Below w.heap.size w wv := by rw [hwv]; exact ((Below.refl _ _).alloc (Nat.le_refl _) _).alloc (by simp) _
  have hbw : w.heap.size ≤ b := by omega
  clear hwv hb
  go_wp2_with fail
  refine (alive06 wv).mono ?_
  rintro e w1 ⟨rfl, h1⟩
  have kb1 := kb.below h1 kb.lt
  have kd1 := kd.below h1 kd.lt
  have b1 := gb.trans (h1.mono gb.size)
  clear kb kd gb h1
  go_wp2_with first
    | ((with_reducible refine wpList_ld rowLS kb1 HS.out ?_ ?_); rotate_left; (rfl))
    | ((refine wpList_bs (v := .slice (some ⟨w1.heap.size, 0, none⟩) 1 1) (w' := w1.alloc (.cells sc 25)) rfl 69 1 #[(0, .tmp 14)] rfl ?_ ?_); (simp only [List.map_toArray, List.map_cons, List.map_nil]; exact HBL.out w1))
  refine (great_any [⟨U, A, n, c, l⟩] 1 w1.heap.size _ rfl (by decide) ((HROW.out w1 b1).more (by simp))).mono ?_
  rintro e w2 ⟨rfl, h2⟩
  simp only [List.any_cons, List.any_nil, Bool.or_false]
  have bx := (b1.alloc b1.size (.cells sc 25)).trans (h2.mono (b1.alloc b1.size _).size)
  have by2 := ((Below.refl w1.heap.size w1).alloc (Nat.le_refl _) (.cells sc 25)).trans (h2.mono (by simp))
  have kb2 := kb1.below by2 kb1.lt
  have kd2 := kd1.below by2 kd1.lt
  clear kb1 kd1 b1 by2 h2 HROW HBL
  by_cases hbig : 1000 < n
  · have hd : decide (1000 < n) = true := decide_eq_true hbig
    go_wp2_with fail
    go_ret
    exact ⟨rfl, bx⟩
  have hd : decide (1000 < n) = false := decide_eq_false hbig
  have hn1 : n ≤ 1000 := by omega
  rw [hd]
  clear hbig hd
  have hrx := hr.below bx
  clear hr
  have hU := HU.out
  have hto := fun (w' : World) (hb : Below w2.heap.size w2 w') => to_any U hU A n c l w' ((hrx.below (hb.mono bx.size)).more (Nat.le_trans bx.size hb.size)) (by omega)
  have href := fun (w' : World) (hb : Below w2.heap.size w2 w') => ref_any U hU A n c l w' ((hrx.below (hb.mono bx.size)).more (Nat.le_trans bx.size hb.size)) (by omega)
  rw [← HSC.out] at hto href
  unfold CopyEnd at hto href
  have hadd := fun (A' : Option Addr) (m' c' : Nat) (w' : World) (h : RdD w' w'.heap.size A' m' l) => add_any ⟨U, A', m', c', l⟩ x q w' hU h
  have hradd := fun (A' : Option Addr) (m' c' : Nat) (w' : World) (h : RdD w' w'.heap.size A' m' l) => radd_any ⟨U, A', m', c', l⟩ x q w' hU h
  unfold AddEnd at hadd hradd
  have hright := fun (A' : Option Addr) (m' c' : Nat) (w' : World) (h : RdD w' w'.heap.size A' m' l) => right_any U hU A' m' c' l w' h
  have hrright := fun (A' : Option Addr) (m' c' : Nat) (w' : World) (h : RdD w' w'.heap.size A' m' l) => rright_any U hU A' m' c' l w' h
  have hhas := fun (A' : Option Addr) (m' c' : Nat) (w' : World) (h : RdD w' w'.heap.size A' m' l) => has_any ⟨U, A', m', c', l⟩ x q w' hU h
  have hrhas := fun (A' : Option Addr) (m' c' : Nat) (w' : World) (h : RdD w' w'.heap.size A' m' l) => rhas_any U hU A' m' c' l x q w' h
  have hcount := fun (A' : Option Addr) (m' c' : Nat) (w' : World) (h : RdD w' w'.heap.size A' m' l) => count_any ⟨U, A', m', c', l⟩ w' hU h
  have hlist := fun (A' : Option Addr) (m' c' : Nat) (w' : World) (h : RdD w' w'.heap.size A' m' l) => list_any ⟨U, A', m', c', l⟩ w' hU h
  have hrlist := fun (A' : Option Addr) (m' c' : Nat) (w' : World) (h : RdD w' w'.heap.size A' m' l) => rlist_any U hU A' m' c' l w' h
  unfold ListEnd at hlist hrlist
  simp only at hadd hradd hhas hrhas hcount hlist hrlist
  have hLL := dots_len (hasG U l)
  have hGL := more_len (addG U l (x, q))
  have hGU := upto_len (addG U l (x, q))
  have hGW := upto_wf (addG U l (x, q))
  generalize dotsS (hasG U l) = LL at *
  generalize uptoS (addG U l (x, q)) = GU at *
  generalize moreS (addG U l (x, q)) = GM at *
  generalize addE U l (x, q) = E at *
  generalize hasB U l (x, q) = H at *
  generalize rightB U l = R at *
  have HTO := Lib.hid hto
  have HREF := Lib.hid href
  have HADD := Lib.hid hadd
  have HRADD := Lib.hid hradd
  have HRIGHT := Lib.hid hright
  have HRRIGHT := Lib.hid hrright
  have HHAS := Lib.hid hhas
  have HRHAS := Lib.hid hrhas
  have HCOUNT := Lib.hid hcount
  have HLIST := Lib.hid hlist
  have HRLIST := Lib.hid hrlist
  have HLL := Lib.hid hLL
  have HGL := Lib.hid hGL
  have HGU := Lib.hid hGU
  have HGW := Lib.hid hGW
  clear hto href hadd hradd hright hrright hhas hrhas hcount hlist hrlist hLL hGL hGU hGW hU hrx
  go_wp2_with ((with_reducible refine wpList_ld rowLS kb2 HS.out ?_ ?_); rotate_left; (rfl))
  refine (HTO.out w2 (Below.refl _ _)).mono ?_
  rintro e w3 ⟨A2, m2, c2, rfl, o2, h3⟩
  have kb3 := kb2.below h3 kb2.lt
  have kd3 := kd2.below h3 kd2.lt
  have b3 := bx.trans (h3.mono bx.size)
  have HS2 := Lib.hid (uc_size HU.out (.slice A2 m2 c2))
  have H21 := Lib.hid (uc_one (U := U) (s := .slice A2 m2 c2) rfl)
  obtain ⟨s2, hs2⟩ : ∃ s2, s2 = uc U (.slice A2 m2 c2) := ⟨_, rfl⟩
  have ladd := HADD.out A2 m2 c2
  have lright := HRIGHT.out A2 m2 c2
  have lhas := HHAS.out A2 m2 c2
  have lcount := HCOUNT.out A2 m2 c2
  have llist := HLIST.out A2 m2 c2
  rw [← hs2] at HS2 H21 ladd lright lhas lcount llist ⊢
  have LADD := Lib.hid ladd
  have LRIGHT := Lib.hid lright
  have LHAS := Lib.hid lhas
  have LCOUNT := Lib.hid lcount
  have LLIST := Lib.hid llist
  have HS2E := Lib.hid hs2
  clear ladd lright lhas lcount llist hs2 HADD HRIGHT HHAS HCOUNT HLIST
  go_upto_region 6 with ((with_reducible refine wpList_st rowS (Blk.new _ _ _) HS2.out ?_ H21.out ?_ ?_ ?_); (rfl); rotate_left; (rfl); (rfl); intro w4 k5 g4 z4)
  have p4 : Below w3.heap.size w3 w4 := ((Below.refl _ _).alloc (Nat.le_refl _) _).grown g4 (by simp) (fun q hq => by injection hq with hq; omega)
  have o4 := o2.below p4 (Nat.le_refl _)
  have kb4 := kb3.below p4 kb3.lt
  have kd4 := kd3.below p4 kd3.lt
  have b4 := b3.trans (p4.mono b3.size)
  have y4 := h3.trans (p4.mono h3.size)
  have o2b := o4.mono bx.size
  obtain ⟨g5, hg⟩ : ∃ g, g = w3.heap.size := ⟨_, rfl⟩
  have hg5 : w2.heap.size ≤ g5 := by rw [hg]; exact h3.size
  rw [← hg] at k5 ⊢
  clear hg g4 z4 p4 b3 kb3 kd3 o2 h3 o4 kb2 kd2
  go_wp2_with first
    | ((with_reducible refine wpList_ld rowS k5 HS2.out ?_ ?_); rotate_left; (rfl))
    | ((with_reducible refine wpList_ld rowDt kd4 rfl ?_ ?_); rotate_left; (rfl))
  refine (LADD.out w4 o2b.rd).mono ?_
  rintro e w5 ⟨A3, m3, c3, rfl, o3, h5⟩
  have kb5 := kb4.below h5 kb4.lt
  have kd5 := kd4.below h5 kd4.lt
  have k55 := k5.below h5 k5.lt
  have b5 := b4.trans (h5.mono b4.size)
  have y5 := y4.trans (h5.mono y4.size)
  have o25 := o2b.below h5 (Nat.le_refl _)
  have HS3 := Lib.hid (uc_size HGU.out (.slice A3 m3 c3))
  have H31 := Lib.hid (uc_one (U := GU) (s := .slice A3 m3 c3) rfl)
  obtain ⟨s3, hs3⟩ : ∃ s3, s3 = uc GU (.slice A3 m3 c3) := ⟨_, rfl⟩
  rw [← hs3] at HS3 H31 ⊢
  have HS3E := Lib.hid hs3
  clear hs3 LADD
  go_upto_region 7 with ((with_reducible refine wpList_st rowS (Blk.new _ _ _) HS3.out ?_ H31.out ?_ ?_ ?_); (rfl); rotate_left; (rfl); (rfl); intro w6 k6 g6 z6)
  have p6 : Below w5.heap.size w5 w6 := ((Below.refl _ _).alloc (Nat.le_refl _) _).grown g6 (by simp) (fun q hq => by injection hq with hq; omega)
  have kb6 := kb5.below p6 kb5.lt
  have kd6 := kd5.below p6 kd5.lt
  have k56 := k55.below p6 k55.lt
  have b6 := b5.trans (p6.mono b5.size)
  have y6 := y5.trans (p6.mono y5.size)
  have o26 := o25.below p6 (Nat.le_refl _)
  have o36 := o3.below p6 (Nat.le_refl _)
  have hw45 := h5.size
  have hb34 : w4.heap.size ≤ w5.heap.size := h5.size
  obtain ⟨g7, hg⟩ : ∃ g, g = w5.heap.size := ⟨_, rfl⟩
  have hg7 : w2.heap.size ≤ g7 := by rw [hg]; exact y5.size
  have hg57 : g5 ≠ g7 := by have := k55.lt; omega
  rw [← hg] at k6 ⊢
  have hb24 : w2.heap.size ≤ w4.heap.size := y4.size
  have o3b := o36.mono (base' := w4.heap.size) (Nat.le_refl _)
  have hA3 := o36.lt
  have hA2 : ∀ k, A2.map (·.block) = some k → k < w4.heap.size := fun k hk => (o2b.lt k hk).2
  have hA23 : A2.map (·.block) = none ∨ A2.map (·.block) ≠ A3.map (·.block) := by
    cases e2 : A2.map (·.block) with
    | none => exact .inl rfl
    | some k =>
      refine .inr fun e3 => ?_
      have h1 := hA2 k e2
      have h2 := (hA3 k e3.symm).1
      omega
  clear hg g6 z6 p6 b5 y5 kb5 kd5 k55 o25 o3 hb34 hw45 h5 kb4 kd4 k5 b4 y4 o2b hA3 hA2 o36
  have hbx := bx.size
  refine wp_region_held_drew (S := fun w' => Below w6.heap.size w6 w') (by kernel_rfl) (Below.refl _ _).drew (fun hS => ?_)
  generalize w6.drew = wd at *
  refine wpAnyH_take (i := 0) rfl (by kernel_rfl) (by kernel_rfl) (by kernel_rfl) (fun _ _ _ h => h) (yieldsIf_ld (by rfl) rowLS (.tmp 2) rfl rfl (fun w hw => kb6.below hw kb6.lt) HS.out) hS ?_
  simp only [Act.put, List.getElem_toArray, List.getElem_cons_zero, List.getElem_cons_succ, List.setIfInBounds_toArray, List.set_cons_succ, List.set_cons_zero]
  refine wpAnyH_take (i := 2) rfl (by kernel_rfl) (by kernel_rfl) (by kernel_rfl) (fun _ _ _ h => h) (yieldsIf_ld (by rfl) rowDt (.tmp 3) rfl rfl (fun w hw => kd6.below hw kd6.lt) rfl) hS ?_
  simp only [Act.put, List.getElem_toArray, List.getElem_cons_zero, List.getElem_cons_succ, List.setIfInBounds_toArray, List.set_cons_succ, List.set_cons_zero]
  apply meet8 (F := fun (w' : World) (A4 : Option Addr) (m4 c4 : Nat) (A5 : Option Addr) (m5 c5 g8 : Nat) => Below w6.heap.size w6 w' ∧ OwnD w' w6.heap.size A5 m5 c5 GM ∧ Blk w' g8 35 #[.int .i64 0, .int .i64 0, .int .i64 0, .int .i64 0, .int .i64 0, .int .i64 0, .int .i64 0, .int .i64 0, .slice none 0 0] ∧ w6.heap.size ≤ g8)
  case hmain =>
    intro key
    refine wpAnyH_ready (rs := [1, 7]) (by kernel_rfl) (by simp) ?_
    refine AllReadyH.cons rfl (fun K hK => ?u1_1) (AllReadyH.cons rfl (fun K hK => ?u1_7) .nil)
    case u1_1 =>
      go_simp
      refine (HREF.out wd (y6.trans (hS.mono y6.size))).mono ?_
      rintro e wr ⟨A4, m4, c4, rfl, o4, h4⟩
      have r4 := o4.rd
      refine hK.out _ _ (hS.trans (h4.mono hS.size)) (fun hS => ?_)
      clear hK K h4 o4
      refine wpAnyH_ready (rs := [3, 7]) (by kernel_rfl) (by simp) ?_
      refine AllReadyH.cons rfl (fun K hK => ?u2_3) (AllReadyH.cons rfl (fun K hK => ?u2_7) .nil)
      case u2_3 =>
        go_simp
        refine (HRADD.out A4 m4 c4 wr r4).mono ?_
        rintro e wq ⟨A5, m5, c5, rfl, o5, h5⟩
        replace o5 := o5.mono hS.size
        refine hK.out _ _ (hS.trans (h5.mono hS.size)) (fun hS => ?_)
        clear hK K h5 r4
        refine wpAnyH_take (i := 4) (v := ?rv222) rfl (by kernel_rfl) (by kernel_rfl) (by kernel_rfl) (fun _ _ _ h => h) (Or.inl ⟨by rfl, ?ry222⟩) hS ?_
        case ry222 => (intro wS hSw; clear hSw; go_simp; (try with_reducible rfl))
        simp only [Act.put, List.getElem_toArray, List.getElem_cons_zero, List.getElem_cons_succ, List.setIfInBounds_toArray, List.set_cons_succ, List.set_cons_zero]
        refine wpAnyH_take (i := 5) (v := ?rv225) rfl (by kernel_rfl) (by kernel_rfl) (by kernel_rfl) (fun _ _ _ h => h) (Or.inl ⟨by rfl, ?ry225⟩) hS ?_
        case ry225 => (intro wS hSw; clear hSw; go_simp; (try with_reducible rfl))
        simp only [Act.put, List.getElem_toArray, List.getElem_cons_zero, List.getElem_cons_succ, List.setIfInBounds_toArray, List.set_cons_succ, List.set_cons_zero]
        refine wpAnyH_take (i := 6) (v := ?rv228) rfl (by kernel_rfl) (by kernel_rfl) (by kernel_rfl) (fun _ _ _ h => h) (Or.inl ⟨by rfl, ?ry228⟩) hS ?_
        case ry228 => (intro wS hSw; clear hSw; go_simp; (try with_reducible rfl))
        simp only [Act.put, List.getElem_toArray, List.getElem_cons_zero, List.getElem_cons_succ, List.setIfInBounds_toArray, List.set_cons_succ, List.set_cons_zero]
        refine wpAnyH_ready (rs := [7]) (by kernel_rfl) (by simp) ?_
        refine AllReadyH.cons rfl (fun K hK => ?_) .nil
        go_simp
        have hg8 := hS.size
        refine hK.out _ _ (hS.alloc hS.size _) (fun hS => ?_)
        clear hK K
        have k8 := Blk.new wq 35 #[.int .i64 0, .int .i64 0, .int .i64 0, .int .i64 0, .int .i64 0, .int .i64 0, .int .i64 0, .int .i64 0, .slice none 0 0]
        replace o5 := o5.alloc (.cells #[.int .i64 0, .int .i64 0, .int .i64 0, .int .i64 0, .int .i64 0, .int .i64 0, .int .i64 0, .int .i64 0, .slice none 0 0] 35)
        generalize wq.alloc (.cells #[.int .i64 0, .int .i64 0, .int .i64 0, .int .i64 0, .int .i64 0, .int .i64 0, .int .i64 0, .int .i64 0, .slice none 0 0] 35) = w8 at *
        generalize wq.heap.size = g8 at *
        exact key w8 A4 m4 c4 A5 m5 c5 g8 ⟨hS, o5, k8, hg8⟩
      case u2_7 =>
        go_simp
        have hg8 := hS.size
        refine hK.out _ _ (hS.alloc hS.size _) (fun hS => ?_)
        clear hK K
        have k8 := Blk.new wr 35 #[.int .i64 0, .int .i64 0, .int .i64 0, .int .i64 0, .int .i64 0, .int .i64 0, .int .i64 0, .int .i64 0, .slice none 0 0]
        replace r4 := (r4.below ((Below.refl _ _).alloc (Nat.le_refl _) (.cells #[.int .i64 0, .int .i64 0, .int .i64 0, .int .i64 0, .int .i64 0, .int .i64 0, .int .i64 0, .int .i64 0, .slice none 0 0] 35))).size
        generalize wr.alloc (.cells #[.int .i64 0, .int .i64 0, .int .i64 0, .int .i64 0, .int .i64 0, .int .i64 0, .int .i64 0, .int .i64 0, .slice none 0 0] 35) = w8 at *
        generalize wr.heap.size = g8 at *
        refine wpAnyH_ready (rs := [3]) (by kernel_rfl) (by simp) ?_
        refine AllReadyH.cons rfl (fun K hK => ?_) .nil
        go_simp
        refine (HRADD.out A4 m4 c4 w8 r4).mono ?_
        rintro e wq ⟨A5, m5, c5, rfl, o5, h5⟩
        replace o5 := o5.mono hS.size
        replace k8 := k8.below h5 k8.lt
        refine hK.out _ _ (hS.trans (h5.mono hS.size)) (fun hS => ?_)
        clear hK K h5 r4
        refine wpAnyH_take (i := 4) (v := ?rv260) rfl (by kernel_rfl) (by kernel_rfl) (by kernel_rfl) (fun _ _ _ h => h) (Or.inl ⟨by rfl, ?ry260⟩) hS ?_
        case ry260 => (intro wS hSw; clear hSw; go_simp; (try with_reducible rfl))
        simp only [Act.put, List.getElem_toArray, List.getElem_cons_zero, List.getElem_cons_succ, List.setIfInBounds_toArray, List.set_cons_succ, List.set_cons_zero]
        refine wpAnyH_take (i := 5) (v := ?rv263) rfl (by kernel_rfl) (by kernel_rfl) (by kernel_rfl) (fun _ _ _ h => h) (Or.inl ⟨by rfl, ?ry263⟩) hS ?_
        case ry263 => (intro wS hSw; clear hSw; go_simp; (try with_reducible rfl))
        simp only [Act.put, List.getElem_toArray, List.getElem_cons_zero, List.getElem_cons_succ, List.setIfInBounds_toArray, List.set_cons_succ, List.set_cons_zero]
        refine wpAnyH_take (i := 6) (v := ?rv266) rfl (by kernel_rfl) (by kernel_rfl) (by kernel_rfl) (fun _ _ _ h => h) (Or.inl ⟨by rfl, ?ry266⟩) hS ?_
        case ry266 => (intro wS hSw; clear hSw; go_simp; (try with_reducible rfl))
        simp only [Act.put, List.getElem_toArray, List.getElem_cons_zero, List.getElem_cons_succ, List.setIfInBounds_toArray, List.set_cons_succ, List.set_cons_zero]
        exact key wq A4 m4 c4 A5 m5 c5 g8 ⟨hS, o5, k8, hg8⟩
    case u1_7 =>
      go_simp
      have hg8 := hS.size
      refine hK.out _ _ (hS.alloc hS.size _) (fun hS => ?_)
      clear hK K
      have k8 := Blk.new wd 35 #[.int .i64 0, .int .i64 0, .int .i64 0, .int .i64 0, .int .i64 0, .int .i64 0, .int .i64 0, .int .i64 0, .slice none 0 0]
      generalize wd.alloc (.cells #[.int .i64 0, .int .i64 0, .int .i64 0, .int .i64 0, .int .i64 0, .int .i64 0, .int .i64 0, .int .i64 0, .slice none 0 0] 35) = w8 at *
      generalize wd.heap.size = g8 at *
      refine wpAnyH_ready (rs := [1]) (by kernel_rfl) (by simp) ?_
      refine AllReadyH.cons rfl (fun K hK => ?_) .nil
      go_simp
      refine (HREF.out w8 (y6.trans (hS.mono y6.size))).mono ?_
      rintro e wr ⟨A4, m4, c4, rfl, o4, h4⟩
      have r4 := o4.rd
      replace k8 := k8.below h4 k8.lt
      refine hK.out _ _ (hS.trans (h4.mono hS.size)) (fun hS => ?_)
      clear hK K h4 o4
      refine wpAnyH_ready (rs := [3]) (by kernel_rfl) (by simp) ?_
      refine AllReadyH.cons rfl (fun K hK => ?_) .nil
      go_simp
      refine (HRADD.out A4 m4 c4 wr r4).mono ?_
      rintro e wq ⟨A5, m5, c5, rfl, o5, h5⟩
      replace o5 := o5.mono hS.size
      replace k8 := k8.below h5 k8.lt
      refine hK.out _ _ (hS.trans (h5.mono hS.size)) (fun hS => ?_)
      clear hK K h5 r4
      refine wpAnyH_take (i := 4) (v := ?rv296) rfl (by kernel_rfl) (by kernel_rfl) (by kernel_rfl) (fun _ _ _ h => h) (Or.inl ⟨by rfl, ?ry296⟩) hS ?_
      case ry296 => (intro wS hSw; clear hSw; go_simp; (try with_reducible rfl))
      simp only [Act.put, List.getElem_toArray, List.getElem_cons_zero, List.getElem_cons_succ, List.setIfInBounds_toArray, List.set_cons_succ, List.set_cons_zero]
      refine wpAnyH_take (i := 5) (v := ?rv299) rfl (by kernel_rfl) (by kernel_rfl) (by kernel_rfl) (fun _ _ _ h => h) (Or.inl ⟨by rfl, ?ry299⟩) hS ?_
      case ry299 => (intro wS hSw; clear hSw; go_simp; (try with_reducible rfl))
      simp only [Act.put, List.getElem_toArray, List.getElem_cons_zero, List.getElem_cons_succ, List.setIfInBounds_toArray, List.set_cons_succ, List.set_cons_zero]
      refine wpAnyH_take (i := 6) (v := ?rv302) rfl (by kernel_rfl) (by kernel_rfl) (by kernel_rfl) (fun _ _ _ h => h) (Or.inl ⟨by rfl, ?ry302⟩) hS ?_
      case ry302 => (intro wS hSw; clear hSw; go_simp; (try with_reducible rfl))
      simp only [Act.put, List.getElem_toArray, List.getElem_cons_zero, List.getElem_cons_succ, List.setIfInBounds_toArray, List.set_cons_succ, List.set_cons_zero]
      exact key wq A4 m4 c4 A5 m5 c5 g8 ⟨hS, o5, k8, hg8⟩
  rename Below w6.heap.size w6 wd => hSd
  clear hSd
  rintro w7 A4 m4 c4 A5 m5 c5 g8 ⟨hS, o5, k8, hg8⟩
  have HS5 := Lib.hid (uc_size HGU.out (.slice A5 m5 c5))
  have H51 := Lib.hid (uc_one (U := GU) (s := .slice A5 m5 c5) rfl)
  obtain ⟨s5, hs5⟩ : ∃ s5, s5 = uc GU (.slice A5 m5 c5) := ⟨_, rfl⟩
  rw [← hs5] at HS5 H51 ⊢
  have HS5E := Lib.hid hs5
  clear hs5
  refine wpAnyH_ready (rs := [8]) (by kernel_rfl) (by simp) ?_
  refine AllReadyH.cons rfl (fun K hK => ?_) .nil
  refine step_st rfl rowRS (.tmp 8) (.tmp 30) rfl (by rfl) (by rfl) k8 HS5.out (by rfl) H51.out ?_
  intro w8 k9 g9 z9
  have o9 := o5.grown g9 (.inr (own_ne o5.2 k8 (by decide)))
  refine hK.out _ _ (hS.grown g9 hS.size (fun q hq => by injection hq; omega)) (fun hS => ?_)
  clear hK K
  refine wpAnyH_take (i := 9) (v := ?rv322) rfl (by kernel_rfl) (by kernel_rfl) (by kernel_rfl) (fun _ _ _ h => h) (Or.inl ⟨by rfl, ?ry322⟩) hS ?_
  case ry322 => (intro wS hSw; clear hSw; go_simp; (try with_reducible rfl))
  simp only [Act.put, List.getElem_toArray, List.getElem_cons_zero, List.getElem_cons_succ, List.setIfInBounds_toArray, List.set_cons_succ, List.set_cons_zero]
  refine wpAnyH_done (by kernel_rfl) ?_ _
  rename Below w6.heap.size w6 w7 => hS7
  have kb8 := kb6.below hS kb6.lt
  have kd8 := kd6.below hS kd6.lt
  have k58 := k56.below hS k56.lt
  have k78 := k6.below hS k6.lt
  have b8 := b6.trans (hS.mono b6.size)
  have y8 := y6.trans (hS.mono y6.size)
  have o28 := o26.below hS (Nat.le_refl _)
  have o38 := o3b.below hS (Nat.le_refl _)
  clear hS hS7 g9 z9 k8 o5 kb6 kd6 k56 k6 b6 y6 o26 o3b hg8 wd w7 HRADD
  go_wp2_with ((with_reducible refine wpList_ld rowLS kb8 HS.out ?_ ?_); rotate_left; (rfl))
  refine (HREF.out w8 y8).mono ?_
  rintro e w9 ⟨A6, m6, c6, rfl, o6, h9⟩
  have r6 := o6.rd
  go_wp2_with fail
  refine (HRLIST.out A6 m6 c6 w9 r6).mono ?_
  rintro e w10 ⟨A7, m7, c7, rfl, o7, h10⟩
  have hx := h9.trans (h10.mono h9.size)
  have kb := kb8.below hx kb8.lt
  have kd := kd8.below hx kd8.lt
  have k5 := k58.below hx k58.lt
  have k7 := k78.below hx k78.lt
  have k8 := k9.below hx k9.lt
  have bC := b8.trans (hx.mono b8.size)
  have yC := y8.trans (hx.mono y8.size)
  have o2 := o28.below hx (Nat.le_refl _)
  have o3 := o38.below hx (Nat.le_refl _)
  have o5 := o9.below hx (Nat.le_refl _)
  obtain rfl : m7 = LL.length := o7.1
  have hL7 := HLL.out
  have hL3 : m3 ≤ 784 := by rw [o3.1]; exact HGL.out
  have rd2 : ∀ w', Below w10.heap.size w10 w' → RdD w' w'.heap.size A2 m2 l := fun w' h => (o2.rd.below h).more h.size
  have rd3 : ∀ w', Below w10.heap.size w10 w' → RdD w' w'.heap.size A3 m3 GM := fun w' h => (o3.rd.below h).more h.size
  have rd5 : ∀ w', Below w10.heap.size w10 w' → RdD w' w'.heap.size A5 m5 GM := fun w' h => (o5.rd.below h).more h.size
  have rd7 : ∀ w', Below w10.heap.size w10 w' → RdD w' w'.heap.size A7 LL.length LL := fun w' h => (o7.rd.below h).more h.size
  have lfrom := fun (w' : World) (h : RdD w' w'.heap.size A3 m3 GM) => from_any GU HGU.out A3 m3 c3 GM w' h (by omega)
  unfold CopyEnd at lfrom
  have lsame := fun (B' : Option Addr) (n' d' : Nat) (w' : World) (h : RdD w' w'.heap.size B' n' GM) (h' : RdD w' w'.heap.size A5 m5 GM) => same_any GU GU HGU.out HGU.out HGW.out HGW.out B' A5 n' d' m5 c5 GM GM w' h h' (by have := HGL.out; rw [h.1]; omega)
  simp only [decide_true, Bool.and_true] at lsame
  rw [← HS5E.out] at lsame
  rw [← HS3E.out] at lfrom
  have LFROM := Lib.hid lfrom
  have LSAME := Lib.hid lsame
  have RD2 := Lib.hid rd2
  have RD3 := Lib.hid rd3
  have RD5 := Lib.hid rd5
  have RD7 := Lib.hid rd7
  have hbR : (R != R) = false := by simp
  have hbH : (H != H) = false := by simp
  have hbE : (E != E) = false := by simp
  clear lfrom lsame rd2 rd3 rd5 rd7 hx h9 h10 r6 o6 o7 kb8 kd8 k58 k78 k9 b8 y8 o28 o38 o9 o5 HRLIST
  go_upto_region 9 with fail
  refine wp_region_held_drew (S := fun w' => Below w10.heap.size w10 w') (by kernel_rfl) (Below.refl _ _).drew (fun hS => ?_)
  generalize w10.drew = wd at *
  refine wpAnyH_take (i := 0) rfl (by kernel_rfl) (by kernel_rfl) (by kernel_rfl) (fun _ _ _ h => h) (yieldsIf_ld (by rfl) rowS (.tmp 5) rfl rfl (fun w hw => k5.below hw k5.lt) HS2.out) hS ?_
  simp only [Act.put, List.getElem_toArray, List.getElem_cons_zero, List.getElem_cons_succ, List.setIfInBounds_toArray, List.set_cons_succ, List.set_cons_zero]
  refine wpAnyH_take (i := 2) rfl (by kernel_rfl) (by kernel_rfl) (by kernel_rfl) (fun _ _ _ h => h) (yieldsIf_ld (by rfl) rowLS (.tmp 2) rfl rfl (fun w hw => kb.below hw kb.lt) HS.out) hS ?_
  simp only [Act.put, List.getElem_toArray, List.getElem_cons_zero, List.getElem_cons_succ, List.setIfInBounds_toArray, List.set_cons_succ, List.set_cons_zero]
  refine wpAnyH_ready (rs := [1]) (by kernel_rfl) (by simp) ?_
  refine AllReadyH.cons rfl (fun K hK => ?_) .nil
  go_simp
  refine (LRIGHT.out _ (RD2.out _ hS)).mono ?_
  rintro e v1 ⟨rfl, hh⟩
  refine hK.out _ _ (hS.trans (hh.mono hS.size)) (fun hS => ?_)
  clear hK K hh
  refine wpAnyH_ready (rs := [3]) (by kernel_rfl) (by simp) ?_
  refine AllReadyH.cons rfl (fun K hK => ?_) .nil
  go_simp
  refine (HREF.out _ (yC.trans (hS.mono yC.size))).mono ?_
  rintro e v2 ⟨B1, n1, d1, rfl, p1, hh⟩
  have rp1 := p1.rd
  refine hK.out _ _ (hS.trans (hh.mono hS.size)) (fun hS => ?_)
  clear hK K hh p1
  refine wpAnyH_ready (rs := [4]) (by kernel_rfl) (by simp) ?_
  refine AllReadyH.cons rfl (fun K hK => ?_) .nil
  go_simp
  refine (HRRIGHT.out B1 n1 d1 _ rp1).mono ?_
  rintro e v3 ⟨rfl, hh⟩
  refine hK.out _ _ (hS.trans (hh.mono hS.size)) (fun hS => ?_)
  clear hK K hh rp1
  refine wpAnyH_take (i := 5) (v := ?rv406) rfl (by kernel_rfl) (by kernel_rfl) (by kernel_rfl) (fun _ _ _ h => h) (Or.inl ⟨by rfl, ?ry406⟩) hS ?_
  case ry406 => (intro wS hSw; clear hSw; go_simp; (try with_reducible rfl))
  simp only [Act.put, List.getElem_toArray, List.getElem_cons_zero, List.getElem_cons_succ, List.setIfInBounds_toArray, List.set_cons_succ, List.set_cons_zero]
  refine wpAnyH_take (i := 6) (v := ?rv409) rfl (by kernel_rfl) (by kernel_rfl) (by kernel_rfl) (fun _ _ _ h => h) (Or.inl ⟨by rfl, ?ry409⟩) hS ?_
  case ry409 => (intro wS hSw; clear hSw; go_simp; (try with_reducible rfl))
  simp only [Act.put, List.getElem_toArray, List.getElem_cons_zero, List.getElem_cons_succ, List.setIfInBounds_toArray, List.set_cons_succ, List.set_cons_zero]
  refine wpAnyH_take (i := 7) rfl (by kernel_rfl) (by kernel_rfl) (by kernel_rfl) (fun _ _ _ h => h) (yieldsIf_ld (by rfl) rowS (.tmp 5) rfl rfl (fun w hw => k5.below hw k5.lt) HS2.out) hS ?_
  simp only [Act.put, List.getElem_toArray, List.getElem_cons_zero, List.getElem_cons_succ, List.setIfInBounds_toArray, List.set_cons_succ, List.set_cons_zero]
  refine wpAnyH_take (i := 8) rfl (by kernel_rfl) (by kernel_rfl) (by kernel_rfl) (fun _ _ _ h => h) (yieldsIf_ld (by rfl) rowDt (.tmp 3) rfl rfl (fun w hw => kd.below hw kd.lt) rfl) hS ?_
  simp only [Act.put, List.getElem_toArray, List.getElem_cons_zero, List.getElem_cons_succ, List.setIfInBounds_toArray, List.set_cons_succ, List.set_cons_zero]
  refine wpAnyH_take (i := 10) rfl (by kernel_rfl) (by kernel_rfl) (by kernel_rfl) (fun _ _ _ h => h) (yieldsIf_ld (by rfl) rowLS (.tmp 2) rfl rfl (fun w hw => kb.below hw kb.lt) HS.out) hS ?_
  simp only [Act.put, List.getElem_toArray, List.getElem_cons_zero, List.getElem_cons_succ, List.setIfInBounds_toArray, List.set_cons_succ, List.set_cons_zero]
  refine wpAnyH_take (i := 12) rfl (by kernel_rfl) (by kernel_rfl) (by kernel_rfl) (fun _ _ _ h => h) (yieldsIf_ld (by rfl) rowDt (.tmp 3) rfl rfl (fun w hw => kd.below hw kd.lt) rfl) hS ?_
  simp only [Act.put, List.getElem_toArray, List.getElem_cons_zero, List.getElem_cons_succ, List.setIfInBounds_toArray, List.set_cons_succ, List.set_cons_zero]
  refine wpAnyH_ready (rs := [9]) (by kernel_rfl) (by simp) ?_
  refine AllReadyH.cons rfl (fun K hK => ?_) .nil
  rw [if_pos (by rfl)]
  go_simp
  refine (LHAS.out _ (RD2.out _ hS)).mono ?_
  rintro e v1 ⟨rfl, hh⟩
  refine hK.out _ _ (hS.trans (hh.mono hS.size)) (fun hS => ?_)
  clear hK K hh
  refine wpAnyH_ready (rs := [11]) (by kernel_rfl) (by simp) ?_
  refine AllReadyH.cons rfl (fun K hK => ?_) .nil
  rw [if_pos (by rfl)]
  go_simp
  refine (HREF.out _ (yC.trans (hS.mono yC.size))).mono ?_
  rintro e v2 ⟨B2, n2, d2, rfl, p1, hh⟩
  have rp1 := p1.rd
  refine hK.out _ _ (hS.trans (hh.mono hS.size)) (fun hS => ?_)
  clear hK K hh p1
  refine wpAnyH_ready (rs := [13]) (by kernel_rfl) (by simp) ?_
  refine AllReadyH.cons rfl (fun K hK => ?_) .nil
  rw [if_pos (by rfl)]
  go_simp
  refine (HRHAS.out B2 n2 d2 _ rp1).mono ?_
  rintro e v3 ⟨rfl, hh⟩
  refine hK.out _ _ (hS.trans (hh.mono hS.size)) (fun hS => ?_)
  clear hK K hh rp1
  refine wpAnyH_take (i := 14) (v := ?rv445) rfl (by kernel_rfl) (by kernel_rfl) (by kernel_rfl) (fun _ _ _ h => h) (Or.inl ⟨by rfl, ?ry445⟩) hS ?_
  case ry445 => (intro wS hSw; clear hSw; go_simp; (try with_reducible rfl))
  simp only [Act.put, List.getElem_toArray, List.getElem_cons_zero, List.getElem_cons_succ, List.setIfInBounds_toArray, List.set_cons_succ, List.set_cons_zero]
  refine wpAnyH_take (i := 15) (v := ?rv448) rfl (by kernel_rfl) (by kernel_rfl) (by kernel_rfl) (fun _ _ _ h => h) (Or.inl ⟨by rfl, ?ry448⟩) hS ?_
  case ry448 => (intro wS hSw; clear hSw; go_simp; (try with_reducible rfl))
  simp only [Act.put, List.getElem_toArray, List.getElem_cons_zero, List.getElem_cons_succ, List.setIfInBounds_toArray, List.set_cons_succ, List.set_cons_zero]
  refine wpAnyH_take (i := 16) (v := ?rv451) rfl (by kernel_rfl) (by kernel_rfl) (by kernel_rfl) (fun _ _ _ h => h) (Or.inl ⟨by rfl, ?ry451⟩) hS ?_
  case ry451 => (intro wS hSw; clear hSw; go_simp; (try with_reducible rfl))
  simp only [Act.put, List.getElem_toArray, List.getElem_cons_zero, List.getElem_cons_succ, List.setIfInBounds_toArray, List.set_cons_succ, List.set_cons_zero]
  refine wpAnyH_take (i := 17) (v := ?rv454) rfl (by kernel_rfl) (by kernel_rfl) (by kernel_rfl) (fun _ _ _ h => h) (Or.inl ⟨by rfl, ?ry454⟩) hS ?_
  case ry454 => (intro wS hSw; clear hSw; go_simp; (try with_reducible rfl))
  simp only [Act.put, List.getElem_toArray, List.getElem_cons_zero, List.getElem_cons_succ, List.setIfInBounds_toArray, List.set_cons_succ, List.set_cons_zero]
  refine wpAnyH_take (i := 18) (v := ?rv457) rfl (by kernel_rfl) (by kernel_rfl) (by kernel_rfl) (fun _ _ _ h => h) (Or.inl ⟨by rfl, ?ry457⟩) hS ?_
  case ry457 => (intro wS hSw; clear hSw; go_simp; (try with_reducible rfl))
  simp only [Act.put, List.getElem_toArray, List.getElem_cons_zero, List.getElem_cons_succ, List.setIfInBounds_toArray, List.set_cons_succ, List.set_cons_zero]
  refine wpAnyH_take (i := 19) (v := ?rv460) rfl (by kernel_rfl) (by kernel_rfl) (by kernel_rfl) (fun _ _ _ h => h) (Or.inl ⟨by rfl, ?ry460⟩) hS ?_
  case ry460 => (intro wS hSw; clear hSw; go_simp; (try with_reducible rfl))
  simp only [Act.put, List.getElem_toArray, List.getElem_cons_zero, List.getElem_cons_succ, List.setIfInBounds_toArray, List.set_cons_succ, List.set_cons_zero]
  refine wpAnyH_take (i := 20) (v := ?rv463) rfl (by kernel_rfl) (by kernel_rfl) (by kernel_rfl) (fun _ _ _ h => h) (Or.inl ⟨by rfl, ?ry463⟩) hS ?_
  case ry463 => (intro wS hSw; clear hSw; go_simp; (try with_reducible rfl))
  simp only [Act.put, List.getElem_toArray, List.getElem_cons_zero, List.getElem_cons_succ, List.setIfInBounds_toArray, List.set_cons_succ, List.set_cons_zero]
  refine wpAnyH_take (i := 21) (v := ?rv466) rfl (by kernel_rfl) (by kernel_rfl) (by kernel_rfl) (fun _ _ _ h => h) (Or.inl ⟨by rfl, ?ry466⟩) hS ?_
  case ry466 => (intro wS hSw; clear hSw; go_simp; (try with_reducible rfl))
  simp only [Act.put, List.getElem_toArray, List.getElem_cons_zero, List.getElem_cons_succ, List.setIfInBounds_toArray, List.set_cons_succ, List.set_cons_zero]
  refine wpAnyH_take (i := 22) rfl (by kernel_rfl) (by kernel_rfl) (by kernel_rfl) (fun _ _ _ h => h) (yieldsIf_ld (by rfl) rowS (.tmp 6) rfl rfl (fun w hw => k7.below hw k7.lt) HS3.out) hS ?_
  simp only [Act.put, List.getElem_toArray, List.getElem_cons_zero, List.getElem_cons_succ, List.setIfInBounds_toArray, List.set_cons_succ, List.set_cons_zero]
  refine wpAnyH_take (i := 24) rfl (by kernel_rfl) (by kernel_rfl) (by kernel_rfl) (fun _ _ _ h => h) (yieldsIf_ld (by rfl) rowRS (.tmp 8) rfl rfl (fun w hw => k8.below hw k8.lt) HS5.out) hS ?_
  simp only [Act.put, List.getElem_toArray, List.getElem_cons_zero, List.getElem_cons_succ, List.setIfInBounds_toArray, List.set_cons_succ, List.set_cons_zero]
  refine wpAnyH_ready (rs := [23]) (by kernel_rfl) (by simp) ?_
  refine AllReadyH.cons rfl (fun K hK => ?_) .nil
  rw [if_pos (by rfl)]
  go_simp
  refine (LFROM.out _ (RD3.out _ hS)).mono ?_
  rintro e v2 ⟨B3, n3, d3, rfl, p1, hh⟩
  have rp1 := p1.rd
  refine hK.out _ _ (hS.trans (hh.mono hS.size)) (fun hS => ?_)
  clear hK K hh p1
  refine wpAnyH_ready (rs := [25]) (by kernel_rfl) (by simp) ?_
  refine AllReadyH.cons rfl (fun K hK => ?_) .nil
  rw [if_pos (by rfl)]
  go_simp
  refine (LSAME.out B3 n3 d3 _ rp1 (RD5.out _ hS)).mono ?_
  rintro e v3 ⟨rfl, hh⟩
  refine hK.out _ _ (hS.trans (hh.mono hS.size)) (fun hS => ?_)
  clear hK K hh rp1
  refine wpAnyH_take (i := 26) (v := ?rv490) rfl (by kernel_rfl) (by kernel_rfl) (by kernel_rfl) (fun _ _ _ h => h) (Or.inl ⟨by rfl, ?ry490⟩) hS ?_
  case ry490 => (intro wS hSw; clear hSw; go_simp; (try with_reducible rfl))
  simp only [Act.put, List.getElem_toArray, List.getElem_cons_zero, List.getElem_cons_succ, List.setIfInBounds_toArray, List.set_cons_succ, List.set_cons_zero]
  refine wpAnyH_take (i := 27) (v := ?rv493) rfl (by kernel_rfl) (by kernel_rfl) (by kernel_rfl) (fun _ _ _ h => h) (Or.inl ⟨by rfl, ?ry493⟩) hS ?_
  case ry493 => (intro wS hSw; clear hSw; go_simp; (try with_reducible rfl))
  simp only [Act.put, List.getElem_toArray, List.getElem_cons_zero, List.getElem_cons_succ, List.setIfInBounds_toArray, List.set_cons_succ, List.set_cons_zero]
  refine wpAnyH_take (i := 28) (v := ?rv496) rfl (by kernel_rfl) (by kernel_rfl) (by kernel_rfl) (fun _ _ _ h => h) (Or.inl ⟨by rfl, ?ry496⟩) hS ?_
  case ry496 => (intro wS hSw; clear hSw; go_simp; (try with_reducible rfl))
  simp only [Act.put, List.getElem_toArray, List.getElem_cons_zero, List.getElem_cons_succ, List.setIfInBounds_toArray, List.set_cons_succ, List.set_cons_zero]
  refine wpAnyH_take (i := 29) rfl (by kernel_rfl) (by kernel_rfl) (by kernel_rfl) (fun _ _ _ h => h) (yieldsIf_ld (by rfl) rowS (.tmp 5) rfl rfl (fun w hw => k5.below hw k5.lt) HS2.out) hS ?_
  simp only [Act.put, List.getElem_toArray, List.getElem_cons_zero, List.getElem_cons_succ, List.setIfInBounds_toArray, List.set_cons_succ, List.set_cons_zero]
  refine wpAnyH_take (i := 31) (v := ?rv501) rfl (by kernel_rfl) (by kernel_rfl) (by kernel_rfl) (fun _ _ _ h => h) (Or.inl ⟨by rfl, ?ry501⟩) hS ?_
  case ry501 => (intro wS hSw; clear hSw; go_simp; (try with_reducible rfl))
  simp only [Act.put, List.getElem_toArray, List.getElem_cons_zero, List.getElem_cons_succ, List.setIfInBounds_toArray, List.set_cons_succ, List.set_cons_zero]
  refine wpAnyH_take (i := 32) (v := ?rv504) rfl (by kernel_rfl) (by kernel_rfl) (by kernel_rfl) (fun _ _ _ h => h) (Or.inl ⟨by rfl, ?ry504⟩) hS ?_
  case ry504 => (intro wS hSw; clear hSw; go_simp; (try with_reducible rfl))
  simp only [Act.put, List.getElem_toArray, List.getElem_cons_zero, List.getElem_cons_succ, List.setIfInBounds_toArray, List.set_cons_succ, List.set_cons_zero]
  refine wpAnyH_ready (rs := [30]) (by kernel_rfl) (by simp) ?_
  refine AllReadyH.cons rfl (fun K hK => ?_) .nil
  rw [if_pos (by rfl)]
  go_simp
  refine (LCOUNT.out _ (RD2.out _ hS)).mono ?_
  rintro e v1 ⟨rfl, hh⟩
  refine hK.out _ _ (hS.trans (hh.mono hS.size)) (fun hS => ?_)
  clear hK K hh
  refine wpAnyH_take (i := 33) (v := ?rv515) rfl (by kernel_rfl) (by kernel_rfl) (by kernel_rfl) (fun _ _ _ h => h) (Or.inl ⟨by rfl, ?ry515⟩) hS ?_
  case ry515 => (intro wS hSw; clear hSw; go_simp; (try with_reducible rfl))
  simp only [Act.put, List.getElem_toArray, List.getElem_cons_zero, List.getElem_cons_succ, List.setIfInBounds_toArray, List.set_cons_succ, List.set_cons_zero]
  refine wpAnyH_take (i := 34) (v := ?rv518) rfl (by kernel_rfl) (by kernel_rfl) (by kernel_rfl) (fun _ _ _ h => h) (Or.inl ⟨by rfl, ?ry518⟩) hS ?_
  case ry518 => (intro wS hSw; clear hSw; go_simp; (try with_reducible rfl))
  simp only [Act.put, List.getElem_toArray, List.getElem_cons_zero, List.getElem_cons_succ, List.setIfInBounds_toArray, List.set_cons_succ, List.set_cons_zero]
  refine wpAnyH_take (i := 35) (v := ?rv521) rfl (by kernel_rfl) (by kernel_rfl) (by kernel_rfl) (fun _ _ _ h => h) (Or.inl ⟨by rfl, ?ry521⟩) hS ?_
  case ry521 => (intro wS hSw; clear hSw; go_simp; (try with_reducible rfl))
  simp only [Act.put, List.getElem_toArray, List.getElem_cons_zero, List.getElem_cons_succ, List.setIfInBounds_toArray, List.set_cons_succ, List.set_cons_zero]
  refine wpAnyH_take (i := 36) rfl (by kernel_rfl) (by kernel_rfl) (by kernel_rfl) (fun _ _ _ h => h) (yieldsIf_ld (by rfl) rowS (.tmp 5) rfl rfl (fun w hw => k5.below hw k5.lt) HS2.out) hS ?_
  simp only [Act.put, List.getElem_toArray, List.getElem_cons_zero, List.getElem_cons_succ, List.setIfInBounds_toArray, List.set_cons_succ, List.set_cons_zero]
  refine wpAnyH_take (i := 38) (v := ?rv526) rfl (by kernel_rfl) (by kernel_rfl) (by kernel_rfl) (fun _ _ _ h => h) (Or.inl ⟨by rfl, ?ry526⟩) hS ?_
  case ry526 => (intro wS hSw; clear hSw; go_simp; (try with_reducible rfl))
  simp only [Act.put, List.getElem_toArray, List.getElem_cons_zero, List.getElem_cons_succ, List.setIfInBounds_toArray, List.set_cons_succ, List.set_cons_zero]
  refine wpAnyH_ready (rs := [37]) (by kernel_rfl) (by simp) ?_
  refine AllReadyH.cons rfl (fun K hK => ?_) .nil
  rw [if_pos (by rfl)]
  go_simp
  refine (LLIST.out _ (RD2.out _ hS)).mono ?_
  rintro e v2 ⟨B4, n4, d4, rfl, p1, hh⟩
  have rp1 := p1.rd
  obtain rfl : n4 = LL.length := p1.1
  refine hK.out _ _ (hS.trans (hh.mono hS.size)) (fun hS => ?_)
  clear hK K hh p1
  refine wpAnyH_ready (rs := [39]) (by kernel_rfl) (by simp) ?_
  refine AllReadyH.cons rfl (fun K hK => ?_) .nil
  rw [if_pos (by rfl)]
  go_simp
  refine (dots_any B4 A7 LL.length d4 LL.length c7 _ _ LL LL _ rp1 (RD7.out _ hS) (by omega)).mono ?_
  rintro e v3 ⟨rfl, md, rfl⟩
  refine hK.out _ _ (below_drewN hS md) (fun hS => ?_)
  clear hK K rp1
  refine wpAnyH_take (i := 40) (v := ?rv547) rfl (by kernel_rfl) (by kernel_rfl) (by kernel_rfl) (fun _ _ _ h => h) (Or.inl ⟨by rfl, ?ry547⟩) hS ?_
  case ry547 => (intro wS hSw; clear hSw; go_simp; (try with_reducible rfl))
  simp only [Act.put, List.getElem_toArray, List.getElem_cons_zero, List.getElem_cons_succ, List.setIfInBounds_toArray, List.set_cons_succ, List.set_cons_zero]
  refine wpAnyH_take (i := 41) (v := ?rv550) rfl (by kernel_rfl) (by kernel_rfl) (by kernel_rfl) (fun _ _ _ h => h) (Or.inl ⟨by rfl, ?ry550⟩) hS ?_
  case ry550 => (intro wS hSw; clear hSw; go_simp; (try with_reducible rfl))
  simp only [Act.put, List.getElem_toArray, List.getElem_cons_zero, List.getElem_cons_succ, List.setIfInBounds_toArray, List.set_cons_succ, List.set_cons_zero]
  refine wpAnyH_done (by kernel_rfl) ?_ _
  have bE := bC.trans (hS.mono bC.size)
  have yE := yC.trans (hS.mono yC.size)
  have kbE := kb.below hS kb.lt
  have k5E := k5.below hS k5.lt
  have k7E := k7.below hS k7.lt
  have o2E := o2.below hS (Nat.le_refl _)
  have o3E := (o3.below hS (Nat.le_refl _)).2
  have hll : l.length ≤ 1000 := by rw [← HNL.out]; exact hn1
  have lfrom := fun (w' : World) (h : RdD w' w'.heap.size A2 m2 l) => from_any U HU.out A2 m2 c2 l w' h (by have := h.1; omega)
  unfold CopyEnd at lfrom
  rw [← HS2E.out] at lfrom
  have lsame := fun (B' B'' : Option Addr) (n' d' n'' d'' : Nat) (w' : World) (h : RdD w' w'.heap.size B' n' l) (h' : RdD w' w'.heap.size B'' n'' l) (hl : l.length ≤ 1000) => same_any U U HU.out HU.out WU.out WU.out B' B'' n' d' n'' d'' l l w' h h' (by rw [h.1]; omega)
  simp only [decide_true, Bool.and_true] at lsame
  have LFROM2 := Lib.hid lfrom
  have LSAME2 := Lib.hid lsame
  have t8 : s3[8]? = some (.slice A3 m3 c3) := by rw [HS3E.out]; exact uc_last HGU.out _
  clear lfrom lsame kb k5 k7 o2 o3 k8 bC yC kd hS hbR hbH hbE
  generalize v2.drewN md = wE at *
  obtain ⟨xs0, hxs0⟩ : ∃ xs0, xs0 = dcs GM := ⟨_, rfl⟩
  rw [← hxs0] at o3E
  clear hxs0
  have c8 : wE.cell? ⟨g7, 8, none⟩ = some (.slice A3 m3 c3) := (k7E.cell 8).trans t8
  go_wp2_with fail
  clear c8
  go_loopw [80] (fun i wr => ∃ (k : Nat) (xs : List Value), k ≤ m3 ∧ i = .int .i64 k ∧ Blk wr b 25 sc ∧ Blk wr g5 30 s2 ∧ Blk wr g7 30 s3 ∧ OwnD wr w.heap.size A2 m2 c2 l ∧ wr.ownsRow w4.heap.size 27 2 (.slice A3 m3 c3) m3 xs ∧ Below w.heap.size w wr ∧ Below w2.heap.size w2 wr) (fun i _ => m3 - (intOf i).toNat)
  case atStart => exact ⟨0, xs0, by omega, rfl, kbE, k5E, k7E, o2E, o3E, bE, yE⟩
  case round =>
    clear kbE k5E k7E o2E o3E bE yE
    obtain ⟨k, xs, hk, rfl, kb, k5, k7, o2, o3, bR, yR⟩ := hrel
    by_cases hlt : k < m3
    · obtain ⟨gA, rfl, hgA, hgL⟩ : ∃ gA, A3 = some ⟨gA, 0, none⟩ ∧ w4.heap.size ≤ gA ∧ gA < wr.heap.size := by
        rcases o3.2 with ⟨_, h0⟩ | ⟨g, cap, cur, hv, hb, hh, _⟩
        · omega
        · injection hv with hA
          exact ⟨g, hA, hb, lt_of_block hh⟩
      have hxl := o3.1
      have hc1 : wr.cell? ⟨gA, k * 2 + 1, none⟩ = some (xs[k * 2 + 1]'(by omega)) := by
        rw [o3.cellAt _ (by omega), List.getElem?_eq_getElem]
      generalize xs[k * 2 + 1]'(by omega) = u at hc1
      have hf1 := o3.frozenAt (k * 2 + 1)
      have k7x := k7.far (p := ⟨gA, k * 2 + 1, none⟩) (fun e => own_ne o3 k7 (by decide) (by rw [e]; rfl)) (.int .i64 (-1))
      have k5x := k5.far (p := ⟨gA, k * 2 + 1, none⟩) (fun e => own_ne o3 k5 (by decide) (by rw [e]; rfl)) (.int .i64 (-1))
      have kbx := kb.far (p := ⟨gA, k * 2 + 1, none⟩) (fun e => own_ne o3 kb (by decide) (by rw [e]; rfl)) (.int .i64 (-1))
      have o2x := o2.setFar (p := ⟨gA, k * 2 + 1, none⟩) (hA23.elim (fun h => by rw [h]; simp) (fun h => h)) (.int .i64 (-1))
      have o3x := (o3.stored (k * 2 + 1) (.int .i64 (-1))).1
      have bRx := bR.setCell (p := ⟨gA, k * 2 + 1, none⟩) (by show _ ≤ gA; omega) (.int .i64 (-1))
      have yRx := yR.setCell (p := ⟨gA, k * 2 + 1, none⟩) (by show _ ≤ gA; omega) (.int .i64 (-1))
      have c8 : wr.cell? ⟨g7, 8, none⟩ = some (.slice (some ⟨gA, 0, none⟩) m3 c3) := (k7.cell 8).trans t8
      have hk0 : (0 : Int) ≤ (k : Int) := by omega
      have hk1 : (k : Int) < (m3 : Int) := by omega
      have K7 := Lib.hid k7x
      have K5 := Lib.hid k5x
      have KB := Lib.hid kbx
      have O2 := Lib.hid o2x
      have O3 := Lib.hid o3x
      have BR := Lib.hid bRx
      have YR := Lib.hid yRx
      clear k7x k5x kbx o2x o3x bRx yRx kb k5 k7 o2 o3 bR yR
      go_wp2_with fail
      go_roundw
      case rel => exact ⟨k + 1, _, by omega, by go_num, KB.out, K5.out, K7.out, O2.out, O3.out, BR.out, YR.out⟩
      case measure => simp [intOf]; omega
    · obtain rfl : k = m3 := by omega
      go_upto_region 16 with fail
      have rd2 : ∀ w', Below wr.heap.size wr w' → RdD w' w'.heap.size A2 m2 l := fun w' h => (o2.rd.below h).more h.size
      refine wp_region_held_drew (S := fun w' => Below wr.heap.size wr w') (by kernel_rfl) (Below.refl _ _).drew (fun hS => ?_)
      generalize wr.drew = wd at *
      refine wpAnyH_take (i := 0) rfl (by kernel_rfl) (by kernel_rfl) (by kernel_rfl) (fun _ _ _ h => h) (yieldsIf_ld (by rfl) rowS (.tmp 5) rfl rfl (fun w hw => k5.below hw k5.lt) HS2.out) hS ?_
      simp only [Act.put, List.getElem_toArray, List.getElem_cons_zero, List.getElem_cons_succ, List.setIfInBounds_toArray, List.set_cons_succ, List.set_cons_zero]
      refine wpAnyH_take (i := 2) rfl (by kernel_rfl) (by kernel_rfl) (by kernel_rfl) (fun _ _ _ h => h) (yieldsIf_ld (by rfl) rowLS (.tmp 2) rfl rfl (fun w hw => kb.below hw kb.lt) HS.out) hS ?_
      simp only [Act.put, List.getElem_toArray, List.getElem_cons_zero, List.getElem_cons_succ, List.setIfInBounds_toArray, List.set_cons_succ, List.set_cons_zero]
      refine wpAnyH_ready (rs := [1]) (by kernel_rfl) (by simp) ?_
      refine AllReadyH.cons rfl (fun K hK => ?_) .nil
      go_simp
      refine (LFROM2.out _ (rd2 _ hS)).mono ?_
      rintro e v1 ⟨B1, n1, d1, rfl, p1, hh⟩
      replace p1 := p1.rd
      refine hK.out _ _ (hS.trans (hh.mono hS.size)) (fun hS => ?_)
      clear hK K hh
      refine wpAnyH_ready (rs := [3]) (by kernel_rfl) (by simp) ?_
      refine AllReadyH.cons rfl (fun K hK => ?_) .nil
      go_simp
      refine (HREF.out _ (yR.trans (hS.mono yR.size))).mono ?_
      rintro e v2 ⟨B2, n2, d2, rfl, p2, hh⟩
      replace p1 := (p1.below hh).size
      replace p2 := p2.rd
      refine hK.out _ _ (hS.trans (hh.mono hS.size)) (fun hS => ?_)
      clear hK K hh
      refine wpAnyH_ready (rs := [4]) (by kernel_rfl) (by simp) ?_
      refine AllReadyH.cons rfl (fun K hK => ?_) .nil
      go_simp
      refine (LSAME2.out B1 B2 n1 d1 n2 d2 _ p1 p2 hll).mono ?_
      rintro e v3 ⟨rfl, hh⟩
      refine hK.out _ _ (hS.trans (hh.mono hS.size)) (fun hS => ?_)
      clear hK K hh
      refine wpAnyH_take (i := 5) (v := ?rv649) rfl (by kernel_rfl) (by kernel_rfl) (by kernel_rfl) (fun _ _ _ h => h) (Or.inl ⟨by rfl, ?ry649⟩) hS ?_
      case ry649 => (intro wS hSw; clear hSw; go_simp; (try with_reducible rfl))
      simp only [Act.put, List.getElem_toArray, List.getElem_cons_zero, List.getElem_cons_succ, List.setIfInBounds_toArray, List.set_cons_succ, List.set_cons_zero]
      refine wpAnyH_done (by kernel_rfl) ?_ _
      go_wp2_with fail
      go_ret
      exact ⟨rfl, bR.trans (hS.mono bR.size)⟩
set_option maxRecDepth 100000 in
theorem lifted (os : Os) (started : os.Started) (H : Type) (enc : TypeId × Value → H) :
    ReturnsInHanded {} Try.checked os 3 .any (Rows.dotsetAsksSpec.pre6 enc Try.prog Try.f3 Rows.dotsetAsksRow.domain false) (Rows.dotsetAsksSpec.post enc Try.prog Try.f3 false true false false) := by
  refine returnsInHanded_of_change (C := Try.checked) own started (by kernel_rfl) Try.func3
    (ChangeSpec.witness6 (enc := enc) (C := Try.checked) false ⟨#[], #[.agg #[.int .i64 0, .int .i64 0, .int .i64 0, .int .i64 0, .int .i64 0, .int .i64 0, .int .i64 0, .int .i64 0, .slice none 0 0], .agg #[.int .i64 0, .int .i64 0]], []⟩ 8 (by kernel_rfl) (by kernel_rfl) (by kernel_rfl) (by kernel_rfl)) ?_
  intro W base args ds gs before hval0 hW hcnd _
  have hval : ∀ (j : Nat) t v, Try.f3.params[j]? = some t → args[j]? = some v → Value.okWide Try.prog W .any base t v := hval0
  have hW' := hW
  obtain ⟨p, q, hA0, hV, rfl, hfz, hnd⟩ := hW
  have hA : DataW.TrodAll enc Try.prog W 0 (fun _ => true) true Try.f3.params.toList args.toList ds p := hA0
  rw [Try.params3] at hA hval
  obtain ⟨v0, vs0, d0, ds0, p0, q0, hargs, rfl, rfl, h0, r0⟩ := trodAll_cons hA
  obtain ⟨v1, vs1, d1, ds1, p1, q1, rfl, rfl, rfl, h1, r1⟩ := trodAll_cons r0
  obtain ⟨rfl, rfl, rfl⟩ := trodAll_nil r1
  obtain rfl : args = #[v0, v1] := by cases args; simp_all
  obtain ⟨rfl, rfl⟩ := trodVars_none hV
  have lt0 : ∀ x ∈ p0, x.block < W.heap.size := by obtain ⟨m, hm⟩ := h0; exact DataW.trod_lt m _ _ _ hm
  have k0 := h0
  have lt1 : ∀ x ∈ p1, x.block < W.heap.size := by obtain ⟨m, hm⟩ := h1; exact DataW.trod_lt m _ _ _ hm
  have k1 := h1
  obtain ⟨U0, A0, n0, c0, l0, rfl, hu0, wu0, hr0, hn0⟩ := open_set (hval 0 25 v0 rfl rfl) h0
  obtain ⟨x1, y1, rfl⟩ := open_dot (hval 1 27 v1 rfl rfl) h1
  clear hA0 hval0
  refine (walk U0 A0 n0 c0 l0 x1 y1 W hu0 wu0 hr0 hn0).mono fun e W' ⟨he, bel⟩ => ?_
  subst he
  exact ⟨_, rfl, _, _, _, [], _, [], hW', trodAll_mk1 (shut_bool Try.underlying4 _), (trodAll_cons_mk (Below.trod laidOut (by kernel_rfl) (of_decide_eq_true (by kernel_rfl)) k0 bel lt0) (trodAll_cons_mk (Below.trod laidOut (by kernel_rfl) (of_decide_eq_true (by kernel_rfl)) k1 bel lt1) trodAll_mk0)), rfl, bel.frame _, fun h => by cases h⟩

theorem proved : Rows.DotsetAsksSaid :=
  OpenClaim.holds_of_wide 3 Try.f3 rfl rfl rfl rfl rfl rfl rfl ⟨rfl, rfl, rfl, rfl, rfl⟩ rfl rfl rfl rfl rfl (by kernel_rfl) Try.func3 (by kernel_rfl)
    (of_decide_eq_true (by kernel_rfl)) (by unfold Func.isWrapper; first | (rw [if_pos (by decide +kernel)]; kernel_rfl) | (rw [if_neg (by decide +kernel)]; exact ⟨rfl, rfl⟩))
    (fun os started H enc _ => lifted os started H enc)
#print axioms proved
end Go.Proofs.Ytacmdkjodnaohaa.DotsetAsks

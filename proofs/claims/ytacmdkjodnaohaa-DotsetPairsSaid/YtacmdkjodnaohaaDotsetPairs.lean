/- DotsetPairs: what is in the one or the other of any two sets, and in the one alone, is the document's: the whole statement, without a condition (region 5 printed by wip/gen/pairs.py). -/
import Derived.Test.YtacmdkjodnaohaaDotOpen
import Derived.Test.YtacmdkjodnaohaaDotLessF
namespace Go.Proofs.Ytacmdkjodnaohaa.DotsetPairs
open Go.ChangeShapes Go.WideShapes Go.ChangeAt Go.RowKit Go.Deep
open Dot
set_option linter.unusedVariables false
set_option linter.unusedSimpArgs false
theorem buildL2 {U V : List Int} (h : U.length = 8) (h' : V.length = 8) (A B : Option Addr) (n c m d : Nat) (w : World) : (Instr.buildSlice 69 2 #[(0, .agg (uc U (.slice A n c))), (1, .agg (uc V (.slice B m d)))]).run Try.prog w = .ok (.slice (some ⟨w.heap.size, 0, none⟩) 2 2) (w.alloc (.cells (uc U (.slice A n c) ++ uc V (.slice B m d)) 25)) := by
  obtain ⟨a, b, c, d, e, f, g, i, rfl⟩ := eight h
  obtain ⟨a, b, c, d, e, f, g, i, rfl⟩ := eight h'
  kernel_rfl
theorem meet2 {a1 a2 : Type} {F : a1 → a2 → Prop} {M : a1 → a2 → Prop} {G : Prop} (hmain : (∀ x1 x2, F x1 x2 → M x1 x2) → G) (hkey : ∀ x1 x2, F x1 x2 → M x1 x2) : G := hmain hkey
theorem meet3 {a1 a2 a3 : Type} {F : a1 → a2 → a3 → Prop} {M : a1 → a2 → a3 → Prop} {G : Prop} (hmain : (∀ x1 x2 x3, F x1 x2 x3 → M x1 x2 x3) → G) (hkey : ∀ x1 x2 x3, F x1 x2 x3 → M x1 x2 x3) : G := hmain hkey
theorem meet4 {a1 a2 a3 a4 : Type} {F : a1 → a2 → a3 → a4 → Prop} {M : a1 → a2 → a3 → a4 → Prop} {G : Prop} (hmain : (∀ x1 x2 x3 x4, F x1 x2 x3 x4 → M x1 x2 x3 x4) → G) (hkey : ∀ x1 x2 x3 x4, F x1 x2 x3 x4 → M x1 x2 x3 x4) : G := hmain hkey
theorem meet5 {a1 a2 a3 a4 a5 : Type} {F : a1 → a2 → a3 → a4 → a5 → Prop} {M : a1 → a2 → a3 → a4 → a5 → Prop} {G : Prop} (hmain : (∀ x1 x2 x3 x4 x5, F x1 x2 x3 x4 x5 → M x1 x2 x3 x4 x5) → G) (hkey : ∀ x1 x2 x3 x4 x5, F x1 x2 x3 x4 x5 → M x1 x2 x3 x4 x5) : G := hmain hkey
theorem meet6 {a1 a2 a3 a4 a5 a6 : Type} {F : a1 → a2 → a3 → a4 → a5 → a6 → Prop} {M : a1 → a2 → a3 → a4 → a5 → a6 → Prop} {G : Prop} (hmain : (∀ x1 x2 x3 x4 x5 x6, F x1 x2 x3 x4 x5 x6 → M x1 x2 x3 x4 x5 x6) → G) (hkey : ∀ x1 x2 x3 x4 x5 x6, F x1 x2 x3 x4 x5 x6 → M x1 x2 x3 x4 x5 x6) : G := hmain hkey
theorem meet7 {a1 a2 a3 a4 a5 a6 a7 : Type} {F : a1 → a2 → a3 → a4 → a5 → a6 → a7 → Prop} {M : a1 → a2 → a3 → a4 → a5 → a6 → a7 → Prop} {G : Prop} (hmain : (∀ x1 x2 x3 x4 x5 x6 x7, F x1 x2 x3 x4 x5 x6 x7 → M x1 x2 x3 x4 x5 x6 x7) → G) (hkey : ∀ x1 x2 x3 x4 x5 x6 x7, F x1 x2 x3 x4 x5 x6 x7 → M x1 x2 x3 x4 x5 x6 x7) : G := hmain hkey
theorem meet8 {a1 a2 a3 a4 a5 a6 a7 a8 : Type} {F : a1 → a2 → a3 → a4 → a5 → a6 → a7 → a8 → Prop} {M : a1 → a2 → a3 → a4 → a5 → a6 → a7 → a8 → Prop} {G : Prop} (hmain : (∀ x1 x2 x3 x4 x5 x6 x7 x8, F x1 x2 x3 x4 x5 x6 x7 x8 → M x1 x2 x3 x4 x5 x6 x7 x8) → G) (hkey : ∀ x1 x2 x3 x4 x5 x6 x7 x8, F x1 x2 x3 x4 x5 x6 x7 x8 → M x1 x2 x3 x4 x5 x6 x7 x8) : G := hmain hkey
theorem meet9 {a1 a2 a3 a4 a5 a6 a7 a8 a9 : Type} {F : a1 → a2 → a3 → a4 → a5 → a6 → a7 → a8 → a9 → Prop} {M : a1 → a2 → a3 → a4 → a5 → a6 → a7 → a8 → a9 → Prop} {G : Prop} (hmain : (∀ x1 x2 x3 x4 x5 x6 x7 x8 x9, F x1 x2 x3 x4 x5 x6 x7 x8 x9 → M x1 x2 x3 x4 x5 x6 x7 x8 x9) → G) (hkey : ∀ x1 x2 x3 x4 x5 x6 x7 x8 x9, F x1 x2 x3 x4 x5 x6 x7 x8 x9 → M x1 x2 x3 x4 x5 x6 x7 x8 x9) : G := hmain hkey
theorem sep {A B : Option Addr} {k : Nat} (hA : ∀ g, A.map (·.block) = some g → g < k) (hB : ∀ g, B.map (·.block) = some g → k ≤ g) : A.map (·.block) = none ∨ A.map (·.block) ≠ B.map (·.block) := by
  cases e : A.map (·.block) with
  | none => exact .inl rfl
  | some g => exact .inr fun e2 => by have h1 := hA g e; have h2 := hB g e2.symm; omega
set_option maxRecDepth 100000 in
set_option maxHeartbeats 4000000 in
theorem walk (U : List Int) (A : Option Addr) (n c : Nat) (l : List Dt) (V : List Int) (D : Option Addr) (m d : Nat) (k : List Dt) (w : World) (hU : U.length = 8) (wU : Wf U) (hr : RdD w w.heap.size A n l) (_ : n ≤ maxLen) (hV : V.length = 8) (wV : Wf V) (hs : RdD w w.heap.size D m k) (_ : m ≤ maxLen) :
    Calls Try.prog 4 #[.agg (uc U (.slice A n c)), .agg (uc V (.slice D m d))] w fun e w' => e = .returned (.bool true) ∧ Below w.heap.size w w' := by
  have HS := Lib.hid (uc_size hU (.slice A n c))
  have HT := Lib.hid (uc_size hV (.slice D m d))
  have HU := Lib.hid hU
  have WU := Lib.hid wU
  have HV := Lib.hid hV
  have WV := Lib.hid wV
  have HNL := Lib.hid hr.1
  have HML := Lib.hid hs.1
  have hrow := fun (w' : World) (hb : Below w.heap.size w w') => rowset_two ⟨U, A, n, c, l⟩ ⟨V, D, m, d, k⟩ hU hV ((hr.below hb).more hb.size) ((hs.below hb).more hb.size) (Nat.le_refl _) 25 (0, 0)
  have hbl := buildL2 hU hV A D n c m d
  obtain ⟨sc, hsc⟩ : ∃ sc, sc = uc U (.slice A n c) := ⟨_, rfl⟩
  obtain ⟨sd, hsd⟩ : ∃ sd, sd = uc V (.slice D m d) := ⟨_, rfl⟩
  simp only at hrow
  rw [← hsc] at HS
  rw [← hsd] at HT
  rw [← hsc, ← hsd] at hbl hrow ⊢
  have HROW := Lib.hid hrow
  have HBL := Lib.hid hbl
  have HSC := Lib.hid hsc
  have HSD := Lib.hid hsd
  clear hsc hsd hbl hrow hU wU hV wV
  go_enter Try.func4, Try.ntmps4
  go_upto_region 1 with fail
  refine nameW ?_
  intro wv hwv
  obtain ⟨b, hb⟩ : ∃ b, b = w.heap.size := ⟨_, rfl⟩
  rw [← hb]
  have kb : Blk wv b 25 sc := by rw [hwv, hb]; exact (Blk.new w _ _).alloc _
  have kd : Blk wv (b + 1) 25 sd := by
    have h := Blk.new (w.alloc (.cells sc 25)) 25 sd
    rw [hwv, hb]
    simpa using h
  have gb : Below w.heap.size w wv := by rw [hwv]; exact ((Below.refl _ _).alloc (Nat.le_refl _) _).alloc (by simp) _
  have hbw : w.heap.size ≤ b := by omega
  clear hwv hb
  go_wp2_with fail
  refine (alive06 wv).mono ?_
  rintro e w1 ⟨rfl, h1⟩
  have kb1 := kb.below h1 kb.lt
  have kd1 := kd.below h1 kd.lt
  have b1 := gb.trans (h1.mono gb.size)
  clear kb kd gb h1
  go_wp2_with first
    | ((with_reducible refine wpList_ld rowLS kb1 HS.out ?_ ?_); rotate_left; (rfl))
    | ((with_reducible refine wpList_ld rowLS kd1 HT.out ?_ ?_); rotate_left; (rfl))
    | ((refine wpList_bs (v := .slice (some ⟨w1.heap.size, 0, none⟩) 2 2) (w' := w1.alloc (.cells (sc ++ sd) 25)) rfl 69 2 #[(0, .tmp 11), (1, .tmp 12)] rfl ?_ ?_); (simp only [List.map_toArray, List.map_cons, List.map_nil]; exact HBL.out w1))
  refine (great_any [⟨U, A, n, c, l⟩, ⟨V, D, m, d, k⟩] 2 w1.heap.size _ rfl (by decide) ((HROW.out w1 b1).more (by simp))).mono ?_
  rintro e w2 ⟨rfl, h2⟩
  simp only [List.any_cons, List.any_nil, Bool.or_false]
  have bx := (b1.alloc b1.size (.cells (sc ++ sd) 25)).trans (h2.mono (b1.alloc b1.size _).size)
  have by2 := ((Below.refl w1.heap.size w1).alloc (Nat.le_refl _) (.cells (sc ++ sd) 25)).trans (h2.mono (by simp))
  have kb2 := kb1.below by2 kb1.lt
  have kd2 := kd1.below by2 kd1.lt
  clear kb1 kd1 b1 by2 h2 HROW HBL
  by_cases hbig : 1000 < n ∨ 1000 < m
  · have hd : (decide (1000 < n) || decide (1000 < m)) = true := by simpa using hbig
    rw [hd]
    go_wp2_with fail
    go_ret
    exact ⟨rfl, bx⟩
  have hd : (decide (1000 < n) || decide (1000 < m)) = false := by simpa using hbig
  have hn1 : n ≤ 1000 := by omega
  have hm1 : m ≤ 1000 := by omega
  rw [hd]
  clear hbig hd
  have hrx := hr.below bx
  have hsx := hs.below bx
  clear hr hs
  have hU := HU.out
  have hV := HV.out
  have htoa := fun (w' : World) (hb : Below w2.heap.size w2 w') => to_any U hU A n c l w' ((hrx.below (hb.mono bx.size)).more (Nat.le_trans bx.size hb.size)) (by omega)
  have htob := fun (w' : World) (hb : Below w2.heap.size w2 w') => to_any V hV D m d k w' ((hsx.below (hb.mono bx.size)).more (Nat.le_trans bx.size hb.size)) (by omega)
  have hrefa := fun (w' : World) (hb : Below w2.heap.size w2 w') => ref_any U hU A n c l w' ((hrx.below (hb.mono bx.size)).more (Nat.le_trans bx.size hb.size)) (by omega)
  have hrefb := fun (w' : World) (hb : Below w2.heap.size w2 w') => ref_any V hV D m d k w' ((hsx.below (hb.mono bx.size)).more (Nat.le_trans bx.size hb.size)) (by omega)
  rw [← HSC.out] at htoa hrefa
  rw [← HSD.out] at htob hrefb
  unfold CopyEnd at htoa htob hrefa hrefb
  have hjoin := fun (A' : Option Addr) (m' c' : Nat) (A'' : Option Addr) (m'' c'' : Nat) (w' : World) (h : RdD w' w'.heap.size A' m' l) (h' : RdD w' w'.heap.size A'' m'' k) => join_any ⟨U, A', m', c', l⟩ ⟨V, A'', m'', c'', k⟩ w' hU hV h h'
  have hrjoin := fun (A' : Option Addr) (m' c' : Nat) (A'' : Option Addr) (m'' c'' : Nat) (w' : World) (h : RdD w' w'.heap.size A' m' l) (h' : RdD w' w'.heap.size A'' m'' k) => rjoin_any ⟨U, A', m', c', l⟩ ⟨V, A'', m'', c'', k⟩ w' hU hV h h'
  have hless := fun (A' : Option Addr) (m' c' : Nat) (A'' : Option Addr) (m'' c'' : Nat) (w' : World) (h : RdD w' w'.heap.size A' m' l) (h' : RdD w' w'.heap.size A'' m'' k) => less_any ⟨U, A', m', c', l⟩ ⟨V, A'', m'', c'', k⟩ w' hU hV h h'
  have hrless := fun (A' : Option Addr) (m' c' : Nat) (A'' : Option Addr) (m'' c'' : Nat) (w' : World) (h : RdD w' w'.heap.size A' m' l) (h' : RdD w' w'.heap.size A'' m'' k) => rless_any ⟨U, A', m', c', l⟩ ⟨V, A'', m'', c'', k⟩ w' hU hV h h'
  unfold CopyEnd at hjoin hrjoin
  unfold ListEnd at hless hrless
  simp only at hjoin hrjoin hless hrless
  have hLL : (lessD V k (dotsS (hasG U l))).length ≤ 784 := Nat.le_trans (lessD_len _ _ _) (dots_len (hasG U l))
  have hGL := more_len (orG (hasG U l) (hasG V k))
  have hGU := upto_len (orG (hasG U l) (hasG V k))
  have hGW := upto_wf (orG (hasG U l) (hasG V k))
  generalize lessD V k (dotsS (hasG U l)) = LL at *
  generalize uptoS (orG (hasG U l) (hasG V k)) = GU at *
  generalize moreS (orG (hasG U l) (hasG V k)) = GM at *
  have HTOA := Lib.hid htoa
  have HTOB := Lib.hid htob
  have HREFA := Lib.hid hrefa
  have HREFB := Lib.hid hrefb
  have HJOIN := Lib.hid hjoin
  have HRJOIN := Lib.hid hrjoin
  have HLESS := Lib.hid hless
  have HRLESS := Lib.hid hrless
  have HLL := Lib.hid hLL
  have HGL := Lib.hid hGL
  have HGU := Lib.hid hGU
  have HGW := Lib.hid hGW
  clear htoa htob hrefa hrefb hjoin hrjoin hless hrless hLL hGL hGU hGW hU hV hrx hsx
  go_upto_region 5 with fail
  refine wp_region_held_drew (S := fun w' => Below w2.heap.size w2 w') (by kernel_rfl) (Below.refl _ _).drew (fun hS => ?_)
  generalize w2.drew = wd at *
  refine wpAnyH_take (i := 0) rfl (by kernel_rfl) (by kernel_rfl) (by kernel_rfl) (fun _ _ _ h => h) (yieldsIf_ld (by rfl) rowLS (.tmp 2) rfl rfl (fun w hw => kb2.below hw kb2.lt) HS.out) hS ?_
  simp only [Act.put, List.getElem_toArray, List.getElem_cons_zero, List.getElem_cons_succ, List.setIfInBounds_toArray, List.set_cons_succ, List.set_cons_zero]
  refine wpAnyH_take (i := 2) rfl (by kernel_rfl) (by kernel_rfl) (by kernel_rfl) (fun _ _ _ h => h) (yieldsIf_ld (by rfl) rowLS (.tmp 3) rfl rfl (fun w hw => kd2.below hw kd2.lt) HT.out) hS ?_
  simp only [Act.put, List.getElem_toArray, List.getElem_cons_zero, List.getElem_cons_succ, List.setIfInBounds_toArray, List.set_cons_succ, List.set_cons_zero]
  apply meet9 (F := fun (wz : World) (A2 : Option Addr) (m2 : Nat) (c2 : Nat) (A3 : Option Addr) (m3 : Nat) (c3 : Nat) (gx4 : Nat) (gx5 : Nat) => (Below w2.heap.size w2 wz) ∧ (OwnD wz w2.heap.size A2 m2 c2 l) ∧ (OwnD wz w2.heap.size A3 m3 c3 k) ∧ (Blk wz gx4 30 #[.int .i64 0, .int .i64 0, .int .i64 0, .int .i64 0, .int .i64 0, .int .i64 0, .int .i64 0, .int .i64 0, .slice none 0 0]) ∧ (w2.heap.size ≤ gx4) ∧ (Blk wz gx5 30 #[.int .i64 0, .int .i64 0, .int .i64 0, .int .i64 0, .int .i64 0, .int .i64 0, .int .i64 0, .int .i64 0, .slice none 0 0]) ∧ (w2.heap.size ≤ gx5) ∧ (gx4 ≠ gx5))
  intro key_1_3_4_5
  apply meet6 (F := fun (wz : World) (A2 : Option Addr) (m2 : Nat) (c2 : Nat) (gx4 : Nat) (gx5 : Nat) => (Below w2.heap.size w2 wz) ∧ (OwnD wz w2.heap.size A2 m2 c2 l) ∧ (Blk wz gx4 30 #[.int .i64 0, .int .i64 0, .int .i64 0, .int .i64 0, .int .i64 0, .int .i64 0, .int .i64 0, .int .i64 0, .slice none 0 0]) ∧ (w2.heap.size ≤ gx4) ∧ (Blk wz gx5 30 #[.int .i64 0, .int .i64 0, .int .i64 0, .int .i64 0, .int .i64 0, .int .i64 0, .int .i64 0, .int .i64 0, .slice none 0 0]) ∧ (w2.heap.size ≤ gx5) ∧ (gx4 ≠ gx5))
  intro key_1_4_5
  apply meet8 (F := fun (wz : World) (A2 : Option Addr) (m2 : Nat) (c2 : Nat) (A3 : Option Addr) (m3 : Nat) (c3 : Nat) (gx5 : Nat) => (Below w2.heap.size w2 wz) ∧ (OwnD wz w2.heap.size A2 m2 c2 l) ∧ (OwnD wz w2.heap.size A3 m3 c3 k) ∧ (Blk wz gx5 30 #[.int .i64 0, .int .i64 0, .int .i64 0, .int .i64 0, .int .i64 0, .int .i64 0, .int .i64 0, .int .i64 0, .slice none 0 0]) ∧ (w2.heap.size ≤ gx5))
  intro key_1_3_5
  apply meet8 (F := fun (wz : World) (A2 : Option Addr) (m2 : Nat) (c2 : Nat) (A3 : Option Addr) (m3 : Nat) (c3 : Nat) (gx4 : Nat) => (Below w2.heap.size w2 wz) ∧ (OwnD wz w2.heap.size A2 m2 c2 l) ∧ (OwnD wz w2.heap.size A3 m3 c3 k) ∧ (Blk wz gx4 30 #[.int .i64 0, .int .i64 0, .int .i64 0, .int .i64 0, .int .i64 0, .int .i64 0, .int .i64 0, .int .i64 0, .slice none 0 0]) ∧ (w2.heap.size ≤ gx4))
  intro key_1_3_4
  apply meet3 (F := fun (wz : World) (gx4 : Nat) (gx5 : Nat) => (Below w2.heap.size w2 wz) ∧ (Blk wz gx4 30 #[.int .i64 0, .int .i64 0, .int .i64 0, .int .i64 0, .int .i64 0, .int .i64 0, .int .i64 0, .int .i64 0, .slice none 0 0]) ∧ (w2.heap.size ≤ gx4) ∧ (Blk wz gx5 30 #[.int .i64 0, .int .i64 0, .int .i64 0, .int .i64 0, .int .i64 0, .int .i64 0, .int .i64 0, .int .i64 0, .slice none 0 0]) ∧ (w2.heap.size ≤ gx5) ∧ (gx4 ≠ gx5))
  intro key_4_5
  apply meet5 (F := fun (wz : World) (A2 : Option Addr) (m2 : Nat) (c2 : Nat) (gx5 : Nat) => (Below w2.heap.size w2 wz) ∧ (OwnD wz w2.heap.size A2 m2 c2 l) ∧ (Blk wz gx5 30 #[.int .i64 0, .int .i64 0, .int .i64 0, .int .i64 0, .int .i64 0, .int .i64 0, .int .i64 0, .int .i64 0, .slice none 0 0]) ∧ (w2.heap.size ≤ gx5))
  intro key_1_5
  apply meet5 (F := fun (wz : World) (A2 : Option Addr) (m2 : Nat) (c2 : Nat) (gx4 : Nat) => (Below w2.heap.size w2 wz) ∧ (OwnD wz w2.heap.size A2 m2 c2 l) ∧ (Blk wz gx4 30 #[.int .i64 0, .int .i64 0, .int .i64 0, .int .i64 0, .int .i64 0, .int .i64 0, .int .i64 0, .int .i64 0, .slice none 0 0]) ∧ (w2.heap.size ≤ gx4))
  intro key_1_4
  apply meet7 (F := fun (wz : World) (A2 : Option Addr) (m2 : Nat) (c2 : Nat) (A3 : Option Addr) (m3 : Nat) (c3 : Nat) => (Below w2.heap.size w2 wz) ∧ (OwnD wz w2.heap.size A2 m2 c2 l) ∧ (OwnD wz w2.heap.size A3 m3 c3 k))
  intro key_1_3
  apply meet2 (F := fun (wz : World) (gx5 : Nat) => (Below w2.heap.size w2 wz) ∧ (Blk wz gx5 30 #[.int .i64 0, .int .i64 0, .int .i64 0, .int .i64 0, .int .i64 0, .int .i64 0, .int .i64 0, .int .i64 0, .slice none 0 0]) ∧ (w2.heap.size ≤ gx5))
  intro key_5
  apply meet2 (F := fun (wz : World) (gx4 : Nat) => (Below w2.heap.size w2 wz) ∧ (Blk wz gx4 30 #[.int .i64 0, .int .i64 0, .int .i64 0, .int .i64 0, .int .i64 0, .int .i64 0, .int .i64 0, .int .i64 0, .slice none 0 0]) ∧ (w2.heap.size ≤ gx4))
  intro key_4
  apply meet4 (F := fun (wz : World) (A2 : Option Addr) (m2 : Nat) (c2 : Nat) => (Below w2.heap.size w2 wz) ∧ (OwnD wz w2.heap.size A2 m2 c2 l))
  intro key_1
  · refine wpAnyH_ready (rs := [1, 4, 5]) (by kernel_rfl) (by simp) ?_
    refine AllReadyH.cons rfl (fun K hK => ?r_at1) (AllReadyH.cons rfl (fun K hK => ?r_at4) (AllReadyH.cons rfl (fun K hK => ?r_at5) .nil))
    case r_at1 =>
      go_simp
      refine (HTOA.out wd hS).mono ?_
      rintro e wn ⟨A2, m2, c2, rfl, o1, hh⟩
      replace o1 := o1.mono hS.size
      refine hK.out _ _ (hS.trans (hh.mono hS.size)) (fun hS => ?_)
      clear hK K hh
      exact key_1 wn A2 m2 c2 ⟨hS, o1⟩
    case r_at4 =>
      go_simp
      have hg4 := hS.size
      refine hK.out _ _ (hS.alloc hS.size _) (fun hS => ?_)
      clear hK K
      have k4 := Blk.new wd 30 #[.int .i64 0, .int .i64 0, .int .i64 0, .int .i64 0, .int .i64 0, .int .i64 0, .int .i64 0, .int .i64 0, .slice none 0 0]
      generalize wd.alloc (.cells #[.int .i64 0, .int .i64 0, .int .i64 0, .int .i64 0, .int .i64 0, .int .i64 0, .int .i64 0, .int .i64 0, .slice none 0 0] 30) = wn at *
      generalize wd.heap.size = gx4 at *
      exact key_4 wn gx4 ⟨hS, k4, hg4⟩
    case r_at5 =>
      go_simp
      have hg5 := hS.size
      refine hK.out _ _ (hS.alloc hS.size _) (fun hS => ?_)
      clear hK K
      have k5 := Blk.new wd 30 #[.int .i64 0, .int .i64 0, .int .i64 0, .int .i64 0, .int .i64 0, .int .i64 0, .int .i64 0, .int .i64 0, .slice none 0 0]
      generalize wd.alloc (.cells #[.int .i64 0, .int .i64 0, .int .i64 0, .int .i64 0, .int .i64 0, .int .i64 0, .int .i64 0, .int .i64 0, .slice none 0 0] 30) = wn at *
      generalize wd.heap.size = gx5 at *
      exact key_5 wn gx5 ⟨hS, k5, hg5⟩
  · rintro wz A2 m2 c2 ⟨hS, o1⟩
    refine wpAnyH_ready (rs := [3, 4, 5]) (by kernel_rfl) (by simp) ?_
    refine AllReadyH.cons rfl (fun K hK => ?r_1_at3) (AllReadyH.cons rfl (fun K hK => ?r_1_at4) (AllReadyH.cons rfl (fun K hK => ?r_1_at5) .nil))
    case r_1_at3 =>
      go_simp
      refine (HTOB.out wz hS).mono ?_
      rintro e wn ⟨A3, m3, c3, rfl, o3, hh⟩
      replace o3 := o3.mono hS.size
      replace o1 := o1.below hh (Nat.le_refl _)
      refine hK.out _ _ (hS.trans (hh.mono hS.size)) (fun hS => ?_)
      clear hK K hh
      exact key_1_3 wn A2 m2 c2 A3 m3 c3 ⟨hS, o1, o3⟩
    case r_1_at4 =>
      go_simp
      have hg4 := hS.size
      refine hK.out _ _ (hS.alloc hS.size _) (fun hS => ?_)
      clear hK K
      have k4 := Blk.new wz 30 #[.int .i64 0, .int .i64 0, .int .i64 0, .int .i64 0, .int .i64 0, .int .i64 0, .int .i64 0, .int .i64 0, .slice none 0 0]
      replace o1 := o1.alloc (.cells #[.int .i64 0, .int .i64 0, .int .i64 0, .int .i64 0, .int .i64 0, .int .i64 0, .int .i64 0, .int .i64 0, .slice none 0 0] 30)
      generalize wz.alloc (.cells #[.int .i64 0, .int .i64 0, .int .i64 0, .int .i64 0, .int .i64 0, .int .i64 0, .int .i64 0, .int .i64 0, .slice none 0 0] 30) = wn at *
      generalize wz.heap.size = gx4 at *
      exact key_1_4 wn A2 m2 c2 gx4 ⟨hS, o1, k4, hg4⟩
    case r_1_at5 =>
      go_simp
      have hg5 := hS.size
      refine hK.out _ _ (hS.alloc hS.size _) (fun hS => ?_)
      clear hK K
      have k5 := Blk.new wz 30 #[.int .i64 0, .int .i64 0, .int .i64 0, .int .i64 0, .int .i64 0, .int .i64 0, .int .i64 0, .int .i64 0, .slice none 0 0]
      replace o1 := o1.alloc (.cells #[.int .i64 0, .int .i64 0, .int .i64 0, .int .i64 0, .int .i64 0, .int .i64 0, .int .i64 0, .int .i64 0, .slice none 0 0] 30)
      generalize wz.alloc (.cells #[.int .i64 0, .int .i64 0, .int .i64 0, .int .i64 0, .int .i64 0, .int .i64 0, .int .i64 0, .int .i64 0, .slice none 0 0] 30) = wn at *
      generalize wz.heap.size = gx5 at *
      exact key_1_5 wn A2 m2 c2 gx5 ⟨hS, o1, k5, hg5⟩
  · rintro wz gx4 ⟨hS, k4, hg4⟩
    refine wpAnyH_ready (rs := [1, 5]) (by kernel_rfl) (by simp) ?_
    refine AllReadyH.cons rfl (fun K hK => ?r_4_at1) (AllReadyH.cons rfl (fun K hK => ?r_4_at5) .nil)
    case r_4_at1 =>
      go_simp
      refine (HTOA.out wz hS).mono ?_
      rintro e wn ⟨A2, m2, c2, rfl, o1, hh⟩
      replace o1 := o1.mono hS.size
      replace k4 := k4.below hh k4.lt
      refine hK.out _ _ (hS.trans (hh.mono hS.size)) (fun hS => ?_)
      clear hK K hh
      exact key_1_4 wn A2 m2 c2 gx4 ⟨hS, o1, k4, hg4⟩
    case r_4_at5 =>
      go_simp
      have hg5 := hS.size
      have n4_5 := Nat.ne_of_lt k4.lt
      refine hK.out _ _ (hS.alloc hS.size _) (fun hS => ?_)
      clear hK K
      have k5 := Blk.new wz 30 #[.int .i64 0, .int .i64 0, .int .i64 0, .int .i64 0, .int .i64 0, .int .i64 0, .int .i64 0, .int .i64 0, .slice none 0 0]
      replace k4 := k4.alloc (.cells #[.int .i64 0, .int .i64 0, .int .i64 0, .int .i64 0, .int .i64 0, .int .i64 0, .int .i64 0, .int .i64 0, .slice none 0 0] 30)
      generalize wz.alloc (.cells #[.int .i64 0, .int .i64 0, .int .i64 0, .int .i64 0, .int .i64 0, .int .i64 0, .int .i64 0, .int .i64 0, .slice none 0 0] 30) = wn at *
      generalize wz.heap.size = gx5 at *
      exact key_4_5 wn gx4 gx5 ⟨hS, k4, hg4, k5, hg5, n4_5⟩
  · rintro wz gx5 ⟨hS, k5, hg5⟩
    refine wpAnyH_ready (rs := [1, 4]) (by kernel_rfl) (by simp) ?_
    refine AllReadyH.cons rfl (fun K hK => ?r_5_at1) (AllReadyH.cons rfl (fun K hK => ?r_5_at4) .nil)
    case r_5_at1 =>
      go_simp
      refine (HTOA.out wz hS).mono ?_
      rintro e wn ⟨A2, m2, c2, rfl, o1, hh⟩
      replace o1 := o1.mono hS.size
      replace k5 := k5.below hh k5.lt
      refine hK.out _ _ (hS.trans (hh.mono hS.size)) (fun hS => ?_)
      clear hK K hh
      exact key_1_5 wn A2 m2 c2 gx5 ⟨hS, o1, k5, hg5⟩
    case r_5_at4 =>
      go_simp
      have hg4 := hS.size
      have n4_5 := (Nat.ne_of_lt k5.lt).symm
      refine hK.out _ _ (hS.alloc hS.size _) (fun hS => ?_)
      clear hK K
      have k4 := Blk.new wz 30 #[.int .i64 0, .int .i64 0, .int .i64 0, .int .i64 0, .int .i64 0, .int .i64 0, .int .i64 0, .int .i64 0, .slice none 0 0]
      replace k5 := k5.alloc (.cells #[.int .i64 0, .int .i64 0, .int .i64 0, .int .i64 0, .int .i64 0, .int .i64 0, .int .i64 0, .int .i64 0, .slice none 0 0] 30)
      generalize wz.alloc (.cells #[.int .i64 0, .int .i64 0, .int .i64 0, .int .i64 0, .int .i64 0, .int .i64 0, .int .i64 0, .int .i64 0, .slice none 0 0] 30) = wn at *
      generalize wz.heap.size = gx4 at *
      exact key_4_5 wn gx4 gx5 ⟨hS, k4, hg4, k5, hg5, n4_5⟩
  · rintro wz A2 m2 c2 A3 m3 c3 ⟨hS, o1, o3⟩
    refine wpAnyH_ready (rs := [4, 5]) (by kernel_rfl) (by simp) ?_
    refine AllReadyH.cons rfl (fun K hK => ?r_1_3_at4) (AllReadyH.cons rfl (fun K hK => ?r_1_3_at5) .nil)
    case r_1_3_at4 =>
      go_simp
      have hg4 := hS.size
      refine hK.out _ _ (hS.alloc hS.size _) (fun hS => ?_)
      clear hK K
      have k4 := Blk.new wz 30 #[.int .i64 0, .int .i64 0, .int .i64 0, .int .i64 0, .int .i64 0, .int .i64 0, .int .i64 0, .int .i64 0, .slice none 0 0]
      replace o1 := o1.alloc (.cells #[.int .i64 0, .int .i64 0, .int .i64 0, .int .i64 0, .int .i64 0, .int .i64 0, .int .i64 0, .int .i64 0, .slice none 0 0] 30)
      replace o3 := o3.alloc (.cells #[.int .i64 0, .int .i64 0, .int .i64 0, .int .i64 0, .int .i64 0, .int .i64 0, .int .i64 0, .int .i64 0, .slice none 0 0] 30)
      generalize wz.alloc (.cells #[.int .i64 0, .int .i64 0, .int .i64 0, .int .i64 0, .int .i64 0, .int .i64 0, .int .i64 0, .int .i64 0, .slice none 0 0] 30) = wn at *
      generalize wz.heap.size = gx4 at *
      exact key_1_3_4 wn A2 m2 c2 A3 m3 c3 gx4 ⟨hS, o1, o3, k4, hg4⟩
    case r_1_3_at5 =>
      go_simp
      have hg5 := hS.size
      refine hK.out _ _ (hS.alloc hS.size _) (fun hS => ?_)
      clear hK K
      have k5 := Blk.new wz 30 #[.int .i64 0, .int .i64 0, .int .i64 0, .int .i64 0, .int .i64 0, .int .i64 0, .int .i64 0, .int .i64 0, .slice none 0 0]
      replace o1 := o1.alloc (.cells #[.int .i64 0, .int .i64 0, .int .i64 0, .int .i64 0, .int .i64 0, .int .i64 0, .int .i64 0, .int .i64 0, .slice none 0 0] 30)
      replace o3 := o3.alloc (.cells #[.int .i64 0, .int .i64 0, .int .i64 0, .int .i64 0, .int .i64 0, .int .i64 0, .int .i64 0, .int .i64 0, .slice none 0 0] 30)
      generalize wz.alloc (.cells #[.int .i64 0, .int .i64 0, .int .i64 0, .int .i64 0, .int .i64 0, .int .i64 0, .int .i64 0, .int .i64 0, .slice none 0 0] 30) = wn at *
      generalize wz.heap.size = gx5 at *
      exact key_1_3_5 wn A2 m2 c2 A3 m3 c3 gx5 ⟨hS, o1, o3, k5, hg5⟩
  · rintro wz A2 m2 c2 gx4 ⟨hS, o1, k4, hg4⟩
    refine wpAnyH_ready (rs := [3, 5]) (by kernel_rfl) (by simp) ?_
    refine AllReadyH.cons rfl (fun K hK => ?r_1_4_at3) (AllReadyH.cons rfl (fun K hK => ?r_1_4_at5) .nil)
    case r_1_4_at3 =>
      go_simp
      refine (HTOB.out wz hS).mono ?_
      rintro e wn ⟨A3, m3, c3, rfl, o3, hh⟩
      replace o3 := o3.mono hS.size
      replace o1 := o1.below hh (Nat.le_refl _)
      replace k4 := k4.below hh k4.lt
      refine hK.out _ _ (hS.trans (hh.mono hS.size)) (fun hS => ?_)
      clear hK K hh
      exact key_1_3_4 wn A2 m2 c2 A3 m3 c3 gx4 ⟨hS, o1, o3, k4, hg4⟩
    case r_1_4_at5 =>
      go_simp
      have hg5 := hS.size
      have n4_5 := Nat.ne_of_lt k4.lt
      refine hK.out _ _ (hS.alloc hS.size _) (fun hS => ?_)
      clear hK K
      have k5 := Blk.new wz 30 #[.int .i64 0, .int .i64 0, .int .i64 0, .int .i64 0, .int .i64 0, .int .i64 0, .int .i64 0, .int .i64 0, .slice none 0 0]
      replace o1 := o1.alloc (.cells #[.int .i64 0, .int .i64 0, .int .i64 0, .int .i64 0, .int .i64 0, .int .i64 0, .int .i64 0, .int .i64 0, .slice none 0 0] 30)
      replace k4 := k4.alloc (.cells #[.int .i64 0, .int .i64 0, .int .i64 0, .int .i64 0, .int .i64 0, .int .i64 0, .int .i64 0, .int .i64 0, .slice none 0 0] 30)
      generalize wz.alloc (.cells #[.int .i64 0, .int .i64 0, .int .i64 0, .int .i64 0, .int .i64 0, .int .i64 0, .int .i64 0, .int .i64 0, .slice none 0 0] 30) = wn at *
      generalize wz.heap.size = gx5 at *
      exact key_1_4_5 wn A2 m2 c2 gx4 gx5 ⟨hS, o1, k4, hg4, k5, hg5, n4_5⟩
  · rintro wz A2 m2 c2 gx5 ⟨hS, o1, k5, hg5⟩
    refine wpAnyH_ready (rs := [3, 4]) (by kernel_rfl) (by simp) ?_
    refine AllReadyH.cons rfl (fun K hK => ?r_1_5_at3) (AllReadyH.cons rfl (fun K hK => ?r_1_5_at4) .nil)
    case r_1_5_at3 =>
      go_simp
      refine (HTOB.out wz hS).mono ?_
      rintro e wn ⟨A3, m3, c3, rfl, o3, hh⟩
      replace o3 := o3.mono hS.size
      replace o1 := o1.below hh (Nat.le_refl _)
      replace k5 := k5.below hh k5.lt
      refine hK.out _ _ (hS.trans (hh.mono hS.size)) (fun hS => ?_)
      clear hK K hh
      exact key_1_3_5 wn A2 m2 c2 A3 m3 c3 gx5 ⟨hS, o1, o3, k5, hg5⟩
    case r_1_5_at4 =>
      go_simp
      have hg4 := hS.size
      have n4_5 := (Nat.ne_of_lt k5.lt).symm
      refine hK.out _ _ (hS.alloc hS.size _) (fun hS => ?_)
      clear hK K
      have k4 := Blk.new wz 30 #[.int .i64 0, .int .i64 0, .int .i64 0, .int .i64 0, .int .i64 0, .int .i64 0, .int .i64 0, .int .i64 0, .slice none 0 0]
      replace o1 := o1.alloc (.cells #[.int .i64 0, .int .i64 0, .int .i64 0, .int .i64 0, .int .i64 0, .int .i64 0, .int .i64 0, .int .i64 0, .slice none 0 0] 30)
      replace k5 := k5.alloc (.cells #[.int .i64 0, .int .i64 0, .int .i64 0, .int .i64 0, .int .i64 0, .int .i64 0, .int .i64 0, .int .i64 0, .slice none 0 0] 30)
      generalize wz.alloc (.cells #[.int .i64 0, .int .i64 0, .int .i64 0, .int .i64 0, .int .i64 0, .int .i64 0, .int .i64 0, .int .i64 0, .slice none 0 0] 30) = wn at *
      generalize wz.heap.size = gx4 at *
      exact key_1_4_5 wn A2 m2 c2 gx4 gx5 ⟨hS, o1, k4, hg4, k5, hg5, n4_5⟩
  · rintro wz gx4 gx5 ⟨hS, k4, hg4, k5, hg5, n4_5⟩
    refine wpAnyH_ready (rs := [1]) (by kernel_rfl) (by simp) ?_
    refine AllReadyH.cons rfl (fun K hK => ?_) .nil
    go_simp
    refine (HTOA.out wz hS).mono ?_
    rintro e wn ⟨A2, m2, c2, rfl, o1, hh⟩
    replace o1 := o1.mono hS.size
    replace k4 := k4.below hh k4.lt
    replace k5 := k5.below hh k5.lt
    refine hK.out _ _ (hS.trans (hh.mono hS.size)) (fun hS => ?_)
    clear hK K hh
    exact key_1_4_5 wn A2 m2 c2 gx4 gx5 ⟨hS, o1, k4, hg4, k5, hg5, n4_5⟩
  · rintro wz A2 m2 c2 A3 m3 c3 gx4 ⟨hS, o1, o3, k4, hg4⟩
    refine wpAnyH_ready (rs := [5]) (by kernel_rfl) (by simp) ?_
    refine AllReadyH.cons rfl (fun K hK => ?_) .nil
    go_simp
    have hg5 := hS.size
    have n4_5 := Nat.ne_of_lt k4.lt
    refine hK.out _ _ (hS.alloc hS.size _) (fun hS => ?_)
    clear hK K
    have k5 := Blk.new wz 30 #[.int .i64 0, .int .i64 0, .int .i64 0, .int .i64 0, .int .i64 0, .int .i64 0, .int .i64 0, .int .i64 0, .slice none 0 0]
    replace o1 := o1.alloc (.cells #[.int .i64 0, .int .i64 0, .int .i64 0, .int .i64 0, .int .i64 0, .int .i64 0, .int .i64 0, .int .i64 0, .slice none 0 0] 30)
    replace o3 := o3.alloc (.cells #[.int .i64 0, .int .i64 0, .int .i64 0, .int .i64 0, .int .i64 0, .int .i64 0, .int .i64 0, .int .i64 0, .slice none 0 0] 30)
    replace k4 := k4.alloc (.cells #[.int .i64 0, .int .i64 0, .int .i64 0, .int .i64 0, .int .i64 0, .int .i64 0, .int .i64 0, .int .i64 0, .slice none 0 0] 30)
    generalize wz.alloc (.cells #[.int .i64 0, .int .i64 0, .int .i64 0, .int .i64 0, .int .i64 0, .int .i64 0, .int .i64 0, .int .i64 0, .slice none 0 0] 30) = wn at *
    generalize wz.heap.size = gx5 at *
    exact key_1_3_4_5 wn A2 m2 c2 A3 m3 c3 gx4 gx5 ⟨hS, o1, o3, k4, hg4, k5, hg5, n4_5⟩
  · rintro wz A2 m2 c2 A3 m3 c3 gx5 ⟨hS, o1, o3, k5, hg5⟩
    refine wpAnyH_ready (rs := [4]) (by kernel_rfl) (by simp) ?_
    refine AllReadyH.cons rfl (fun K hK => ?_) .nil
    go_simp
    have hg4 := hS.size
    have n4_5 := (Nat.ne_of_lt k5.lt).symm
    refine hK.out _ _ (hS.alloc hS.size _) (fun hS => ?_)
    clear hK K
    have k4 := Blk.new wz 30 #[.int .i64 0, .int .i64 0, .int .i64 0, .int .i64 0, .int .i64 0, .int .i64 0, .int .i64 0, .int .i64 0, .slice none 0 0]
    replace o1 := o1.alloc (.cells #[.int .i64 0, .int .i64 0, .int .i64 0, .int .i64 0, .int .i64 0, .int .i64 0, .int .i64 0, .int .i64 0, .slice none 0 0] 30)
    replace o3 := o3.alloc (.cells #[.int .i64 0, .int .i64 0, .int .i64 0, .int .i64 0, .int .i64 0, .int .i64 0, .int .i64 0, .int .i64 0, .slice none 0 0] 30)
    replace k5 := k5.alloc (.cells #[.int .i64 0, .int .i64 0, .int .i64 0, .int .i64 0, .int .i64 0, .int .i64 0, .int .i64 0, .int .i64 0, .slice none 0 0] 30)
    generalize wz.alloc (.cells #[.int .i64 0, .int .i64 0, .int .i64 0, .int .i64 0, .int .i64 0, .int .i64 0, .int .i64 0, .int .i64 0, .slice none 0 0] 30) = wn at *
    generalize wz.heap.size = gx4 at *
    exact key_1_3_4_5 wn A2 m2 c2 A3 m3 c3 gx4 gx5 ⟨hS, o1, o3, k4, hg4, k5, hg5, n4_5⟩
  · rintro wz A2 m2 c2 gx4 gx5 ⟨hS, o1, k4, hg4, k5, hg5, n4_5⟩
    refine wpAnyH_ready (rs := [3]) (by kernel_rfl) (by simp) ?_
    refine AllReadyH.cons rfl (fun K hK => ?_) .nil
    go_simp
    refine (HTOB.out wz hS).mono ?_
    rintro e wn ⟨A3, m3, c3, rfl, o3, hh⟩
    replace o3 := o3.mono hS.size
    replace o1 := o1.below hh (Nat.le_refl _)
    replace k4 := k4.below hh k4.lt
    replace k5 := k5.below hh k5.lt
    refine hK.out _ _ (hS.trans (hh.mono hS.size)) (fun hS => ?_)
    clear hK K hh
    exact key_1_3_4_5 wn A2 m2 c2 A3 m3 c3 gx4 gx5 ⟨hS, o1, o3, k4, hg4, k5, hg5, n4_5⟩
  rintro wz A2 m2 c2 A3 m3 c3 gx4 gx5 ⟨hS, o1, o3, k4, hg4, k5, hg5, n4_5⟩
  rename Below w2.heap.size w2 wd => hSd
  clear hSd
  have HS2 := Lib.hid (uc_size HU.out (.slice A2 m2 c2))
  have H21 := Lib.hid (uc_one (U := U) (s := .slice A2 m2 c2) rfl)
  have HS3 := Lib.hid (uc_size HV.out (.slice A3 m3 c3))
  have H31 := Lib.hid (uc_one (U := V) (s := .slice A3 m3 c3) rfl)
  have ljoin := HJOIN.out A2 m2 c2 A3 m3 c3
  have lless := HLESS.out A2 m2 c2 A3 m3 c3
  obtain ⟨s2, hs2⟩ : ∃ s2, s2 = uc U (.slice A2 m2 c2) := ⟨_, rfl⟩
  obtain ⟨s3, hs3⟩ : ∃ s3, s3 = uc V (.slice A3 m3 c3) := ⟨_, rfl⟩
  rw [← hs2] at HS2 H21
  rw [← hs3] at HS3 H31
  rw [← hs2, ← hs3] at ljoin lless ⊢
  have LJOIN := Lib.hid ljoin
  have LLESS := Lib.hid lless
  have HS2E := Lib.hid hs2
  have HS3E := Lib.hid hs3
  clear hs2 hs3 ljoin lless HJOIN HLESS
  refine wpAnyH_ready (rs := [6]) (by kernel_rfl) (by simp) ?_
  refine AllReadyH.cons rfl (fun K hK => ?_) .nil
  refine step_st rfl rowS (.tmp 5) (.tmp 16) rfl (by rfl) (by rfl) k4 HS2.out (by rfl) H21.out ?_
  intro w3 k43 g3 z3
  have k53 := k5.grown g3 (fun h => n4_5 (by injection h))
  have o13 := o1.grown g3 (.inr (own_ne o1.2 k4 (by decide)))
  have o33 := o3.grown g3 (.inr (own_ne o3.2 k4 (by decide)))
  have hS3 := hS.grown g3 hS.size (fun q hq => by injection hq; omega)
  refine hK.out _ _ hS3 (fun hS => ?_)
  clear hK K
  refine wpAnyH_ready (rs := [7]) (by kernel_rfl) (by simp) ?_
  refine AllReadyH.cons rfl (fun K hK => ?_) .nil
  refine step_st rfl rowS (.tmp 6) (.tmp 18) rfl (by rfl) (by rfl) k53 HS3.out (by rfl) H31.out ?_
  intro w4 k54 g4 z4
  have k44 := k43.grown g4 (fun h => n4_5 (by injection h with h; exact h.symm))
  have o14 := o13.grown g4 (.inr (own_ne o13.2 k53 (by decide)))
  have o34 := o33.grown g4 (.inr (own_ne o33.2 k53 (by decide)))
  have hS4 := hS.grown g4 hS.size (fun q hq => by injection hq; omega)
  refine hK.out _ _ hS4 (fun hS => ?_)
  clear hK K
  refine wpAnyH_done (by kernel_rfl) ?_ _
  have kb4 := kb2.below hS kb2.lt
  have kd4 := kd2.below hS kd2.lt
  have b4 := bx.trans (hS.mono bx.size)
  have y4 := hS
  rename Below w2.heap.size w2 wz => hSz
  clear hSz hS3 hS4 hS g3 g4 z3 z4 k4 k5 o1 o3 k43 k53 o13 o33 kb2 kd2
  go_wp2_with first
    | ((with_reducible refine wpList_ld rowS k44 HS2.out ?_ ?_); rotate_left; (rfl))
    | ((with_reducible refine wpList_ld rowS k54 HS3.out ?_ ?_); rotate_left; (rfl))
  refine (LJOIN.out w4 o14.rd o34.rd).mono ?_
  rintro e w5 ⟨A7, m7, c7, rfl, o7, h5⟩
  have kb5 := kb4.below h5 kb4.lt
  have kd5 := kd4.below h5 kd4.lt
  have k45 := k44.below h5 k44.lt
  have k55 := k54.below h5 k54.lt
  have b5 := b4.trans (h5.mono b4.size)
  have y5 := y4.trans (h5.mono y4.size)
  have o15 := o14.below h5 (Nat.le_refl _)
  have o35 := o34.below h5 (Nat.le_refl _)
  have s27 := sep (A := A2) (B := A7) (k := w4.heap.size) (fun g h => (o14.lt g h).2) (fun g h => (o7.lt g h).1)
  have s37 := sep (A := A3) (B := A7) (k := w4.heap.size) (fun g h => (o34.lt g h).2) (fun g h => (o7.lt g h).1)
  have hb24 : w2.heap.size ≤ w4.heap.size := y4.size
  have HS7 := Lib.hid (uc_size HGU.out (.slice A7 m7 c7))
  have H71 := Lib.hid (uc_one (U := GU) (s := .slice A7 m7 c7) rfl)
  obtain ⟨s7, hs7⟩ : ∃ s7, s7 = uc GU (.slice A7 m7 c7) := ⟨_, rfl⟩
  rw [← hs7] at HS7 H71 ⊢
  have HS7E := Lib.hid hs7
  clear hs7 LJOIN
  go_upto_region 7 with ((with_reducible refine wpList_st rowS (Blk.new _ _ _) HS7.out ?_ H71.out ?_ ?_ ?_); (rfl); rotate_left; (rfl); (rfl); intro w6 k6 g6 z6)
  have p6 : Below w5.heap.size w5 w6 := ((Below.refl _ _).alloc (Nat.le_refl _) _).grown g6 (by simp) (fun q hq => by injection hq with hq; omega)
  have kb := kb5.below p6 kb5.lt
  have kd := kd5.below p6 kd5.lt
  have k4 := k45.below p6 k45.lt
  have k5 := k55.below p6 k55.lt
  have bC := b5.trans (p6.mono b5.size)
  have yC := y5.trans (p6.mono y5.size)
  have o2 := o15.below p6 (Nat.le_refl _)
  have o3 := o35.below p6 (Nat.le_refl _)
  have o7 := o7.below p6 (Nat.le_refl _)
  obtain ⟨g7, hg⟩ : ∃ g, g = w5.heap.size := ⟨_, rfl⟩
  rw [← hg] at k6 ⊢
  clear hg g6 z6 p6 b5 y5 kb5 kd5 k45 k55 o15 o35 h5 kb4 kd4 k44 k54 b4 y4 o14 o34
  have hL7 := HLL.out
  have hL3 : m7 ≤ 784 := by rw [o7.1]; exact HGL.out
  have rd2 : ∀ w', Below w6.heap.size w6 w' → RdD w' w'.heap.size A2 m2 l := fun w' h => (o2.rd.below h).more h.size
  have rd3 : ∀ w', Below w6.heap.size w6 w' → RdD w' w'.heap.size A3 m3 k := fun w' h => (o3.rd.below h).more h.size
  have rd7 : ∀ w', Below w6.heap.size w6 w' → RdD w' w'.heap.size A7 m7 GM := fun w' h => (o7.rd.below h).more h.size
  have lfrom := fun (w' : World) (h : RdD w' w'.heap.size A7 m7 GM) => from_any GU HGU.out A7 m7 c7 GM w' h (by omega)
  unfold CopyEnd at lfrom
  have lsame := fun (B' : Option Addr) (n' d' : Nat) (B'' : Option Addr) (n'' d'' : Nat) (w' : World) (h : RdD w' w'.heap.size B' n' GM) (h' : RdD w' w'.heap.size B'' n'' GM) => same_any GU GU HGU.out HGU.out HGW.out HGW.out B' B'' n' d' n'' d'' GM GM w' h h' (by have := HGL.out; rw [h.1]; omega)
  simp only [decide_true, Bool.and_true] at lsame
  rw [← HS7E.out] at lfrom
  have LFROM := Lib.hid lfrom
  have LSAME := Lib.hid lsame
  have RD2 := Lib.hid rd2
  have RD3 := Lib.hid rd3
  have RD7 := Lib.hid rd7
  clear lfrom lsame rd2 rd3 rd7
  go_upto_region 7 with fail
  refine wp_region_held_drew (S := fun w' => Below w6.heap.size w6 w') (by kernel_rfl) (Below.refl _ _).drew (fun hS => ?_)
  generalize w6.drew = wd at *
  refine wpAnyH_take (i := 0) rfl (by kernel_rfl) (by kernel_rfl) (by kernel_rfl) (fun _ _ _ h => h) (yieldsIf_ld (by rfl) rowS (.tmp 7) rfl rfl (fun w hw => k6.below hw k6.lt) HS7.out) hS ?_
  simp only [Act.put, List.getElem_toArray, List.getElem_cons_zero, List.getElem_cons_succ, List.setIfInBounds_toArray, List.set_cons_succ, List.set_cons_zero]
  refine wpAnyH_take (i := 2) rfl (by kernel_rfl) (by kernel_rfl) (by kernel_rfl) (fun _ _ _ h => h) (yieldsIf_ld (by rfl) rowLS (.tmp 2) rfl rfl (fun w hw => kb.below hw kb.lt) HS.out) hS ?_
  simp only [Act.put, List.getElem_toArray, List.getElem_cons_zero, List.getElem_cons_succ, List.setIfInBounds_toArray, List.set_cons_succ, List.set_cons_zero]
  refine wpAnyH_take (i := 4) rfl (by kernel_rfl) (by kernel_rfl) (by kernel_rfl) (fun _ _ _ h => h) (yieldsIf_ld (by rfl) rowLS (.tmp 3) rfl rfl (fun w hw => kd.below hw kd.lt) HT.out) hS ?_
  simp only [Act.put, List.getElem_toArray, List.getElem_cons_zero, List.getElem_cons_succ, List.setIfInBounds_toArray, List.set_cons_succ, List.set_cons_zero]
  refine wpAnyH_ready (rs := [1]) (by kernel_rfl) (by simp) ?_
  refine AllReadyH.cons rfl (fun K hK => ?_) .nil
  go_simp
  refine (LFROM.out _ (RD7.out _ hS)).mono ?_
  rintro e v1 ⟨B1, n1, d1, rfl, p1, hh⟩
  replace p1 := p1.rd
  refine hK.out _ _ (hS.trans (hh.mono hS.size)) (fun hS => ?_)
  clear hK K hh
  refine wpAnyH_ready (rs := [3]) (by kernel_rfl) (by simp) ?_
  refine AllReadyH.cons rfl (fun K hK => ?_) .nil
  go_simp
  refine (HREFA.out _ (yC.trans (hS.mono yC.size))).mono ?_
  rintro e v2 ⟨B2, n2, d2, rfl, p2, hh⟩
  replace p1 := (p1.below hh).size
  replace p2 := p2.rd
  refine hK.out _ _ (hS.trans (hh.mono hS.size)) (fun hS => ?_)
  clear hK K hh
  refine wpAnyH_ready (rs := [5]) (by kernel_rfl) (by simp) ?_
  refine AllReadyH.cons rfl (fun K hK => ?_) .nil
  go_simp
  refine (HREFB.out _ (yC.trans (hS.mono yC.size))).mono ?_
  rintro e v3 ⟨B3, n3, d3, rfl, p3, hh⟩
  replace p1 := (p1.below hh).size
  replace p2 := (p2.below hh).size
  replace p3 := p3.rd
  refine hK.out _ _ (hS.trans (hh.mono hS.size)) (fun hS => ?_)
  clear hK K hh
  refine wpAnyH_ready (rs := [6]) (by kernel_rfl) (by simp) ?_
  refine AllReadyH.cons rfl (fun K hK => ?_) .nil
  go_simp
  refine (HRJOIN.out B2 n2 d2 B3 n3 d3 _ p2 p3).mono ?_
  rintro e v4 ⟨B4, n4, d4, rfl, p4, hh⟩
  replace p1 := (p1.below hh).size
  replace p4 := p4.rd
  refine hK.out _ _ (hS.trans (hh.mono hS.size)) (fun hS => ?_)
  clear hK K hh p2 p3
  refine wpAnyH_ready (rs := [7]) (by kernel_rfl) (by simp) ?_
  refine AllReadyH.cons rfl (fun K hK => ?_) .nil
  go_simp
  refine (LSAME.out B1 n1 d1 B4 n4 d4 _ p1 p4).mono ?_
  rintro e v5 ⟨rfl, hh⟩
  refine hK.out _ _ (hS.trans (hh.mono hS.size)) (fun hS => ?_)
  clear hK K hh p1 p4
  refine wpAnyH_take (i := 8) (v := ?rv547) rfl (by kernel_rfl) (by kernel_rfl) (by kernel_rfl) (fun _ _ _ h => h) (Or.inl ⟨by rfl, ?ry547⟩) hS ?_
  case ry547 => (intro wS hSw; clear hSw; go_simp; (try with_reducible rfl))
  simp only [Act.put, List.getElem_toArray, List.getElem_cons_zero, List.getElem_cons_succ, List.setIfInBounds_toArray, List.set_cons_succ, List.set_cons_zero]
  refine wpAnyH_take (i := 9) (v := ?rv550) rfl (by kernel_rfl) (by kernel_rfl) (by kernel_rfl) (fun _ _ _ h => h) (Or.inl ⟨by rfl, ?ry550⟩) hS ?_
  case ry550 => (intro wS hSw; clear hSw; go_simp; (try with_reducible rfl))
  simp only [Act.put, List.getElem_toArray, List.getElem_cons_zero, List.getElem_cons_succ, List.setIfInBounds_toArray, List.set_cons_succ, List.set_cons_zero]
  refine wpAnyH_take (i := 10) rfl (by kernel_rfl) (by kernel_rfl) (by kernel_rfl) (fun _ _ _ h => h) (yieldsIf_ld (by rfl) rowS (.tmp 5) rfl rfl (fun w hw => k4.below hw k4.lt) HS2.out) hS ?_
  simp only [Act.put, List.getElem_toArray, List.getElem_cons_zero, List.getElem_cons_succ, List.setIfInBounds_toArray, List.set_cons_succ, List.set_cons_zero]
  refine wpAnyH_take (i := 11) rfl (by kernel_rfl) (by kernel_rfl) (by kernel_rfl) (fun _ _ _ h => h) (yieldsIf_ld (by rfl) rowS (.tmp 6) rfl rfl (fun w hw => k5.below hw k5.lt) HS3.out) hS ?_
  simp only [Act.put, List.getElem_toArray, List.getElem_cons_zero, List.getElem_cons_succ, List.setIfInBounds_toArray, List.set_cons_succ, List.set_cons_zero]
  refine wpAnyH_take (i := 13) rfl (by kernel_rfl) (by kernel_rfl) (by kernel_rfl) (fun _ _ _ h => h) (yieldsIf_ld (by rfl) rowLS (.tmp 2) rfl rfl (fun w hw => kb.below hw kb.lt) HS.out) hS ?_
  simp only [Act.put, List.getElem_toArray, List.getElem_cons_zero, List.getElem_cons_succ, List.setIfInBounds_toArray, List.set_cons_succ, List.set_cons_zero]
  refine wpAnyH_take (i := 15) rfl (by kernel_rfl) (by kernel_rfl) (by kernel_rfl) (fun _ _ _ h => h) (yieldsIf_ld (by rfl) rowLS (.tmp 3) rfl rfl (fun w hw => kd.below hw kd.lt) HT.out) hS ?_
  simp only [Act.put, List.getElem_toArray, List.getElem_cons_zero, List.getElem_cons_succ, List.setIfInBounds_toArray, List.set_cons_succ, List.set_cons_zero]
  refine wpAnyH_ready (rs := [12]) (by kernel_rfl) (by simp) ?_
  refine AllReadyH.cons rfl (fun K hK => ?_) .nil
  rw [if_pos (by rfl)]
  go_simp
  refine (LLESS.out _ (RD2.out _ hS) (RD3.out _ hS)).mono ?_
  rintro e v6 ⟨B1, n1, d1, rfl, p1, hh⟩
  replace p1 := p1.rd
  refine hK.out _ _ (hS.trans (hh.mono hS.size)) (fun hS => ?_)
  clear hK K hh
  refine wpAnyH_ready (rs := [14]) (by kernel_rfl) (by simp) ?_
  refine AllReadyH.cons rfl (fun K hK => ?_) .nil
  rw [if_pos (by rfl)]
  go_simp
  refine (HREFA.out _ (yC.trans (hS.mono yC.size))).mono ?_
  rintro e v7 ⟨B2, n2, d2, rfl, p2, hh⟩
  replace p1 := (p1.below hh).size
  replace p2 := p2.rd
  refine hK.out _ _ (hS.trans (hh.mono hS.size)) (fun hS => ?_)
  clear hK K hh
  refine wpAnyH_ready (rs := [16]) (by kernel_rfl) (by simp) ?_
  refine AllReadyH.cons rfl (fun K hK => ?_) .nil
  rw [if_pos (by rfl)]
  go_simp
  refine (HREFB.out _ (yC.trans (hS.mono yC.size))).mono ?_
  rintro e v8 ⟨B3, n3, d3, rfl, p3, hh⟩
  replace p1 := (p1.below hh).size
  replace p2 := (p2.below hh).size
  replace p3 := p3.rd
  refine hK.out _ _ (hS.trans (hh.mono hS.size)) (fun hS => ?_)
  clear hK K hh
  refine wpAnyH_ready (rs := [17]) (by kernel_rfl) (by simp) ?_
  refine AllReadyH.cons rfl (fun K hK => ?_) .nil
  rw [if_pos (by rfl)]
  go_simp
  refine (HRLESS.out B2 n2 d2 B3 n3 d3 _ p2 p3).mono ?_
  rintro e v9 ⟨B4, n4, d4, rfl, p4, hh⟩
  replace p1 := (p1.below hh).size
  replace p4 := p4.rd
  refine hK.out _ _ (hS.trans (hh.mono hS.size)) (fun hS => ?_)
  clear hK K hh p2 p3
  refine wpAnyH_ready (rs := [18]) (by kernel_rfl) (by simp) ?_
  refine AllReadyH.cons rfl (fun K hK => ?_) .nil
  rw [if_pos (by rfl)]
  go_simp
  refine (dots_any B1 B4 n1 d1 n4 d4 _ _ LL LL _ p1 p4 (by rw [p1.1]; omega)).mono ?_
  rintro e v10 ⟨rfl, md, rfl⟩
  refine hK.out _ _ (below_drewN hS md) (fun hS => ?_)
  clear hK K p1 p4
  refine wpAnyH_take (i := 19) (v := ?rv609) rfl (by kernel_rfl) (by kernel_rfl) (by kernel_rfl) (fun _ _ _ h => h) (Or.inl ⟨by rfl, ?ry609⟩) hS ?_
  case ry609 => (intro wS hSw; clear hSw; go_simp; (try with_reducible rfl))
  simp only [Act.put, List.getElem_toArray, List.getElem_cons_zero, List.getElem_cons_succ, List.setIfInBounds_toArray, List.set_cons_succ, List.set_cons_zero]
  refine wpAnyH_take (i := 20) (v := ?rv612) rfl (by kernel_rfl) (by kernel_rfl) (by kernel_rfl) (fun _ _ _ h => h) (Or.inl ⟨by rfl, ?ry612⟩) hS ?_
  case ry612 => (intro wS hSw; clear hSw; go_simp; (try with_reducible rfl))
  simp only [Act.put, List.getElem_toArray, List.getElem_cons_zero, List.getElem_cons_succ, List.setIfInBounds_toArray, List.set_cons_succ, List.set_cons_zero]
  refine wpAnyH_done (by kernel_rfl) ?_ _
  have bE := bC.trans (hS.mono bC.size)
  have yE := yC.trans (hS.mono yC.size)
  have kbE := kb.below hS kb.lt
  have kdE := kd.below hS kd.lt
  have k4E := k4.below hS k4.lt
  have k5E := k5.below hS k5.lt
  have k6E := k6.below hS k6.lt
  have o2E := o2.below hS (Nat.le_refl _)
  have o3E := o3.below hS (Nat.le_refl _)
  have o7E := (o7.below hS (Nat.le_refl _)).2
  have hll : l.length ≤ 1000 := by rw [← HNL.out]; exact hn1
  have hkk : k.length ≤ 1000 := by rw [← HML.out]; exact hm1
  have lfrom := fun (w' : World) (h : RdD w' w'.heap.size A2 m2 l) => from_any U HU.out A2 m2 c2 l w' h (by have := h.1; omega)
  have lfromb := fun (w' : World) (h : RdD w' w'.heap.size A3 m3 k) => from_any V HV.out A3 m3 c3 k w' h (by have := h.1; omega)
  unfold CopyEnd at lfrom lfromb
  rw [← HS2E.out] at lfrom
  rw [← HS3E.out] at lfromb
  have lsame := fun (B' B'' : Option Addr) (n' d' n'' d'' : Nat) (w' : World) (h : RdD w' w'.heap.size B' n' l) (h' : RdD w' w'.heap.size B'' n'' l) => same_any U U HU.out HU.out WU.out WU.out B' B'' n' d' n'' d'' l l w' h h' (by rw [h.1]; omega)
  have lsameb := fun (B' B'' : Option Addr) (n' d' n'' d'' : Nat) (w' : World) (h : RdD w' w'.heap.size B' n' k) (h' : RdD w' w'.heap.size B'' n'' k) => same_any V V HV.out HV.out WV.out WV.out B' B'' n' d' n'' d'' k k w' h h' (by rw [h.1]; omega)
  simp only [decide_true, Bool.and_true] at lsame lsameb
  have LFROM2 := Lib.hid lfrom
  have LFROM3 := Lib.hid lfromb
  have LSAME2 := Lib.hid lsame
  have LSAME3 := Lib.hid lsameb
  have t8 : s7[8]? = some (.slice A7 m7 c7) := by rw [HS7E.out]; exact uc_last HGU.out _
  have hbx := bx.size
  clear lfrom lfromb lsame lsameb kb k4 k5 k6 o2 o3 o7 bC yC kd hS
  generalize v9.drewN md = wE at *
  obtain ⟨xs0, hxs0⟩ : ∃ xs0, xs0 = dcs GM := ⟨_, rfl⟩
  rw [← hxs0] at o7E
  clear hxs0
  have c8 : wE.cell? ⟨g7, 8, none⟩ = some (.slice A7 m7 c7) := (k6E.cell 8).trans t8
  go_wp2_with fail
  clear c8
  go_loopw [46] (fun i wr => ∃ (j : Nat) (xs : List Value), j ≤ m7 ∧ i = .int .i64 j ∧ Blk wr b 25 sc ∧ Blk wr (b + 1) 25 sd ∧ Blk wr gx4 30 s2 ∧ Blk wr gx5 30 s3 ∧ Blk wr g7 30 s7 ∧ OwnD wr w2.heap.size A2 m2 c2 l ∧ OwnD wr w2.heap.size A3 m3 c3 k ∧ wr.ownsRow w4.heap.size 27 2 (.slice A7 m7 c7) m7 xs ∧ Below w.heap.size w wr ∧ Below w2.heap.size w2 wr) (fun i _ => m7 - (intOf i).toNat)
  case atStart => exact ⟨0, xs0, by omega, rfl, kbE, kdE, k4E, k5E, k6E, o2E, o3E, o7E, bE, yE⟩
  case round =>
    clear kbE kdE k4E k5E k6E o2E o3E o7E bE yE
    obtain ⟨j, xs, hk, rfl, kb, kd, k4, k5, k7, o2, o3, o7, bR, yR⟩ := hrel
    by_cases hlt : j < m7
    · obtain ⟨gA, rfl, hgA, hgL⟩ : ∃ gA, A7 = some ⟨gA, 0, none⟩ ∧ w4.heap.size ≤ gA ∧ gA < wr.heap.size := by
        rcases o7.2 with ⟨_, h0⟩ | ⟨g, cap, cur, hv, hb, hh, _⟩
        · omega
        · injection hv with hA
          exact ⟨g, hA, hb, lt_of_block hh⟩
      have hxl := o7.1
      have hc1 : wr.cell? ⟨gA, j * 2 + 1, none⟩ = some (xs[j * 2 + 1]'(by omega)) := by
        rw [o7.cellAt _ (by omega), List.getElem?_eq_getElem]
      generalize xs[j * 2 + 1]'(by omega) = u at hc1
      have hf1 := o7.frozenAt (j * 2 + 1)
      have k7x := k7.far (p := ⟨gA, j * 2 + 1, none⟩) (fun e => own_ne o7 k7 (by decide) (by rw [e]; rfl)) (.int .i64 (-1))
      have k5x := k5.far (p := ⟨gA, j * 2 + 1, none⟩) (fun e => own_ne o7 k5 (by decide) (by rw [e]; rfl)) (.int .i64 (-1))
      have k4x := k4.far (p := ⟨gA, j * 2 + 1, none⟩) (fun e => own_ne o7 k4 (by decide) (by rw [e]; rfl)) (.int .i64 (-1))
      have kbx := kb.far (p := ⟨gA, j * 2 + 1, none⟩) (fun e => own_ne o7 kb (by decide) (by rw [e]; rfl)) (.int .i64 (-1))
      have kdx := kd.far (p := ⟨gA, j * 2 + 1, none⟩) (fun e => own_ne o7 kd (by decide) (by rw [e]; rfl)) (.int .i64 (-1))
      have o2x := o2.setFar (p := ⟨gA, j * 2 + 1, none⟩) (s27.elim (fun h => by rw [h]; simp) (fun h => h)) (.int .i64 (-1))
      have o3x := o3.setFar (p := ⟨gA, j * 2 + 1, none⟩) (s37.elim (fun h => by rw [h]; simp) (fun h => h)) (.int .i64 (-1))
      have o7x := (o7.stored (j * 2 + 1) (.int .i64 (-1))).1
      have bRx := bR.setCell (p := ⟨gA, j * 2 + 1, none⟩) (by show _ ≤ gA; omega) (.int .i64 (-1))
      have yRx := yR.setCell (p := ⟨gA, j * 2 + 1, none⟩) (by show _ ≤ gA; omega) (.int .i64 (-1))
      have c8 : wr.cell? ⟨g7, 8, none⟩ = some (.slice (some ⟨gA, 0, none⟩) m7 c7) := (k7.cell 8).trans t8
      have hk0 : (0 : Int) ≤ (j : Int) := by omega
      have hk1 : (j : Int) < (m7 : Int) := by omega
      have K7 := Lib.hid k7x
      have K5 := Lib.hid k5x
      have K4 := Lib.hid k4x
      have KB := Lib.hid kbx
      have KD := Lib.hid kdx
      have O2 := Lib.hid o2x
      have O3 := Lib.hid o3x
      have O7 := Lib.hid o7x
      have BR := Lib.hid bRx
      have YR := Lib.hid yRx
      clear k7x k5x k4x kbx kdx o2x o3x o7x bRx yRx kb kd k4 k5 k7 o2 o3 o7 bR yR
      go_wp2_with fail
      go_roundw
      case rel => exact ⟨j + 1, _, by omega, by go_num, KB.out, KD.out, K4.out, K5.out, K7.out, O2.out, O3.out, O7.out, BR.out, YR.out⟩
      case measure => simp [intOf]; omega
    · obtain rfl : j = m7 := by omega
      go_upto_region 14 with fail
      have rd2 : ∀ w', Below wr.heap.size wr w' → RdD w' w'.heap.size A2 m2 l := fun w' h => (o2.rd.below h).more h.size
      have rd3 : ∀ w', Below wr.heap.size wr w' → RdD w' w'.heap.size A3 m3 k := fun w' h => (o3.rd.below h).more h.size
      refine wp_region_held_drew (S := fun w' => Below wr.heap.size wr w') (by kernel_rfl) (Below.refl _ _).drew (fun hS => ?_)
      generalize wr.drew = wd at *
      refine wpAnyH_take (i := 0) rfl (by kernel_rfl) (by kernel_rfl) (by kernel_rfl) (fun _ _ _ h => h) (yieldsIf_ld (by rfl) rowS (.tmp 5) rfl rfl (fun w hw => k4.below hw k4.lt) HS2.out) hS ?_
      simp only [Act.put, List.getElem_toArray, List.getElem_cons_zero, List.getElem_cons_succ, List.setIfInBounds_toArray, List.set_cons_succ, List.set_cons_zero]
      refine wpAnyH_take (i := 2) rfl (by kernel_rfl) (by kernel_rfl) (by kernel_rfl) (fun _ _ _ h => h) (yieldsIf_ld (by rfl) rowLS (.tmp 2) rfl rfl (fun w hw => kb.below hw kb.lt) HS.out) hS ?_
      simp only [Act.put, List.getElem_toArray, List.getElem_cons_zero, List.getElem_cons_succ, List.setIfInBounds_toArray, List.set_cons_succ, List.set_cons_zero]
      refine wpAnyH_ready (rs := [1]) (by kernel_rfl) (by simp) ?_
      refine AllReadyH.cons rfl (fun K hK => ?_) .nil
      go_simp
      refine (LFROM2.out _ (rd2 _ hS)).mono ?_
      rintro e v1 ⟨B1, n1, d1, rfl, p1, hh⟩
      replace p1 := p1.rd
      refine hK.out _ _ (hS.trans (hh.mono hS.size)) (fun hS => ?_)
      clear hK K hh
      refine wpAnyH_ready (rs := [3]) (by kernel_rfl) (by simp) ?_
      refine AllReadyH.cons rfl (fun K hK => ?_) .nil
      go_simp
      refine (HREFA.out _ (yR.trans (hS.mono yR.size))).mono ?_
      rintro e v2 ⟨B2, n2, d2, rfl, p2, hh⟩
      replace p1 := (p1.below hh).size
      replace p2 := p2.rd
      refine hK.out _ _ (hS.trans (hh.mono hS.size)) (fun hS => ?_)
      clear hK K hh
      refine wpAnyH_ready (rs := [4]) (by kernel_rfl) (by simp) ?_
      refine AllReadyH.cons rfl (fun K hK => ?_) .nil
      go_simp
      refine (LSAME2.out B1 B2 n1 d1 n2 d2 _ p1 p2).mono ?_
      rintro e v3 ⟨rfl, hh⟩
      refine hK.out _ _ (hS.trans (hh.mono hS.size)) (fun hS => ?_)
      clear hK K hh p1 p2
      refine wpAnyH_take (i := 5) (v := ?rv728) rfl (by kernel_rfl) (by kernel_rfl) (by kernel_rfl) (fun _ _ _ h => h) (Or.inl ⟨by rfl, ?ry728⟩) hS ?_
      case ry728 => (intro wS hSw; clear hSw; go_simp; (try with_reducible rfl))
      simp only [Act.put, List.getElem_toArray, List.getElem_cons_zero, List.getElem_cons_succ, List.setIfInBounds_toArray, List.set_cons_succ, List.set_cons_zero]
      refine wpAnyH_take (i := 6) rfl (by kernel_rfl) (by kernel_rfl) (by kernel_rfl) (fun _ _ _ h => h) (yieldsIf_ld (by rfl) rowS (.tmp 6) rfl rfl (fun w hw => k5.below hw k5.lt) HS3.out) hS ?_
      simp only [Act.put, List.getElem_toArray, List.getElem_cons_zero, List.getElem_cons_succ, List.setIfInBounds_toArray, List.set_cons_succ, List.set_cons_zero]
      refine wpAnyH_take (i := 8) rfl (by kernel_rfl) (by kernel_rfl) (by kernel_rfl) (fun _ _ _ h => h) (yieldsIf_ld (by rfl) rowLS (.tmp 3) rfl rfl (fun w hw => kd.below hw kd.lt) HT.out) hS ?_
      simp only [Act.put, List.getElem_toArray, List.getElem_cons_zero, List.getElem_cons_succ, List.setIfInBounds_toArray, List.set_cons_succ, List.set_cons_zero]
      refine wpAnyH_ready (rs := [7]) (by kernel_rfl) (by simp) ?_
      refine AllReadyH.cons rfl (fun K hK => ?_) .nil
      rw [if_pos (by rfl)]
      go_simp
      refine (LFROM3.out _ (rd3 _ hS)).mono ?_
      rintro e v4 ⟨B1, n1, d1, rfl, p1, hh⟩
      replace p1 := p1.rd
      refine hK.out _ _ (hS.trans (hh.mono hS.size)) (fun hS => ?_)
      clear hK K hh
      refine wpAnyH_ready (rs := [9]) (by kernel_rfl) (by simp) ?_
      refine AllReadyH.cons rfl (fun K hK => ?_) .nil
      rw [if_pos (by rfl)]
      go_simp
      refine (HREFB.out _ (yR.trans (hS.mono yR.size))).mono ?_
      rintro e v5 ⟨B2, n2, d2, rfl, p2, hh⟩
      replace p1 := (p1.below hh).size
      replace p2 := p2.rd
      refine hK.out _ _ (hS.trans (hh.mono hS.size)) (fun hS => ?_)
      clear hK K hh
      refine wpAnyH_ready (rs := [10]) (by kernel_rfl) (by simp) ?_
      refine AllReadyH.cons rfl (fun K hK => ?_) .nil
      rw [if_pos (by rfl)]
      go_simp
      refine (LSAME3.out B1 B2 n1 d1 n2 d2 _ p1 p2).mono ?_
      rintro e v6 ⟨rfl, hh⟩
      refine hK.out _ _ (hS.trans (hh.mono hS.size)) (fun hS => ?_)
      clear hK K hh p1 p2
      refine wpAnyH_take (i := 11) (v := ?rv762) rfl (by kernel_rfl) (by kernel_rfl) (by kernel_rfl) (fun _ _ _ h => h) (Or.inl ⟨by rfl, ?ry762⟩) hS ?_
      case ry762 => (intro wS hSw; clear hSw; go_simp; (try with_reducible rfl))
      simp only [Act.put, List.getElem_toArray, List.getElem_cons_zero, List.getElem_cons_succ, List.setIfInBounds_toArray, List.set_cons_succ, List.set_cons_zero]
      refine wpAnyH_take (i := 12) (v := ?rv765) rfl (by kernel_rfl) (by kernel_rfl) (by kernel_rfl) (fun _ _ _ h => h) (Or.inl ⟨by rfl, ?ry765⟩) hS ?_
      case ry765 => (intro wS hSw; clear hSw; go_simp; (try with_reducible rfl))
      simp only [Act.put, List.getElem_toArray, List.getElem_cons_zero, List.getElem_cons_succ, List.setIfInBounds_toArray, List.set_cons_succ, List.set_cons_zero]
      refine wpAnyH_done (by kernel_rfl) ?_ _
      go_wp2_with fail
      go_ret
      exact ⟨rfl, bR.trans (hS.mono bR.size)⟩
set_option maxRecDepth 100000 in
theorem lifted (os : Os) (started : os.Started) (H : Type) (enc : TypeId × Value → H) :
    ReturnsInHanded {} Try.checked os 4 .any (Rows.dotsetPairsSpec.pre6 enc Try.prog Try.f4 Rows.dotsetPairsRow.domain false) (Rows.dotsetPairsSpec.post enc Try.prog Try.f4 false true false false) := by
  refine returnsInHanded_of_change (C := Try.checked) own started (by kernel_rfl) Try.func4
    (ChangeSpec.witness6 (enc := enc) (C := Try.checked) false ⟨#[], #[.agg #[.int .i64 0, .int .i64 0, .int .i64 0, .int .i64 0, .int .i64 0, .int .i64 0, .int .i64 0, .int .i64 0, .slice none 0 0], .agg #[.int .i64 0, .int .i64 0, .int .i64 0, .int .i64 0, .int .i64 0, .int .i64 0, .int .i64 0, .int .i64 0, .slice none 0 0]], []⟩ 8 (by kernel_rfl) (by kernel_rfl) (by kernel_rfl) (by kernel_rfl)) ?_
  intro W base args ds gs before hval0 hW hcnd _
  have hval : ∀ (j : Nat) t v, Try.f4.params[j]? = some t → args[j]? = some v → Value.okWide Try.prog W .any base t v := hval0
  have hW' := hW
  obtain ⟨p, q, hA0, hV, rfl, hfz, hnd⟩ := hW
  have hA : DataW.TrodAll enc Try.prog W 0 (fun _ => true) true Try.f4.params.toList args.toList ds p := hA0
  rw [Try.params4] at hA hval
  obtain ⟨v0, vs0, d0, ds0, p0, q0, hargs, rfl, rfl, h0, r0⟩ := trodAll_cons hA
  obtain ⟨v1, vs1, d1, ds1, p1, q1, rfl, rfl, rfl, h1, r1⟩ := trodAll_cons r0
  obtain ⟨rfl, rfl, rfl⟩ := trodAll_nil r1
  obtain rfl : args = #[v0, v1] := by cases args; simp_all
  obtain ⟨rfl, rfl⟩ := trodVars_none hV
  have lt0 : ∀ x ∈ p0, x.block < W.heap.size := by obtain ⟨m, hm⟩ := h0; exact DataW.trod_lt m _ _ _ hm
  have k0 := h0
  have lt1 : ∀ x ∈ p1, x.block < W.heap.size := by obtain ⟨m, hm⟩ := h1; exact DataW.trod_lt m _ _ _ hm
  have k1 := h1
  obtain ⟨U0, A0, n0, c0, l0, rfl, hu0, wu0, hr0, hn0⟩ := open_set (hval 0 25 v0 rfl rfl) h0
  obtain ⟨U1, A1, n1, c1, l1, rfl, hu1, wu1, hr1, hn1⟩ := open_set (hval 1 25 v1 rfl rfl) h1
  clear hA0 hval0
  refine (walk U0 A0 n0 c0 l0 U1 A1 n1 c1 l1 W hu0 wu0 hr0 hn0 hu1 wu1 hr1 hn1).mono fun e W' ⟨he, bel⟩ => ?_
  subst he
  exact ⟨_, rfl, _, _, _, [], _, [], hW', trodAll_mk1 (shut_bool Try.underlying4 _), (trodAll_cons_mk (Below.trod laidOut (by kernel_rfl) (of_decide_eq_true (by kernel_rfl)) k0 bel lt0) (trodAll_cons_mk (Below.trod laidOut (by kernel_rfl) (of_decide_eq_true (by kernel_rfl)) k1 bel lt1) trodAll_mk0)), rfl, bel.frame _, fun h => by cases h⟩

theorem proved : Rows.DotsetPairsSaid :=
  OpenClaim.holds_of_wide 4 Try.f4 rfl rfl rfl rfl rfl rfl rfl ⟨rfl, rfl, rfl, rfl, rfl⟩ rfl rfl rfl rfl rfl (by kernel_rfl) Try.func4 (by kernel_rfl)
    (of_decide_eq_true (by kernel_rfl)) (by unfold Func.isWrapper; first | (rw [if_pos (by decide +kernel)]; kernel_rfl) | (rw [if_neg (by decide +kernel)]; exact ⟨rfl, rfl⟩))
    (fun os started H enc _ => lifted os started H enc)
#print axioms proved
end Go.Proofs.Ytacmdkjodnaohaa.DotsetPairs

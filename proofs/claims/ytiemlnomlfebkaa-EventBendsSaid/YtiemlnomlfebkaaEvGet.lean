/- The walk of event.Get. -/
import Derived.Test.YtiemlnomlfebkaaEvThrR
import Derived.Test.YtiemlnomlfebkaaEvAlive
import Derived.Test.YtiemlnomlfebkaaEvNoP
namespace Go.Proofs.Ytiemlnomlfebkaa
set_option linter.unusedVariables false
set_option linter.unusedSimpArgs false
open Go.RowKit
open Dot Evt
/-- the event of bytes, an error's number -/
def getEv (bs : List UInt8) : Ev × Nat := match decE bs with
  | .ok (x, r) => if r = [] ∧ rightE x = true then (x, 0) else (exZ, 4)
  | .error y => (exZ, y)
def GetEv (w : World) (bs : List UInt8) (e : Ending) (w' : World) : Prop := ∃ A m c, e = .returned (.tuple #[.agg (ec (getEv bs).1 (.slice A m c)), .int .i64 ((getEv bs).2 : Nat)]) ∧ OwnD w' w.heap.size A m c (getEv bs).1.l ∧ Below w.heap.size w w'
theorem results_cc {P : Program} {T U : TypeId} {n g : Nat} {cs : Array Value} {t : TypeId} {fn : Func} {p q : Tmp} {w : World} {tmps : Array Value} {ad : Addr} {v : Value} (h : fn.results = #[.cell p T, .cell q U]) (hR : RowT P T n) (hB : Blk w g t cs) (hn : cs.size = n) (hp : tmps.getD p undef = .pointer (some ⟨g, 0, none⟩)) (hq : tmps.getD q undef = .pointer (some ad)) (hl2 : (loadVar U ad).run P w = .ok v w) : (results fn tmps).run P w = .ok (.tuple #[.agg cs, v]) w := by
  obtain ⟨d, hu, hd, hi⟩ := hR
  rw [← hn, ← Array.length_toList] at hi
  have hp' : tmps[p]?.getD undef = .pointer (some ⟨g, 0, none⟩) := by simpa using hp
  have hq' : tmps[q]?.getD undef = .pointer (some ad) := by simpa using hq
  have hl := run_loadVar_mid w g 0 T cs.toList d hB.range hu hd hi
  rw [Array.toArray_toList] at hl
  simp [results, h, hp', hq', asAddr, hl, hl2]
/-- A region that may panic in one way: what the frame's first slots hold is kept. -/
def PanicQ (K : Nat) (T0 : Array Value) (D : List Deferred) (c0 : List PanicEntry) (S : World → Prop) (Q : Exit → Act → World → Prop) : Exit → Act → World → Prop
  | .panic c, a, w => c = c0 ∧ (∀ i, i < K → a.tmps.getD i undef = T0.getD i undef) ∧ a.defers = D ∧ S w
  | e, a, w => Q e a w
theorem wp_panicQ {P : Program} {c : Code} {Q : Exit → Act → World → Prop} {a : Act} {w : World} {K : Nat} {T0 : Array Value} {D : List Deferred} {c0 : List PanicEntry} {S : World → Prop}
    (hp : ∀ a w, (∀ i, i < K → a.tmps.getD i undef = T0.getD i undef) → a.defers = D → S w → Q (.panic c0) a w) (h : c.wp P (PanicQ K T0 D c0 S Q) a w) : c.wp P Q a w :=
  Code.wp_mono (fun e a w h => by
    cases e
    case panic c =>
      obtain ⟨rfl, h1, h2, h3⟩ := h
      exact hp a w h1 h2 h3
    all_goals exact h) h
theorem panicQ_put {K : Nat} {T0 : Array Value} {D : List Deferred} {c0 : List PanicEntry} {S : World → Prop} {Q : Exit → Act → World → Prop} {d : Nat} {v : Value} (hd : K ≤ d) (c : List PanicEntry) (a : Act) (w : World) (h : PanicQ K T0 D c0 S Q (.panic c) (a.put (some d) v) w) : PanicQ K T0 D c0 S Q (.panic c) a w := by
  obtain ⟨h1, h2, h3, h4⟩ := h
  refine ⟨h1, fun i hi => ?_, h3, h4⟩
  rw [← h2 i hi]
  show _ = (a.tmps.setIfInBounds d v).getD i undef
  rw [Array.getD_eq_getD_getElem?, Array.getD_eq_getD_getElem?, Array.getElem?_setIfInBounds_ne (by omega)]
theorem PanicQ.ok {K : Nat} {T0 : Array Value} {D : List Deferred} {c0 : List PanicEntry} {S : World → Prop} {Q : Exit → Act → World → Prop} {a : Act} {w : World} (h : Q .normal a w) : PanicQ K T0 D c0 S Q .normal a w := h
theorem Blk.only {F : Nat → Prop} {w w' : World} {b : Nat} {t : TypeId} {cs : Array Value} (h : Blk w b t cs) (o : Only F w w') (hn : ¬ F b) : Blk w' b t cs := (o.block b h.lt hn).trans h
theorem rowRd : RowT Try.prog 83 1 := ⟨_, Try.underlying83, rfl, by kernel_rfl⟩
theorem decE_p {l : List UInt8} {x : Ev} {r : List UInt8} (h : decE l = .ok (x, r)) : x.p.length = 7 := by
  unfold decE at h
  split at h
  · cases h
  split at h
  · cases h
  split at h
  · cases h
  split at h
  · cases h
  split at h
  case isFalse => cases h
  split at h
  · cases h
  unfold decK at h
  split at h
  · split at h
    · cases h
    · injection h with h; injection h with h _; rw [← h]; rfl
  · split at h
    · split at h
      · cases h
      · rename_i hd
        split at h
        · cases h
        · injection h with h; injection h with h _
          rw [← h]
          show (List.map _ _).length = 7
          rw [List.length_map, decs_len _ _ _ _ hd]
    · split at h
      · cases h
      · injection h with h; injection h with h _; rw [← h]; rfl
theorem exZ_cs : cT 0 = ec exZ (.slice none 0 0) := by kernel_rfl
set_option maxRecDepth 100000 in
set_option maxHeartbeats 2000000 in
theorem eget_any (A : Option Addr) (n c : Nat) (bs : List UInt8) (w : World) (hb : RdB w w.heap.size A n bs) (hl : n ≤ 1000000000) :
    Calls Try.prog 25 #[.slice A n c] w (GetEv w bs) := by
  have HBS := Lib.hid fun (w' : World) (h : Below w.heap.size w w') => hb.below h
  have HL := Lib.hid hl
  clear hb hl
  go_enter_defers Try.func25, Try.ntmps25
  go_upto_region 2 with fail
  refine nameW ?_
  intro W hW
  obtain ⟨B, hB⟩ : ∃ B, B = w.heap.size := ⟨_, rfl⟩
  rw [← hB]
  have ke : Blk W B 28 (cT 0) := by rw [hW, hB]; exact (Blk.new w _ _).alloc _
  have kf : Blk W (B + 1) 38 #[.int .i64 0] := by
    have h := Blk.new (w.alloc (.cells (cT 0) 28)) 38 #[.int .i64 0]
    rw [show (w.alloc (.cells (cT 0) 28)).heap.size = w.heap.size + 1 by simp] at h
    rw [hW, hB]
    exact h
  have gb : Below B w W := by rw [hW, hB]; exact ((Below.refl _ _).alloc (Nat.le_refl _) _).alloc (by simp) _
  have HB := Lib.hid hB
  rw [← hB] at HBS
  clear hW hB
  go_wp2_with fail
  refine (new_any A n c bs B W (HBS.out W gb) (by have := kf.lt; omega) (by have := HL.out; omega)).mono ?_
  rintro e w1 ⟨A1, c1, g, rfl, hg, hR, b1⟩
  have ke1 := ke.below b1 ke.lt
  have kf1 := kf.below b1 kf.lt
  have gb1 := gb.trans (b1.mono (by have := ke.lt; omega))
  have hgB : B + 1 < g := by have := kf.lt; omega
  clear ke kf gb b1 hg
  go_upto_region 4 with fail
  refine nameW ?_
  intro W2 hW2
  obtain ⟨v, hv⟩ : ∃ v, v = w1.heap.size := ⟨_, rfl⟩
  rw [← hv]
  have kv : Blk W2 v 83 #[.pointer (some ⟨g, 0, none⟩)] := by rw [hW2, hv]; exact (Blk.new w1 _ _).alloc _
  have kx : Blk W2 (v + 1) 28 (cT 0) := by
    have h := Blk.new (w1.alloc (.cells #[.pointer (some ⟨g, 0, none⟩)] 83)) 28 (cT 0)
    rw [show (w1.alloc (.cells #[.pointer (some ⟨g, 0, none⟩)] 83)).heap.size = w1.heap.size + 1 by simp] at h
    rw [hW2, hv]
    exact h
  have bA : Below w1.heap.size w1 W2 := by rw [hW2]; exact ((Below.refl _ _).alloc (Nat.le_refl _) _).alloc (by simp) _
  have ke2 := ke1.below bA ke1.lt
  have kf2 := kf1.below bA kf1.lt
  have gb2 := gb1.trans (bA.mono (by have := ke1.lt; omega))
  have hR2 := hR.below (bA.mono (by have := hR.lt; omega))
  have hgv : g < v := by have := hR.lt; omega
  have cv : W2.cell? ⟨v, 0, none⟩ = some (.pointer (some ⟨g, 0, none⟩)) := kv.cell 0
  clear hW2 hv ke1 kf1 gb1 hR bA
  go_wp2_with fail
  refine (thrr_any (v + 1) g A1 bs.length c1 bs W2 hR2 kx (by omega)).mono ?_
  rintro e w3 ⟨oo, ⟨x, r, hd, rfl, ⟨A3, c3, hR3⟩, A4, m4, c4, kx3, o4⟩ | ⟨y, hd, rfl⟩⟩
  case inr =>
    have ke3 := ke2.only oo (by rintro (h | h) <;> omega)
    have kf3 := kf2.only oo (by rintro (h | h) <;> omega)
    have gb3 := gb2.trans (oo.to_below (B := B) (by rintro k (h | h) <;> omega) (by have := ke2.lt; omega))
    have he : getEv bs = (exZ, y) := by unfold getEv; rw [hd]
    have HE := Lib.hid he
    clear hd he oo
    go_wp2_with fail
    refine leaves_cons (f := 38) (args := #[.pointer (some ⟨B + 1, 0, none⟩)]) (by simp) (by simp [go_sem]) ?_
    refine (ecaught_panic _ _ _ _ _ (kf3.cell 0) (kf3.free 0)).mono ?_
    rintro e u' w4 ⟨rfl, rfl, rfl⟩
    have k4 := (kf3.alloc (.cells #[.int .i64 (y : Nat)] 101)).set_ 0 (.int .i64 (y : Nat))
    have e4 := (ke3.alloc (.cells #[.int .i64 (y : Nat)] 101)).far (p := ⟨B + 1, 0, none⟩) (by show B ≠ B + 1; omega) (.int .i64 (y : Nat))
    have c4 := k4.cell 0
    have g4 : Below B w ((w3.alloc (.cells #[.int .i64 (y : Nat)] 101)).setCell ⟨B + 1, 0, none⟩ (.int .i64 (y : Nat))) := (gb3.alloc (by have := gb3.size; have := HB.out; omega) _).setCell (by show B ≤ B + 1; omega) _
    refine ⟨.tuple #[.agg (cT 0), .int .i64 (y : Nat)], results_cc rfl rowE e4 rfl rfl rfl (by simp [go_sem, c4]), none, 0, 0, by rw [HE.out, exZ_cs], ?_, by rw [← HB.out]; exact g4⟩
    rw [HE.out]
    exact OwnD.nil _ _
  have hp7 := decE_p hd
  have ke3 := ke2.only oo (by rintro (h | h) <;> omega)
  have kf3 := kf2.only oo (by rintro (h | h) <;> omega)
  have kv3 := kv.only oo (by rintro (h | h) <;> omega)
  have gb3 := gb2.trans (oo.to_below (B := B) (by rintro k (h | h) <;> omega) (by have := ke2.lt; omega))
  have hs2 : B < W2.heap.size := ke2.lt
  have o3 := o4.mono (base' := B) (by omega)
  obtain ⟨cx, hcx⟩ : ∃ cx, cx = ec x (.slice A4 m4 c4) := ⟨_, rfl⟩
  have SX := Lib.hid (show cx.size = 14 by rw [hcx]; rfl)
  have OX := Lib.hid (show cx.all (·.oneCell') = true by rw [hcx]; exact ec_one _ _ _ _)
  have hrt := fun (w' : World) (h : Below w3.heap.size w3 w') => eright_any x hp7 A4 m4 c4 w' (o3.rd.below h).size
  rw [← hcx] at kx3 hrt
  have HCX := Lib.hid hcx
  have HRT := Lib.hid hrt
  have HO := Lib.hid o3
  have hb0 := o3.rd
  have hre := fun (w' : World) (h : Below w3.heap.size w3 w') (z : Bool) => rdend_any g A3 r.length c3 r z w' (hR3.below (h.mono (by have := hR3.lt; omega)))
  have HRE := Lib.hid hre
  clear hcx hrt hre hp7 oo o4 o3 ke2 kf2 kv kx gb2 hR2 cv hb0
  by_cases hz : r = [] ∧ rightE x = true
  · have he : getEv bs = (x, 0) := by unfold getEv; rw [hd]; simp only; rw [if_pos hz]
    have HE := Lib.hid he
    have HZ := Lib.hid hz
    clear he hz hd
    go_upto_region 5 with fail
    refine wp_nopanic ?_
    refine wp_region_held_drew (S := fun w' => Below w3.heap.size w3 w') (by kernel_rfl) (Below.refl _ _).drew (fun hS => ?_)
    refine wpAnyH_take (i := 0) rfl (by kernel_rfl) (by kernel_rfl) (by kernel_rfl) (fun _ _ _ h => h) (yieldsIf_ld (by rfl) rowRd (.tmp 4) rfl rfl (fun w' h => kv3.below h kv3.lt) rfl) hS ?_
    try simp only [Act.put, List.getElem_toArray, List.getElem_cons_zero, List.getElem_cons_succ, List.setIfInBounds_toArray, List.set_cons_succ, List.set_cons_zero]
    refine wpAnyH_take (i := 1) rfl (by kernel_rfl) (by kernel_rfl) (by kernel_rfl) (fun _ _ _ h => h) (yieldsIf_ld (by rfl) rowE (.tmp 5) rfl rfl (fun w' h => kx3.below h kx3.lt) SX.out) hS ?_
    try simp only [Act.put, List.getElem_toArray, List.getElem_cons_zero, List.getElem_cons_succ, List.setIfInBounds_toArray, List.set_cons_succ, List.set_cons_zero]
    refine wpAnyH_ready (rs := [2]) (by kernel_rfl) (by simp) ?_
    refine AllReadyH.cons rfl (fun K hK => ?_) .nil
    go_simp
    refine (HRT.out _ hS).mono ?_
    rintro e w4 ⟨rfl, b4⟩
    refine hK.out _ _ (hS.trans (b4.mono hS.size)) (fun hS => ?_)
    clear hK K b4
    try simp only [Act.put, List.getElem_toArray, List.getElem_cons_zero, List.getElem_cons_succ, List.setIfInBounds_toArray, List.set_cons_succ, List.set_cons_zero]
    refine wpAnyH_ready (rs := [3]) (by kernel_rfl) (by simp) ?_
    refine AllReadyH.cons rfl (fun K hK => ?_) .nil
    go_simp
    refine (HRE.out _ hS _).mono ?_
    rintro e w5 ⟨he, b5⟩
    rw [if_pos HZ.out] at he
    subst he
    refine hK.out _ _ (hS.trans (b5.mono hS.size)) (fun hS => ?_)
    clear hK K b5
    refine wpAnyH_done (by kernel_rfl) ?_ _
    try simp only [Act.put, List.getElem_toArray, List.getElem_cons_zero, List.getElem_cons_succ, List.setIfInBounds_toArray, List.set_cons_succ, List.set_cons_zero]
    refine NoPanic.ok ?_
    have ke5 := ke3.below hS ke3.lt
    have kf5 := kf3.below hS kf3.lt
    have kx5 := kx3.below hS kx3.lt
    have o5 := HO.out.below hS (Nat.le_refl _)
    have gb5 := gb3.trans (hS.mono (by have := ke3.lt; omega))
    have SZ := Lib.hid (show (cT 0).size = 14 from rfl)
    have cf5 : w5.cell? ⟨B + 1, 0, none⟩ = some (.int .i64 0) := kf5.cell 0
    have ff5 := kf5.free 0
    clear ke3 kf3 kx3 kv3 gb3 hS HRT HRE
    go_wp2_with first
      | ((with_reducible refine wpList_ld rowE kx5 SX.out ?_ ?_); rotate_left; (rfl))
      | ((with_reducible refine wpList_st rowE ke5 SX.out SZ.out OX.out ?_ ?_ ?_); rotate_left; (rfl); (rfl); intro w6 k6 g6 z6; have cf6 : w6.cell? ⟨B + 1, 0, none⟩ = some (.int .i64 0) := (kf5.grown g6 (by simp)).cell 0; have ff6 := (kf5.grown g6 (by simp)).free 0)
    have kf6 := kf5.grown g6 (by simp)
    refine leaves_cons (f := 38) (args := #[.pointer (some ⟨B + 1, 0, none⟩)]) (by simp) (by simp [go_sem]) ?_
    refine (ecaught_none _ _).mono ?_
    rintro e u' w7 ⟨rfl, rfl, rfl⟩
    have k7 := k6.far (p := ⟨B + 1, 0, none⟩) (by show B ≠ B + 1; omega) (.int .i64 0)
    have f7 := kf6.set_ 0 (.int .i64 0)
    have c7 := f7.cell 0
    have o6 := o5.grown g6 (.inr (own_ne o5.2 ke5 (by decide)))
    have o7 := o6.setFar (p := ⟨B + 1, 0, none⟩) (own_ne o6.2 kf6 (by decide)) (.int .i64 0)
    have gb7 : Below B w (w6.setCell ⟨B + 1, 0, none⟩ (.int .i64 0)) := (gb5.trans (only_Below g6 (Nat.le_refl B) (by have := ke5.lt; omega))).setCell (by show B ≤ B + 1; omega) _
    refine ⟨.tuple #[.agg cx, .int .i64 0], results_cc rfl rowE k7 SX.out rfl rfl (by simp [go_sem, c7]), A4, m4, c4, by rw [HE.out, HCX.out]; rfl, by rw [HE.out, ← HB.out]; exact o7, by rw [← HB.out]; exact gb7⟩
  · have he : getEv bs = (exZ, 4) := by unfold getEv; rw [hd]; simp only; rw [if_neg hz]
    have HE := Lib.hid he
    have HZ := Lib.hid hz
    clear he hz hd
    go_upto_region 5 with fail
    refine wp_panicQ (K := 4) (T0 := #[.slice A n c, undef, .pointer (some ⟨B, 0, none⟩), .pointer (some ⟨B + 1, 0, none⟩)]) (D := [{ target := .fn (.func 38) #[], args := #[.pointer (some ⟨B + 1, 0, none⟩)] }]) (c0 := [{ v := eflt 4, recovered := false }]) (S := fun w' => Below w3.heap.size w3 w') ?hp ?hr
    case hr =>
      refine wp_region_held_drew (S := fun w' => Below w3.heap.size w3 w') (by kernel_rfl) (Below.refl _ _).drew (fun hS => ?_)
      refine wpAnyH_take (i := 0) rfl (by kernel_rfl) (by kernel_rfl) (by kernel_rfl) (fun c a w h => panicQ_put (d := 12) (by decide) c a w h) (yieldsIf_ld (by rfl) rowRd (.tmp 4) rfl rfl (fun w' h => kv3.below h kv3.lt) rfl) hS ?_
      try simp only [Act.put, List.getElem_toArray, List.getElem_cons_zero, List.getElem_cons_succ, List.setIfInBounds_toArray, List.set_cons_succ, List.set_cons_zero]
      refine wpAnyH_take (i := 1) rfl (by kernel_rfl) (by kernel_rfl) (by kernel_rfl) (fun c a w h => panicQ_put (d := 13) (by decide) c a w h) (yieldsIf_ld (by rfl) rowE (.tmp 5) rfl rfl (fun w' h => kx3.below h kx3.lt) SX.out) hS ?_
      try simp only [Act.put, List.getElem_toArray, List.getElem_cons_zero, List.getElem_cons_succ, List.setIfInBounds_toArray, List.set_cons_succ, List.set_cons_zero]
      refine wpAnyH_ready (rs := [2]) (by kernel_rfl) (by simp) ?_
      refine AllReadyH.cons rfl (fun K hK => ?_) .nil
      go_simp
      refine (HRT.out _ hS).mono ?_
      rintro e w4 ⟨rfl, b4⟩
      refine hK.out _ _ (hS.trans (b4.mono hS.size)) (fun hS => ?_)
      clear hK K b4
      try simp only [Act.put, List.getElem_toArray, List.getElem_cons_zero, List.getElem_cons_succ, List.setIfInBounds_toArray, List.set_cons_succ, List.set_cons_zero]
      refine wpAnyH_ready (rs := [3]) (by kernel_rfl) (by simp) ?_
      refine AllReadyH.cons rfl (fun K hK => ?_) .nil
      go_simp
      refine (HRE.out _ hS _).mono ?_
      rintro e w5 ⟨he, b5⟩
      rw [if_neg HZ.out] at he
      subst he
      exact ⟨rfl, fun i hi => by
        rcases i with _ | _ | _ | _ | i
        all_goals first | rfl | omega, rfl, hS.trans (b5.mono hS.size)⟩
    case hp =>
      rintro ⟨tm, df⟩ w' ht hdf hS
      have h2 := ht 2 (by omega)
      have h3 := ht 3 (by omega)
      subst hdf
      have ke5 := ke3.below hS ke3.lt
      have kf5 := kf3.below hS kf3.lt
      have gb5 := gb3.trans (hS.mono (by have := ke3.lt; omega))
      refine leaves_cons (f := 38) (args := #[.pointer (some ⟨B + 1, 0, none⟩)]) (by simp) (by simp [go_sem]) ?_
      refine (ecaught_panic _ _ _ _ _ (kf5.cell 0) (kf5.free 0)).mono ?_
      rintro e u' w4 ⟨rfl, rfl, rfl⟩
      have k4 := (kf5.alloc (.cells #[.int .i64 4] 101)).set_ 0 (.int .i64 4)
      have e4 := (ke5.alloc (.cells #[.int .i64 4] 101)).far (p := ⟨B + 1, 0, none⟩) (by show B ≠ B + 1; omega) (.int .i64 4)
      have c4 := k4.cell 0
      have g4 : Below B w ((w'.alloc (.cells #[.int .i64 4] 101)).setCell ⟨B + 1, 0, none⟩ (.int .i64 4)) := (gb5.alloc (by have := gb5.size; have := HB.out; omega) _).setCell (by show B ≤ B + 1; omega) _
      refine ⟨.tuple #[.agg (cT 0), .int .i64 4], results_cc rfl rowE e4 rfl h2 h3 (by simp [go_sem, c4]), none, 0, 0, by rw [HE.out, exZ_cs]; rfl, ?_, by rw [← HB.out]; exact g4⟩
      rw [HE.out]
      exact OwnD.nil _ _
end Go.Proofs.Ytiemlnomlfebkaa

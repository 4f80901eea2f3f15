/- How registers of which the last write counts read when they come in. -/
import Derived.Test.YtocoohpekpkmkaaGreatBoOwn
import Derived.Test.YtocoohpekpkmkaaGreatFrameMust
import Derived.Test.YtocoohpekpkmkaaGreatRegLast
import Derived.Test.YtocoohpekpkmkaaGreatVintRead
import Derived.Test.YtocoohpekpkmkaaGreatFacts
import Derived.Test.YtocoohpekpkmkaaGreatFoot
import Derived.Test.YtocoohpekpkmkaaGreatTallyPut
import Derived.Test.YtocoohpekpkmkaaGreatFramePut
import Derived.Test.YtocoohpekpkmkaaGreatOpen
import Derived.Test.YtocoohpekpkmkaaGreatRegNode
import Derived.Test.YtocoohpekpkmkaaGreatRegLaw
import Derived.Test.YtocoohpekpkmkaaGreatRegMeet
import Derived.Test.YtocoohpekpkmkaaGreatRegVals
import Derived.Test.YtocoohpekpkmkaaGreatRegEq
/- The walks of board's must, caught and got. -/
namespace Go.Proofs.YtocoohpekpkmkaaGreat
set_option linter.unusedVariables false
set_option linter.unusedSimpArgs false
set_option maxRecDepth 100000
open Go.RowKit
theorem cells_grown (w : World) (g o : Nat) (vs : List Value) : w.grownBy (w.setCells g o vs) (some g) := by
  obtain ⟨k1, k2, k3, k4⟩ := setCells_size w g vs o
  exact ⟨k2, k3, k4, by rw [k1]; exact Nat.le_refl _, fun k hk hne => setCells_other w g _ _ k (fun e => hne (by rw [e]))⟩
theorem Blk.there_ {w : World} {g o n : Nat} {t : TypeId} {cs : Array Value} (h : Blk w g t cs) (hn : o + n ≤ cs.size) : w.there g o n := fun i hi => by
  rw [h.cell, h.free]
  simp
  omega
theorem results_cc30 {P : Program} {T U : TypeId} {n g : Nat} {cs : Array Value} {t : TypeId} {fn : Func} {p q : Tmp} {w : World} {tmps : Array Value} {ad : Addr} {v : Value} (h : fn.results = #[.cell p T, .cell q U]) (hR : RowT P T n) (hB : Blk w g t cs) (hn : cs.size = n) (hp : tmps.getD p undef = .pointer (some ⟨g, 0, none⟩)) (hq : tmps.getD q undef = .pointer (some ad)) (hl2 : (loadVar U ad).run P w = .ok v w) : (results fn tmps).run P w = .ok (.tuple #[.agg cs, v]) w := by
  obtain ⟨d, hu, hd, hi⟩ := hR
  rw [← hn, ← Array.length_toList] at hi
  have hp' : tmps[p]?.getD undef = .pointer (some ⟨g, 0, none⟩) := by simpa using hp
  have hq' : tmps[q]?.getD undef = .pointer (some ad) := by simpa using hq
  have hl := run_loadVar_mid w g 0 T cs.toList d hB.range hu hd hi
  rw [Array.toArray_toList] at hl
  simp [results, h, hp', hq', asAddr, hl, hl2]
/-- a fault, as a panic's value -/
abbrev bflt (x : Int) : Value := .iface 134 (.agg #[.int .i64 x])
theorem bmust_ok (x : Int) (w : World) :
    Calls Tryz.prog 38 #[.bool true, .int .i64 x] w fun e w' => e = .returned (.tuple #[]) ∧ w = w' := by
  go_enter Tryz.func38, Tryz.ntmps38
  go_wp2_with fail
  go_end0
  exact ⟨rfl, rfl⟩
theorem bmust_bad (x : Int) (w : World) :
    Calls Tryz.prog 38 #[.bool false, .int .i64 x] w fun e w' => e = .panicked [{ v := bflt x, recovered := false }] ∧ w = w' := by
  go_enter Tryz.func38, Tryz.ntmps38
  go_wp2_with fail
  exact ⟨rfl, rfl, rfl⟩
theorem bmust_yes {b : Bool} (hb : b = true) (x : Int) (w : World) : Calls Tryz.prog 38 #[.bool b, .int .i64 x] w fun e w' => e = .returned (.tuple #[]) ∧ w = w' := hb ▸ bmust_ok x w
theorem bmust_no {b : Bool} (hb : b = false) (x : Int) (w : World) : Calls Tryz.prog 38 #[.bool b, .int .i64 x] w fun e w' => e = .panicked [{ v := bflt x, recovered := false }] ∧ w = w' := hb ▸ bmust_bad x w
theorem bassert_flt (x : Int) (w : World) : (Instr.typeAssert (bflt x) 20 134 true).run Tryz.prog w = .ok (.tuple #[.agg #[.int .i64 x], .bool true]) w := by kernel_rfl
theorem bcaught_panic (g : Nat) (x : Int) (older : List PanicEntry) (v : Value) (w : World) (h0 : w.cell? ⟨g, 0, none⟩ = some v) (hf : w.frozen? ⟨g, 0, none⟩ = false) :
    CallsD Tryz.prog 37 #[.pointer (some ⟨g, 0, none⟩)] (.panicking ({ v := bflt x, recovered := false } :: older)) w fun e u' w' =>
      e = .returned (.tuple #[]) ∧ u' = .panicking ({ v := bflt x, recovered := true } :: older) ∧ w' = (w.alloc (.cells #[.int .i64 x] 134)).setCell ⟨g, 0, none⟩ (.int .i64 x) := by
  have ta := bassert_flt x
  have lt0 := World.block_lt_of_cell? w _ h0
  refine callsD_of_wpS Tryz.func37 rfl fun c₀ cs hu => ?_
  apply wpS_seq
  apply wpS_region
  simp [wpOpsS, go_sem, recoverD, hu, Tryz.ntmps37, Exit.thenS]
  refine wpS_of_wp ?_
  rw [Frame.frame15]
  go_wp2_with fail
  simp [bodyPostS, results, Tryz.results37]
theorem bcaught_none (g : Nat) (w : World) :
    CallsD Tryz.prog 37 #[.pointer (some ⟨g, 0, none⟩)] .returning w fun e u' w' => e = .returned (.tuple #[]) ∧ u' = .returning ∧ w' = w := by
  refine callsD_of_wpS Tryz.func37 rfl fun c₀ cs hu => ?_
  apply wpS_seq
  apply wpS_region
  simp [wpOpsS, go_sem, recoverD, hu, Tryz.ntmps37, Exit.thenS]
  refine wpS_of_wp ?_
  rw [Frame.frame15]
  go_wp2_with fail
  cases c₀
  simp_all [bodyPostS, results, Tryz.results37]

set_option maxHeartbeats 2000000 in
theorem gotT_ok (cs : Array Value) (hn : cs.size = 16) (h1 : cs.all (·.oneCell') = true) (w : World) :
    Calls Tryz.prog 41 #[.agg cs, .int .i64 0] w fun e w' => e = .returned (.agg cs) ∧ Below w.heap.size w w' := by
  have HN := Lib.hid hn
  have H1 := Lib.hid h1
  clear hn h1
  obtain ⟨zz, hzz⟩ : ∃ zz : Array Value, zz = #[.int .i64 0, .int .i64 0, .int .i64 0, .int .i64 0, .int .i64 0, .int .i64 0, .int .i64 0, .int .i64 0, .int .i64 0, .int .i64 0, .int .i64 0, .int .i64 0, .int .i64 0, .int .i64 0, .int .i64 0, .int .i64 0] := ⟨_, rfl⟩
  have ZN := Lib.hid (show zz.size = 16 by rw [hzz]; rfl)
  have ZZ := Lib.hid hzz
  clear hzz
  go_enter Tryz.func41, Tryz.ntmps41
  go_upto_region 1 with fail
  refine nameW ?_
  intro W hW
  obtain ⟨B, hB⟩ : ∃ B, B = w.heap.size := ⟨_, rfl⟩
  rw [← hB]
  have kc : Blk W B 34 cs := by rw [hW, hB]; exact (Blk.new w _ _).alloc _
  have kz : Blk W (B + 1) 34 zz := by
    have h := Blk.new (w.alloc (.cells cs 34)) 34 zz
    rw [ZZ.out] at h ⊢
    rw [hW, hB]
    simpa using h
  have gb : Below B w W := by rw [hW, hB]; exact ((Below.refl _ _).alloc (Nat.le_refl _) _).alloc (by simp) _
  have HB := Lib.hid hB
  clear hW hB
  go_wp2_with fail
  refine (bmust_ok 0 W).mono ?_
  rintro e w1 ⟨rfl, rfl⟩
  go_wp2_with first
    | ((with_reducible refine wpList_ld rowT kc HN.out ?_ ?_); rotate_left; (rfl))
    | ((with_reducible refine wpList_st rowT kz HN.out ZN.out H1.out ?_ ?_ ?_); rotate_left; (rfl); (rfl); intro w5 k5 g5 z5)
  exact bodyPost_ret (v := .agg cs) (results_blk rfl rowT k5 HN.out rfl) rfl ⟨rfl, by rw [← HB.out]; exact gb.grown g5 (by have := gb.size; have := HB.out; omega) (fun q hq => by injection hq; omega)⟩
theorem gotT_bad (cs : Array Value) (x : Int) (hx : x ≠ 0) (w : World) :
    Calls Tryz.prog 41 #[.agg cs, .int .i64 x] w fun e w' => e = .panicked [{ v := bflt x, recovered := false }] ∧ Below w.heap.size w w' := by
  have hq : (x == (0 : Int)) = false := by simpa using hx
  have HQ := Lib.hid hq
  clear hx hq
  go_enter Tryz.func41, Tryz.ntmps41
  go_wp2_with fail
  refine (bmust_no HQ.out x _).mono ?_
  rintro e w1 ⟨rfl, rfl⟩
  go_wp2_with fail
  exact ⟨rfl, rfl, ((Below.refl _ _).alloc (Nat.le_refl _) _).alloc (by simp) _⟩

set_option maxHeartbeats 2000000 in
theorem gotL_ok (cs : Array Value) (hn : cs.size = 3) (h1 : cs.all (·.oneCell') = true) (w : World) :
    Calls Tryz.prog 43 #[.agg cs, .int .i64 0] w fun e w' => e = .returned (.agg cs) ∧ Below w.heap.size w w' := by
  have HN := Lib.hid hn
  have H1 := Lib.hid h1
  clear hn h1
  obtain ⟨zz, hzz⟩ : ∃ zz : Array Value, zz = #[.int .i64 0, .int .i64 0, .int .i64 0] := ⟨_, rfl⟩
  have ZN := Lib.hid (show zz.size = 3 by rw [hzz]; rfl)
  have ZZ := Lib.hid hzz
  clear hzz
  go_enter Tryz.func43, Tryz.ntmps43
  go_upto_region 1 with fail
  refine nameW ?_
  intro W hW
  obtain ⟨B, hB⟩ : ∃ B, B = w.heap.size := ⟨_, rfl⟩
  rw [← hB]
  have kc : Blk W B 35 cs := by rw [hW, hB]; exact (Blk.new w _ _).alloc _
  have kz : Blk W (B + 1) 35 zz := by
    have h := Blk.new (w.alloc (.cells cs 35)) 35 zz
    rw [ZZ.out] at h ⊢
    rw [hW, hB]
    simpa using h
  have gb : Below B w W := by rw [hW, hB]; exact ((Below.refl _ _).alloc (Nat.le_refl _) _).alloc (by simp) _
  have HB := Lib.hid hB
  clear hW hB
  go_wp2_with fail
  refine (bmust_ok 0 W).mono ?_
  rintro e w1 ⟨rfl, rfl⟩
  go_wp2_with first
    | ((with_reducible refine wpList_ld rowLa kc HN.out ?_ ?_); rotate_left; (rfl))
    | ((with_reducible refine wpList_st rowLa kz HN.out ZN.out H1.out ?_ ?_ ?_); rotate_left; (rfl); (rfl); intro w5 k5 g5 z5)
  exact bodyPost_ret (v := .agg cs) (results_blk rfl rowLa k5 HN.out rfl) rfl ⟨rfl, by rw [← HB.out]; exact gb.grown g5 (by have := gb.size; have := HB.out; omega) (fun q hq => by injection hq; omega)⟩
theorem gotL_bad (cs : Array Value) (x : Int) (hx : x ≠ 0) (w : World) :
    Calls Tryz.prog 43 #[.agg cs, .int .i64 x] w fun e w' => e = .panicked [{ v := bflt x, recovered := false }] ∧ Below w.heap.size w w' := by
  have hq : (x == (0 : Int)) = false := by simpa using hx
  have HQ := Lib.hid hq
  clear hx hq
  go_enter Tryz.func43, Tryz.ntmps43
  go_wp2_with fail
  refine (bmust_no HQ.out x _).mono ?_
  rintro e w1 ⟨rfl, rfl⟩
  go_wp2_with fail
  exact ⟨rfl, rfl, ((Below.refl _ _).alloc (Nat.le_refl _) _).alloc (by simp) _⟩

set_option maxHeartbeats 2000000 in
theorem gotM_ok (cs : Array Value) (hn : cs.size = 9) (h1 : cs.all (·.oneCell') = true) (w : World) :
    Calls Tryz.prog 46 #[.agg cs, .int .i64 0] w fun e w' => e = .returned (.agg cs) ∧ Below w.heap.size w w' := by
  have HN := Lib.hid hn
  have H1 := Lib.hid h1
  clear hn h1
  obtain ⟨zz, hzz⟩ : ∃ zz : Array Value, zz = #[.int .i64 0, .int .i64 0, .int .i64 0, .int .i64 0, .int .i64 0, .int .i64 0, .int .i64 0, .int .i64 0, .slice none 0 0] := ⟨_, rfl⟩
  have ZN := Lib.hid (show zz.size = 9 by rw [hzz]; rfl)
  have ZZ := Lib.hid hzz
  clear hzz
  go_enter Tryz.func46, Tryz.ntmps46
  go_upto_region 1 with fail
  refine nameW ?_
  intro W hW
  obtain ⟨B, hB⟩ : ∃ B, B = w.heap.size := ⟨_, rfl⟩
  rw [← hB]
  have kc : Blk W B 39 cs := by rw [hW, hB]; exact (Blk.new w _ _).alloc _
  have kz : Blk W (B + 1) 39 zz := by
    have h := Blk.new (w.alloc (.cells cs 39)) 39 zz
    rw [ZZ.out] at h ⊢
    rw [hW, hB]
    simpa using h
  have gb : Below B w W := by rw [hW, hB]; exact ((Below.refl _ _).alloc (Nat.le_refl _) _).alloc (by simp) _
  have HB := Lib.hid hB
  clear hW hB
  go_wp2_with fail
  refine (bmust_ok 0 W).mono ?_
  rintro e w1 ⟨rfl, rfl⟩
  go_wp2_with first
    | ((with_reducible refine wpList_ld rowM kc HN.out ?_ ?_); rotate_left; (rfl))
    | ((with_reducible refine wpList_st rowM kz HN.out ZN.out H1.out ?_ ?_ ?_); rotate_left; (rfl); (rfl); intro w5 k5 g5 z5)
  exact bodyPost_ret (v := .agg cs) (results_blk rfl rowM k5 HN.out rfl) rfl ⟨rfl, by rw [← HB.out]; exact gb.grown g5 (by have := gb.size; have := HB.out; omega) (fun q hq => by injection hq; omega)⟩
theorem gotM_bad (cs : Array Value) (x : Int) (hx : x ≠ 0) (w : World) :
    Calls Tryz.prog 46 #[.agg cs, .int .i64 x] w fun e w' => e = .panicked [{ v := bflt x, recovered := false }] ∧ Below w.heap.size w w' := by
  have hq : (x == (0 : Int)) = false := by simpa using hx
  have HQ := Lib.hid hq
  clear hx hq
  go_enter Tryz.func46, Tryz.ntmps46
  go_wp2_with fail
  refine (bmust_no HQ.out x _).mono ?_
  rintro e w1 ⟨rfl, rfl⟩
  go_wp2_with fail
  exact ⟨rfl, rfl, ((Below.refl _ _).alloc (Nat.le_refl _) _).alloc (by simp) _⟩
end Go.Proofs.YtocoohpekpkmkaaGreat

/- The walk of board's reader.number. -/
namespace Go.Proofs.YtocoohpekpkmkaaGreat
set_option linter.unusedVariables false
set_option linter.unusedSimpArgs false
set_option maxRecDepth 100000
open Go.RowKit
/-- what reading a number leaves -/
def BNum (w : World) (g : Nat) (bs : List UInt8) (e : Ending) (w' : World) : Prop :=
  w.grownBy w' (some g) ∧ match Vint.dec bs with
    | .ok (x, r) => e = .returned (.int .i64 (x : Nat)) ∧ ∃ A c, Rdr w' g A r.length c r 0
    | .error x => e = .panicked [{ v := bflt (x : Nat), recovered := false }]
theorem BNum.good {w w' : World} {g : Nat} {bs : List UInt8} {e : Ending} (h : BNum w g bs e w') {x : Nat} {r : List UInt8} (hd : Vint.dec bs = .ok (x, r)) : e = .returned (.int .i64 (x : Nat)) ∧ (∃ A c, Rdr w' g A r.length c r 0) ∧ w.grownBy w' (some g) := by
  obtain ⟨h1, h2⟩ := h
  rw [hd] at h2
  exact ⟨h2.1, h2.2, h1⟩
theorem BNum.bad {w w' : World} {g : Nat} {bs : List UInt8} {e : Ending} (h : BNum w g bs e w') {x : Nat} (hd : Vint.dec bs = .error x) : e = .panicked [{ v := bflt (x : Nat), recovered := false }] ∧ w.grownBy w' (some g) := by
  obtain ⟨h1, h2⟩ := h
  rw [hd] at h2
  exact ⟨h2, h1⟩
theorem grownBy_trans {w w1 w2 : World} {g : Nat} (h : w.grownBy w1 (some g)) (k : w1.grownBy w2 (some g)) : w.grownBy w2 (some g) :=
  ⟨k.os.trans h.os, k.tape.trans h.tape, k.output.trans h.output, Nat.le_trans h.size k.size, fun b hb hne => (k.block b (Nat.lt_of_lt_of_le hb h.size) hne).trans (h.block b hb hne)⟩
set_option maxHeartbeats 4000000 in
theorem bnum_any (g : Nat) (A : Option Addr) (n c : Nat) (bs : List UInt8) (w : World) (hR : Rdr w g A n c bs 0) :
    Calls Tryz.prog 55 #[.agg #[.pointer (some ⟨g, 0, none⟩)]] w (BNum w g bs) := by
  obtain ⟨W, hW⟩ : ∃ W, W = w.alloc (.cells #[.pointer (some ⟨g, 0, none⟩)] 110) := ⟨_, rfl⟩
  obtain ⟨s, hs⟩ : ∃ s, s = w.heap.size := ⟨_, rfl⟩
  have hBW : Below w.heap.size w W := by rw [hW]; exact (Below.refl _ _).alloc (Nat.le_refl _) _
  have hRW : Rdr W g A n c bs 0 := hR.below (hBW.mono (by have := hR.lt; omega))
  have ks : Blk W s 110 #[.pointer (some ⟨g, 0, none⟩)] := by rw [hW, hs]; exact Blk.new _ _ _
  have o0 : w.grownBy W (some g) := only_of_below hBW _
  have hgs : g < s := by rw [hs]; exact hR.lt
  have HW := Lib.hid hW
  have HS := Lib.hid hs
  have HIB := Lib.hid (int_any g A n c bs 0 W hRW)
  clear hW hs hR
  go_enter Tryz.func55, Tryz.ntmps55
  go_upto_region 1 with fail
  rw [← HW.out, ← HS.out]
  have hc0 : W.cell? ⟨s, 0, none⟩ = some (.pointer (some ⟨g, 0, none⟩)) := ks.cell 0
  go_wp2_with fail
  refine HIB.out.mono ?_
  rintro e w2 ⟨rfl, g1, A1, c1, r2⟩
  have s2 := ks.grown g1 (by intro h; injection h; omega)
  have o2 := grownBy_trans o0 g1
  obtain ⟨m, r, x, hI⟩ : ∃ m r x, Vint.intM bs 0 = (m, r, x) := ⟨_, _, _, rfl⟩
  rw [hI] at r2 ⊢
  simp only at r2 ⊢
  have HI := Lib.hid hI
  obtain ⟨okb, hok⟩ : ∃ okb, (((x : Nat) : Int) == 0) = okb := ⟨_, rfl⟩
  have HOK := Lib.hid hok
  clear g1 ks hc0 hI hok HIB hBW hRW o0
  go_upto_region 2 with fail
  refine wp_region_tailF 5 7 (fun L v w => v 1 = .pointer (some ⟨s, 0, none⟩) ∧ Below w2.heap.size w2 w ∧ (L 0 = true → v 7 = .pointer (some ⟨s, 0, none⟩)) ∧ (L 1 = true → v 8 = .pointer (some ⟨g, 0, none⟩)) ∧ (L 2 = true → v 9 = .int .i64 (x : Nat)) ∧ (L 3 = true → v 10 = .bool okb) ∧ (L 4 = true → v 11 = .pointer (some ⟨s, 0, none⟩)) ∧ (L 5 = true → v 12 = .pointer (some ⟨g, 0, none⟩)) ∧ (L 6 = true → v 13 = .int .i64 (x : Nat))) [7, 8, 9, 10, 11, 12, 13] (by kernel_rfl) (by kernel_rfl) (by kernel_rfl) (by kernel_rfl) (by kernel_rfl) (by kernel_rfl) ?h0 ?hst ?hend
  case h0 =>
    intro L h0
    have h0 : ∀ i, i < 7 → L i = false := h0
    exact ⟨rfl, (Below.refl _ _).drew, offF h0 (i := 0) (by decide), offF h0 (i := 1) (by decide), offF h0 (i := 2) (by decide), offF h0 (i := 3) (by decide), offF h0 (i := 4) (by decide), offF h0 (i := 5) (by decide), offF h0 (i := 6) (by decide)⟩
  case hst =>
    show FactSteps _ _ _ _ [0, 1, 2, 3, 4, 5, 6]
    refine @FactSteps.cons _ _ _ _ 0 _ [] _ rfl (by kernel_rfl) ?s0 ?_
    rotate_left
    refine @FactSteps.cons _ _ _ _ 1 _ [0] _ rfl (by kernel_rfl) ?s1 ?_
    rotate_left
    refine @FactSteps.cons _ _ _ _ 2 _ [1] _ rfl (by kernel_rfl) ?s2 ?_
    rotate_left
    refine @FactSteps.cons _ _ _ _ 3 _ [2] _ rfl (by kernel_rfl) ?s3 ?_
    rotate_left
    refine @FactSteps.cons _ _ _ _ 4 _ [] _ rfl (by kernel_rfl) ?s4 ?_
    rotate_left
    refine @FactSteps.cons _ _ _ _ 5 _ [4] _ rfl (by kernel_rfl) ?s5 ?_
    rotate_left
    refine @FactSteps.cons _ _ _ _ 6 _ [5, 2] _ rfl (by kernel_rfl) ?s6 ?_
    rotate_left
    exact FactSteps.nil
    case s0 =>
      rintro L a v w hv hg hL hd hcl ⟨e1, hb, f0, f1, f2, f3, f4, f5, f6⟩ K hK
      refine step_do rfl ?_
      clear hv
      go_simp
      exact hK.out _ _ ⟨e1, hb, fun _ => rfl, f1, f2, f3, f4, f5, f6⟩
    case s1 =>
      rintro L a v w hv hg hL hd hcl ⟨e1, hb, f0, f1, f2, f3, f4, f5, f6⟩ K hK
      have g0 := f0 (hd 0 (by decide))
      have cs : w.cell? ⟨s, 0, none⟩ = some (.pointer (some ⟨g, 0, none⟩)) := (s2.below hb s2.lt).cell 0
      refine step_do rfl ?_
      clear hv
      go_simp
      exact hK.out _ _ ⟨e1, hb, f0, fun _ => rfl, f2, f3, f4, f5, f6⟩
    case s2 =>
      rintro L a v w hv hg hL hd hcl ⟨e1, hb, f0, f1, f2, f3, f4, f5, f6⟩ K hK
      have g1 := f1 (hd 1 (by decide))
      refine step_do rfl ?_
      clear hv
      go_simp
      refine (err_any g A1 _ c1 r x w (r2.below (hb.mono (by have := r2.lt; omega)))).mono ?_
      rintro e wy ⟨rfl, rfl⟩
      exact hK.out _ _ ⟨e1, hb, f0, f1, fun _ => rfl, f3, f4, f5, f6⟩
    case s3 =>
      rintro L a v w hv hg hL hd hcl ⟨e1, hb, f0, f1, f2, f3, f4, f5, f6⟩ K hK
      have hk := HOK.out
      refine step_do rfl ?_
      clear hv
      go_simp
      exact hK.out _ _ ⟨e1, hb, f0, f1, f2, fun _ => rfl, f4, f5, f6⟩
    case s4 =>
      rintro L a v w hv hg hL hd hcl ⟨e1, hb, f0, f1, f2, f3, f4, f5, f6⟩ K hK
      refine step_do rfl ?_
      clear hv
      go_simp
      exact hK.out _ _ ⟨e1, hb, f0, f1, f2, f3, fun _ => rfl, f5, f6⟩
    case s5 =>
      rintro L a v w hv hg hL hd hcl ⟨e1, hb, f0, f1, f2, f3, f4, f5, f6⟩ K hK
      have g4 := f4 (hd 4 (by decide))
      have cs : w.cell? ⟨s, 0, none⟩ = some (.pointer (some ⟨g, 0, none⟩)) := (s2.below hb s2.lt).cell 0
      refine step_do rfl ?_
      clear hv
      go_simp
      exact hK.out _ _ ⟨e1, hb, f0, f1, f2, f3, f4, fun _ => rfl, f6⟩
    case s6 =>
      rintro L a v w hv hg hL hd hcl ⟨e1, hb, f0, f1, f2, f3, f4, f5, f6⟩ K hK
      have g5 := f5 (hd 5 (by decide))
      refine step_do rfl ?_
      clear hv
      go_simp
      refine (err_any g A1 _ c1 r x w (r2.below (hb.mono (by have := r2.lt; omega)))).mono ?_
      rintro e wy ⟨rfl, rfl⟩
      exact hK.out _ _ ⟨e1, hb, f0, f1, f2, f3, f4, f5, fun _ => rfl⟩
  case hend =>
  rintro L v w3 hall ⟨e1, hb, f0, f1, f2, f3, f4, f5, f6⟩
  have hL : ∀ i, i < 7 → L i = true := hall
  have f0 := f0 (hL 0 (by decide))
  have f1 := f1 (hL 1 (by decide))
  have f2 := f2 (hL 2 (by decide))
  have f3 := f3 (hL 3 (by decide))
  have f4 := f4 (hL 4 (by decide))
  have f5 := f5 (hL 5 (by decide))
  have f6 := f6 (hL 6 (by decide))
  simp only [finA, List.foldl_cons, List.foldl_nil, Act.put, List.setIfInBounds_toArray, List.set_cons_succ, List.set_cons_zero, f0, f1, f3, f4, f5, f2, f6]
  have o3 : w.grownBy w3 (some g) := grownBy_trans o2 (only_of_below hb _)
  have r3 := r2.below (hb.mono (by have := r2.lt; omega))
  clear e1 f0 f1 f2 f3 f4 f5 f6 hL hall hb
  show wpList _ _ _ [_] _ _
  cases hd : Vint.dec bs with
  | ok p =>
    obtain ⟨y, rr⟩ := p
    have hy := HI.out
    rw [Vint.intM_ok hd] at hy
    injection hy with h1 h2
    injection h2 with h2 h3
    subst h1 h2 h3
    obtain rfl : okb = true := HOK.out.symm.trans rfl
    have HD := Lib.hid hd
    clear hd
    go_wp2_with fail
    refine (bmust_ok _ _).mono ?_
    rintro e w4 ⟨rfl, rfl⟩
    go_wp2_with fail
    go_ret
    refine ⟨o3, ?_⟩
    rw [HD.out]
    exact ⟨rfl, A1, c1, r3⟩
  | error y =>
    have hy := HI.out
    rw [Vint.intM_bad hd] at hy
    have hne := Vint.dec_err hd
    injection hy with h1 h2
    injection h2 with h2 h3
    subst h1 h2 h3
    obtain rfl : okb = false := by
      rw [← HOK.out, beq_eq_false_iff_ne]
      omega
    have HD := Lib.hid hd
    clear hd hne
    go_wp2_with fail
    refine (bmust_bad _ _).mono ?_
    rintro e w4 ⟨rfl, rfl⟩
    go_wp2_with fail
    refine ⟨rfl, o3, ?_⟩
    rw [HD.out]
end Go.Proofs.YtocoohpekpkmkaaGreat

/- The walk of board's reader.rows, whatever the row's function does. -/
namespace Go.Proofs.YtocoohpekpkmkaaGreat
set_option linter.unusedVariables false
set_option linter.unusedSimpArgs false
set_option maxRecDepth 100000
open Go.RowKit
theorem Blk.keptOnly {F : Nat → Prop} {w w' : World} {b : Nat} {t : TypeId} {cs : Array Value} (h : Blk w b t cs) (o : Only F w w') (hn : ¬ F b) : Blk w' b t cs := (o.block b h.lt hn).trans h
namespace Bo
variable {σ : Type}
/-- rows of numbers, each with a place and 1 ahead, up to a 0; the first place is read -/
def rowsE (step : Nat → σ → List UInt8 → Except Nat (σ × List UInt8)) : Nat → Nat → σ → Nat → List UInt8 → Except Nat (σ × List UInt8)
  | 0, _, _, _, _ => .error 4
  | k + 1, last, st, n, r => if n = 0 then .ok (st, r) else if last < n ∧ n ≤ 8 then
      match step (n - 1) st r with
      | .error y => .error y
      | .ok (st', r') => match Vint.dec r' with
        | .error y => .error y
        | .ok (n', r'') => rowsE step k n st' n' r''
    else .error 4
def rows (step : Nat → σ → List UInt8 → Except Nat (σ × List UInt8)) (st : σ) (bs : List UInt8) : Except Nat (σ × List UInt8) :=
  match Vint.dec bs with
  | .error x => .error x
  | .ok (n, r) => rowsE step 9 0 st n r
theorem rowsE_end (step : Nat → σ → List UInt8 → Except Nat (σ × List UInt8)) (k last : Nat) (st : σ) (r : List UInt8) : rowsE step (k + 1) last st 0 r = .ok (st, r) := by
  unfold rowsE
  rw [if_pos rfl]
theorem rowsE_bad (step : Nat → σ → List UInt8 → Except Nat (σ × List UInt8)) (k last : Nat) (st : σ) {n : Nat} (r : List UInt8) (h : n ≠ 0) (h2 : ¬ (last < n ∧ n ≤ 8)) : rowsE step (k + 1) last st n r = .error 4 := by
  unfold rowsE
  rw [if_neg h, if_neg h2]
theorem rowsE_step {step : Nat → σ → List UInt8 → Except Nat (σ × List UInt8)} (k last : Nat) (st : σ) {n : Nat} (r : List UInt8) (h : n ≠ 0) (h2 : last < n ∧ n ≤ 8) {y : Nat} (hs : step (n - 1) st r = .error y) : rowsE step (k + 1) last st n r = .error y := by
  unfold rowsE
  rw [if_neg h, if_pos h2, hs]
theorem rowsE_num {step : Nat → σ → List UInt8 → Except Nat (σ × List UInt8)} (k last : Nat) (st : σ) {n : Nat} (r : List UInt8) (h : n ≠ 0) (h2 : last < n ∧ n ≤ 8) {st' : σ} {r' : List UInt8} (hs : step (n - 1) st r = .ok (st', r')) {y : Nat} (hd : Vint.dec r' = .error y) : rowsE step (k + 1) last st n r = .error y := by
  unfold rowsE
  rw [if_neg h, if_pos h2, hs]
  simp only [hd]
theorem rowsE_on {step : Nat → σ → List UInt8 → Except Nat (σ × List UInt8)} (k last : Nat) (st : σ) {n : Nat} (r : List UInt8) (h : n ≠ 0) (h2 : last < n ∧ n ≤ 8) {st' : σ} {r' : List UInt8} (hs : step (n - 1) st r = .ok (st', r')) {n' : Nat} {r'' : List UInt8} (hd : Vint.dec r' = .ok (n', r'')) : rowsE step (k + 1) last st n r = rowsE step k n st' n' r'' := by
  rw [rowsE, if_neg h, if_pos h2, hs]
  simp only [hd]
end Bo
theorem rowRd30 : RowT Tryz.prog 110 1 := ⟨_, Tryz.underlying110, rfl, by kernel_rfl⟩
/-- what a step of reading leaves -/
def StepB {σ : Type} (g : Nat) (F : Nat → Prop) (J : σ → World → Prop) (R : Except Nat (σ × List UInt8)) (w : World) (e : Ending) (w' : World) : Prop :=
  Only F w w' ∧ match R with
    | .ok (st', r) => e = .returned (.tuple #[]) ∧ (∃ A c, Rdr w' g A r.length c r 0) ∧ J st' w'
    | .error y => e = .panicked [{ v := bflt (y : Nat), recovered := false }]
theorem StepB.good {σ : Type} {g : Nat} {F : Nat → Prop} {J : σ → World → Prop} {R : Except Nat (σ × List UInt8)} {w w' : World} {e : Ending} (h : StepB g F J R w e w') {st' : σ} {r : List UInt8} (hr : R = .ok (st', r)) :
    e = .returned (.tuple #[]) ∧ (∃ A c, Rdr w' g A r.length c r 0) ∧ J st' w' ∧ Only F w w' := by
  subst hr
  exact ⟨h.2.1, h.2.2.1, h.2.2.2, h.1⟩
theorem StepB.bad {σ : Type} {g : Nat} {F : Nat → Prop} {J : σ → World → Prop} {R : Except Nat (σ × List UInt8)} {w w' : World} {e : Ending} (h : StepB g F J R w e w') {y : Nat} (hr : R = .error y) :
    e = .panicked [{ v := bflt (y : Nat), recovered := false }] ∧ Only F w w' := by
  subst hr
  exact ⟨h.2, h.1⟩
set_option maxHeartbeats 600000 in
theorem rows_any {σ : Type} (step : Nat → σ → List UInt8 → Except Nat (σ × List UInt8)) (J : σ → World → Prop) (g : Nat) (F : Nat → Prop) (hFg : F g) (fid : FuncId) (cap : Array Value)
    (hk : ∀ args w, (callFunc fid args).run Tryz.prog w = .ok (.enter fid args) w)
    (hJ : ∀ st w w', J st w → w.grownBy w' (some g) → J st w')
    (hclo : ∀ (p : Nat) st bs A n c w, p < 8 → Rdr w g A n c bs 0 → J st w → (∀ k, F k → k < w.heap.size) → Calls Tryz.prog fid (#[.int .i64 (p : Nat)] ++ cap) w (StepB g F J (step p st bs) w))
    (A : Option Addr) (n c : Nat) (bs : List UInt8) (st : σ) (w : World) (hR : Rdr w g A n c bs 0) (hJ0 : J st w) (hFw : ∀ k, F k → k < w.heap.size) :
    Calls Tryz.prog 53 #[.agg #[.pointer (some ⟨g, 0, none⟩)], .int .i64 8, .func (.func fid) #[] cap] w (StepB g F J (Bo.rows step st bs) w) := by
  have HCLO := Lib.hid hclo
  have HJ := Lib.hid hJ
  have HF := Lib.hid hFg
  have HFW := Lib.hid hFw
  obtain ⟨W, hW⟩ : ∃ W, W = w.alloc (.cells #[.pointer (some ⟨g, 0, none⟩)] 110) := ⟨_, rfl⟩
  obtain ⟨s, hs⟩ : ∃ s, s = w.heap.size := ⟨_, rfl⟩
  have hBW : Below w.heap.size w W := by rw [hW]; exact (Below.refl _ _).alloc (Nat.le_refl _) _
  have hRW : Rdr W g A n c bs 0 := hR.below (hBW.mono (by have := hR.lt; omega))
  have ks : Blk W s 110 #[.pointer (some ⟨g, 0, none⟩)] := by rw [hW, hs]; exact Blk.new _ _ _
  have o0 : Only F w W := Only.of_below _ hBW
  have hgs : g < s := by rw [hs]; exact hR.lt
  have hJW : J st W := hJ _ _ _ hJ0 (only_of_below hBW _)
  have HNS := Lib.hid (fun h : F s => by have := hFw s h; omega : ¬ F s)
  have HW := Lib.hid hW
  have HS := Lib.hid hs
  clear hW hs hR hclo hJ hFg hFw hJ0 hBW
  go_enter Tryz.func53, Tryz.ntmps53
  go_upto_region 2 with fail
  rw [← HW.out, ← HS.out]
  go_wp2_with ((with_reducible refine wpList_ld (n := 1) rowRd30 ks rfl ?_ ?_); rotate_left; (rfl))
  refine (bnum_any g A n c bs W hRW).mono ?_
  intro e w1 hB
  cases hd : Vint.dec bs with
  | error y =>
    obtain ⟨rfl, gg⟩ := hB.bad hd
    have o1 := o0.trans (Only.of_grown (F := F) gg HF.out) (Grows.refl _ _)
    have HE := Lib.hid (show Bo.rows step st bs = .error y by unfold Bo.rows; rw [hd])
    clear hd hB
    go_wp2_with fail
    refine ⟨rfl, o1, ?_⟩
    rw [HE.out]
  | ok p0 =>
    obtain ⟨n0, r0⟩ := p0
    obtain ⟨rfl, ⟨A1, c1, r1⟩, gg⟩ := hB.good hd
    have o1 := o0.trans (Only.of_grown (F := F) gg HF.out) (Grows.refl _ _)
    have ks1 := ks.grown gg (by intro h; injection h; omega)
    have j1 := HJ.out _ _ _ hJW gg
    have HE := Lib.hid (show Bo.rows step st bs = Bo.rowsE step 9 0 st n0 r0 by unfold Bo.rows; rw [hd])
    have N0 := Lib.hid (show n0 ≤ 1099511627776 from (Vint.dec_ok hd).2)
    clear hd hB ks o0 hJW gg hRW
    go_wp2_with fail
    go_loopw [6, 7] (fun la nn wr => ∃ (k last n' : Nat) (st' : σ) (r' : List UInt8) (A' : Option Addr) (c' : Nat), la = .int .i64 (last : Nat) ∧ nn = .int .i64 (n' : Nat) ∧ last ≤ 8 ∧ 9 ≤ k + last ∧ n' ≤ 1099511627776 ∧ Bo.rows step st bs = Bo.rowsE step k last st' n' r' ∧ Rdr wr g A' r'.length c' r' 0 ∧ J st' wr ∧ Only F w wr ∧ Blk wr s 110 #[.pointer (some ⟨g, 0, none⟩)]) (fun la _ _ => 9 - (intOf la).toNat)
    case atStart => exact ⟨9, 0, n0, st, r0, A1, c1, rfl, rfl, by omega, by omega, N0.out, HE.out, r1, j1, o1, ks1⟩
    case round =>
      obtain ⟨k, last, n', st', r', A', c', rfl, rfl, hl8, hkl, hnb, he, hr, hj, ho, kr⟩ := hrel
      have HJ2 := Lib.hid hj
      have HR2 := Lib.hid hr
      have HO2 := Lib.hid ho
      have HFR := Lib.hid (fun k h => Nat.lt_of_lt_of_le (HFW.out k h) ho.size : ∀ k, F k → k < wr.heap.size)
      obtain ⟨k, rfl⟩ : ∃ j, k = j + 1 := ⟨k - 1, by omega⟩
      have HEE := Lib.hid he
      clear hj hr ho he ks1 r1 j1 o1 HE
      by_cases hz : n' = 0
      · subst hz
        have hee := HEE.out
        rw [Bo.rowsE_end] at hee
        have HE3 := Lib.hid hee
        clear hee
        go_wp2_with fail
        go_end0
        refine ⟨HO2.out, ?_⟩
        rw [HE3.out]
        exact ⟨rfl, ⟨A', c', HR2.out⟩, HJ2.out⟩
      · have d0 : ((n' : Int) != 0) = true := by rw [bne_iff_ne]; omega
        by_cases h2 : last < n' ∧ n' ≤ 8
        · have d1 : decide ((last : Int) < (n' : Int)) = true := decide_eq_true (by omega)
          have d2 : decide ((n' : Int) ≤ 8) = true := decide_eq_true (by omega)
          have ew : IntKind.i64.wrap ((n' : Int) - 1) = ((n' - 1 : Nat) : Int) := by rw [IntWalk.i64_in _ (by omega)]; omega
          have HZ := Lib.hid hz
          have H2 := Lib.hid h2
          have h3 := h2.1
          have h4 := h2.2
          clear h2
          go_wp2_with fail
          refine (bmust_ok _ _).mono ?_
          rintro e w4 ⟨rfl, rfl⟩
          go_wp2_with fail
          refine (show Calls Tryz.prog fid (#[.int .i64 ((n' - 1 : Nat) : Int)] ++ cap) wr _ from HCLO.out (n' - 1) st' r' A' _ c' wr (by have := H2.out; omega) HR2.out HJ2.out HFR.out).mono ?_
          intro e w2 hs
          cases hst : step (n' - 1) st' r' with
          | error y =>
            obtain ⟨rfl, o2⟩ := hs.bad hst
            have o3 := HO2.out.trans o2 (Grows.refl _ _)
            have HE3 := Lib.hid (HEE.out.trans (Bo.rowsE_step k last st' r' HZ.out H2.out hst))
            clear hs hst o2
            go_wp2_with fail
            refine ⟨rfl, o3, ?_⟩
            rw [HE3.out]
          | ok p1 =>
            obtain ⟨st2, r2⟩ := p1
            obtain ⟨rfl, ⟨A2, c2, R2⟩, j2, o2⟩ := hs.good hst
            have o3 := HO2.out.trans o2 (Grows.refl _ _)
            have kr2 := kr.keptOnly o2 HNS.out
            clear hs o2 kr
            go_wp2_with ((with_reducible refine wpList_ld (n := 1) rowRd30 kr2 rfl ?_ ?_); rotate_left; (rfl))
            refine (bnum_any g A2 _ c2 r2 w2 R2).mono ?_
            intro e w3 hB
            cases hd : Vint.dec r2 with
            | error y =>
              obtain ⟨rfl, gg⟩ := hB.bad hd
              have o4 := o3.trans (Only.of_grown (F := F) gg HF.out) (Grows.refl _ _)
              have HE3 := Lib.hid (HEE.out.trans (Bo.rowsE_num k last st' r' HZ.out H2.out hst hd))
              clear hd hB hst
              go_wp2_with fail
              refine ⟨rfl, o4, ?_⟩
              rw [HE3.out]
            | ok p2 =>
              obtain ⟨n3, r3⟩ := p2
              obtain ⟨rfl, ⟨A3, c3, R3⟩, gg⟩ := hB.good hd
              have o4 := o3.trans (Only.of_grown (F := F) gg HF.out) (Grows.refl _ _)
              have kr3 := kr2.grown gg (by intro h; injection h; omega)
              have j3 := HJ.out _ _ _ j2 gg
              have N3 := Lib.hid (show n3 ≤ 1099511627776 from (Vint.dec_ok hd).2)
              have HE3 := Lib.hid (HEE.out.trans (Bo.rowsE_on k last st' r' HZ.out H2.out hst hd))
              clear hd hB hst o3 kr2 j2 gg R2
              go_wp2_with fail
              go_roundw
              case rel => exact ⟨k, n', n3, st2, r3, A3, c3, rfl, rfl, H2.out.2, by have := H2.out; omega, N3.out, HE3.out, R3, j3, o4, kr3⟩
              case measure => have := H2.out; simp [intOf]; omega
        · have HZ := Lib.hid hz
          have HE3 := Lib.hid (HEE.out.trans (Bo.rowsE_bad step k last st' r' hz h2))
          by_cases h3 : last < n'
          · have d1 : decide ((last : Int) < (n' : Int)) = true := decide_eq_true (by omega)
            have d2 : decide ((n' : Int) ≤ 8) = false := decide_eq_false (by omega)
            have h4 : ¬ n' ≤ 8 := by omega
            clear h2
            go_wp2_with fail
            refine (bmust_bad _ _).mono ?_
            rintro e w4 ⟨rfl, rfl⟩
            go_wp2_with fail
            refine ⟨rfl, HO2.out, ?_⟩
            rw [HE3.out]
            show Ending.panicked [{ v := bflt 4, recovered := false }] = Ending.panicked [{ v := bflt ((4 : Nat) : Int), recovered := false }]
            rw [show ((4 : Nat) : Int) = 4 from rfl]
          · have d1 : decide ((last : Int) < (n' : Int)) = false := decide_eq_false (by omega)
            clear h2
            go_wp2_with fail
            refine (bmust_bad _ _).mono ?_
            rintro e w4 ⟨rfl, rfl⟩
            go_wp2_with fail
            refine ⟨rfl, HO2.out, ?_⟩
            rw [HE3.out]
            show Ending.panicked [{ v := bflt 4, recovered := false }] = Ending.panicked [{ v := bflt ((4 : Nat) : Int), recovered := false }]
            rw [show ((4 : Nat) : Int) = 4 from rfl]
end Go.Proofs.YtocoohpekpkmkaaGreat

/- The walk of the closure of board's reader.writes. -/
namespace Go.Proofs.YtocoohpekpkmkaaGreat
set_option linter.unusedVariables false
set_option linter.unusedSimpArgs false
set_option maxRecDepth 100000
open Go.RowKit
theorem tc_at16 {l : List Int} (h : l.length = 16) {i : Nat} (hi : i < 16) : (tc l)[i]? = some (.int .i64 (l.getD i 0)) := by
  unfold tc
  rw [List.getElem?_toArray, List.getElem?_map, List.getD_eq_getElem?_getD, List.getElem?_eq_getElem (by omega)]
  rfl
namespace Bo
/-- a tally's row -/
def stepT (p : Nat) (t : List Int) (bs : List UInt8) : Except Nat (List Int × List UInt8) :=
  match Vint.dec bs with
  | .error y => .error y
  | .ok (a, r) => match Vint.dec r with
    | .error y => .error y
    | .ok (c, r') => if 0 < a + c then .ok ((t.set p (a : Nat)).set (8 + p) (c : Nat), r') else .error 4
end Bo
/-- where the tally that is read stands -/
def JT (g sR X : Nat) (t : List Int) (w : World) : Prop := Blk w sR 110 #[.pointer (some ⟨g, 0, none⟩)] ∧ Blk w X 34 (tc t) ∧ t.length = 16
def FT (g X : Nat) : Nat → Prop := fun k => k = g ∨ k = X
theorem JT.grown {g sR X : Nat} {t : List Int} {w w' : World} (h : JT g sR X t w) (h1 : g < sR) (h2 : g < X) (hg : w.grownBy w' (some g)) : JT g sR X t w' :=
  ⟨h.1.grown hg (by intro e; injection e with e; omega), h.2.1.grown hg (by intro e; injection e with e; omega), h.2.2⟩
set_option maxHeartbeats 800000 in
theorem wr1_any (g sR X : Nat) (hs : g < sR) (hX : g < X) (hsX : sR ≠ X) (p : Nat) (t : List Int) (bs : List UInt8) (A : Option Addr) (n c : Nat) (w : World) (hp : p < 8) (hR : Rdr w g A n c bs 0) (hJ : JT g sR X t w) :
    Calls Tryz.prog 80 #[.int .i64 (p : Nat), .pointer (some ⟨sR, 0, none⟩), .pointer (some ⟨X, 0, none⟩)] w (StepB g (FT g X) (JT g sR X) (Bo.stepT p t bs) w) := by
  obtain ⟨kr, kx, ht⟩ := hJ
  have HT := Lib.hid ht
  have FG := Lib.hid (show FT g X g from .inl rfl)
  have FX := Lib.hid (show FT g X X from .inr rfl)
  obtain ⟨R, hRR⟩ : ∃ R, R = Bo.stepT p t bs := ⟨_, rfl⟩
  rw [← hRR]
  have HRR := Lib.hid hRR
  clear ht hRR
  go_enter Tryz.func80, Tryz.ntmps80
  go_wp2_with ((with_reducible refine wpList_ld (n := 1) rowRd30 kr rfl ?_ ?_); rotate_left; (rfl))
  refine (bnum_any g A n c bs w hR).mono ?_
  intro e w1 hB
  cases hd : Vint.dec bs with
  | error y =>
    obtain ⟨rfl, gg⟩ := hB.bad hd
    have HE := Lib.hid (show R = .error y by rw [HRR.out]; unfold Bo.stepT; rw [hd])
    have o1 := Only.of_grown (F := FT g X) gg FG.out
    clear hd hB gg
    go_wp2_with fail
    refine ⟨rfl, o1, ?_⟩
    rw [HE.out]
  | ok q0 =>
  obtain ⟨a1, r1⟩ := q0
  obtain ⟨rfl, ⟨A1, c1, R1⟩, gg⟩ := hB.good hd
  have o1 := Only.of_grown (F := FT g X) gg FG.out
  have kr1 := kr.grown gg (by intro e; injection e with e; omega)
  have kx1 := kx.grown gg (by intro e; injection e with e; omega)
  have cx := kx1.tcell (i := p) (by rw [HT.out]; omega)
  have fx := kx1.free p
  have b1 := (Vint.dec_ok hd).2
  have kx2 : Blk (w1.setCell ⟨X, p, none⟩ (.int .i64 (a1 : Nat))) X 34 (tc (t.set p (a1 : Nat))) := by
    have h := kx1.set_ p (.int .i64 (a1 : Nat))
    rwa [tc_set] at h
  have kr2 := kr1.far (p := ⟨X, p, none⟩) hsX (.int .i64 (a1 : Nat))
  have R2 : Rdr (w1.setCell ⟨X, p, none⟩ (.int .i64 (a1 : Nat))) g A1 _ c1 r1 0 := R1.below ((Below.refl (g + 1) w1).setCell (by show g + 1 ≤ X; omega) _)
  have o2 := o1.setCell (p := ⟨X, p, none⟩) (.inl FX.out) (.int .i64 (a1 : Nat))
  generalize t.getD p 0 = old at cx
  obtain ⟨w2, hw2⟩ : ∃ w2, w2 = w1.setCell ⟨X, p, none⟩ (.int .i64 (a1 : Nat)) := ⟨_, rfl⟩
  rw [← hw2] at kx2 kr2 R2 o2
  have HW2 := Lib.hid hw2
  have HD1 := Lib.hid hd
  clear hd hB gg kr kx kr1 R1 o1 hw2
  go_upto_region 1 with fail
  rw [← HW2.out]
  clear cx fx kx1
  go_wp2_with ((with_reducible refine wpList_ld (n := 1) rowRd30 kr2 rfl ?_ ?_); rotate_left; (rfl))
  refine (bnum_any g A1 _ c1 r1 w2 R2).mono ?_
  intro e w3 hB
  cases hd : Vint.dec r1 with
  | error y =>
    obtain ⟨rfl, gg⟩ := hB.bad hd
    have HE := Lib.hid (show R = .error y by rw [HRR.out]; unfold Bo.stepT; rw [HD1.out]; simp only [hd])
    have o3 := o2.trans (Only.of_grown (F := FT g X) gg FG.out) (Grows.refl _ _)
    clear hd hB gg o2
    go_wp2_with fail
    refine ⟨rfl, o3, ?_⟩
    rw [HE.out]
  | ok q1 =>
  obtain ⟨a2, r2⟩ := q1
  obtain ⟨rfl, ⟨A2, c2, R3⟩, gg⟩ := hB.good hd
  have o3 := o2.trans (Only.of_grown (F := FT g X) gg FG.out) (Grows.refl _ _)
  have kr3 := kr2.grown gg (by intro e; injection e with e; omega)
  have kx3 := kx2.grown gg (by intro e; injection e with e; omega)
  have b2 := (Vint.dec_ok hd).2
  obtain ⟨t1, ht1⟩ : ∃ t1, t1 = t.set p (a1 : Nat) := ⟨_, rfl⟩
  have l1 : t1.length = 16 := by rw [ht1, List.length_set]; exact HT.out
  rw [← ht1] at kx3
  have HT1 := Lib.hid ht1
  have cx := kx3.tcell (i := 8 + p) (by rw [l1]; omega)
  have fx := kx3.free (8 + p)
  have kx4 : Blk (w3.setCell ⟨X, 8 + p, none⟩ (.int .i64 (a2 : Nat))) X 34 (tc (t1.set (8 + p) (a2 : Nat))) := by
    have h := kx3.set_ (8 + p) (.int .i64 (a2 : Nat))
    rwa [tc_set] at h
  have kr4 := kr3.far (p := ⟨X, 8 + p, none⟩) hsX (.int .i64 (a2 : Nat))
  have R4 : Rdr (w3.setCell ⟨X, 8 + p, none⟩ (.int .i64 (a2 : Nat))) g A2 _ c2 r2 0 := R3.below ((Below.refl (g + 1) w3).setCell (by show g + 1 ≤ X; omega) _)
  have o4 := o3.setCell (p := ⟨X, 8 + p, none⟩) (.inl FX.out) (.int .i64 (a2 : Nat))
  obtain ⟨w4, hw4⟩ : ∃ w4, w4 = w3.setCell ⟨X, 8 + p, none⟩ (.int .i64 (a2 : Nat)) := ⟨_, rfl⟩
  rw [← hw4] at kx4 kr4 R4 o4
  have HW4 := Lib.hid hw4
  have HD2 := Lib.hid hd
  have HL1 := Lib.hid l1
  generalize t1.getD (8 + p) 0 = old2 at cx
  clear hd hB gg kr2 kx2 o2 R2 kr3 R3 o3 hw4 ht1 l1
  go_upto_region 2 with fail
  rw [← HW4.out]
  clear cx fx kx3
  obtain ⟨t2, ht2⟩ : ∃ t2, t2 = t1.set (8 + p) (a2 : Nat) := ⟨_, rfl⟩
  rw [← ht2] at kx4
  have l2 : t2.length = 16 := by rw [ht2, List.length_set]; exact HL1.out
  have ca0 := Lib.hid (show (tc t2)[p]? = some (.int .i64 (a1 : Nat)) by
    rw [tc_at16 l2 (by omega), ht2, HT1.out]
    congr 2
    rw [List.getD_eq_getElem?_getD, List.getElem?_set_ne (by omega), List.getElem?_set_self (by rw [HT.out]; omega)]
    rfl)
  have cb0 := Lib.hid (show (tc t2)[8 + p]? = some (.int .i64 (a2 : Nat)) by
    rw [tc_at16 l2 (by omega), ht2]
    congr 2
    rw [List.getD_eq_getElem?_getD, List.getElem?_set_self (by rw [HL1.out]; omega)]
    rfl)
  have kx := kx4
  have hp8 : (p : Int) < 8 := by omega
  have HSUM := Lib.hid (show IntKind.i64.wrap ((a1 : Int) + (a2 : Int)) = ((a1 + a2 : Nat) : Int) by unfold Vint.top at b1 b2; rw [IntWalk.i64_in _ (by omega)]; omega)
  obtain ⟨okb, hok⟩ : ∃ okb, decide ((0 : Int) < (a1 : Int) + (a2 : Int)) = okb := ⟨_, rfl⟩
  have HOK := Lib.hid hok
  have HT2 := Lib.hid ht2
  have HL2 := Lib.hid l2
  clear kx4 ht2 l2 hok b1 b2
  refine wp_region_tailF 8 10 (fun L v w => v 0 = .int .i64 (p : Nat) ∧ v 2 = .pointer (some ⟨X, 0, none⟩) ∧ Below w4.heap.size w4 w ∧ (L 0 = true → v 14 = .int .i64 (p : Nat)) ∧ (L 1 = true → v 15 = .pointer (some ⟨X, 0, none⟩)) ∧ (L 2 = true → v 16 = .pointer (some ⟨X, p, none⟩)) ∧ (L 3 = true → v 17 = .int .i64 (a1 : Nat)) ∧ (L 4 = true → v 18 = .int .i64 (p : Nat)) ∧ (L 5 = true → v 19 = .pointer (some ⟨X, 8, none⟩)) ∧ (L 6 = true → v 20 = .pointer (some ⟨X, 8 + p, none⟩)) ∧ (L 7 = true → v 21 = .int .i64 (a2 : Nat)) ∧ (L 8 = true → v 22 = .int .i64 ((a1 + a2 : Nat) : Int)) ∧ (L 9 = true → v 23 = .bool okb)) [14, 15, 16, 17, 18, 19, 20, 21, 22, 23] (by kernel_rfl) (by kernel_rfl) (by kernel_rfl) (by kernel_rfl) (by kernel_rfl) (by kernel_rfl) ?h0 ?hst ?hend
  case h0 =>
    intro L h0
    have h0 : ∀ i, i < 10 → L i = false := h0
    exact ⟨rfl, rfl, (Below.refl _ _).drew, offF h0 (i := 0) (by decide), offF h0 (i := 1) (by decide), offF h0 (i := 2) (by decide), offF h0 (i := 3) (by decide), offF h0 (i := 4) (by decide), offF h0 (i := 5) (by decide), offF h0 (i := 6) (by decide), offF h0 (i := 7) (by decide), offF h0 (i := 8) (by decide), offF h0 (i := 9) (by decide)⟩
  case hst =>
    show FactSteps _ _ _ _ [0, 1, 2, 3, 4, 5, 6, 7, 8, 9]
    refine @FactSteps.cons _ _ _ _ 0 _ [] _ rfl (by kernel_rfl) ?s0 ?_
    rotate_left
    refine @FactSteps.cons _ _ _ _ 1 _ [] _ rfl (by kernel_rfl) ?s1 ?_
    rotate_left
    refine @FactSteps.cons _ _ _ _ 2 _ [1, 0] _ rfl (by kernel_rfl) ?s2 ?_
    rotate_left
    refine @FactSteps.cons _ _ _ _ 3 _ [2] _ rfl (by kernel_rfl) ?s3 ?_
    rotate_left
    refine @FactSteps.cons _ _ _ _ 4 _ [] _ rfl (by kernel_rfl) ?s4 ?_
    rotate_left
    refine @FactSteps.cons _ _ _ _ 5 _ [] _ rfl (by kernel_rfl) ?s5 ?_
    rotate_left
    refine @FactSteps.cons _ _ _ _ 6 _ [5, 4] _ rfl (by kernel_rfl) ?s6 ?_
    rotate_left
    refine @FactSteps.cons _ _ _ _ 7 _ [6] _ rfl (by kernel_rfl) ?s7 ?_
    rotate_left
    refine @FactSteps.cons _ _ _ _ 8 _ [3, 7] _ rfl (by kernel_rfl) ?s8 ?_
    rotate_left
    refine @FactSteps.cons _ _ _ _ 9 _ [8] _ rfl (by kernel_rfl) ?s9 ?_
    rotate_left
    exact FactSteps.nil
    case s0 =>
      rintro L a v w hv hg hL hd hcl ⟨e0, e2, hb, f0, f1, f2, f3, f4, f5, f6, f7, f8, f9⟩ K hK
      refine step_do rfl ?_
      clear hv
      go_simp
      exact hK.out _ _ ⟨e0, e2, hb, fun _ => rfl, f1, f2, f3, f4, f5, f6, f7, f8, f9⟩
    case s1 =>
      rintro L a v w hv hg hL hd hcl ⟨e0, e2, hb, f0, f1, f2, f3, f4, f5, f6, f7, f8, f9⟩ K hK
      refine step_do rfl ?_
      clear hv
      go_simp
      exact hK.out _ _ ⟨e0, e2, hb, f0, fun _ => rfl, f2, f3, f4, f5, f6, f7, f8, f9⟩
    case s2 =>
      rintro L a v w hv hg hL hd hcl ⟨e0, e2, hb, f0, f1, f2, f3, f4, f5, f6, f7, f8, f9⟩ K hK
      have g0 := f0 (hd 0 (by decide))
      have g1 := f1 (hd 1 (by decide))
      refine step_do rfl ?_
      clear hv
      go_simp
      exact hK.out _ _ ⟨e0, e2, hb, f0, f1, fun _ => rfl, f3, f4, f5, f6, f7, f8, f9⟩
    case s3 =>
      rintro L a v w hv hg hL hd hcl ⟨e0, e2, hb, f0, f1, f2, f3, f4, f5, f6, f7, f8, f9⟩ K hK
      have g2 := f2 (hd 2 (by decide))
      have ca : w.cell? ⟨X, p, none⟩ = some (.int .i64 (a1 : Nat)) := (kx.below hb kx.lt).cell _ |>.trans ca0.out
      refine step_do rfl ?_
      clear hv
      go_simp
      exact hK.out _ _ ⟨e0, e2, hb, f0, f1, f2, fun _ => rfl, f4, f5, f6, f7, f8, f9⟩
    case s4 =>
      rintro L a v w hv hg hL hd hcl ⟨e0, e2, hb, f0, f1, f2, f3, f4, f5, f6, f7, f8, f9⟩ K hK
      refine step_do rfl ?_
      clear hv
      go_simp
      exact hK.out _ _ ⟨e0, e2, hb, f0, f1, f2, f3, fun _ => rfl, f5, f6, f7, f8, f9⟩
    case s5 =>
      rintro L a v w hv hg hL hd hcl ⟨e0, e2, hb, f0, f1, f2, f3, f4, f5, f6, f7, f8, f9⟩ K hK
      refine step_do rfl ?_
      clear hv
      go_simp
      exact hK.out _ _ ⟨e0, e2, hb, f0, f1, f2, f3, f4, fun _ => rfl, f6, f7, f8, f9⟩
    case s6 =>
      rintro L a v w hv hg hL hd hcl ⟨e0, e2, hb, f0, f1, f2, f3, f4, f5, f6, f7, f8, f9⟩ K hK
      have g4 := f4 (hd 4 (by decide))
      have g5 := f5 (hd 5 (by decide))
      refine step_do rfl ?_
      clear hv
      go_simp
      exact hK.out _ _ ⟨e0, e2, hb, f0, f1, f2, f3, f4, f5, fun _ => rfl, f7, f8, f9⟩
    case s7 =>
      rintro L a v w hv hg hL hd hcl ⟨e0, e2, hb, f0, f1, f2, f3, f4, f5, f6, f7, f8, f9⟩ K hK
      have g6 := f6 (hd 6 (by decide))
      have cb : w.cell? ⟨X, 8 + p, none⟩ = some (.int .i64 (a2 : Nat)) := (kx.below hb kx.lt).cell _ |>.trans cb0.out
      refine step_do rfl ?_
      clear hv
      go_simp
      exact hK.out _ _ ⟨e0, e2, hb, f0, f1, f2, f3, f4, f5, f6, fun _ => rfl, f8, f9⟩
    case s8 =>
      rintro L a v w hv hg hL hd hcl ⟨e0, e2, hb, f0, f1, f2, f3, f4, f5, f6, f7, f8, f9⟩ K hK
      have g3 := f3 (hd 3 (by decide))
      have g7 := f7 (hd 7 (by decide))
      have hw := HSUM.out
      refine step_do rfl ?_
      clear hv
      go_simp
      exact hK.out _ _ ⟨e0, e2, hb, f0, f1, f2, f3, f4, f5, f6, f7, fun _ => rfl, f9⟩
    case s9 =>
      rintro L a v w hv hg hL hd hcl ⟨e0, e2, hb, f0, f1, f2, f3, f4, f5, f6, f7, f8, f9⟩ K hK
      have g8 := f8 (hd 8 (by decide))
      have hk := HOK.out
      refine step_do rfl ?_
      clear hv
      go_simp
      exact hK.out _ _ ⟨e0, e2, hb, f0, f1, f2, f3, f4, f5, f6, f7, f8, fun _ => rfl⟩
  case hend =>
  rintro L v w5 hall ⟨e0, e2, hb, f0, f1, f2, f3, f4, f5, f6, f7, f8, f9⟩
  have hL : ∀ i, i < 10 → L i = true := hall
  have f0 := f0 (hL 0 (by decide))
  have f1 := f1 (hL 1 (by decide))
  have f2 := f2 (hL 2 (by decide))
  have f3 := f3 (hL 3 (by decide))
  have f4 := f4 (hL 4 (by decide))
  have f5 := f5 (hL 5 (by decide))
  have f6 := f6 (hL 6 (by decide))
  have f7 := f7 (hL 7 (by decide))
  have f8 := f8 (hL 8 (by decide))
  have f9 := f9 (hL 9 (by decide))
  simp only [finA, List.foldl_cons, List.foldl_nil, Act.put, List.setIfInBounds_toArray, List.set_cons_succ, List.set_cons_zero, f0, f1, f2, f3, f4, f5, f6, f7, f8, f9]
  show wpList _ _ _ [_] _ _
  have kr5 := kr4.below hb kr4.lt
  have kx5 := kx.below hb kx.lt
  have R5 := R4.below (hb.mono (by have := R4.lt; omega))
  have o5 := o4.trans (Only.of_below (FT g X) hb) (Grows.refl _ _)
  clear e0 e2 f0 f1 f2 f3 f4 f5 f6 f7 f8 f9 hL hall hb
  cases okb
  case true =>
    have HE := Lib.hid (show R = .ok (t2, r2) by rw [HRR.out]; unfold Bo.stepT; rw [HD1.out]; simp only [HD2.out]; rw [if_pos (by have := of_decide_eq_true HOK.out; omega), HT2.out, HT1.out])
    go_wp2_with fail
    refine (bmust_ok _ _).mono ?_
    rintro e w6 ⟨rfl, rfl⟩
    go_wp2_with fail
    go_end0
    refine ⟨o5, ?_⟩
    rw [HE.out]
    exact ⟨rfl, ⟨A2, c2, R5⟩, kr5, kx5, HL2.out⟩
  case false =>
    have HE := Lib.hid (show R = .error 4 by rw [HRR.out]; unfold Bo.stepT; rw [HD1.out]; simp only [HD2.out]; rw [if_neg (by have := of_decide_eq_false HOK.out; omega)])
    go_wp2_with fail
    refine (bmust_bad _ _).mono ?_
    rintro e w6 ⟨rfl, rfl⟩
    go_wp2_with fail
    refine ⟨rfl, o5, ?_⟩
    rw [HE.out]
    show Ending.panicked [{ v := bflt 4, recovered := false }] = Ending.panicked [{ v := bflt ((4 : Nat) : Int), recovered := false }]
    rw [show ((4 : Nat) : Int) = 4 from rfl]
end Go.Proofs.YtocoohpekpkmkaaGreat

/- The walk of board's reader.writes. -/
namespace Go.Proofs.YtocoohpekpkmkaaGreat
set_option linter.unusedVariables false
set_option linter.unusedSimpArgs false
set_option maxRecDepth 100000
open Go.RowKit
theorem only_grownBy {g : Nat} {w w' : World} (h : Only (fun k => k = g) w w') : w.grownBy w' (some g) := ⟨h.os, h.tape, h.output, h.size, fun k hk hne => h.block k hk (fun e => hne (by rw [e]))⟩
/-- what reading a value leaves, the value told by f -/
def ReadB {σ : Type} (g : Nat) (f : σ → World → Value → Prop) (R : Except Nat (σ × List UInt8)) (w : World) (e : Ending) (w' : World) : Prop :=
  w.grownBy w' (some g) ∧ match R with
    | .ok (st', r) => ∃ v, e = .returned v ∧ f st' w' v ∧ ∃ A c, Rdr w' g A r.length c r 0
    | .error y => e = .panicked [{ v := bflt (y : Nat), recovered := false }]
theorem ReadB.good {σ : Type} {g : Nat} {f : σ → World → Value → Prop} {R : Except Nat (σ × List UInt8)} {w w' : World} {e : Ending} (h : ReadB g f R w e w') {st' : σ} {r : List UInt8} (hr : R = .ok (st', r)) :
    ∃ v, e = .returned v ∧ f st' w' v ∧ (∃ A c, Rdr w' g A r.length c r 0) ∧ w.grownBy w' (some g) := by
  subst hr
  obtain ⟨h1, v, h2, h3, h4⟩ := h
  exact ⟨v, h2, h3, h4, h1⟩
theorem ReadB.bad {σ : Type} {g : Nat} {f : σ → World → Value → Prop} {R : Except Nat (σ × List UInt8)} {w w' : World} {e : Ending} (h : ReadB g f R w e w') {y : Nat} (hr : R = .error y) :
    e = .panicked [{ v := bflt (y : Nat), recovered := false }] ∧ w.grownBy w' (some g) := by
  subst hr
  exact ⟨h.2, h.1⟩
def TalV (t : List Int) (_ : World) (v : Value) : Prop := v = .agg (tc t) ∧ t.length = 16
set_option maxHeartbeats 800000 in
theorem writes_any (g : Nat) (A : Option Addr) (n c : Nat) (bs : List UInt8) (w : World) (hR : Rdr w g A n c bs 0) :
    Calls Tryz.prog 52 #[.agg #[.pointer (some ⟨g, 0, none⟩)]] w (ReadB g TalV (Bo.rows Bo.stepT Tally.zero bs) w) := by
  have hmf : ∀ (fn : Fn) (first cap : Array Value) (w : World), (Instr.makeFunc fn first cap).run Tryz.prog w = .ok (.func fn first cap) w := fun _ _ _ _ => rfl
  have hck : ∀ args w, (callFunc 80 args).run Tryz.prog w = .ok (.enter 80 args) w := by
    intro args w
    simp [go_sem]
  obtain ⟨s, hs⟩ : ∃ s, s = w.heap.size := ⟨_, rfl⟩
  have hgs : g < s := by rw [hs]; exact hR.lt
  obtain ⟨R, hRR⟩ : ∃ R, R = Bo.rows Bo.stepT Tally.zero bs := ⟨_, rfl⟩
  have HRR := Lib.hid hRR
  have HS := Lib.hid hs
  have HR := Lib.hid hR
  rw [← hRR]
  clear hRR hR hs
  go_enter Tryz.func52, Tryz.ntmps52
  go_upto_region 1 with fail
  refine nameW ?_
  intro W hW
  rw [← HS.out]
  have ks : Blk W s 110 #[.pointer (some ⟨g, 0, none⟩)] := by rw [hW, HS.out]; exact (Blk.new _ _ _).alloc _
  have kx : Blk W (s + 1) 34 (tc Tally.zero) := by
    have h := Blk.new (w.alloc (.cells #[.pointer (some ⟨g, 0, none⟩)] 110)) 34 (tc Tally.zero)
    rw [zero_tc] at h
    rw [zero_tc, hW, HS.out]
    simpa using h
  have hBW : Below w.heap.size w W := by rw [hW]; exact ((Below.refl _ _).alloc (Nat.le_refl _) _).alloc (by simp) _
  have hRW : Rdr W g A n c bs 0 := HR.out.below (hBW.mono (by have := HR.out.lt; omega))
  have hrows := rows_any Bo.stepT (JT g s (s + 1)) g (FT g (s + 1)) (show FT g (s + 1) g from .inl rfl) 80 #[.pointer (some ⟨s, 0, none⟩), .pointer (some ⟨s + 1, 0, none⟩)] hck
    (fun st w w' h hg => h.grown hgs (by omega) hg)
    (fun p st bs A n c w hp hr hj _ => wr1_any g s (s + 1) hgs (by omega) (by omega) p st bs A n c w hp hr hj)
    A n c bs Tally.zero W hRW ⟨ks, kx, rfl⟩ (fun k hk => by
      rcases hk with rfl | rfl
      · exact hRW.lt
      · exact kx.lt)
  have HROWS := Lib.hid hrows
  have HBW := Lib.hid hBW
  clear hW hrows hBW kx
  go_wp2_with ((with_reducible refine wpList_ld (n := 1) rowRd30 ks rfl ?_ ?_); rotate_left; (rfl))
  refine HROWS.out.mono ?_
  intro e w1 hB
  have og : ∀ w', Only (FT g (s + 1)) W w' → w.grownBy w' (some g) := fun w' o => only_grownBy ((Only.of_below _ HBW.out).trans o (fun k hk => by
    rcases hk with h | h
    · exact .inl h
    · exact .inr (by have := HS.out; omega)))
  have OG := Lib.hid og
  clear og HROWS
  rw [← HRR.out] at hB
  cases hr : R with
  | error y =>
    obtain ⟨rfl, o⟩ := hB.bad hr
    have o1 := OG.out _ o
    clear hB o
    subst hr
    go_wp2_with fail
    exact ⟨rfl, o1, rfl⟩
  | ok p =>
    obtain ⟨t, r⟩ := p
    obtain ⟨rfl, ⟨A1, c1, R1⟩, ⟨_, kx, ht⟩, o⟩ := hB.good hr
    have o1 := OG.out _ o
    have HT := Lib.hid ht
    have HZ := Lib.hid (show (tc t).size = 16 by rw [tc_size, ht])
    clear hB o ht
    subst hr
    go_wp2_with first
      | ((with_reducible refine wpList_ld rowT kx HZ.out ?_ ?_); rotate_left; (rfl))
      | ((with_reducible refine wpList_st rowT kx HZ.out HZ.out (tc_one t) ?_ ?_ ?_); rotate_left; (rfl); (rfl); intro w2 k2 g2 z2)
    have R2 : Rdr w2 g A1 r.length c1 r 0 := R1.below (only_Below g2 (by omega) (by have := R1.lt; omega))
    have o2 : w.grownBy w2 (some g) := only_grownBy ((Only.mk o1.os o1.tape o1.output o1.size (fun k hk hn => o1.block k hk (fun e => hn (by injection e)))).trans (Only.of_grown (F := fun k => k = s + 1) g2 rfl) (fun k hk => .inr (by have := HS.out; omega)))
    exact bodyPost_ret (v := .agg (tc t)) (results_blk rfl rowT k2 HZ.out rfl) rfl ⟨o2, _, rfl, ⟨rfl, HT.out⟩, A1, c1, R2⟩
end Go.Proofs.YtocoohpekpkmkaaGreat

/- The walk of the closure of board's Get: a plan is read. -/
namespace Go.Proofs.YtocoohpekpkmkaaGreat
set_option linter.unusedVariables false
set_option linter.unusedSimpArgs false
set_option maxRecDepth 100000
open Go.RowKit
open Reg (La Vl)
namespace Bo
/-- a plan's row -/
def stepP (p : Nat) (l : List La) (bs : List UInt8) : Except Nat (List La × List UInt8) :=
  match Vint.dec bs with
  | .error y => .error y
  | .ok (a, r) => match Vint.dec r with
    | .error y => .error y
    | .ok (c, r') => match Vint.dec r' with
      | .error y => .error y
      | .ok (d, r'') => .ok (l.set p ((a : Nat), (c : Nat), (d : Nat)), r'')
/-- a board whose plans are read -/
def pb (t : List Int) (l : List La) : Bd := ⟨t, l, [0, 0, 0, 0, 0, 0, 0, 0], []⟩
end Bo
def JP (g sR Y : Nat) (t : List Int) (l : List La) (w : World) : Prop := Blk w sR 110 #[.pointer (some ⟨g, 0, none⟩)] ∧ Blk w Y 41 (bc (Bo.pb t l) (.slice none 0 0)) ∧ Bo.Shaped (Bo.pb t l)
theorem JP.grown {g sR Y : Nat} {t : List Int} {l : List La} {w w' : World} (h : JP g sR Y t l w) (h1 : g < sR) (h2 : g < Y) (hg : w.grownBy w' (some g)) : JP g sR Y t l w' :=
  ⟨h.1.grown hg (by intro e; injection e with e; omega), h.2.1.grown hg (by intro e; injection e with e; omega), h.2.2⟩
set_option maxHeartbeats 800000 in
theorem get1_any (g sR Y : Nat) (hs : g < sR) (hY : g < Y) (hsY : sR ≠ Y) (t : List Int) (p : Nat) (l : List La) (bs : List UInt8) (A : Option Addr) (n c : Nat) (w : World) (hp : p < 8) (hR : Rdr w g A n c bs 0) (hJ : JP g sR Y t l w) :
    Calls Tryz.prog 54 #[.int .i64 (p : Nat), .pointer (some ⟨sR, 0, none⟩), .pointer (some ⟨Y, 0, none⟩)] w (StepB g (FT g Y) (JP g sR Y t) (Bo.stepP p l bs) w) := by
  obtain ⟨kr, ky, hsh⟩ := hJ
  have HSH := Lib.hid hsh
  have FG := Lib.hid (show FT g Y g from .inl rfl)
  have FY := Lib.hid (show FT g Y Y from .inr rfl)
  have FGY := Lib.hid fun (w w' : World) (h : w.grownBy w' (some g)) => (Only.of_grown h (.inl rfl) : Only (FT g Y) w w')
  obtain ⟨R, hRR⟩ : ∃ R, R = Bo.stepP p l bs := ⟨_, rfl⟩
  rw [← hRR]
  have HRR := Lib.hid hRR
  have hp8 : (p : Int) < 8 := by omega
  clear hsh hRR
  go_enter Tryz.func54, Tryz.ntmps54
  go_wp2_with ((with_reducible refine wpList_ld (n := 1) rowRd30 kr rfl ?_ ?_); rotate_left; (rfl))
  refine (bnum_any g A n c bs w hR).mono ?_
  intro e w1 hB
  cases hd : Vint.dec bs with
  | error y =>
    obtain ⟨rfl, gg⟩ := hB.bad hd
    have HE := Lib.hid (show R = .error y by rw [HRR.out]; unfold Bo.stepP; rw [hd])
    have o1 := FGY.out _ _ gg
    clear hd hB gg
    go_wp2_with fail
    refine ⟨rfl, o1, ?_⟩
    rw [HE.out]
  | ok q0 =>
  obtain ⟨a1, r1⟩ := q0
  obtain ⟨rfl, ⟨A1, c1, R1⟩, gg⟩ := hB.good hd
  have o1 := FGY.out _ _ gg
  have kr1 := kr.grown gg (by intro e; injection e with e; omega)
  have ky1 := ky.grown gg (by intro e; injection e with e; omega)
  have HD1 := Lib.hid hd
  clear hd hB gg kr ky
  go_upto_region 1 with ((with_reducible refine wpList_st (cs := #[.int .i64 (a1 : Nat), .int .i64 0, .int .i64 0]) rowLa (Blk.new _ _ _) (th_size _ _ _) ?_ (th_one _ _ _) ?_ ?_ ?_); (rfl); rotate_left; (rfl); (rfl); intro w2 kq g2 z2)
  obtain ⟨X, hX⟩ : ∃ X, X = w1.heap.size := ⟨_, rfl⟩
  rw [← hX] at kq ⊢
  have bq : Below w1.heap.size w1 w2 := new_below g2
  have kr2 := kr1.below bq kr1.lt
  have ky2 := ky1.below bq ky1.lt
  have R2 := R1.below (bq.mono (by have := R1.lt; omega))
  have o2 := o1.trans (Only.of_below (FT g Y) bq) (Grows.refl _ _)
  have hXg : g < X := by rw [hX]; exact R1.lt
  have hXY : Y < X := by rw [hX]; exact ky1.lt
  have hXs : sR < X := by rw [hX]; exact kr1.lt
  have hXw : w.heap.size ≤ X := by rw [hX]; exact o1.size
  clear g2 z2 bq kr1 ky1 R1 o1 hX
  go_wp2_with ((with_reducible refine wpList_ld (n := 1) rowRd30 kr2 rfl ?_ ?_); rotate_left; (rfl))
  refine (bnum_any g A1 _ c1 r1 w2 R2).mono ?_
  intro e w3 hB
  cases hd : Vint.dec r1 with
  | error y =>
    obtain ⟨rfl, gg⟩ := hB.bad hd
    have HE := Lib.hid (show R = .error y by rw [HRR.out]; unfold Bo.stepP; rw [HD1.out]; simp only [hd])
    have o3 := o2.trans (FGY.out _ _ gg) (Grows.refl _ _)
    clear hd hB gg
    go_wp2_with fail
    refine ⟨rfl, o3, ?_⟩
    rw [HE.out]
  | ok q1 =>
  obtain ⟨a2, r2⟩ := q1
  obtain ⟨rfl, ⟨A2, c2, R3⟩, gg⟩ := hB.good hd
  have o3 := o2.trans (FGY.out _ _ gg) (Grows.refl _ _)
  have kr3 := kr2.grown gg (by intro e; injection e with e; omega)
  have ky3 := ky2.grown gg (by intro e; injection e with e; omega)
  have kq3 := kq.grown gg (by intro e; injection e with e; omega)
  have c1' := kq3.cell 1
  have f1 := kq3.free 1
  have kq4 : Blk (w3.setCell ⟨X, 1, none⟩ (.int .i64 (a2 : Nat))) X 35 #[.int .i64 (a1 : Nat), .int .i64 (a2 : Nat), .int .i64 0] := kq3.set_ 1 (.int .i64 (a2 : Nat))
  have kr4 := kr3.far (p := ⟨X, 1, none⟩) (by show sR ≠ X; omega) (.int .i64 (a2 : Nat))
  have ky4 := ky3.far (p := ⟨X, 1, none⟩) (by show Y ≠ X; omega) (.int .i64 (a2 : Nat))
  have R4 : Rdr (w3.setCell ⟨X, 1, none⟩ (.int .i64 (a2 : Nat))) g A2 _ c2 r2 0 := R3.below ((Below.refl (g + 1) w3).setCell (by show g + 1 ≤ X; omega) _)
  have o4 := o3.setCell (p := ⟨X, 1, none⟩) (.inr hXw) (.int .i64 (a2 : Nat))
  obtain ⟨w4, hw4⟩ : ∃ w4, w4 = w3.setCell ⟨X, 1, none⟩ (.int .i64 (a2 : Nat)) := ⟨_, rfl⟩
  rw [← hw4] at kq4 kr4 ky4 R4 o4
  have HW4 := Lib.hid hw4
  have HD2 := Lib.hid hd
  clear hd hB gg kr2 ky2 kq R2 o2 kr3 ky3 R3 o3 hw4
  go_upto_region 2 with fail
  rw [← HW4.out]
  clear c1' f1 kq3
  go_wp2_with ((with_reducible refine wpList_ld (n := 1) rowRd30 kr4 rfl ?_ ?_); rotate_left; (rfl))
  refine (bnum_any g A2 _ c2 r2 w4 R4).mono ?_
  intro e w5 hB
  cases hd : Vint.dec r2 with
  | error y =>
    obtain ⟨rfl, gg⟩ := hB.bad hd
    have HE := Lib.hid (show R = .error y by rw [HRR.out]; unfold Bo.stepP; rw [HD1.out]; simp only [HD2.out, hd])
    have o5 := o4.trans (FGY.out _ _ gg) (Grows.refl _ _)
    clear hd hB gg
    go_wp2_with fail
    refine ⟨rfl, o5, ?_⟩
    rw [HE.out]
  | ok q2 =>
  obtain ⟨a3, r3⟩ := q2
  obtain ⟨rfl, ⟨A3, c3, R5⟩, gg⟩ := hB.good hd
  have HE := Lib.hid (show R = .ok (l.set p ((a1 : Nat), (a2 : Nat), (a3 : Nat)), r3) by rw [HRR.out]; unfold Bo.stepP; rw [HD1.out]; simp only [HD2.out, hd])
  have o5 := o4.trans (FGY.out _ _ gg) (Grows.refl _ _)
  have kr5 := kr4.grown gg (by intro e; injection e with e; omega)
  have ky5 := ky4.grown gg (by intro e; injection e with e; omega)
  have kq5 := kq4.grown gg (by intro e; injection e with e; omega)
  have c2' := kq5.cell 2
  have f2 := kq5.free 2
  have kq6 : Blk (w5.setCell ⟨X, 2, none⟩ (.int .i64 (a3 : Nat))) X 35 #[.int .i64 (a1 : Nat), .int .i64 (a2 : Nat), .int .i64 (a3 : Nat)] := kq5.set_ 2 (.int .i64 (a3 : Nat))
  have kr6 := kr5.far (p := ⟨X, 2, none⟩) (by show sR ≠ X; omega) (.int .i64 (a3 : Nat))
  have ky6 := ky5.far (p := ⟨X, 2, none⟩) (by show Y ≠ X; omega) (.int .i64 (a3 : Nat))
  have R6 : Rdr (w5.setCell ⟨X, 2, none⟩ (.int .i64 (a3 : Nat))) g A3 _ c3 r3 0 := R5.below ((Below.refl (g + 1) w5).setCell (by show g + 1 ≤ X; omega) _)
  have o6 := o5.setCell (p := ⟨X, 2, none⟩) (.inr hXw) (.int .i64 (a3 : Nat))
  obtain ⟨w6, hw6⟩ : ∃ w6, w6 = w5.setCell ⟨X, 2, none⟩ (.int .i64 (a3 : Nat)) := ⟨_, rfl⟩
  rw [← hw6] at kq6 kr6 ky6 R6 o6
  have HW6 := Lib.hid hw6
  clear hd hB gg kr4 ky4 kq4 R4 o4 kr5 ky5 R5 o5 hw6
  go_upto_region 3 with fail
  rw [← HW6.out]
  clear c2' f2 kq5
  have hth := ky6.there_ (o := 16 + p * 3) (n := 3) (by rw [bc_size HSH.out]; omega)
  go_wp2_with first
    | ((with_reducible refine wpList_ld rowLa kq6 (th_size _ _ _) ?_ ?_); rotate_left; (rfl))
    | ((with_reducible refine wpList_str (cs := #[.int .i64 (a1 : Nat), .int .i64 (a2 : Nat), .int .i64 (a3 : Nat)]) rowLa hth (th_size _ _ _) (th_one _ _ _) ?_ ?_ ?_); rotate_left; (rfl); (rfl); intro w9 hw9)
  go_end0
  have gS : w6.grownBy (w6.setCells Y (16 + p * 3) [.int .i64 (a1 : Nat), .int .i64 (a2 : Nat), .int .i64 (a3 : Nat)]) (some Y) := cells_grown w6 Y (16 + p * 3) [.int .i64 (a1 : Nat), .int .i64 (a2 : Nat), .int .i64 (a3 : Nat)]
  have hw9 : w9 = w6.setCells Y (16 + p * 3) [.int .i64 (a1 : Nat), .int .i64 (a2 : Nat), .int .i64 (a3 : Nat)] := hw9
  rw [← hw9] at gS
  have ky9 := ky6.setP HSH.out hp ((a1 : Nat), (a2 : Nat), (a3 : Nat))
  have ky9 : Blk w9 Y 41 (bc (Bo.pb t (l.set p ((a1 : Nat), (a2 : Nat), (a3 : Nat)))) (.slice none 0 0)) := by rw [hw9]; exact ky9
  have hB9 : Below (g + 1) w6 w9 := only_Below gS (by omega) (by have := R6.lt; omega)
  have R9 := R6.below hB9
  have kr9 := kr6.grown gS (by intro e; injection e with e; exact hsY e.symm)
  have o9 := o6.trans (Only.of_grown (F := FT g Y) gS FY.out) (Grows.refl _ _)
  clear gS
  subst hw9
  refine ⟨o9, ?_⟩
  rw [HE.out]
  exact ⟨rfl, ⟨A3, c3, R9⟩, kr9, ky9, HSH.out.t, by show (l.set p _).length = 8; rw [List.length_set]; exact HSH.out.p, HSH.out.u⟩
end Go.Proofs.YtocoohpekpkmkaaGreat

/- The walk of board's reader.notes. -/
namespace Go.Proofs.YtocoohpekpkmkaaGreat
set_option linter.unusedVariables false
set_option linter.unusedSimpArgs false
set_option maxRecDepth 100000
open Go.RowKit
open Reg (La Vl)
namespace Bo
def seenE : Nat → Nat → List Int → List UInt8 → Except Nat (List Int × List UInt8)
  | 0, _, U, bs => .ok (U, bs)
  | k + 1, i, U, bs => match Vint.dec bs with
    | .error y => .error y
    | .ok (x, r) => seenE k (i + 1) (U.set i (x : Nat)) r
def valE (bs : List UInt8) : Except Nat (Vl × List UInt8) :=
  match Vint.dec bs with
  | .error y => .error y
  | .ok (a, r) => match Vint.dec r with
    | .error y => .error y
    | .ok (c, r') => match Vint.dec r' with
      | .error y => .error y
      | .ok (d, r'') => .ok (((a : Nat), (c : Nat), (d : Nat)), r'')
def valsE : Nat → List Vl → List UInt8 → Except Nat (List Vl × List UInt8)
  | 0, l, bs => .ok (l, bs)
  | k + 1, l, bs => match valE bs with
    | .error y => .error y
    | .ok (v, r) => valsE k (l ++ [v]) r
def notesE (bs : List UInt8) : Except Nat ((List Int × List Vl) × List UInt8) :=
  match seenE 8 0 [0, 0, 0, 0, 0, 0, 0, 0] bs with
  | .error y => .error y
  | .ok (U, r) => match Vint.dec r with
    | .error y => .error y
    | .ok (n, r') => if n ≤ 8 then match valsE n [] r' with
        | .error y => .error y
        | .ok (l, r'') => .ok ((U, l), r'')
      else .error 6
end Bo
def ManV (p : List Int × List Vl) (w : World) (v : Value) : Prop := p.1.length = 8 ∧ p.2.length ≤ 8 ∧ ∃ A m c, v = .agg (uc p.1 (.slice A m c)) ∧ OwnV 84 w 0 A m c p.2
set_option maxHeartbeats 1600000 in
theorem notes_any (g : Nat) (A : Option Addr) (n c : Nat) (bs : List UInt8) (w : World) (hR : Rdr w g A n c bs 0) :
    Calls Tryz.prog 56 #[.agg #[.pointer (some ⟨g, 0, none⟩)]] w (ReadB g ManV (Bo.notesE bs) w) := by
  obtain ⟨s, hs⟩ : ∃ s, s = w.heap.size := ⟨_, rfl⟩
  have hgs : g < s := by rw [hs]; exact hR.lt
  obtain ⟨R, hRR⟩ : ∃ R, R = Bo.notesE bs := ⟨_, rfl⟩
  obtain ⟨R0, hR0⟩ : ∃ R0, R0 = Bo.seenE 8 0 [0, 0, 0, 0, 0, 0, 0, 0] bs := ⟨_, rfl⟩
  have HRR := Lib.hid hRR
  have HR0 := Lib.hid hR0
  have HS := Lib.hid hs
  have HR := Lib.hid hR
  rw [← hRR]
  have OG := Lib.hid fun (w' : World) (o : Only (fun k => k = g) w w') => only_grownBy o
  have OF := Lib.hid fun (w1 w2 : World) (h : w1.grownBy w2 (some g)) => (Only.of_grown h rfl : Only (fun k => k = g) w1 w2)
  clear hRR hR hs hR0
  go_enter Tryz.func56, Tryz.ntmps56
  go_upto_region 1 with fail
  refine nameW ?_
  intro W hW
  rw [← HS.out]
  have ks : Blk W s 110 #[.pointer (some ⟨g, 0, none⟩)] := by rw [hW, HS.out]; exact (Blk.new _ _ _).alloc _
  have kx : Blk W (s + 1) 39 (uc [0, 0, 0, 0, 0, 0, 0, 0] (.slice none 0 0)) := by
    have h := Blk.new (w.alloc (.cells #[.pointer (some ⟨g, 0, none⟩)] 110)) 39 #[.int .i64 0, .int .i64 0, .int .i64 0, .int .i64 0, .int .i64 0, .int .i64 0, .int .i64 0, .int .i64 0, .slice none 0 0]
    rw [hW, HS.out]
    simpa [uc] using h
  have hBW : Below w.heap.size w W := by rw [hW]; exact ((Below.refl _ _).alloc (Nat.le_refl _) _).alloc (by simp) _
  have hRW : Rdr W g A n c bs 0 := HR.out.below (hBW.mono (by have := HR.out.lt; omega))
  have o0 : Only (fun k => k = g) w W := Only.of_below _ hBW
  clear hW hBW
  go_wp2_with fail
  go_loopw [6] (fun i wr => ∃ (k j : Nat) (U : List Int) (r : List UInt8) (A' : Option Addr) (c' : Nat), i = .int .i64 (j : Nat) ∧ k + j = 8 ∧ R0 = Bo.seenE k j U r ∧ U.length = 8 ∧ Rdr wr g A' r.length c' r 0 ∧ Only (fun k => k = g) w wr ∧ Blk wr s 110 #[.pointer (some ⟨g, 0, none⟩)] ∧ Blk wr (s + 1) 39 (uc U (.slice none 0 0))) (fun i _ => 8 - (intOf i).toNat)
  case atStart => exact ⟨8, 0, _, bs, A, c, rfl, rfl, HR0.out, rfl, by have := hRW.2.1.1; subst this; exact hRW, o0, ks, kx⟩
  case round =>
    clear ks kx hRW o0
    obtain ⟨k, j, U, r, A1, c1, rfl, hkj, hR0, hU, R1, o1, kr1, kx1⟩ := hrel
    have HRE := Lib.hid hR0
    have HU := Lib.hid hU
    clear hR0 hU
    cases k with
    | succ k =>
      have hj8 : j < 8 := by omega
      have hj8' : (j : Int) < 8 := by omega
      go_wp2_with ((with_reducible refine wpList_ld (n := 1) rowRd30 kr1 rfl ?_ ?_); rotate_left; (rfl))
      refine (bnum_any g A1 _ c1 r wr R1).mono ?_
      intro e w2 hB
      cases hd : Vint.dec r with
      | error y =>
        obtain ⟨rfl, gg⟩ := hB.bad hd
        have HE := Lib.hid (show R = .error y by
          have h0 : R0 = .error y := by rw [HRE.out, Bo.seenE, hd]
          rw [HRR.out]; unfold Bo.notesE; rw [← HR0.out, h0])
        have o2 := OG.out _ (o1.trans (OF.out _ _ gg) (Grows.refl _ _))
        clear hd hB gg
        go_wp2_with fail
        refine ⟨rfl, o2, ?_⟩
        rw [HE.out]
      | ok q0 =>
        obtain ⟨x, r2⟩ := q0
        obtain ⟨rfl, ⟨A2, c2, R2⟩, gg⟩ := hB.good hd
        have HE := Lib.hid (show R0 = Bo.seenE k (j + 1) (U.set j (x : Nat)) r2 by rw [HRE.out, Bo.seenE, hd])
        have o2 := o1.trans (OF.out _ _ gg) (Grows.refl _ _)
        have kr2 := kr1.grown gg (by intro e; injection e with e; omega)
        have kx2 := kx1.grown gg (by intro e; injection e with e; omega)
        have cx := (kx2.cell j).trans (uc_at HU.out _ hj8)
        have fx := kx2.free j
        have kx3 := kx2.set_ j (.int .i64 (x : Nat))
        rw [uc_set HU.out _ hj8] at kx3
        have kr3 := kr2.far (p := ⟨s + 1, j, none⟩) (by show s ≠ s + 1; omega) (.int .i64 (x : Nat))
        have R3 : Rdr (w2.setCell ⟨s + 1, j, none⟩ (.int .i64 (x : Nat))) g A2 _ c2 r2 0 := R2.below ((Below.refl (g + 1) w2).setCell (by show g + 1 ≤ s + 1; omega) _)
        have o3 := o2.setCell (p := ⟨s + 1, j, none⟩) (.inr (by show w.heap.size ≤ s + 1; have := HS.out; omega)) (.int .i64 (x : Nat))
        generalize U.getD j 0 = old at cx
        have HH := Lib.hid (And.intro R3 (And.intro o3 (And.intro kr3 kx3)))
        clear hd hB gg o2 kr2 R2 kx3 kr3 R3 o3 kx1 kr1 R1 o1
        go_wp2_with fail
        go_roundw
        case rel => exact ⟨k, j + 1, _, r2, A2, c2, by go_num, by omega, HE.out, by rw [List.length_set]; exact HU.out, HH.out.1, HH.out.2.1, HH.out.2.2.1, HH.out.2.2.2⟩
        case measure => simp [intOf]; omega
    | zero =>
      obtain rfl : j = 8 := by omega
      go_wp2_with ((with_reducible refine wpList_ld (n := 1) rowRd30 kr1 rfl ?_ ?_); rotate_left; (rfl))
      refine (bnum_any g A1 _ c1 r wr R1).mono ?_
      intro e w2 hB
      have HUE := Lib.hid (show R0 = .ok (U, r) by rw [HRE.out, Bo.seenE])
      cases hd : Vint.dec r with
      | error y =>
        obtain ⟨rfl, gg⟩ := hB.bad hd
        have HE := Lib.hid (show R = .error y by rw [HRR.out]; unfold Bo.notesE; rw [← HR0.out, HUE.out]; simp only [hd])
        have o2 := OG.out _ (o1.trans (OF.out _ _ gg) (Grows.refl _ _))
        clear hd hB gg
        go_wp2_with fail
        refine ⟨rfl, o2, ?_⟩
        rw [HE.out]
      | ok q0 =>
      obtain ⟨m, r2⟩ := q0
      obtain ⟨rfl, ⟨A2, c2, R2⟩, gg⟩ := hB.good hd
      have o2 := o1.trans (OF.out _ _ gg) (Grows.refl _ _)
      have kr2 := kr1.grown gg (by intro e; injection e with e; omega)
      have kx2 := kx1.grown gg (by intro e; injection e with e; omega)
      have hmb := (Vint.dec_ok hd).2
      have HD := Lib.hid hd
      clear hd hB gg kr1 kx1 R1 o1
      by_cases hm8 : m ≤ 8
      case neg =>
        have HE := Lib.hid (show R = .error 6 by rw [HRR.out]; unfold Bo.notesE; rw [← HR0.out, HUE.out]; simp only [HD.out]; rw [if_neg hm8])
        have d1 : decide ((m : Int) ≤ 8) = false := decide_eq_false (by omega)
        have o3 := OG.out _ o2
        clear hmb
        go_wp2_with fail
        refine (bmust_bad _ _).mono ?_
        rintro e w4 ⟨rfl, rfl⟩
        go_wp2_with fail
        refine ⟨rfl, o3, ?_⟩
        rw [HE.out]
        show Ending.panicked [{ v := bflt 6, recovered := false }] = Ending.panicked [{ v := bflt ((6 : Nat) : Int), recovered := false }]
        rw [show ((6 : Nat) : Int) = 6 from rfl]
      case pos =>
      have d1 : decide ((m : Int) ≤ 8) = true := decide_eq_true (by omega)
      obtain ⟨Rv, hRv⟩ : ∃ Rv, Rv = Bo.valsE m [] r2 := ⟨_, rfl⟩
      have HRV := Lib.hid hRv
      clear hRv
      go_wp2_with fail
      refine (bmust_ok _ _).mono ?_
      rintro e w4 ⟨rfl, rfl⟩
      go_wp2_with fail
      have HM8 := Lib.hid hm8
      clear d1 hmb
      go_loopw [21] (fun i wq => ∃ (k j : Nat) (l : List Vl) (r' : List UInt8) (A' : Option Addr) (c' : Nat) (AS : Option Addr) (cS : Nat), i = .int .i64 (j : Nat) ∧ k + j = m ∧ Rv = Bo.valsE k l r' ∧ l.length = j ∧ Rdr wq g A' r'.length c' r' 0 ∧ Only (fun k => k = g) w wq ∧ Blk wq s 110 #[.pointer (some ⟨g, 0, none⟩)] ∧ OwnV 84 wq w.heap.size AS j cS l ∧ Blk wq (s + 1) 39 (uc U (.slice AS j cS))) (fun i _ => m - (intOf i).toNat)
      case atStart => exact ⟨m, 0, [], r2, A2, c2, none, 0, rfl, by omega, HRV.out, rfl, R2, o2, kr2, OwnV.nil _ _ _, kx2⟩
      case round =>
        clear R2 o2 kr2 kx2
        obtain ⟨k, j, l, r', A3, c3, AS, cS, rfl, hkj, hRv, hlj, R3, o3, kr3, ho3, kx3⟩ := hrel
        have HRE := Lib.hid hRv
        have HLJ := Lib.hid hlj
        clear hRv hlj
        cases k with
        | zero =>
          obtain rfl : j = m := by omega
          have HE := Lib.hid (show R = .ok ((U, l), r') by rw [HRR.out]; unfold Bo.notesE; rw [← HR0.out, HUE.out]; simp only [HD.out]; rw [if_pos HM8.out, ← HRV.out, HRE.out]; simp only [Bo.valsE])
          have SZ := Lib.hid (uc_size HU.out (.slice AS j cS))
          have S1 := Lib.hid (uc_one (U := U) (s := .slice AS j cS) rfl)
          have hne : AS.map (·.block) ≠ some (s + 1) := own_ne ho3.2 kx3 (by decide)
          go_wp2_with first
            | ((with_reducible refine wpList_ld rowM kx3 SZ.out ?_ ?_); rotate_left; (rfl))
            | ((with_reducible refine wpList_st rowM kx3 SZ.out SZ.out S1.out ?_ ?_ ?_); rotate_left; (rfl); (rfl); intro w5 k5 g5 z5)
          have R5 : Rdr w5 g A3 _ c3 r' 0 := R3.below (only_Below g5 (by omega) (by have := R3.lt; omega))
          have o5 := OG.out _ (o3.trans (Only.of_grown (F := fun k => k = s + 1) g5 rfl) (fun k hk => .inr (by have := HS.out; omega)))
          have ho5 := (ho3.grown g5 (.inr hne)).mono (base' := 0) (Nat.zero_le _)
          refine bodyPost_ret (v := .agg (uc U (.slice AS j cS))) (results_blk rfl rowM k5 SZ.out rfl) rfl ⟨o5, ?_⟩
          rw [HE.out]
          exact ⟨_, rfl, ⟨HU.out, by rw [HLJ.out]; exact HM8.out, AS, j, cS, rfl, ho5⟩, A3, c3, R5⟩
        | succ k =>
          have hjm : j < m := by omega
          have hjm' : (j : Int) < (m : Int) := by omega
          have BADV := Lib.hid (fun (y : Nat) (h : Bo.valE r' = .error y) => (show R = .error y by
            have h0 : Rv = .error y := by rw [HRE.out, Bo.valsE, h]
            rw [HRR.out]; unfold Bo.notesE; rw [← HR0.out, HUE.out]; simp only [HD.out]; rw [if_pos HM8.out, ← HRV.out, h0]))
          go_wp2_with ((with_reducible refine wpList_ld (n := 1) rowRd30 kr3 rfl ?_ ?_); rotate_left; (rfl))
          refine (bnum_any g A3 _ c3 r' _ R3).mono ?_
          intro e w5 hB
          cases hd : Vint.dec r' with
          | error y =>
            obtain ⟨rfl, gg⟩ := hB.bad hd
            have HE := Lib.hid (BADV.out y (by unfold Bo.valE; rw [hd]))
            have o5 := OG.out _ (o3.trans (OF.out _ _ gg) (Grows.refl _ _))
            clear hd hB gg
            go_wp2_with fail
            refine ⟨rfl, o5, ?_⟩
            rw [HE.out]
          | ok q1 =>
          obtain ⟨a1, r5⟩ := q1
          obtain ⟨rfl, ⟨A5, c5, R5⟩, gg⟩ := hB.good hd
          have o5 := o3.trans (OF.out _ _ gg) (Grows.refl _ _)
          have kr5 := kr3.grown gg (by intro e; injection e with e; omega)
          have kx5 := kx3.grown gg (by intro e; injection e with e; omega)
          have ho5 := ho3.grown gg (.inr (own_ne ho3.2 R3.1 (by decide)))
          have HD5 := Lib.hid hd
          clear hd hB gg kr3 kx3 R3 o3 ho3
          go_upto_region 11 with ((with_reducible refine wpList_st (cs := #[.int .i64 (a1 : Nat), .int .i64 0, .int .i64 0]) rowV (Blk.new _ _ _) (th_size _ _ _) ?_ (th_one _ _ _) ?_ ?_ ?_); (rfl); rotate_left; (rfl); (rfl); intro w6 kq g6 z6)
          obtain ⟨X, hX⟩ : ∃ X, X = w5.heap.size := ⟨_, rfl⟩
          rw [← hX] at kq ⊢
          have bq : Below w5.heap.size w5 w6 := new_below g6
          have kr6 := kr5.below bq kr5.lt
          have kx6 := kx5.below bq kx5.lt
          have ho6 := ho5.below bq (Nat.le_refl _)
          have R6 := R5.below (bq.mono (by have := R5.lt; omega))
          have o6 := o5.trans (Only.of_below (fun k => k = g) bq) (Grows.refl _ _)
          have hXg : g < X := by rw [hX]; exact R5.lt
          have hXx : s + 1 < X := by rw [hX]; exact kx5.lt
          have hXA : AS.map (·.block) ≠ some X := fun e => by have := (ho5.lt _ e).2; omega
          have hXw : w.heap.size ≤ X := by have := HS.out; omega
          clear g6 z6 bq kr5 kx5 R5 o5 ho5 hX
          go_wp2_with ((with_reducible refine wpList_ld (n := 1) rowRd30 kr6 rfl ?_ ?_); rotate_left; (rfl))
          refine (bnum_any g A5 _ c5 r5 w6 R6).mono ?_
          intro e w7 hB
          cases hd : Vint.dec r5 with
          | error y =>
            obtain ⟨rfl, gg⟩ := hB.bad hd
            have HE := Lib.hid (BADV.out y (by unfold Bo.valE; rw [HD5.out]; simp only [hd]))
            have o7 := OG.out _ (o6.trans (OF.out _ _ gg) (Grows.refl _ _))
            clear hd hB gg
            go_wp2_with fail
            refine ⟨rfl, o7, ?_⟩
            rw [HE.out]
          | ok q2 =>
          obtain ⟨a2, r7⟩ := q2
          obtain ⟨rfl, ⟨A7, c7, R7⟩, gg⟩ := hB.good hd
          have o7 := o6.trans (OF.out _ _ gg) (Grows.refl _ _)
          have kr7 := kr6.grown gg (by intro e; injection e with e; omega)
          have kx7 := kx6.grown gg (by intro e; injection e with e; omega)
          have kq7 := kq.grown gg (by intro e; injection e with e; omega)
          have ho7 := ho6.grown gg (.inr (own_ne ho6.2 R6.1 (by decide)))
          have q71 := kq7.cell 1
          have f71 := kq7.free 1
          have kq8 : Blk (w7.setCell ⟨X, 1, none⟩ (.int .i64 (a2 : Nat))) X 84 #[.int .i64 (a1 : Nat), .int .i64 (a2 : Nat), .int .i64 0] := kq7.set_ 1 (.int .i64 (a2 : Nat))
          have kr8 := kr7.far (p := ⟨X, 1, none⟩) (by show s ≠ X; omega) (.int .i64 (a2 : Nat))
          have kx8 := kx7.far (p := ⟨X, 1, none⟩) (by show s + 1 ≠ X; omega) (.int .i64 (a2 : Nat))
          have ho8 := ho7.setFar (p := ⟨X, 1, none⟩) hXA (.int .i64 (a2 : Nat))
          have R8 : Rdr (w7.setCell ⟨X, 1, none⟩ (.int .i64 (a2 : Nat))) g A7 _ c7 r7 0 := R7.below ((Below.refl (g + 1) w7).setCell (by show g + 1 ≤ X; omega) _)
          have o8 := o7.setCell (p := ⟨X, 1, none⟩) (.inr hXw) (.int .i64 (a2 : Nat))
          obtain ⟨w8, hw8⟩ : ∃ w8, w8 = w7.setCell ⟨X, 1, none⟩ (.int .i64 (a2 : Nat)) := ⟨_, rfl⟩
          rw [← hw8] at kq8 kr8 kx8 ho8 R8 o8
          have HW8 := Lib.hid hw8
          have HD7 := Lib.hid hd
          clear hd hB gg kr6 kx6 kq R6 o6 ho6 kr7 kx7 R7 o7 ho7 hw8
          go_upto_region 12 with fail
          rw [← HW8.out]
          clear q71 f71 kq7
          go_wp2_with ((with_reducible refine wpList_ld (n := 1) rowRd30 kr8 rfl ?_ ?_); rotate_left; (rfl))
          refine (bnum_any g A7 _ c7 r7 w8 R8).mono ?_
          intro e w9 hB
          cases hd : Vint.dec r7 with
          | error y =>
            obtain ⟨rfl, gg⟩ := hB.bad hd
            have HE := Lib.hid (BADV.out y (by unfold Bo.valE; rw [HD5.out]; simp only [HD7.out, hd]))
            have o9 := OG.out _ (o8.trans (OF.out _ _ gg) (Grows.refl _ _))
            clear hd hB gg
            go_wp2_with fail
            refine ⟨rfl, o9, ?_⟩
            rw [HE.out]
          | ok q3 =>
          obtain ⟨a3, r9⟩ := q3
          obtain ⟨rfl, ⟨A9, c9, R9⟩, gg⟩ := hB.good hd
          have HV := Lib.hid (show Rv = Bo.valsE k (l ++ [(((a1 : Nat) : Int), ((a2 : Nat) : Int), ((a3 : Nat) : Int))]) r9 by
            have : Bo.valE r' = .ok ((((a1 : Nat) : Int), ((a2 : Nat) : Int), ((a3 : Nat) : Int)), r9) := by unfold Bo.valE; rw [HD5.out]; simp only [HD7.out, hd]
            rw [HRE.out, Bo.valsE, this])
          have o9 := o8.trans (OF.out _ _ gg) (Grows.refl _ _)
          have kr9 := kr8.grown gg (by intro e; injection e with e; omega)
          have kx9 := kx8.grown gg (by intro e; injection e with e; omega)
          have kq9 := kq8.grown gg (by intro e; injection e with e; omega)
          have ho9 := ho8.grown gg (.inr (own_ne ho8.2 R8.1 (by decide)))
          have q92 := kq9.cell 2
          have f92 := kq9.free 2
          have kqA : Blk (w9.setCell ⟨X, 2, none⟩ (.int .i64 (a3 : Nat))) X 84 #[.int .i64 (a1 : Nat), .int .i64 (a2 : Nat), .int .i64 (a3 : Nat)] := kq9.set_ 2 (.int .i64 (a3 : Nat))
          have krA := kr9.far (p := ⟨X, 2, none⟩) (by show s ≠ X; omega) (.int .i64 (a3 : Nat))
          have kxA := kx9.far (p := ⟨X, 2, none⟩) (by show s + 1 ≠ X; omega) (.int .i64 (a3 : Nat))
          have hoA := ho9.setFar (p := ⟨X, 2, none⟩) hXA (.int .i64 (a3 : Nat))
          have RA : Rdr (w9.setCell ⟨X, 2, none⟩ (.int .i64 (a3 : Nat))) g A9 _ c9 r9 0 := R9.below ((Below.refl (g + 1) w9).setCell (by show g + 1 ≤ X; omega) _)
          have oA := o9.setCell (p := ⟨X, 2, none⟩) (.inr hXw) (.int .i64 (a3 : Nat))
          obtain ⟨wA, hwA⟩ : ∃ wA, wA = w9.setCell ⟨X, 2, none⟩ (.int .i64 (a3 : Nat)) := ⟨_, rfl⟩
          rw [← hwA] at kqA krA kxA hoA RA oA
          have HWA := Lib.hid hwA
          clear hd hB gg kr8 kx8 kq8 R8 o8 ho8 kr9 kx9 R9 o9 ho9 hwA
          go_upto_region 13 with fail
          rw [← HWA.out]
          clear q92 f92 kq9
          have c8 : wA.cell? ⟨s + 1, 8, none⟩ = some (.slice AS j cS) := (kxA.cell 8).trans (uc_last HU.out _)
          have hne : AS.map (·.block) ≠ some (s + 1) := own_ne hoA.2 kxA (by decide)
          have hns : AS.map (·.block) ≠ some s := own_ne hoA.2 krA (by decide)
          have hAw : w.heap.size ≤ wA.heap.size := oA.size
          have hm8b := HM8.out
          go_wp2_with first
            | ((with_reducible refine wpList_ld rowV kqA (th_size _ _ _) ?_ ?_); rotate_left; (rfl))
            | (at_builtin; refine wpList_appV rfl (.tmp 33) (.tmp 35) rfl rfl (hoA.alloc _) (news := [(((a1 : Nat) : Int), ((a2 : Nat) : Int), ((a3 : Nat) : Int))]) rfl (Rd.made _ _ _ _) rfl ?h2 ?h3 ?h4)
          case h2 => simp; omega
          case h3 => simp; omega
          intro AB cB wB oB gB mB bB
          have kxB : Blk wB (s + 1) 39 (uc U (.slice AS j cS)) := (kxA.alloc _).grown gB hne
          have krB : Blk wB s 110 #[.pointer (some ⟨g, 0, none⟩)] := (krA.alloc _).grown gB hns
          have hgw : g + 1 ≤ w.heap.size := by have := HS.out; omega
          have RB : Rdr wB g A9 _ c9 r9 0 := (RA.below ((Below.refl (g + 1) wA).alloc (by have := RA.lt; omega) _)).below (bB.mono hgw)
          have oB2 := (oA.alloc (.cells #[.int .i64 (a1 : Nat), .int .i64 (a2 : Nat), .int .i64 (a3 : Nat)] 84)).then_below bB
          have c8B : wB.cell? ⟨s + 1, 8, none⟩ = some (.slice AS j cS) := (kxB.cell 8).trans (uc_last HU.out _)
          have f8B := kxB.free 8
          have hnB : AB.map (·.block) ≠ some (s + 1) := own_ne oB.2 kxB (by decide)
          have kxC := kxB.set_ 8 (.slice AB (j + 1) cB)
          rw [uc_set8 HU.out] at kxC
          have krC := krB.far (p := ⟨s + 1, 8, none⟩) (by show s ≠ s + 1; omega) (.slice AB (j + 1) cB)
          have RC : Rdr (wB.setCell ⟨s + 1, 8, none⟩ (.slice AB (j + 1) cB)) g A9 _ c9 r9 0 := RB.below ((Below.refl (g + 1) wB).setCell (by show g + 1 ≤ s + 1; omega) _)
          have oC := oB2.setCell (p := ⟨s + 1, 8, none⟩) (.inr (by show w.heap.size ≤ s + 1; have := HS.out; omega)) (.slice AB (j + 1) cB)
          have vC := oB.setFar (p := ⟨s + 1, 8, none⟩) hnB (.slice AB (j + 1) cB)
          have HH := Lib.hid (And.intro RC (And.intro oC (And.intro krC (And.intro vC kxC))))
          clear kxA krA hoA RA oA kqA c8 kxB krB RB oB2 kxC krC RC oC vC gB mB bB oB
          go_wp2_with fail
          go_roundw
          case rel => exact ⟨k, j + 1, _, r9, A9, c9, AB, cB, by go_num, by omega, HV.out, by rw [List.length_append, HLJ.out]; rfl, HH.out.1, HH.out.2.1, HH.out.2.2.1, HH.out.2.2.2.1, HH.out.2.2.2.2⟩
          case measure => simp [intOf]; omega
end Go.Proofs.YtocoohpekpkmkaaGreat

/- The walk of board.body. -/
namespace Go.Proofs.YtocoohpekpkmkaaGreat
set_option linter.unusedVariables false
set_option linter.unusedSimpArgs false
set_option maxRecDepth 100000
open Go.RowKit
open Reg (La Vl)
def plA (p : List La) : Array Value := (plansC p).toArray
theorem plA_size {p : List La} (h : p.length = 8) : (plA p).size = 24 := by unfold plA; rw [List.size_toArray, plansC_len, h]
theorem plA_at {p : List La} {k : Nat} (hp : p.length = 8) (hk : k < 8) : (plA p).extract (k * 3) (k * 3 + 3) = (pc (p.getD k (0, 0, 0))).toArray := by
  have hs := plA_size hp
  apply Array.ext_getElem?
  intro i
  by_cases hi : i < 3
  · rw [Array.getElem?_extract, if_pos (by omega)]
    unfold plA
    rw [List.getElem?_toArray, plansC_at p k i (by omega) hi, List.getElem?_toArray]
  · rw [Array.getElem?_eq_none (by rw [Array.size_extract]; omega), Array.getElem?_eq_none (by show 3 ≤ i; omega)]
theorem run_indexP (w : World) (p : List La) (hp : p.length = 8) (k : Nat) (hk : k < 8) : (Instr.index 36 (.agg (plA p)) (.int .i64 (k : Nat))).run Tryz.prog w = .ok (v3 (p.getD k (0, 0, 0))) w := by
  have hsz : (sizeOf 35).run Tryz.prog w = .ok 3 w := by kernel_rfl
  have hx := plA_at hp hk
  have hag : (isAgg 35).run Tryz.prog w = .ok true w := by kernel_rfl
  simp only [Instr.index, asIntOf, Sem.run_bind, Sem.run_pure, Result.andThen_ok, run_underlying Tryz.underlying36, hsz]
  rw [if_pos (by omega)]
  simp [part, hag, hsz, hx, v3, pc]
def bodyL (b : Bd) : List UInt8 := encs (Tally.numsL b.t 8 ++ [0] ++ Bo.restN b)
theorem encs_app (a b : List Int) : encs (a ++ b) = encs a ++ encs b := by unfold encs; rw [List.flatMap_append]
theorem plansN_succ (p : List La) (k : Nat) : Bo.plansN p (k + 1) = Bo.plansN p k ++ if p.getD k (0, 0, 0) = (0, 0, 0) then [] else [(k : Int) + 1, (p.getD k (0, 0, 0)).1, (p.getD k (0, 0, 0)).2.1, (p.getD k (0, 0, 0)).2.2] := rfl
theorem valsN_snoc (l : List Vl) {k : Nat} (h : k < l.length) : Bo.valsN (l.take (k + 1)) = Bo.valsN (l.take k) ++ [l[k].1, l[k].2.1, l[k].2.2] := by
  unfold Bo.valsN
  rw [take_snoc l h, List.flatMap_append]
  rfl
theorem step_appI {w : World} {o : Oper} {a : Act} {K : Act → World → Prop} {Q : Exit → Act → World → Prop} (s x : Operand)
    (ho : o.op = .call { callee := .builtin .append, args := #[s, x], argTypes := #[139, 139] })
    {base : Nat} {A : Option Addr} {n c : Nat} {bs : List Int} (hs : a.eval s = .slice A n c) (hown : OwnI w base A n c bs)
    {B : Nat} {D : Option Addr} {m d : Nat} {news : List Int} (hx : a.eval x = .slice D m d) (hr : RdI w B D m news)
    (hbytes : n + m ≤ 17592186044416) (hbase : base ≤ w.heap.size)
    (h : ∀ A' c' w', OwnI w' base A' (n + m) c' (bs ++ news) → w.grownBy w' (A.map (·.block)) → Moved A' (A.map (·.block)) w.heap.size → Below base w w' →
      K (a.put o.dst (.slice A' (n + m) c')) w') : Oper.wp Tryz.prog o a w K Q := by
  obtain ⟨i0, hi, hz0, hz1, hz2⟩ := info_parts infoI
  have hob : (Value.slice A n c).ownBlock = A.map (·.block) := by cases A <;> rfl
  obtain ⟨v', w', hrun, h2, h3, h4⟩ := run_app (P := Tryz.prog) w base 139 o.type 3 i0 (.int .i64 0) 1 8 Tryz.underlying139 hi hz0 hz1 hz2 rfl (by decide) (.slice A n c) n _ hown.2 B D m d (news.map iv) hr.2 (by simp [hr.1]) (iv_one _) (by unfold maxLen; omega) (by omega) hbase
  unfold Oper.wp execOp
  simp only [ho, resolve, invoke, builtin, Sem.run_bind, Sem.run_pure, Result.andThen_ok, List.map_toArray, List.map_cons, List.map_nil, hs, hx, hrun]
  have hv : ∃ A' c', v' = .slice A' (n + m) c' ∧ v'.ownBlock = A'.map (·.block) := by
    rcases h2.2 with ⟨rfl, h0⟩ | ⟨g, cap, cur, rfl, _⟩
    · exact ⟨none, 0, by rw [h0], rfl⟩
    · exact ⟨_, _, rfl, rfl⟩
  obtain ⟨A', c', rfl, hb⟩ := hv
  rw [hb] at h4
  rw [hob] at h3 h4
  exact h _ _ _ ⟨by simp [hown.1, hr.1], by simpa using h2⟩ h3 h4 ((Below.refl _ _).grown h3 hbase (fun g hg => (hown.lt g hg).1))
theorem Blk.seen {b : Bd} {s : Value} {w : World} {g : Nat} {T : TypeId} (k : Blk w g T (bc b s)) (h : Bo.Shaped b) : RdI w (g + 1) (some ⟨g, 40, none⟩) 8 b.u := ⟨h.u.symm, fun j u hu => by
  have hj : j < 8 := by
    have := (List.getElem?_eq_some_iff.1 hu).1
    rwa [List.length_map, h.u] at this
  refine ⟨_, rfl, Nat.lt_succ_self _, ?_⟩
  have hc := k.cell (40 + j)
  rw [bc_n h (by omega)] at hc
  rw [add_mk]
  refine hc.trans ?_
  rw [← hu]
  unfold uc
  rw [List.getElem?_toArray, List.getElem?_append_left (by rw [List.length_map, h.u]; exact hj)]⟩
set_option maxHeartbeats 8000000 in
theorem bbody_any (b : Bd) (hs : Bo.Shaped b) (hright : Bo.rightB b = true) (q : Value) (w : World) (hq : FrBo b q w) : Calls Tryz.prog 49 #[q] w fun e w' => ∃ A n c, e = .returned (.slice A n c) ∧ OwnB w' w.heap.size A n c (bodyL b) ∧ Below w.heap.size w w' := by
  obtain ⟨A, m, c, rfl, hr, hm⟩ := hq
  have HRV := Lib.hid fun (w' : World) (hb : Below w.heap.size w w') => hr.below hb
  have HM := Lib.hid (show m = b.l.length from hr.1)
  have HS := Lib.hid hs
  have HR := Lib.hid hright
  have h49 := Lib.hid (bc_size (s := .slice A m c) hs)
  have HL8 := Lib.hid (right_len (Reg.right_facts ((Bo.right_iff b).1 hright).2.2.2))
  clear hr hm hs hright
  go_enter Tryz.func49, Tryz.ntmps49
  go_upto_region 1 with fail
  refine nameW ?_
  intro wv hwv
  obtain ⟨g, hg⟩ : ∃ g, g = w.heap.size := ⟨_, rfl⟩
  rw [← hg]
  have k0 : Blk wv g 41 (bc b (.slice A m c)) := by rw [hwv, hg]; exact Blk.new w _ _
  have gb : Below w.heap.size w wv := by rw [hwv]; exact (Below.refl _ _).alloc (Nat.le_refl _) _
  have HG := Lib.hid hg
  clear hwv hg
  have S16 := Lib.hid (show (tc b.t).size = 16 by rw [tc_size, HS.out.t])
  have S24 := Lib.hid (plA_size HS.out.p)
  go_wp2_with ((with_reducible refine wpList_ldr rowT (k0.tal HS.out) S16.out ?_ ?_); rotate_left; (rfl))
  refine (tput_any b.t wv HS.out.t ((Bo.right_iff b).1 HR.out).2.2.1).mono ?_
  rintro e w1 ⟨Ab, nb, cb, rfl, ob, b1⟩
  have ob := ob.mono gb.size
  have k0 := k0.below b1 k0.lt
  have gb := gb.trans (b1.mono gb.size)
  clear b1
  have hpl : w1.rangeAt g 16 (plA b.p).toList := k0.plans HS.out
  go_wp2_with ((with_reducible refine wpList_ldr rowPl hpl S24.out ?_ ?_); rotate_left; (rfl))
  go_loopw [5, 20] (fun s i wr => ∃ (k : Nat) (A : Option Addr) (n c : Nat), k ≤ 8 ∧ i = .int .i64 k ∧ s = .slice A n c ∧ OwnI wr w1.heap.size A n c (Bo.plansN b.p k) ∧ Below w1.heap.size w1 wr) (fun _ i _ => 8 - (intOf i).toNat)
  case atStart => exact ⟨0, none, 0, 0, by omega, rfl, rfl, OwnI.nil _ _, Below.refl _ _⟩
  case round =>
    obtain ⟨k, A1, n1, c1, hk, rfl, rfl, ho, bl⟩ := hrel
    by_cases hlt : k < 8
    · have hix := fun w' => run_indexP w' b.p HS.out.p k hlt
      have hst := plansN_succ b.p k
      have hnl := Bo.plans_len b.p k
      have hn1 : n1 ≤ 32 := by rw [ho.1]; omega
      have hps : ∃ q, q = b.p.getD k (0, 0, 0) := ⟨_, rfl⟩
      obtain ⟨q, hq⟩ := hps
      have hqb : Bo.planB q = true := by
        have hm : q ∈ b.p := by rw [hq, List.getD_eq_getElem?_getD, List.getElem?_eq_getElem (by rw [HS.out.p]; exact hlt)]; exact List.getElem_mem _
        exact ((Bo.right_iff b).1 HR.out).1 q hm
      have hqs := (Bo.planB_iff q).1 hqb
      rw [← hq] at hix hst
      obtain ⟨x, y, z⟩ := q
      simp only at hst hqs
      unfold v3 at hix
      simp only at hix
      have HIX := Lib.hid hix
      have HST := Lib.hid hst
      have HO := Lib.hid ho
      have hk0 : (0 : Int) ≤ (k : Int) := by omega
      have hk1 : (k : Int) < 8 := by omega
      have ew : IntKind.i64.wrap ((k : Int) + 1) = (k : Int) + 1 := IntWalk.i64_in _ (by omega)
      clear hix hst hnl hq hqb ho
      go_upto_region 6 with first
        | ((with_reducible refine wpList_ix (HIX.out _) ?_ ?_ ?_); rotate_left; (rfl); (rfl))
        | ((with_reducible refine wpList_st (cs := #[.int .i64 x, .int .i64 y, .int .i64 z]) rowLa (Blk.new _ _ _) (th_size _ _ _) ?_ (th_one _ _ _) ?_ ?_ ?_); (rfl); rotate_left; (rfl); (rfl); intro w3 kq g3 z3)
      have bq : Below wr.heap.size wr w3 := new_below g3
      have HO3 := Lib.hid (HO.out.below bq (Nat.le_refl _))
      have b3 := bl.trans (bq.mono bl.size)
      have q0 := kq.cell 0
      have q1 := kq.cell 1
      have q2 := kq.cell 2
      clear g3 z3 bq HIX bl
      by_cases hz : x = 0 ∧ y = 0 ∧ z = 0
      · obtain ⟨rfl, rfl, rfl⟩ := hz
        go_wp2_with ((with_reducible refine wpList_ld rowLa kq (th_size _ _ _) ?_ ?_); rotate_left; (rfl))
        go_roundw
        case rel => exact ⟨k + 1, A1, n1, c1, by omega, by go_num, rfl, by rw [HST.out, if_pos rfl, List.append_nil]; exact HO3.out, b3⟩
        case measure => simp [intOf]; omega
      · have hzz : ¬ ((x, y, z) : La) = (0, 0, 0) := fun h => hz (by injection h with h1 h2; injection h2 with h2 h3; exact ⟨h1, h2, h3⟩)
        have hxyz : (1 ≤ x ∧ x ≤ 1099511627776) ∧ (0 ≤ y ∧ y ≤ 7) ∧ 0 ≤ z ∧ z ≤ 1000 := by
          rcases hqs with h | h
          · exact absurd h hzz
          · exact h
        have HZZ := Lib.hid hzz
        have hx0 : ¬ x = 0 := by omega
        clear hz hzz hqs
        go_wp2_with first
          | ((with_reducible refine wpList_ld rowLa kq (th_size _ _ _) ?_ ?_); rotate_left; (rfl))
          | (at_builtin; refine stop ?_)
        unfold Stop
        have ba := b3.alloc b3.size (.cells #[.int .i64 ((k : Int) + 1), .int .i64 x, .int .i64 y, .int .i64 z] 3)
        refine wpList_appI rfl (.tmp 27) (.tmp 36) rfl (by rfl) (HO3.out.alloc _) (by rfl) (RdI.made w3 [(k : Int) + 1, x, y, z] _ _ _ rfl) (by simp; omega) ba.size ?_
        intro A2 c2 w4 ho4 _ _ b4
        have HO4 := Lib.hid ho4
        have b5 := ba.trans b4
        clear ho4 b4 ba b3
        go_wp2_with fail
        go_roundw
        case rel => exact ⟨k + 1, A2, _, c2, by omega, by go_num, rfl, by rw [HST.out, if_neg HZZ.out]; exact HO4.out, b5⟩
        case measure => simp [intOf]; omega
    · obtain rfl : k = 8 := by omega
      have HO := Lib.hid ho
      have hpn := Bo.plans_len b.p 8
      have hn1 : n1 ≤ 32 := by rw [ho.1]; omega
      clear hpn ho
      obtain ⟨PL, hPL⟩ : ∃ PL, PL = Bo.plansN b.p 8 := ⟨_, rfl⟩
      rw [← hPL] at HO
      have HPL := Lib.hid hPL
      clear hPL hk hlt hpl
      go_upto_region 9 with fail
      refine wp_region_tail 6 (fun L v w => v 1 = .pointer (some ⟨g, 0, none⟩) ∧ v 5 = .slice A1 n1 c1 ∧ Below w1.heap.size w1 w ∧ ((L 2 = false → OwnI w w1.heap.size A1 n1 c1 PL ∧ (L 1 = true → ∃ D, v 40 = .slice (some D) 1 1 ∧ RdI w w.heap.size (some D) 1 [0])) ∧ (L 2 = true → ∃ A2 c2, v 41 = .slice A2 (n1 + 1) c2 ∧ OwnI w w1.heap.size A2 (n1 + 1) c2 (PL ++ [0]))) ∧ (L 0 = true → v 39 = .slice A1 n1 c1) ∧ (L 3 = true → v 42 = .pointer (some ⟨g, 40, none⟩)) ∧ (L 4 = true → v 43 = .pointer (some ⟨g, 40, none⟩)) ∧ (L 5 = true → v 44 = .slice (some ⟨g, 40, none⟩) 8 8)) [39, 40, 41, 42, 43, 44] (by kernel_rfl) (by kernel_rfl) (by kernel_rfl) (by kernel_rfl) (by kernel_rfl) (by kernel_rfl) ?h0 ?hst ?hend
      case h0 =>
        intro L h0
        have h0 : ∀ i, i < 6 → L i = false := h0
        exact ⟨rfl, rfl, (bl.trans (Below.refl _ _).drew), ⟨fun _ => ⟨HO.out.drew, offF h0 (i := 1) (by decide)⟩, offF h0 (i := 2) (by decide)⟩, offF h0 (i := 0) (by decide), offF h0 (i := 3) (by decide), offF h0 (i := 4) (by decide), offF h0 (i := 5) (by decide)⟩
      case hst =>
        show FactSteps _ _ _ _ [0, 1, 2, 3, 4, 5]
        refine @FactSteps.cons _ _ _ _ 0 _ [] _ rfl (by kernel_rfl) ?s0 ?_
        rotate_left
        refine @FactSteps.cons _ _ _ _ 1 _ [] _ rfl (by kernel_rfl) ?s1 ?_
        rotate_left
        refine @FactSteps.cons _ _ _ _ 2 _ [0, 1] _ rfl (by kernel_rfl) ?s2 ?_
        rotate_left
        refine @FactSteps.cons _ _ _ _ 3 _ [] _ rfl (by kernel_rfl) ?s3 ?_
        rotate_left
        refine @FactSteps.cons _ _ _ _ 4 _ [3] _ rfl (by kernel_rfl) ?s4 ?_
        rotate_left
        refine @FactSteps.cons _ _ _ _ 5 _ [4] _ rfl (by kernel_rfl) ?s5 ?_
        rotate_left
        exact FactSteps.nil
        case s0 =>
          rintro L a v w hv hg hL hd hcl ⟨e1, e5, hb, kI, f0, f3, f4, f5⟩ K hK
          refine step_do rfl ?_
          clear hv
          go_simp
          exact hK.out _ _ ⟨e1, e5, hb, kI, fun _ => rfl, f3, f4, f5⟩
        case s1 =>
          rintro L a v w hv hg hL hd hcl ⟨e1, e5, hb, kI, f0, f3, f4, f5⟩ K hK
          have c2 : L 2 = false := off_of hcl (j := 2) (by kernel_rfl : waitsAt _ 2 = [0, 1]) (d := 1) (by decide) hL
          have ho := (kI.1 c2).1
          refine step_do rfl ?_
          clear hv
          go_simp
          exact hK.out _ _ ⟨e1, e5, (hb.alloc hb.size _), ⟨fun _ => ⟨ho.alloc _, fun _ => ⟨_, rfl, (RdI.made w [0] _ _ _ rfl).size⟩⟩, offC c2⟩, f0, f3, f4, f5⟩
        case s2 =>
          rintro L a v w hv hg hL hd hcl ⟨e1, e5, hb, kI, f0, f3, f4, f5⟩ K hK
          have g0 := f0 (hd 0 (by decide))
          have hI := kI.1 hL
          obtain ⟨D, ed, hr⟩ := hI.2 (hd 1 (by decide))
          have ho := hI.1
          refine step_do rfl ?_
          refine step_appI (.tmp 39) (.tmp 40) rfl ((hv 39).trans g0) ho ((hv 40).trans ed) hr (by omega) hb.size ?_
          intro A2 c2 w4 ho2 hg2 _ b4
          exact hK.out _ _ ⟨e1, e5, (hb.trans b4), ⟨fun h => (by cases h), fun _ => ⟨A2, c2, rfl, ho2⟩⟩, f0, f3, f4, f5⟩
        case s3 =>
          rintro L a v w hv hg hL hd hcl ⟨e1, e5, hb, kI, f0, f3, f4, f5⟩ K hK
          refine step_do rfl ?_
          clear hv
          go_simp
          exact hK.out _ _ ⟨e1, e5, hb, kI, f0, fun _ => rfl, f4, f5⟩
        case s4 =>
          rintro L a v w hv hg hL hd hcl ⟨e1, e5, hb, kI, f0, f3, f4, f5⟩ K hK
          have g3 := f3 (hd 3 (by decide))
          refine step_do rfl ?_
          clear hv
          go_simp
          exact hK.out _ _ ⟨e1, e5, hb, kI, f0, f3, fun _ => rfl, f5⟩
        case s5 =>
          rintro L a v w hv hg hL hd hcl ⟨e1, e5, hb, kI, f0, f3, f4, f5⟩ K hK
          have g4 := f4 (hd 4 (by decide))
          refine step_do rfl ?_
          clear hv
          go_simp
          exact hK.out _ _ ⟨e1, e5, hb, kI, f0, f3, f4, fun _ => rfl⟩
      case hend =>
      rintro L v wx hall ⟨e1, e5, hb, kI, f0, f3, f4, f5⟩
      have hL : ∀ i, i < 6 → L i = true := hall
      have f0 := f0 (hL 0 (by decide))
      have f3 := f3 (hL 3 (by decide))
      have f4 := f4 (hL 4 (by decide))
      have f5 := f5 (hL 5 (by decide))
      obtain ⟨A2, c2, e41, ho2⟩ := kI.2 (hL 2 (by decide))
      simp only [finA, List.foldl_cons, List.foldl_nil, Act.put, List.setIfInBounds_toArray, List.set_cons_succ, List.set_cons_zero, f0, f3, f4, f5, e41]
      have kw := k0.below hb k0.lt
      have HO2 := Lib.hid ho2
      clear e1 e5 f0 f3 f4 f5 hL hall ho2 e41
      show wpList _ _ _ [_, _] _ _
      refine wpList_appI rfl (.tmp 41) (.tmp 44) rfl (by rfl) HO2.out (by rfl) (kw.seen HS.out) (by omega) hb.size ?_
      intro A3 c3 w5 ho3 _ _ b5
      have hb5 := hb.trans b5
      have k5 := k0.below hb5 k0.lt
      have HO3 := Lib.hid ho3
      clear HO2 ho3 b5 hb kw
      have c48 : w5.cell? ⟨g, 48, none⟩ = some (.slice A m c) := (k5.cell 48).trans (bc_last HS.out)
      have hm8 : m ≤ 8 := by rw [HM.out]; exact HL8.out
      have HM8 := Lib.hid hm8
      clear hm8
      go_upto_region 11 with (at_builtin; refine wpList_appI rfl (.tmp 46) (.tmp 51) rfl (by rfl) (HO3.out.alloc _) (by rfl) (RdI.made _ [(m : Int)] _ _ _ rfl) (by simp; omega) (hb5.alloc hb5.size _).size ?_; intro A4 c4 w6 ho4 _ _ b6)
      have hb6 := (hb5.alloc hb5.size (.cells #[.int .i64 (m : Int)] 3)).trans b6
      have k6 := k0.below hb6 k0.lt
      have c48 : w6.cell? ⟨g, 48, none⟩ = some (.slice A m c) := (k6.cell 48).trans (bc_last HS.out)
      have HO4 := Lib.hid ho4
      clear ho4 b6 k5 hb5 HO3
      go_wp2_with fail
      obtain ⟨Z, hZ⟩ : ∃ Z, Z = PL ++ [0] ++ b.u ++ [(m : Int)] := ⟨_, rfl⟩
      obtain ⟨nz, hnz⟩ : ∃ nz, nz = n1 + 1 + 8 + [(m : Int)].length := ⟨_, rfl⟩
      have hnz2 : nz ≤ 42 := by rw [hnz]; simp; omega
      have HNZ := Lib.hid (show nz = n1 + 1 + 8 + 1 from hnz)
      rw [← hZ, ← hnz] at HO4
      have HZ := Lib.hid hZ
      have hzl : nz = Z.length := HO4.out.1
      have HZL := Lib.hid hzl
      clear hZ hnz kI f0 f3 f4 f5 c48 hzl hn1 HO
      go_loopw [5, 57] (fun s i wr => ∃ (k : Nat) (A' : Option Addr) (n c' : Nat), k ≤ m ∧ i = .int .i64 k ∧ s = .slice A' n c' ∧ OwnI wr w1.heap.size A' n c' (Z ++ Bo.valsN (b.l.take k)) ∧ Below w1.heap.size w1 wr) (fun _ i _ => m - (intOf i).toNat)
      case atStart => exact ⟨0, A4, n1 + 1 + 8 + 1, c4, by omega, rfl, rfl, by rw [← HNZ.out]; simpa [Bo.valsN] using HO4.out, hb6⟩
      case round =>
        obtain ⟨k, A5, n5, c5, hk, rfl, rfl, ho, bk⟩ := hrel
        have hn5 : n5 = nz + 3 * k := by
          rw [ho.1, HZL.out, List.length_append, Bo.vals_len, List.length_take, Nat.min_eq_left (by rw [← HM.out]; exact hk)]
        have hm8 := HM8.out
        have hn9 : n5 ≤ 70 := by omega
        clear hn5
        by_cases hlt : k < m
        · have hkl : k < b.l.length := by rw [← HM.out]; exact hlt
          obtain ⟨ad, hA, q5, q0, q1, q2⟩ := (HRV.out _ (gb.trans (bk.mono gb.size))).2 k _ (List.getElem?_eq_getElem hkl)
          have hst := valsN_snoc b.l hkl
          have hk0 : (0 : Int) ≤ (k : Int) := by omega
          have hkn : (k : Int) < (m : Int) := by omega
          have HO5 := Lib.hid ho
          generalize b.l[k] = d at *
          obtain ⟨x, y, z⟩ := d
          simp only at q0 q1 q2 hst
          subst hA
          have HST := Lib.hid hst
          clear hst ho
          go_upto_region 14 with ((with_reducible refine wpList_st (cs := #[.int .i64 x, .int .i64 y, .int .i64 z]) rowV (Blk.new _ _ _) (th_size _ _ _) ?_ (th_one _ _ _) ?_ ?_ ?_); (rfl); rotate_left; (rfl); (rfl); intro w7 kq g7 z7)
          have bq : Below wr.heap.size wr w7 := new_below g7
          have HO6 := Lib.hid (HO5.out.below bq (Nat.le_refl _))
          have b7 := bk.trans (bq.mono bk.size)
          have c0 := kq.cell 0
          have c1' := kq.cell 1
          have c2 := kq.cell 2
          clear g7 z7 bq bk HO5 q5 q0 q1 q2
          go_wp2_with (at_builtin; refine stop ?_)
          unfold Stop
          have ba := b7.alloc b7.size (.cells #[.int .i64 x, .int .i64 y, .int .i64 z] 3)
          refine wpList_appI rfl (.tmp 61) (.tmp 68) rfl (by rfl) (HO6.out.alloc _) (by rfl) (RdI.made w7 [x, y, z] _ _ _ rfl) (by simp; omega) ba.size ?_
          intro A8 c8 w8 ho8 _ _ b8
          have HO8 := Lib.hid ho8
          have b9 := ba.trans b8
          clear ho8 b8 ba b7
          go_wp2_with fail
          go_roundw
          case rel => exact ⟨k + 1, A8, _, c8, by omega, by go_num, rfl, by rw [HST.out, ← List.append_assoc]; exact HO8.out, b9⟩
          case measure => simp [intOf]; omega
        · obtain rfl : k = m := by omega
          have hfull : b.l.take k = b.l := List.take_of_length_le (by rw [← HM.out]; omega)
          rw [hfull] at ho
          have hms : Bo.restN b = Z ++ Bo.valsN b.l := by rw [HZ.out, HPL.out, HM.out]; rfl
          rw [← hms] at ho
          have hall : ∀ x ∈ Bo.restN b, 0 ≤ x ∧ x ≤ 1099511627776 := Bo.rest_small HS.out HR.out
          have HALL := Lib.hid hall
          obtain ⟨ms, hmsd⟩ : ∃ ms, ms = Bo.restN b := ⟨_, rfl⟩
          rw [← hmsd] at ho HALL
          have HMS := Lib.hid hmsd
          have hnb1 : nb ≤ 162 := by
            rw [ob.1]
            have h1 := encs_len (Tally.numsL b.t 8 ++ [0])
            have h2 := Tally.nums_len b.t 8
            simp at h1
            omega
          have ob3 := ob.below bk (Nat.le_refl _)
          have HOB := Lib.hid ob3
          have hmle := ownsRow_le ho.2
          have ho2 := ho
          clear hall hms hmsd hfull ho ob ob3 hk hlt HO4 hm8
          go_wp2_with fail
          obtain ⟨w9, rfl⟩ : ∃ w9, w9 = wr := ⟨_, rfl⟩
          go_loopw [3, 73] (fun s i wq => ∃ (j : Nat) (A' : Option Addr) (nc cc : Nat), j ≤ n5 ∧ i = .int .i64 j ∧ s = .slice A' nc cc ∧ OwnB wq w.heap.size A' nc cc (encs (Tally.numsL b.t 8 ++ [0]) ++ encs (ms.take j)) ∧ Below w9.heap.size w9 wq) (fun _ i _ => n5 - (intOf i).toNat)
          case atStart => exact ⟨0, Ab, nb, cb, by omega, rfl, rfl, by simpa [encs] using HOB.out, Below.refl _ _⟩
          case round =>
            obtain ⟨j, A', nc, cc, hj, rfl, rfl, ob, bl2⟩ := hrel
            by_cases hjm : j < n5
            · have hjl : j < ms.length := by rw [← ho2.1]; exact hjm
              obtain ⟨ad, rfl, _, c1⟩ := (ho2.rd.below bl2).at_ hjl
              have hxb := HALL.out _ (List.getElem_mem hjl)
              have hes := encs_snoc ms hjl
              have HES := Lib.hid hes
              have hel := encs_len (ms.take j)
              have hnb : nc ≤ 600 := by
                have h1 := ob.1
                have h2 : (ms.take j).length ≤ j := List.length_take_le _ _
                have h3 := HOB.out.1
                rw [List.length_append] at h1
                omega
              clear hes hel
              generalize ms[j] = x at *
              obtain ⟨x, rfl⟩ := Int.eq_ofNat_of_zero_le hxb.1
              rw [Int.toNat_natCast] at HES
              have hj0 : (0 : Int) ≤ (j : Int) := by omega
              have hj1 : (j : Int) < (n5 : Int) := by omega
              go_wp2_with fail
              refine (put_ok A' nc cc _ x _ _ ob.rd (Nat.le_refl _) (by omega) (by omega)).mono ?_
              rintro e w4 ⟨A4, n4, c4, rfl, o4, b4⟩
              have O4 : OwnB w4 w.heap.size A4 n4 c4 (encs (Tally.numsL b.t 8 ++ [0]) ++ encs (ms.take (j + 1))) := by rw [HES.out, ← List.append_assoc]; exact o4.mono (Nat.le_trans gb.size (Nat.le_trans bk.size bl2.size))
              have B4 := bl2.trans (b4.mono bl2.size)
              have HO := Lib.hid O4
              clear O4 o4 b4 ob bl2
              go_wp2_with fail
              go_roundw
              case rel => exact ⟨j + 1, A4, n4, c4, by omega, by go_num, rfl, HO.out, B4⟩
              case measure => simp [intOf]; omega
            · have hfull : ms.take j = ms := List.take_of_length_le (by rw [← ho2.1]; omega)
              have HFL := Lib.hid hfull
              clear hfull
              go_wp2_with fail
              go_ret
              refine ⟨A', nc, cc, rfl, ?_, gb.trans ((bk.trans (bl2.mono bk.size)).mono gb.size)⟩
              rw [HFL.out, HMS.out, ← encs_app] at ob
              exact ob
end Go.Proofs.YtocoohpekpkmkaaGreat

/- The walk of board.Put. -/
namespace Go.Proofs.YtocoohpekpkmkaaGreat
set_option linter.unusedVariables false
set_option linter.unusedSimpArgs false
set_option maxRecDepth 100000
open Go.RowKit
open Reg (La Vl)
theorem restN_len {b : Bd} (hs : Bo.Shaped b) (hl : b.l.length ≤ 8) : (Bo.restN b).length ≤ 66 := by
  unfold Bo.restN
  have h1 := Bo.plans_len b.p 8
  have h2 := Bo.vals_len b.l
  have h3 := hs.u
  simp only [List.length_append, List.length_cons, List.length_nil]
  omega
theorem bodyL_len {b : Bd} (hs : Bo.Shaped b) (hl : b.l.length ≤ 8) : (bodyL b).length ≤ 546 := by
  unfold bodyL
  have h1 := encs_len (Tally.numsL b.t 8 ++ [0] ++ Bo.restN b)
  have h2 := Tally.nums_len b.t 8
  have h3 := restN_len hs hl
  simp only [List.length_append, List.length_cons, List.length_nil] at h1
  omega
theorem right_l8 {b : Bd} (h : Bo.rightB b = true) : b.l.length ≤ 8 := right_len (Reg.right_facts ((Bo.right_iff b).1 h).2.2.2)
/-- a board's frame; an error's number -/
def putBo (b : Bd) : List UInt8 × Nat := if Bo.rightB b then (Frame.frm (bodyL b), 0) else ([], 2)
set_option maxHeartbeats 400000 in
theorem bput_any (b : Bd) (hs : Bo.Shaped b) (q : Value) (w : World) (hq : FrBo b q w) : Calls Tryz.prog 17 #[q] w (GiveBE w (putBo b).1 (putBo b).2) := by
  obtain ⟨A, m, c, rfl, hr, hm⟩ := hq
  obtain ⟨R, hR⟩ : ∃ R, R = Bo.rightB b := ⟨_, rfl⟩
  have HC1 := Lib.hid fun (w' : World) (hb : Below w.heap.size w w') => (hR ▸ boRight_any b hs (.agg (bc b (.slice A m c))) w' ⟨A, m, c, rfl, (hr.below hb).size, hm⟩ : Calls Tryz.prog _ _ w' (GiveBo w' R))
  have HC2 := Lib.hid fun (h : Bo.rightB b = true) (w' : World) (hb : Below w.heap.size w w') => bbody_any b hs h (.agg (bc b (.slice A m c))) w' ⟨A, m, c, rfl, (hr.below hb).size, hm⟩
  have h49 := Lib.hid (bc_size (s := .slice A m c) hs)
  have HP := Lib.hid (show putBo b = if R then (Frame.frm (bodyL b), 0) else ([], 2) by rw [hR]; rfl)
  have HR := Lib.hid hR
  have HL := Lib.hid fun (h : Bo.rightB b = true) => bodyL_len hs (right_l8 h)
  clear hR hr hm hs
  go_enter Tryz.func17, Tryz.ntmps17
  go_upto_region 1 with fail
  refine nameW ?_
  intro wv hwv
  obtain ⟨g, hg⟩ : ∃ g, g = w.heap.size := ⟨_, rfl⟩
  rw [← hg]
  have k0 : Blk wv g 41 (bc b (.slice A m c)) := by rw [hwv, hg]; exact Blk.new w _ _
  have gb : Below w.heap.size w wv := by rw [hwv]; exact (Below.refl _ _).alloc (Nat.le_refl _) _
  clear hwv hg
  go_wp2_with ((with_reducible refine wpList_ld rowBo k0 h49.out ?_ ?_); rotate_left; (rfl))
  refine (HC1.out wv gb).mono ?_
  rintro e w1 ⟨rfl, b1⟩
  have k0 := k0.below b1 k0.lt
  have gb := gb.trans (b1.mono gb.size)
  clear b1
  cases R
  case false =>
    go_wp2_with fail
    go_ret2
    rw [HP.out]
    exact ⟨none, 0, 0, rfl, OwnB.nil _ _, gb⟩
  case true =>
    go_wp2_with ((with_reducible refine wpList_ld rowBo k0 h49.out ?_ ?_); rotate_left; (rfl))
    refine (HC2.out HR.out.symm w1 gb).mono ?_
    rintro e w2 ⟨A2, n2, c2, rfl, o, b1⟩
    have hn : n2 ≤ 4096 := Nat.le_trans (Nat.le_of_eq o.1) (Nat.le_trans (HL.out HR.out.symm) (by decide))
    have HN := Lib.hid hn
    clear hn
    have gb2 := gb.trans (b1.mono gb.size)
    clear b1
    go_wp2_with fail
    refine (Frame.put_ok A2 n2 c2 (bodyL b) w2.heap.size w2 o.rd (Nat.le_refl _) HN.out).mono ?_
    rintro e w3 ⟨A3, n3, c3, rfl, o3, b3⟩
    have gb3 := gb2.trans (b3.mono gb2.size)
    have o3' := o3.mono (base' := w.heap.size) gb2.size
    clear o o3 b3
    go_wp2_with fail
    go_ret2
    rw [HP.out]
    exact ⟨A3, n3, c3, rfl, o3', gb3⟩
end Go.Proofs.YtocoohpekpkmkaaGreat

/- The walk of board.Get. -/
namespace Go.Proofs.YtocoohpekpkmkaaGreat
set_option linter.unusedVariables false
set_option linter.unusedSimpArgs false
set_option maxRecDepth 100000
open Go.RowKit
open Reg (La Vl)
namespace Bo
def z8l : List La := List.replicate 8 (0, 0, 0)
/-- the board of a frame's body -/
def getX (xs : List UInt8) : Except Nat Bd :=
  match rows stepT Tally.zero xs with
  | .error y => .error y
  | .ok (t, r) => match rows stepP z8l r with
    | .error y => .error y
    | .ok (p, r') => match notesE r' with
      | .error y => .error y
      | .ok ((U, l), _) => if rightB ⟨t, p, U, l⟩ = true ∧ bodyL ⟨t, p, U, l⟩ = xs then .ok ⟨t, p, U, l⟩ else .error 4
def getE (bs : List UInt8) : Except Nat Bd :=
  match Frame.dec bs with
  | .error y => .error y
  | .ok (xs, r) => if r = [] then getX xs else .error 4
end Bo
def getBo (bs : List UInt8) : Bd × Nat := match Bo.getE bs with
  | .error y => (Bo.zero, y)
  | .ok b => (b, 0)
theorem getBo_err {bs : List UInt8} {y : Nat} (h : Bo.getE bs = .error y) : getBo bs = (Bo.zero, y) := by unfold getBo; rw [h]
theorem getBo_ok {bs : List UInt8} {b : Bd} (h : Bo.getE bs = .ok b) : getBo bs = (b, 0) := by unfold getBo; rw [h]
theorem getE_dec {bs : List UInt8} {y : Nat} (h : Frame.dec bs = .error y) : Bo.getE bs = .error y := by unfold Bo.getE; rw [h]
theorem getE_rest {bs xs r : List UInt8} (h : Frame.dec bs = .ok (xs, r)) (hr : r ≠ []) : Bo.getE bs = .error 4 := by unfold Bo.getE; rw [h]; simp only; rw [if_neg hr]
theorem getE_x {bs xs : List UInt8} (h : Frame.dec bs = .ok (xs, [])) : Bo.getE bs = Bo.getX xs := by unfold Bo.getE; rw [h]; simp only; rw [if_pos trivial]
theorem equal_ne (A1 A2 : Option Addr) (n1 c1 n2 c2 : Nat) (w : World) (hne : n1 ≠ n2) :
    Calls Tryz.prog 57 #[.slice A1 n1 c1, .slice A2 n2 c2] w fun e w' => e = .returned (.bool false) ∧ w' = w := by
  have hq : (((n1 : Nat) : Int) != (n2 : Nat)) = true := by rw [bne_iff_ne]; omega
  go_enter Tryz.func57, Tryz.ntmps57
  go_wp2_with fail
  go_ret
  exact ⟨rfl, rfl⟩
theorem equal_both (A1 A2 : Option Addr) (n1 c1 n2 c2 : Nat) (xs ys : List UInt8) (B1 B2 : Nat) (w : World) (h1 : RdB w B1 A1 n1 xs) (h2 : RdB w B2 A2 n2 ys) (hl : n1 ≤ 9223372036854775807) :
    Calls Tryz.prog 57 #[.slice A1 n1 c1, .slice A2 n2 c2] w fun e w' => e = .returned (.bool (decide (xs = ys))) ∧ ∃ m, w' = w.drewN m := by
  by_cases hne : n1 = n2
  · exact Frame.equal_any A1 A2 n1 c1 n2 c2 xs ys B1 B2 w h1 h2 hl hne
  · refine (equal_ne A1 A2 n1 c1 n2 c2 w hne).mono ?_
    rintro e w' ⟨rfl, rfl⟩
    have hd : ¬ xs = ys := fun e => hne (by rw [h1.1, h2.1, e])
    exact ⟨by rw [decide_eq_false hd], 0, rfl⟩
set_option maxHeartbeats 1600000 in
theorem bget_any (A : Option Addr) (n c : Nat) (bs : List UInt8) (w : World) (hb : RdB w w.heap.size A n bs) (hl : n ≤ 1000000) (hc : n ≤ c) (hm : c ≤ maxLen) :
    Calls Tryz.prog 18 #[.slice A n c] w (GiveBdE 84 w (getBo bs).1 (getBo bs).2) := by
  obtain ⟨x, k, hx⟩ : ∃ x k, getBo bs = (x, k) := ⟨_, _, rfl⟩
  rw [hx]
  have HX := Lib.hid hx
  have HRB := Lib.hid hb
  have HL := Lib.hid hl
  have HC := Lib.hid hc
  have HM := Lib.hid hm
  have z49 := Lib.hid (bc_size (s := .slice none 0 0) Bo.zero_shaped)
  clear hx hb hl hc hm
  go_enter_defers Tryz.func18, Tryz.ntmps18
  go_upto_region 2 with fail
  refine nameW ?_
  intro W hW
  obtain ⟨B, hB⟩ : ∃ B, B = w.heap.size := ⟨_, rfl⟩
  rw [← hB]
  have ke : Blk W B 41 (bc Bo.zero (.slice none 0 0)) := by rw [hW, hB, zbo]; exact (Blk.new w _ _).alloc _
  have kf : Blk W (B + 1) 50 #[.int .i64 0] := by
    have h := Blk.new (w.alloc (.cells (bc Bo.zero (.slice none 0 0)) 41)) 50 #[.int .i64 0]
    rw [zbo] at h
    rw [hW, hB]
    simpa using h
  have gb : Below B w W := by rw [hW, hB]; exact ((Below.refl _ _).alloc (Nat.le_refl _) _).alloc (by simp) _
  have HB := Lib.hid hB
  clear hW hB
  have hfr := HRB.out.below (by rw [← HB.out]; exact gb)
  go_wp2_with fail
  refine (Frame.get_any A n c bs w.heap.size W hfr (by have := gb.size; have := HB.out; have := kf.lt; omega) (by have := HL.out; omega) HC.out HM.out).mono ?_
  rintro e w1 ⟨b1, he⟩
  have ke := ke.below b1 ke.lt
  have kf := kf.below b1 kf.lt
  have gb := gb.trans (b1.mono (by have := kf.lt; have := ke.lt; have := gb.size; have := HB.out; omega))
  clear hfr
  rcases hd : Frame.dec bs with y | ⟨xs, r⟩
  · rw [hd] at he
    simp only at he
    subst he
    have hy := Frame.dec_err hd
    have hq : ((y : Int) == 0) = false := by rw [beq_eq_false_iff_ne]; omega
    have HD := Lib.hid hd
    clear hd hy b1
    go_wp2_with fail
    refine (bmust_bad _ _).mono ?_
    rintro e w2 ⟨rfl, rfl⟩
    have hxk : Bo.zero = x ∧ (y : Nat) = k := by
      have := HX.out
      rw [getBo_err (show Bo.getE bs = .error y by exact getE_dec HD.out)] at this
      injection this with h1 h2
      exact ⟨h1, h2⟩
    obtain ⟨rfl, rfl⟩ := hxk
    go_wp2_with fail
    refine leaves_cons (f := 37) (args := #[.pointer (some ⟨B + 1, 0, none⟩)]) (by simp) (by simp [go_sem]) ?_
    refine (bcaught_panic _ _ _ _ _ (kf.cell 0) (kf.free 0)).mono ?_
    rintro e u' wZ ⟨rfl, rfl, rfl⟩
    have k4 := (kf.alloc (.cells #[.int .i64 ((y : Nat) : Int)] 134)).set_ 0 (.int .i64 ((y : Nat) : Int))
    have e4 := (ke.alloc (.cells #[.int .i64 ((y : Nat) : Int)] 134)).far (p := ⟨B + 1, 0, none⟩) (by show B ≠ B + 1; omega) (.int .i64 ((y : Nat) : Int))
    have c4 := k4.cell 0
    have g4 := (gb.alloc (by have := gb.size; have := HB.out; omega) (.cells #[.int .i64 ((y : Nat) : Int)] 134)).setCell (p := ⟨B + 1, 0, none⟩) (by show B ≤ B + 1; omega) (.int .i64 ((y : Nat) : Int))
    exact ⟨.tuple #[.agg (bc Bo.zero (.slice none 0 0)), .int .i64 ((y : Nat) : Int)], results_cc30 rfl rowBo e4 z49.out rfl rfl (by simp [go_sem, c4]), .agg (bc Bo.zero (.slice none 0 0)), rfl, ⟨none, 0, 0, rfl, OwnV.nil _ _ _, by omega⟩, by rw [← HB.out]; exact g4⟩
  rw [hd] at he
  simp only at he
  obtain ⟨A1, c1, A2, c2, rfl, o1, o2, _⟩ := he
  have HD := Lib.hid hd
  have hxl := (Frame.dec_ok hd).2
  have HXL := Lib.hid hxl
  clear hd hxl b1
  go_wp2_with fail
  refine (bmust_ok _ _).mono ?_
  rintro e w2 ⟨rfl, rfl⟩
  by_cases hr : r = []
  case neg =>
    have hrl : ((r.length : Nat) : Int) ≠ 0 := by
      intro h
      exact hr (List.eq_nil_of_length_eq_zero (by omega))
    have hq : (((r.length : Nat) : Int) == 0) = false := by rw [beq_eq_false_iff_ne]; exact hrl
    have hrn : ¬ r.length = 0 := by omega
    have HRR := Lib.hid hr
    clear hr hrl
    go_wp2_with fail
    refine (bmust_no (by simp [HRR.out]) _ _).mono ?_
    rintro e w2 ⟨rfl, rfl⟩
    have hxk : Bo.zero = x ∧ (4 : Nat) = k := by
      have := HX.out
      rw [getBo_err (show Bo.getE bs = .error 4 by exact getE_rest HD.out HRR.out)] at this
      injection this with h1 h2
      exact ⟨h1, h2⟩
    obtain ⟨rfl, rfl⟩ := hxk
    go_wp2_with fail
    refine leaves_cons (f := 37) (args := #[.pointer (some ⟨B + 1, 0, none⟩)]) (by simp) (by simp [go_sem]) ?_
    refine (bcaught_panic _ _ _ _ _ (kf.cell 0) (kf.free 0)).mono ?_
    rintro e u' wZ ⟨rfl, rfl, rfl⟩
    have k4 := (kf.alloc (.cells #[.int .i64 4] 134)).set_ 0 (.int .i64 4)
    have e4 := (ke.alloc (.cells #[.int .i64 4] 134)).far (p := ⟨B + 1, 0, none⟩) (by show B ≠ B + 1; omega) (.int .i64 4)
    have c4 := k4.cell 0
    have g4 := (gb.alloc (by have := gb.size; have := HB.out; omega) (.cells #[.int .i64 4] 134)).setCell (p := ⟨B + 1, 0, none⟩) (by show B ≤ B + 1; omega) (.int .i64 4)
    exact ⟨.tuple #[.agg (bc Bo.zero (.slice none 0 0)), .int .i64 4], results_cc30 rfl rowBo e4 z49.out rfl rfl (by simp [go_sem, c4]), .agg (bc Bo.zero (.slice none 0 0)), rfl, ⟨none, 0, 0, rfl, OwnV.nil _ _ _, by omega⟩, by rw [← HB.out]; exact g4⟩
  case pos =>
  subst hr
  go_wp2_with fail
  refine (bmust_yes (by simp) _ _).mono ?_
  rintro e w2 ⟨rfl, rfl⟩
  have hxr := o1.rd
  clear o2
  go_wp2_with fail
  refine (new_any A1 _ c1 xs _ w1 hxr (Nat.le_refl _) (by have := HXL.out; omega)).mono ?_
  rintro e w2 ⟨A3, c3, g, rfl, hg, R2, b2⟩
  obtain ⟨L1, hL1⟩ : ∃ L1, L1 = w1.heap.size := ⟨_, rfl⟩
  have hgB : B + 1 < g := by have := kf.lt; omega
  have hLB : B + 1 < L1 := by have := kf.lt; omega
  have ke := ke.below b2 ke.lt
  have kf := kf.below b2 kf.lt
  have gb := gb.trans (b2.mono (by have := gb.size; have := HB.out; omega))
  have gA : Below L1 w1 w2 := by rw [hL1]; exact b2
  have hgL : L1 ≤ g := by omega
  have HX1 := Lib.hid (show RdB w1 L1 A1 xs.length xs by rw [hL1]; exact hxr)
  have HL1 := Lib.hid hL1
  clear b2 hg hxr hL1
  go_upto_region 7 with fail
  refine nameW ?_
  intro W2 hW2
  obtain ⟨v, hv⟩ : ∃ v, v = w2.heap.size := ⟨_, rfl⟩
  rw [← hv]
  have kv : Blk W2 v 110 #[.pointer (some ⟨g, 0, none⟩)] := by rw [hW2, hv]; exact (Blk.new w2 _ _).alloc _
  have kY : Blk W2 (v + 1) 41 (bc Bo.zero (.slice none 0 0)) := by
    have h := Blk.new (w2.alloc (.cells #[.pointer (some ⟨g, 0, none⟩)] 110)) 41 (bc Bo.zero (.slice none 0 0))
    rw [zbo] at h ⊢
    rw [hW2, hv]
    simpa using h
  have bA : Below w2.heap.size w2 W2 := by rw [hW2]; exact ((Below.refl _ _).alloc (Nat.le_refl _) _).alloc (by simp) _
  have ke := ke.below bA ke.lt
  have kf := kf.below bA kf.lt
  have gb := gb.trans (bA.mono (by have := gb.size; have := HB.out; omega))
  have gA := gA.trans (bA.mono (by have := gA.size; have := HL1.out; omega))
  have R2 := R2.below (bA.mono (by have := R2.lt; omega))
  have hgv : g < v := by have := R2.lt; rw [hv]; have := kv.lt; exact Nat.lt_of_lt_of_le (lt_of_block ‹Rdr w2 g A3 xs.length c3 xs 0›.1) (Nat.le_refl _)
  clear hW2 bA hv
  go_wp2_with ((with_reducible refine wpList_ld (n := 1) rowRd30 kv rfl ?_ ?_); rotate_left; (rfl))
  refine (writes_any g A3 _ c3 xs W2 R2).mono ?_
  intro e w3 hBB
  cases hR1 : Bo.rows Bo.stepT Tally.zero xs with
  | error y =>
    obtain ⟨rfl, gg⟩ := hBB.bad hR1
    have ke := ke.grown gg (by intro e; injection e with e; omega)
    have kf := kf.grown gg (by intro e; injection e with e; omega)
    have gb := gb.grown gg (by have := gb.size; have := HB.out; omega) (fun q hq => by injection hq; omega)
    have gA := gA.trans (only_Below gg (by omega) (by have := gA.size; have := HL1.out; omega))
    have HR1 := Lib.hid hR1
    clear hBB hR1 gg
    have hxk : Bo.zero = x ∧ (y : Nat) = k := by
      have := HX.out
      rw [getBo_err (show Bo.getE bs = .error y by rw [getE_x HD.out]; unfold Bo.getX; rw [HR1.out])] at this
      injection this with h1 h2
      exact ⟨h1, h2⟩
    obtain ⟨rfl, rfl⟩ := hxk
    go_wp2_with fail
    refine leaves_cons (f := 37) (args := #[.pointer (some ⟨B + 1, 0, none⟩)]) (by simp) (by simp [go_sem]) ?_
    refine (bcaught_panic _ _ _ _ _ (kf.cell 0) (kf.free 0)).mono ?_
    rintro e u' wZ ⟨rfl, rfl, rfl⟩
    have k4 := (kf.alloc (.cells #[.int .i64 ((y : Nat) : Int)] 134)).set_ 0 (.int .i64 ((y : Nat) : Int))
    have e4 := (ke.alloc (.cells #[.int .i64 ((y : Nat) : Int)] 134)).far (p := ⟨B + 1, 0, none⟩) (by show B ≠ B + 1; omega) (.int .i64 ((y : Nat) : Int))
    have c4 := k4.cell 0
    have g4 := (gb.alloc (by have := gb.size; have := HB.out; omega) (.cells #[.int .i64 ((y : Nat) : Int)] 134)).setCell (p := ⟨B + 1, 0, none⟩) (by show B ≤ B + 1; omega) (.int .i64 ((y : Nat) : Int))
    exact ⟨.tuple #[.agg (bc Bo.zero (.slice none 0 0)), .int .i64 ((y : Nat) : Int)], results_cc30 rfl rowBo e4 z49.out rfl rfl (by simp [go_sem, c4]), .agg (bc Bo.zero (.slice none 0 0)), rfl, ⟨none, 0, 0, rfl, OwnV.nil _ _ _, by omega⟩, by rw [← HB.out]; exact g4⟩
  | ok p0 =>
  obtain ⟨t, r1⟩ := p0
  obtain ⟨_, rfl, ⟨rfl, ht16⟩, ⟨A4, c4, R4⟩, gg⟩ := hBB.good hR1
  have ke := ke.grown gg (by intro e; injection e with e; omega)
  have kf := kf.grown gg (by intro e; injection e with e; omega)
  have kv := kv.grown gg (by intro e; injection e with e; omega)
  have kY := kY.grown gg (by intro e; injection e with e; omega)
  have gb := gb.grown gg (by have := gb.size; have := HB.out; omega) (fun q hq => by injection hq; omega)
  have gA := gA.trans (only_Below gg (by omega) (by have := gA.size; have := HL1.out; omega))
  have HR1 := Lib.hid hR1
  have T16 := Lib.hid ht16
  have S16 := Lib.hid (show (tc t).size = 16 by rw [tc_size, ht16])
  have O16 := Lib.hid (tc_one t)
  have hth := kY.there_ (o := 0) (n := 16) (by rw [z49.out]; omega)
  clear hBB hR1 gg ht16 R2
  go_upto_region 8 with ((with_reducible refine wpList_str rowT hth S16.out O16.out ?_ ?_ ?_); rotate_left; (rfl); (rfl); intro w4 hw4)
  have gx := cells_grown w3 (v + 1) 0 (tc t).toList
  rw [← hw4] at gx
  have kY := kY.setT Bo.zero_shaped T16.out
  have kY : Blk w4 (v + 1) 41 (bc (Bo.pb t Bo.z8l) (.slice none 0 0)) := by rw [hw4]; exact kY
  have ke := ke.grown gx (by intro e; injection e with e; omega)
  have kf := kf.grown gx (by intro e; injection e with e; omega)
  have kv := kv.grown gx (by intro e; injection e with e; omega)
  have R4 := R4.below (only_Below gx (by omega) (by have := R4.lt; omega) : Below (g + 1) w3 w4)
  have gb := gb.grown gx (by have := gb.size; have := HB.out; omega) (fun q hq => by injection hq; omega)
  have gA := gA.trans (only_Below gx (by omega) (by have := gA.size; have := HL1.out; omega))
  clear gx hw4 hth
  have hmf : ∀ (fn : Fn) (first cap : Array Value) (w : World), (Instr.makeFunc fn first cap).run Tryz.prog w = .ok (.func fn first cap) w := fun _ _ _ _ => rfl
  have hck : ∀ args w, (callFunc 54 args).run Tryz.prog w = .ok (.enter 54 args) w := by
    intro args w
    simp [go_sem]
  have hrows := rows_any Bo.stepP (JP g v (v + 1) t) g (FT g (v + 1)) (show FT g (v + 1) g from .inl rfl) 54 #[.pointer (some ⟨v, 0, none⟩), .pointer (some ⟨v + 1, 0, none⟩)] hck
    (fun st w w' h hg => h.grown hgv (by omega) hg)
    (fun p st bs A n c w hp hr hj _ => get1_any g v (v + 1) hgv (by omega) (by omega) t p st bs A n c w hp hr hj)
    A4 _ c4 r1 Bo.z8l w4 R4 ⟨kv, kY, T16.out, rfl, rfl⟩ (fun k hk => by
      rcases hk with rfl | rfl
      · exact R4.lt
      · exact kY.lt)
  have HROWS := Lib.hid hrows
  clear hrows
  go_wp2_with ((with_reducible refine wpList_ld (n := 1) rowRd30 kv rfl ?_ ?_); rotate_left; (rfl))
  refine HROWS.out.mono ?_
  intro e w5 hBB
  have OO := Lib.hid (fun (o : Only (FT g (v + 1)) w4 w5) => And.intro (ke.keptOnly o (by rintro (h | h) <;> omega)) (And.intro (kf.keptOnly o (by rintro (h | h) <;> omega)) (And.intro (gb.trans (o.to_below (B := B) (by rintro k (h | h) <;> omega) (by have := ke.lt; omega))) (gA.trans (o.to_below (B := L1) (by rintro k (h | h) <;> omega) (by have := R4.lt; omega))))))
  clear HROWS hck kY kv R4
  cases hR2 : Bo.rows Bo.stepP Bo.z8l r1 with
  | error y =>
    obtain ⟨rfl, o⟩ := hBB.bad hR2
    obtain ⟨ke, kf, gb, gA⟩ := OO.out o
    have HR2 := Lib.hid hR2
    clear hBB hR2 o OO
    have hxk : Bo.zero = x ∧ (y : Nat) = k := by
      have := HX.out
      rw [getBo_err (show Bo.getE bs = .error y by rw [getE_x HD.out]; unfold Bo.getX; rw [HR1.out]; simp only [HR2.out])] at this
      injection this with h1 h2
      exact ⟨h1, h2⟩
    obtain ⟨rfl, rfl⟩ := hxk
    go_wp2_with fail
    refine leaves_cons (f := 37) (args := #[.pointer (some ⟨B + 1, 0, none⟩)]) (by simp) (by simp [go_sem]) ?_
    refine (bcaught_panic _ _ _ _ _ (kf.cell 0) (kf.free 0)).mono ?_
    rintro e u' wZ ⟨rfl, rfl, rfl⟩
    have k4 := (kf.alloc (.cells #[.int .i64 ((y : Nat) : Int)] 134)).set_ 0 (.int .i64 ((y : Nat) : Int))
    have e4 := (ke.alloc (.cells #[.int .i64 ((y : Nat) : Int)] 134)).far (p := ⟨B + 1, 0, none⟩) (by show B ≠ B + 1; omega) (.int .i64 ((y : Nat) : Int))
    have c4 := k4.cell 0
    have g4 := (gb.alloc (by have := gb.size; have := HB.out; omega) (.cells #[.int .i64 ((y : Nat) : Int)] 134)).setCell (p := ⟨B + 1, 0, none⟩) (by show B ≤ B + 1; omega) (.int .i64 ((y : Nat) : Int))
    exact ⟨.tuple #[.agg (bc Bo.zero (.slice none 0 0)), .int .i64 ((y : Nat) : Int)], results_cc30 rfl rowBo e4 z49.out rfl rfl (by simp [go_sem, c4]), .agg (bc Bo.zero (.slice none 0 0)), rfl, ⟨none, 0, 0, rfl, OwnV.nil _ _ _, by omega⟩, by rw [← HB.out]; exact g4⟩
  | ok p1 =>
  obtain ⟨pl, r2⟩ := p1
  obtain ⟨rfl, ⟨A5, c5, R5⟩, ⟨kv, kY, hsp⟩, o⟩ := hBB.good hR2
  obtain ⟨ke, kf, gb, gA⟩ := OO.out o
  have HR2 := Lib.hid hR2
  have HSP := Lib.hid hsp
  clear hBB hR2 o OO hsp
  go_wp2_with ((with_reducible refine wpList_ld (n := 1) rowRd30 kv rfl ?_ ?_); rotate_left; (rfl))
  refine (notes_any g A5 _ c5 r2 w5 R5).mono ?_
  intro e w6 hBB
  cases hR3 : Bo.notesE r2 with
  | error y =>
    obtain ⟨rfl, gg⟩ := hBB.bad hR3
    have ke := ke.grown gg (by intro e; injection e with e; omega)
    have kf := kf.grown gg (by intro e; injection e with e; omega)
    have gb := gb.grown gg (by have := gb.size; have := HB.out; omega) (fun q hq => by injection hq; omega)
    have gA := gA.trans (only_Below gg (by omega) (by have := gA.size; have := HL1.out; omega))
    have HR3 := Lib.hid hR3
    clear hBB hR3 gg
    have hxk : Bo.zero = x ∧ (y : Nat) = k := by
      have := HX.out
      rw [getBo_err (show Bo.getE bs = .error y by rw [getE_x HD.out]; unfold Bo.getX; rw [HR1.out]; simp only [HR2.out, HR3.out])] at this
      injection this with h1 h2
      exact ⟨h1, h2⟩
    obtain ⟨rfl, rfl⟩ := hxk
    go_wp2_with fail
    refine leaves_cons (f := 37) (args := #[.pointer (some ⟨B + 1, 0, none⟩)]) (by simp) (by simp [go_sem]) ?_
    refine (bcaught_panic _ _ _ _ _ (kf.cell 0) (kf.free 0)).mono ?_
    rintro e u' wZ ⟨rfl, rfl, rfl⟩
    have k4 := (kf.alloc (.cells #[.int .i64 ((y : Nat) : Int)] 134)).set_ 0 (.int .i64 ((y : Nat) : Int))
    have e4 := (ke.alloc (.cells #[.int .i64 ((y : Nat) : Int)] 134)).far (p := ⟨B + 1, 0, none⟩) (by show B ≠ B + 1; omega) (.int .i64 ((y : Nat) : Int))
    have c4 := k4.cell 0
    have g4 := (gb.alloc (by have := gb.size; have := HB.out; omega) (.cells #[.int .i64 ((y : Nat) : Int)] 134)).setCell (p := ⟨B + 1, 0, none⟩) (by show B ≤ B + 1; omega) (.int .i64 ((y : Nat) : Int))
    exact ⟨.tuple #[.agg (bc Bo.zero (.slice none 0 0)), .int .i64 ((y : Nat) : Int)], results_cc30 rfl rowBo e4 z49.out rfl rfl (by simp [go_sem, c4]), .agg (bc Bo.zero (.slice none 0 0)), rfl, ⟨none, 0, 0, rfl, OwnV.nil _ _ _, by omega⟩, by rw [← HB.out]; exact g4⟩
  | ok p2 =>
  obtain ⟨⟨U, l⟩, r3⟩ := p2
  obtain ⟨_, rfl, ⟨hU, hl8, AS, m, cS, rfl, os⟩, ⟨A6, c6, R6⟩, gg⟩ := hBB.good hR3
  have ke := ke.grown gg (by intro e; injection e with e; omega)
  have kf := kf.grown gg (by intro e; injection e with e; omega)
  have kv := kv.grown gg (by intro e; injection e with e; omega)
  have kY := kY.grown gg (by intro e; injection e with e; omega)
  have gb := gb.grown gg (by have := gb.size; have := HB.out; omega) (fun q hq => by injection hq; omega)
  have gA := gA.trans (only_Below gg (by omega) (by have := gA.size; have := HL1.out; omega))
  have HR3 := Lib.hid hR3
  have HU := Lib.hid hU
  have HL8 := Lib.hid hl8
  have S9 := Lib.hid (uc_size hU (.slice AS m cS))
  have O9 := Lib.hid (uc_one (U := U) (s := .slice AS m cS) rfl)
  have hth := kY.there_ (o := 40) (n := 9) (by rw [bc_size HSP.out]; omega)
  clear hBB hR3 gg hU hl8 R5 R6
  go_upto_region 10 with ((with_reducible refine wpList_str rowM hth S9.out O9.out ?_ ?_ ?_); rotate_left; (rfl); (rfl); intro w7 hw7)
  have gx := cells_grown w6 (v + 1) 40 (uc U (.slice AS m cS)).toList
  rw [← hw7] at gx
  have os := os.grown gx (.inr (own_ne os.2 kY (by decide)))
  have kY := kY.setN HSP.out (l := l) (s' := .slice AS m cS) HU.out
  obtain ⟨b, hbd⟩ : ∃ b : Bd, b = ⟨t, pl, U, l⟩ := ⟨_, rfl⟩
  have kY : Blk w7 (v + 1) 41 (bc b (.slice AS m cS)) := by rw [hw7, hbd]; exact kY
  have hsb : Bo.Shaped b := by rw [hbd]; exact ⟨T16.out, HSP.out.p, HU.out⟩
  have hbl : b.l = l := by rw [hbd]
  rw [← hbl] at os
  have ke := ke.grown gx (by intro e; injection e with e; omega)
  have kf := kf.grown gx (by intro e; injection e with e; omega)
  have gb := gb.grown gx (by have := gb.size; have := HB.out; omega) (fun q hq => by injection hq; omega)
  have gA := gA.trans (only_Below gx (by omega) (by have := gA.size; have := HL1.out; omega))
  have hm8 : m ≤ 100000 := by rw [os.1, hbl]; have := HL8.out; omega
  have HGX := Lib.hid (show Bo.getX xs = if Bo.rightB b = true ∧ bodyL b = xs then .ok b else .error 4 by unfold Bo.getX; rw [HR1.out]; simp only [HR2.out, HR3.out]; rw [← hbd])
  have HSB := Lib.hid hsb
  have HBL := Lib.hid hbl
  have HM8 := Lib.hid hm8
  have N49 := Lib.hid (bc_size (s := .slice AS m cS) hsb)
  have N1 := Lib.hid (bc_one (b := b) (s := .slice AS m cS) rfl)
  clear gx hw7 hth hbd hsb hbl hm8 kv HR1 HR2 HR3
  obtain ⟨R, hR⟩ : ∃ R, R = Bo.rightB b := ⟨_, rfl⟩
  have HRI := Lib.hid hR
  have hrt : Calls Tryz.prog _ _ w7 (GiveBo w7 R) := hR ▸ boRight_any b HSB.out (.agg (bc b (.slice AS m cS))) w7 ⟨AS, m, cS, rfl, os.rd, HM8.out⟩
  have HRT := Lib.hid hrt
  clear hR hrt
  go_wp2_with ((with_reducible refine wpList_ld rowBo kY N49.out ?_ ?_); rotate_left; (rfl))
  refine HRT.out.mono ?_
  rintro e w8 ⟨rfl, b8⟩
  have ke := ke.below b8 ke.lt
  have kf := kf.below b8 kf.lt
  have kY := kY.below b8 kY.lt
  have os := os.below b8 (Nat.le_refl _)
  have gb := gb.trans (b8.mono (by have := gb.size; have := HB.out; omega))
  have gA := gA.trans (b8.mono (by have := gA.size; have := HL1.out; omega))
  clear b8 HRT
  cases R
  case false =>
    go_wp2_with fail
    refine (bmust_bad 4 _).mono ?_
    rintro e w9 ⟨rfl, rfl⟩
    have hxk : Bo.zero = x ∧ (4 : Nat) = k := by
      have := HX.out
      rw [getBo_err (show Bo.getE bs = .error 4 by rw [getE_x HD.out, HGX.out, if_neg (by rw [← HRI.out]; simp)])] at this
      injection this with h1 h2
      exact ⟨h1, h2⟩
    obtain ⟨rfl, rfl⟩ := hxk
    go_wp2_with fail
    refine leaves_cons (f := 37) (args := #[.pointer (some ⟨B + 1, 0, none⟩)]) (by simp) (by simp [go_sem]) ?_
    refine (bcaught_panic _ _ _ _ _ (kf.cell 0) (kf.free 0)).mono ?_
    rintro e u' wZ ⟨rfl, rfl, rfl⟩
    have k4 := (kf.alloc (.cells #[.int .i64 4] 134)).set_ 0 (.int .i64 4)
    have e4 := (ke.alloc (.cells #[.int .i64 4] 134)).far (p := ⟨B + 1, 0, none⟩) (by show B ≠ B + 1; omega) (.int .i64 4)
    have c4 := k4.cell 0
    have g4 := (gb.alloc (by have := gb.size; have := HB.out; omega) (.cells #[.int .i64 4] 134)).setCell (p := ⟨B + 1, 0, none⟩) (by show B ≤ B + 1; omega) (.int .i64 4)
    exact ⟨.tuple #[.agg (bc Bo.zero (.slice none 0 0)), .int .i64 4], results_cc30 rfl rowBo e4 z49.out rfl rfl (by simp [go_sem, c4]), .agg (bc Bo.zero (.slice none 0 0)), rfl, ⟨none, 0, 0, rfl, OwnV.nil _ _ _, by omega⟩, by rw [← HB.out]; exact g4⟩
  case true =>
  go_wp2_with ((with_reducible refine wpList_ldg rowBo kY N49.out ?_ ?_ ?_); rotate_left; (rfl); (rfl))
  refine (bbody_any b HSB.out HRI.out.symm (.agg (bc b (.slice AS m cS))) w8 ⟨AS, m, cS, rfl, os.rd, HM8.out⟩).mono ?_
  rintro e w9 ⟨A7, n7, c7, rfl, o7, b9⟩
  have ke := ke.below b9 ke.lt
  have kf := kf.below b9 kf.lt
  have kY := kY.below b9 kY.lt
  have os := os.below b9 (Nat.le_refl _)
  have gb := gb.trans (b9.mono (by have := gb.size; have := HB.out; omega))
  have gA := gA.trans (b9.mono (by have := gA.size; have := HL1.out; omega))
  clear b9
  have hxs : RdB w9 L1 A1 xs.length xs := HX1.out.below gA
  have heq := equal_both A7 A1 n7 c7 xs.length c1 (bodyL b) xs _ _ w9 o7.rd hxs (Nat.le_trans (Nat.le_of_eq o7.1) (Nat.le_trans (bodyL_len HSB.out (right_l8 HRI.out.symm)) (by decide)))
  have HEQ := Lib.hid heq
  clear o7 hxs heq
  by_cases hq : bodyL b = xs
  case neg =>
    have HQ := Lib.hid hq
    clear hq
    go_wp2_with fail
    refine HEQ.out.mono ?_
    rintro e wD ⟨rfl, mm, rfl⟩
    rw [decide_eq_false HQ.out]
    have ke : Blk (w9.drewN mm) B 41 (bc Bo.zero (.slice none 0 0)) := ke
    have kf : Blk (w9.drewN mm) (B + 1) 50 #[.int .i64 0] := kf
    have gb := below_drewN gb mm
    clear HEQ kY os gA
    go_wp2_with fail
    refine (bmust_bad 4 _).mono ?_
    rintro e wE ⟨rfl, rfl⟩
    have hxk : Bo.zero = x ∧ (4 : Nat) = k := by
      have := HX.out
      rw [getBo_err (show Bo.getE bs = .error 4 by rw [getE_x HD.out, HGX.out, if_neg (fun h => HQ.out h.2)])] at this
      injection this with h1 h2
      exact ⟨h1, h2⟩
    obtain ⟨rfl, rfl⟩ := hxk
    go_wp2_with fail
    refine leaves_cons (f := 37) (args := #[.pointer (some ⟨B + 1, 0, none⟩)]) (by simp) (by simp [go_sem]) ?_
    refine (bcaught_panic _ _ _ _ _ (kf.cell 0) (kf.free 0)).mono ?_
    rintro e u' wZ ⟨rfl, rfl, rfl⟩
    have k4 := (kf.alloc (.cells #[.int .i64 4] 134)).set_ 0 (.int .i64 4)
    have e4 := (ke.alloc (.cells #[.int .i64 4] 134)).far (p := ⟨B + 1, 0, none⟩) (by show B ≠ B + 1; omega) (.int .i64 4)
    have c4 := k4.cell 0
    have g4 := (gb.alloc (by have := gb.size; have := HB.out; omega) (.cells #[.int .i64 4] 134)).setCell (p := ⟨B + 1, 0, none⟩) (by show B ≤ B + 1; omega) (.int .i64 4)
    exact ⟨.tuple #[.agg (bc Bo.zero (.slice none 0 0)), .int .i64 4], results_cc30 rfl rowBo e4 z49.out rfl rfl (by simp [go_sem, c4]), .agg (bc Bo.zero (.slice none 0 0)), rfl, ⟨none, 0, 0, rfl, OwnV.nil _ _ _, by omega⟩, by rw [← HB.out]; exact g4⟩
  case pos =>
  have hxk : b = x ∧ 0 = k := by
    have := HX.out
    rw [getBo_ok (show Bo.getE bs = .ok b by rw [getE_x HD.out, HGX.out, if_pos ⟨HRI.out.symm, hq⟩])] at this
    injection this with h1 h2
    exact ⟨h1, h2⟩
  obtain ⟨rfl, rfl⟩ := hxk
  have HQ := Lib.hid hq
  clear hq
  go_wp2_with fail
  refine HEQ.out.mono ?_
  rintro e wD ⟨rfl, mm, rfl⟩
  rw [decide_eq_true HQ.out]
  have ke : Blk (w9.drewN mm) B 41 (bc Bo.zero (.slice none 0 0)) := ke
  have kf : Blk (w9.drewN mm) (B + 1) 50 #[.int .i64 0] := kf
  have kY : Blk (w9.drewN mm) (v + 1) 41 (bc b (.slice AS m cS)) := kY
  have gb := below_drewN gb mm
  have os : OwnV 84 (w9.drewN mm) 0 AS m cS b.l := os
  generalize w9.drewN mm = wD at *
  clear HEQ gA
  go_wp2_with fail
  refine (bmust_ok 4 _).mono ?_
  rintro e wE ⟨rfl, rfl⟩
  have cf := kf.cell 0
  have ff := kf.free 0
  go_wp2_with first
    | ((with_reducible refine wpList_ld rowBo kY N49.out ?_ ?_); rotate_left; (rfl))
    | ((with_reducible refine wpList_st rowBo ke N49.out z49.out N1.out ?_ ?_ ?_); rotate_left; (rfl); (rfl); intro w10 k10 g10 z10; have kf := kf.grown g10 (fun h => by injection h; omega); have cf := kf.cell 0; have ff := kf.free 0)
  have os := os.grown g10 (.inr (own_ne os.2 ke (by decide)))
  have gb := gb.grown g10 (by have := gb.size; have := HB.out; omega) (fun q hq => by injection hq; have := HB.out; omega)
  refine leaves_cons (f := 37) (args := #[.pointer (some ⟨B + 1, 0, none⟩)]) (by simp) (by simp [go_sem]) ?_
  refine (bcaught_none _ _).mono ?_
  rintro e u' w11 ⟨rfl, rfl, rfl⟩
  have k12 := k10.far (p := ⟨B + 1, 0, none⟩) (by show B ≠ B + 1; omega) (.int .i64 0)
  have f12 := kf.set_ 0 (.int .i64 0)
  have c12 := f12.cell 0
  have o12 := os.setFar (p := ⟨B + 1, 0, none⟩) (own_ne os.2 kf (by decide)) (.int .i64 0)
  have g12 := gb.setCell (p := ⟨B + 1, 0, none⟩) (by show B ≤ B + 1; omega) (.int .i64 0)
  exact ⟨.tuple #[.agg (bc b (.slice AS m cS)), .int .i64 0], results_cc30 rfl rowBo k12 N49.out rfl rfl (by simp [go_sem, c12]), .agg (bc b (.slice AS m cS)), rfl, ⟨AS, m, cS, rfl, o12, HM8.out⟩, by rw [← HB.out]; exact g12⟩
end Go.Proofs.YtocoohpekpkmkaaGreat

/- The walks of the law's To and From of boards. -/
namespace Go.Proofs.YtocoohpekpkmkaaGreat
set_option linter.unusedVariables false
set_option linter.unusedSimpArgs false
set_option maxRecDepth 100000
open Go.RowKit
open Reg (La Vl)
theorem run_indexRP (w : World) (p : List La) (hp : p.length = 8) (k : Nat) (hk : k < 8) : (Instr.index 27 (.agg (plA p)) (.int .i64 (k : Nat))).run Tryz.prog w = .ok (v3 (p.getD k (0, 0, 0))) w := by
  have hsz : (sizeOf 26).run Tryz.prog w = .ok 3 w := by kernel_rfl
  have hx := plA_at hp hk
  have hag : (isAgg 26).run Tryz.prog w = .ok true w := by kernel_rfl
  simp only [Instr.index, asIntOf, Sem.run_bind, Sem.run_pure, Result.andThen_ok, run_underlying Tryz.underlying27, hsz]
  rw [if_pos (by omega)]
  simp [part, hag, hsz, hx, v3, pc]
theorem half_len {p : List La} (hp : p.length = 8) {k : Nat} (hk : k ≤ 8) : (p.take k ++ Bo.z8l.drop k).length = 8 := by
  rw [List.length_append, List.length_take, List.length_drop, hp]
  show min k 8 + (8 - k) = 8
  omega
theorem half_succ {p : List La} (hp : p.length = 8) {k : Nat} (hk : k < 8) : (p.take k ++ Bo.z8l.drop k).set k (p.getD k (0, 0, 0)) = p.take (k + 1) ++ Bo.z8l.drop (k + 1) := by
  have h1 : (p.take k).length = k := by rw [List.length_take, hp]; omega
  have h2 : Bo.z8l.drop k = (0, 0, 0) :: Bo.z8l.drop (k + 1) := by
    rw [List.drop_eq_getElem_cons (show k < Bo.z8l.length from hk)]
    congr 1
    unfold Bo.z8l
    rw [List.getElem_replicate]
  rw [List.set_append_right _ _ (by omega), h1, Nat.sub_self, h2, List.set_cons_zero, take_snoc p (by omega), List.append_assoc, List.getD_eq_getElem?_getD, List.getElem?_eq_getElem (by omega)]
  rfl
theorem wp_bd {P : Program} {o : Oper} {a : Act} {w w' : World} {v : Value} {K : Act → World → Prop} {Q : Exit → Act → World → Prop} (t : TypeId) (parts : Array (Nat × Operand)) (ho : o.op = .build t parts)
    (hrun : (Instr.build t (parts.map fun (i, x) => (i, a.eval x))).run P w = .ok v w') (h : K (a.put o.dst v) w') : Oper.wp P o a w K Q := by
  unfold Oper.wp execOp
  simp only [ho, Sem.run_bind, hrun, Result.andThen_ok]
  exact h
theorem sixteen {l : List Int} (h : l.length = 16) : ∃ a b c d e f g i a' b' c' d' e' f' g' i', l = [a, b, c, d, e, f, g, i, a', b', c', d', e', f', g', i'] := by
  obtain ⟨a, b, c, d, e, f, g, i, h1⟩ := eight (U := l.take 8) (by rw [List.length_take]; omega)
  obtain ⟨a', b', c', d', e', f', g', i', h2⟩ := eight (U := l.drop 8) (by rw [List.length_drop]; omega)
  refine ⟨a, b, c, d, e, f, g, i, a', b', c', d', e', f', g', i', ?_⟩
  rw [← List.take_append_drop 8 l, h1, h2]
  rfl
theorem buildBo {t u : List Int} {l : List Vl} (ht : t.length = 16) (hu : u.length = 8) (s : Value) (w : World) : (Instr.build 41 #[(0, .agg (tc t)), (2, .agg (uc u s))]).run Tryz.prog w = .ok (.agg (bc ⟨t, Bo.z8l, u, l⟩ s)) w := by
  obtain ⟨a, b, c, d, e, f, g, i, a', b', c', d', e', f', g', i', rfl⟩ := sixteen ht
  obtain ⟨j1, j2, j3, j4, j5, j6, j7, j8, rfl⟩ := eight hu
  kernel_rfl
theorem buildRBo {t u : List Int} {l : List Vl} (ht : t.length = 16) (hu : u.length = 8) (s : Value) (w : World) : (Instr.build 32 #[(0, .agg (tc t)), (2, .agg (uc u s))]).run Tryz.prog w = .ok (.agg (bc ⟨t, Bo.z8l, u, l⟩ s)) w := by
  obtain ⟨a, b, c, d, e, f, g, i, a', b', c', d', e', f', g', i', rfl⟩ := sixteen ht
  obtain ⟨j1, j2, j3, j4, j5, j6, j7, j8, rfl⟩ := eight hu
  kernel_rfl
set_option maxHeartbeats 1600000 in
theorem boTo_any (b : Bd) (hs : Bo.Shaped b) (q : Value) (w : World) (hq : FrBo b q w) : Calls Tryz.prog 8 #[q] w (GiveBd 84 w b) := by
  obtain ⟨A, m, c, rfl, hr, hm⟩ := hq
  have HFR := Lib.hid fun (w' : World) (hb : Below w.heap.size w w') => (⟨A, m, c, rfl, (hr.below hb).size, hm⟩ : Fresh b.u b.l (.agg (uc b.u (.slice A m c))) w')
  have HS := Lib.hid hs
  have h49 := Lib.hid (bc_size (s := .slice A m c) hs)
  have z49 := Lib.hid (bc_size (s := .slice none 0 0) Bo.zero_shaped)
  have S16 := Lib.hid (show (tc b.t).size = 16 by rw [tc_size, hs.t])
  have S9 := Lib.hid (uc_size hs.u (.slice A m c))
  have S24 := Lib.hid (plA_size hs.p)
  have HBD := Lib.hid fun (s : Value) (w : World) => buildBo (l := b.l) hs.t hs.u s w
  clear hr hm hs
  go_enter Tryz.func8, Tryz.ntmps8
  go_upto_region 1 with fail
  refine nameW ?_
  intro wv hwv
  obtain ⟨g, hg⟩ : ∃ g, g = w.heap.size := ⟨_, rfl⟩
  rw [← hg]
  have k0 : Blk wv g 32 (bc b (.slice A m c)) := by rw [hwv, hg]; exact (Blk.new w _ _).alloc _
  have kz : Blk wv (g + 1) 41 (bc Bo.zero (.slice none 0 0)) := by
    have h := Blk.new (w.alloc (.cells (bc b (.slice A m c)) 32)) 41 (bc Bo.zero (.slice none 0 0))
    rw [zbo] at h ⊢
    rw [hwv, hg]
    simpa using h
  have gb : Below w.heap.size w wv := by rw [hwv]; exact ((Below.refl _ _).alloc (Nat.le_refl _) _).alloc (by simp) _
  have HG := Lib.hid hg
  clear hwv hg
  refine wp_region_tail 7 (fun L v w => v 1 = .pointer (some ⟨g, 0, none⟩) ∧ Below wv.heap.size wv w ∧ (L 0 = true → v 6 = .pointer (some ⟨g, 0, none⟩)) ∧ (L 1 = true → v 7 = .agg (tc b.t)) ∧ (L 2 = true → v 8 = .pointer (some ⟨g, 40, none⟩)) ∧ (L 3 = true → v 9 = .agg (uc b.u (.slice A m c))) ∧ (L 4 = true → FreshO 84 b.u b.l (v 10) w) ∧ (L 5 = true → FoBo 84 ⟨b.t, Bo.z8l, b.u, b.l⟩ (v 11) w) ∧ Al 41 49 wv.heap.size (L 6) false (v 3) undef w) [6, 7, 8, 9, 10, 11, 3] (by kernel_rfl) (by kernel_rfl) (by kernel_rfl) (by kernel_rfl) (by kernel_rfl) (by kernel_rfl) ?h0 ?hst ?hend
  case h0 =>
    intro L h0
    have h0 : ∀ i, i < 7 → L i = false := h0
    exact ⟨rfl, (Below.refl _ _).drew, offF h0 (i := 0) (by decide), offF h0 (i := 1) (by decide), offF h0 (i := 2) (by decide), offF h0 (i := 3) (by decide), offF h0 (i := 4) (by decide), offF h0 (i := 5) (by decide), Al.none_ (h0 6 (by decide)) rfl⟩
  case hst =>
    show FactSteps _ _ _ _ [0, 1, 2, 3, 4, 5, 6]
    refine @FactSteps.cons _ _ _ _ 0 _ [] _ rfl (by kernel_rfl) ?s0 ?_
    rotate_left
    refine @FactSteps.cons _ _ _ _ 1 _ [0] _ rfl (by kernel_rfl) ?s1 ?_
    rotate_left
    refine @FactSteps.cons _ _ _ _ 2 _ [] _ rfl (by kernel_rfl) ?s2 ?_
    rotate_left
    refine @FactSteps.cons _ _ _ _ 3 _ [2] _ rfl (by kernel_rfl) ?s3 ?_
    rotate_left
    refine @FactSteps.cons _ _ _ _ 4 _ [3] _ rfl (by kernel_rfl) ?s4 ?_
    rotate_left
    refine @FactSteps.cons _ _ _ _ 5 _ [1, 4] _ rfl (by kernel_rfl) ?s5 ?_
    rotate_left
    refine @FactSteps.cons _ _ _ _ 6 _ [] _ rfl (by kernel_rfl) ?s6 ?_
    rotate_left
    exact FactSteps.nil
    case s0 =>
      rintro L a v w hv hg hL hd hcl ⟨e1, hb, f0, f1, f2, f3, f4, f5, f6⟩ K hK
      refine step_do rfl ?_
      clear hv
      go_simp
      exact hK.out _ _ ⟨e1, hb, fun _ => rfl, f1, f2, f3, f4, f5, f6⟩
    case s1 =>
      rintro L a v w hv hg hL hd hcl ⟨e1, hb, f0, f1, f2, f3, f4, f5, f6⟩ K hK
      have g0 := f0 (hd 0 (by decide))
      refine step_do rfl ?_
      refine wp_ldr rowRT (.tmp 6) rfl ((hv 6).trans g0) ((k0.below hb k0.lt).tal HS.out) S16.out ?_
      exact hK.out _ _ ⟨e1, hb, f0, fun _ => rfl, f2, f3, f4, f5, f6⟩
    case s2 =>
      rintro L a v w hv hg hL hd hcl ⟨e1, hb, f0, f1, f2, f3, f4, f5, f6⟩ K hK
      refine step_do rfl ?_
      clear hv
      go_simp
      exact hK.out _ _ ⟨e1, hb, f0, f1, fun _ => rfl, f3, f4, f5, f6⟩
    case s3 =>
      rintro L a v w hv hg hL hd hcl ⟨e1, hb, f0, f1, f2, f3, f4, f5, f6⟩ K hK
      have g2 := f2 (hd 2 (by decide))
      refine step_do rfl ?_
      refine wp_ldr rowRM (.tmp 8) rfl ((hv 8).trans g2) ((k0.below hb k0.lt).notes HS.out) S9.out ?_
      exact hK.out _ _ ⟨e1, hb, f0, f1, f2, fun _ => rfl, f4, f5, f6⟩
    case s4 =>
      rintro L a v w hv hg hL hd hcl ⟨e1, hb, f0, f1, f2, f3, f4, f5, f6⟩ K hK
      have h3 := f3 (hd 3 (by decide))
      refine step_do rfl ?_
      clear hv
      go_simp
      refine (toF HS.out.u ((HFR.out w (gb.trans (hb.mono gb.size))))).mono ?_
      rintro e wy ⟨q, rfl, hq, bb⟩
      exact hK.out _ _ ⟨e1, (hb.trans (bb.mono hb.size)), f0, f1, f2, f3, fun _ => hq, (fun h => (f5 h).below bb), f6.below bb⟩
    case s5 =>
      rintro L a v w hv hg hL hd hcl ⟨e1, hb, f0, f1, f2, f3, f4, f5, f6⟩ K hK
      have g1 := f1 (hd 1 (by decide))
      have h4 := f4 (hd 4 (by decide))
      obtain ⟨A4, m4, c4, ev, ho4, hm4⟩ := h4
      refine step_do rfl ?_
      refine wp_bd (v := .agg (bc ⟨b.t, Bo.z8l, b.u, b.l⟩ (.slice A4 m4 c4))) (w' := w) 41 #[(0, .tmp 7), (2, .tmp 10)] rfl ?_ ?_
      · simp only [List.map_toArray, List.map_cons, List.map_nil, hv, g1, ev]; exact HBD.out _ _
      exact hK.out _ _ ⟨e1, hb, f0, f1, f2, f3, f4, fun _ => ⟨A4, m4, c4, rfl, ho4, hm4⟩, f6⟩
    case s6 =>
      rintro L a v w hv hg hL hd hcl ⟨e1, hb, f0, f1, f2, f3, f4, f5, f6⟩ K hK
      refine step_do rfl ?_
      go_simp
      have bb : Below w.heap.size w (w.alloc (.cells (bc Bo.zero (.slice none 0 0)) 41)) := (Below.refl _ _).alloc (Nat.le_refl _) _
      rw [hL] at f6
      exact hK.out _ _ ⟨e1, (hb.trans (bb.mono hb.size)), f0, f1, f2, f3, (fun h => (f4 h).below bb), (fun h => (f5 h).below bb), f6.alloc_ hb.size rfl⟩
  case hend =>
  rintro L v w1 hall ⟨e1, hb, f0, f1, f2, f3, f4, f5, f6⟩
  have hL : ∀ i, i < 7 → L i = true := hall
  have f0 := f0 (hL 0 (by decide))
  have f1 := f1 (hL 1 (by decide))
  have f2 := f2 (hL 2 (by decide))
  have f3 := f3 (hL 3 (by decide))
  have f4 := f4 (hL 4 (by decide))
  have f5 := f5 (hL 5 (by decide))
  rw [hL 6 (by decide)] at f6
  obtain ⟨A5, m5, c5, e11, o5, hm5⟩ := f5
  obtain ⟨X, ds, eX, hX, kX, hds, _⟩ := f6.2 rfl
  simp only [finA, List.foldl_cons, List.foldl_nil, Act.put, List.setIfInBounds_toArray, List.set_cons_succ, List.set_cons_zero, f0, f1, f2, f3, e11, eX]
  have hgz : g + 1 < wv.heap.size := kz.lt
  have k0 := k0.below hb k0.lt
  have kz := kz.below hb kz.lt
  have gb := gb.trans (hb.mono gb.size)
  have HM5 := Lib.hid hm5
  have HX := Lib.hid (show g + 1 < X by have := hX; omega)
  clear hgz
  obtain ⟨b0, hb0⟩ : ∃ b0 : Bd, b0 = ⟨b.t, Bo.z8l, b.u, b.l⟩ := ⟨_, rfl⟩
  have hs0 : Bo.Shaped b0 := by rw [hb0]; exact ⟨HS.out.t, rfl, HS.out.u⟩
  have T49 := Lib.hid (bc_size (s := .slice A5 m5 c5) hs0)
  have T1 := Lib.hid (bc_one (b := b0) (s := .slice A5 m5 c5) rfl)
  have HB0 := Lib.hid hb0
  have HS0 := Lib.hid hs0
  rw [← hb0] at o5 ⊢
  clear hs0 hb0
  clear e1 f0 f1 f2 f3 f4 f5 hL hall f6 e11 eX hb hm5 hX
  show wpList _ _ _ [_] _ _
  refine wpList_st rowBo kX T49.out hds T1.out (fun w2 k2 g2 z2 => ?_) rfl rfl
  have hne : A5.map (·.block) ≠ some X := own_ne o5.2 kX (by decide)
  have k0 := k0.grown g2 (by intro e; injection e with e; have := HX.out; omega)
  have kz := kz.grown g2 (by intro e; injection e with e; have := HX.out; omega)
  have o2 := o5.grown g2 (.inr hne)
  have gb := gb.grown g2 gb.size (fun q hq => by injection hq; have := HX.out; have := HG.out; omega)
  have hpl : w2.rangeAt g 16 (plA b.p).toList := k0.plans HS.out
  clear kX g2 z2 hds o5 hne
  go_wp2_with first
    | ((with_reducible refine wpList_ldr rowRPl hpl S24.out ?_ ?_); rotate_left; (rfl))
  go_loopw [14] (fun i wr => ∃ k : Nat, k ≤ 8 ∧ i = .int .i64 (k : Nat) ∧ Blk wr X 41 (bc { b0 with p := b.p.take k ++ Bo.z8l.drop k } (.slice A5 m5 c5)) ∧ OwnV 84 wr 0 A5 m5 c5 b0.l ∧ Blk wr (g + 1) 41 (bc Bo.zero (.slice none 0 0)) ∧ Below w.heap.size w wr) (fun i _ => 8 - (intOf i).toNat)
  case atStart => exact ⟨0, by omega, rfl, by have := k2; rw [HB0.out] at this ⊢; exact this, o2, kz, gb⟩
  case round =>
    clear k2 o2 kz gb k0 hpl
    obtain ⟨k, hk, rfl, kX, o, kz, gb⟩ := hrel
    by_cases hlt : k < 8
    · have hk0 : (0 : Int) ≤ (k : Int) := by omega
      have hk1 : (k : Int) < 8 := by omega
      have hix := fun w' => run_indexRP w' b.p HS.out.p k hlt
      have hst := half_succ HS.out.p hlt
      obtain ⟨q, hq⟩ : ∃ q, q = b.p.getD k (0, 0, 0) := ⟨_, rfl⟩
      rw [← hq] at hix hst
      obtain ⟨x, y, z⟩ := q
      unfold v3 at hix
      simp only at hix
      have HIX := Lib.hid hix
      have HST := Lib.hid hst
      have HSS := Lib.hid (show Bo.Shaped { b0 with p := b.p.take k ++ Bo.z8l.drop k } from ⟨HS0.out.t, half_len HS.out.p hk, HS0.out.u⟩)
      clear hix hst hq
      go_upto_region 5 with first
        | ((with_reducible refine wpList_ix (HIX.out _) ?_ ?_ ?_); rotate_left; (rfl); (rfl))
        | ((with_reducible refine wpList_st (cs := #[.int .i64 x, .int .i64 y, .int .i64 z]) rowRLa (Blk.new _ _ _) (th_size _ _ _) ?_ (th_one _ _ _) ?_ ?_ ?_); (rfl); rotate_left; (rfl); (rfl); intro w3 kq g3 z3)
      have bq : Below wr.heap.size wr w3 := new_below g3
      have kX := kX.below bq kX.lt
      have kz := kz.below bq kz.lt
      have o := o.below bq (Nat.le_refl _)
      have gb := gb.trans (bq.mono gb.size)
      have hth := kX.there_ (o := 16 + k * 3) (n := 3) (by rw [bc_size HSS.out]; omega)
      have gS := cells_grown w3 X (16 + k * 3) [.int .i64 x, .int .i64 y, .int .i64 z]
      have hXg := HX.out
      have o4 := o.grown gS (.inr (own_ne o.2 kX (by decide)))
      have kz4 := kz.grown gS (by intro e; injection e with e; omega)
      have gb4 := gb.grown gS gb.size (fun q hq => by injection hq; have := HG.out; omega)
      have kX4 := kX.setP HSS.out hlt (x, y, z)
      rw [HST.out] at kX4
      have HH := Lib.hid (And.intro kX4 (And.intro o4 (And.intro kz4 gb4)))
      clear g3 z3 bq gS o4 kz4 gb4 kX4 hXg kz gb o kX
      go_wp2_with first
        | ((with_reducible refine wpList_ld rowRLa kq (th_size _ _ _) ?_ ?_); rotate_left; (rfl))
        | ((with_reducible refine wpList_str (cs := #[.int .i64 x, .int .i64 y, .int .i64 z]) rowLa hth (th_size _ _ _) (th_one _ _ _) ?_ ?_ ?_); rotate_left; (rfl); (rfl); intro w4 hw4)
      go_roundw
      case rel => exact ⟨k + 1, by omega, by go_num, HH.out.1, HH.out.2.1, HH.out.2.2.1, HH.out.2.2.2⟩
      case measure => simp [intOf]; omega
    · obtain rfl : k = 8 := by omega
      have hb8 : ({ b0 with p := b.p.take 8 ++ Bo.z8l.drop 8 } : Bd) = b := by
        rw [HB0.out, List.take_of_length_le (by rw [HS.out.p]; exact Nat.le_refl _), show Bo.z8l.drop 8 = [] from rfl, List.append_nil]
      have kX : Blk wr X 41 (bc b (.slice A5 m5 c5)) := by rw [← hb8]; exact kX
      have hbl : b0.l = b.l := by rw [HB0.out]
      rw [hbl] at o
      have B49 := Lib.hid (bc_size (s := .slice A5 m5 c5) HS.out)
      have B1 := Lib.hid (bc_one (b := b) (s := .slice A5 m5 c5) rfl)
      clear hb8 hbl
      go_wp2_with first
        | ((with_reducible refine wpList_ld rowBo kX B49.out ?_ ?_); rotate_left; (rfl))
        | ((with_reducible refine wpList_st rowBo kz B49.out z49.out B1.out ?_ ?_ ?_); rotate_left; (rfl); (rfl); intro w5 k5 g5 z5)
      exact bodyPost_ret (v := .agg (bc b (.slice A5 m5 c5))) (results_blk rfl rowBo k5 B49.out rfl) rfl ⟨_, rfl, ⟨A5, m5, c5, rfl, o.grown g5 (.inr (own_ne o.2 kz (by decide))), HM5.out⟩, gb.grown g5 gb.size (fun q hq => by injection hq; have := HG.out; omega)⟩
set_option maxHeartbeats 1600000 in
theorem boFrom_any (b : Bd) (hs : Bo.Shaped b) (q : Value) (w : World) (hq : FrBo b q w) : Calls Tryz.prog 10 #[q] w (GiveBd 121 w b) := by
  obtain ⟨A, m, c, rfl, hr, hm⟩ := hq
  have HFR := Lib.hid fun (w' : World) (hb : Below w.heap.size w w') => (⟨A, m, c, rfl, (hr.below hb).size, hm⟩ : Fresh b.u b.l (.agg (uc b.u (.slice A m c))) w')
  have HS := Lib.hid hs
  have h49 := Lib.hid (bc_size (s := .slice A m c) hs)
  have z49 := Lib.hid (bc_size (s := .slice none 0 0) Bo.zero_shaped)
  have S16 := Lib.hid (show (tc b.t).size = 16 by rw [tc_size, hs.t])
  have S9 := Lib.hid (uc_size hs.u (.slice A m c))
  have S24 := Lib.hid (plA_size hs.p)
  have HBD := Lib.hid fun (s : Value) (w : World) => buildRBo (l := b.l) hs.t hs.u s w
  clear hr hm hs
  go_enter Tryz.func10, Tryz.ntmps10
  go_upto_region 1 with fail
  refine nameW ?_
  intro wv hwv
  obtain ⟨g, hg⟩ : ∃ g, g = w.heap.size := ⟨_, rfl⟩
  rw [← hg]
  have k0 : Blk wv g 41 (bc b (.slice A m c)) := by rw [hwv, hg]; exact (Blk.new w _ _).alloc _
  have kz : Blk wv (g + 1) 32 (bc Bo.zero (.slice none 0 0)) := by
    have h := Blk.new (w.alloc (.cells (bc b (.slice A m c)) 41)) 32 (bc Bo.zero (.slice none 0 0))
    rw [zbo] at h ⊢
    rw [hwv, hg]
    simpa using h
  have gb : Below w.heap.size w wv := by rw [hwv]; exact ((Below.refl _ _).alloc (Nat.le_refl _) _).alloc (by simp) _
  have HG := Lib.hid hg
  clear hwv hg
  refine wp_region_tail 7 (fun L v w => v 1 = .pointer (some ⟨g, 0, none⟩) ∧ Below wv.heap.size wv w ∧ (L 0 = true → v 6 = .pointer (some ⟨g, 0, none⟩)) ∧ (L 1 = true → v 7 = .agg (tc b.t)) ∧ (L 2 = true → v 8 = .pointer (some ⟨g, 40, none⟩)) ∧ (L 3 = true → v 9 = .agg (uc b.u (.slice A m c))) ∧ (L 4 = true → FreshO 121 b.u b.l (v 10) w) ∧ (L 5 = true → FoBo 121 ⟨b.t, Bo.z8l, b.u, b.l⟩ (v 11) w) ∧ Al 32 49 wv.heap.size (L 6) false (v 3) undef w) [6, 7, 8, 9, 10, 11, 3] (by kernel_rfl) (by kernel_rfl) (by kernel_rfl) (by kernel_rfl) (by kernel_rfl) (by kernel_rfl) ?h0 ?hst ?hend
  case h0 =>
    intro L h0
    have h0 : ∀ i, i < 7 → L i = false := h0
    exact ⟨rfl, (Below.refl _ _).drew, offF h0 (i := 0) (by decide), offF h0 (i := 1) (by decide), offF h0 (i := 2) (by decide), offF h0 (i := 3) (by decide), offF h0 (i := 4) (by decide), offF h0 (i := 5) (by decide), Al.none_ (h0 6 (by decide)) rfl⟩
  case hst =>
    show FactSteps _ _ _ _ [0, 1, 2, 3, 4, 5, 6]
    refine @FactSteps.cons _ _ _ _ 0 _ [] _ rfl (by kernel_rfl) ?s0 ?_
    rotate_left
    refine @FactSteps.cons _ _ _ _ 1 _ [0] _ rfl (by kernel_rfl) ?s1 ?_
    rotate_left
    refine @FactSteps.cons _ _ _ _ 2 _ [] _ rfl (by kernel_rfl) ?s2 ?_
    rotate_left
    refine @FactSteps.cons _ _ _ _ 3 _ [2] _ rfl (by kernel_rfl) ?s3 ?_
    rotate_left
    refine @FactSteps.cons _ _ _ _ 4 _ [3] _ rfl (by kernel_rfl) ?s4 ?_
    rotate_left
    refine @FactSteps.cons _ _ _ _ 5 _ [1, 4] _ rfl (by kernel_rfl) ?s5 ?_
    rotate_left
    refine @FactSteps.cons _ _ _ _ 6 _ [] _ rfl (by kernel_rfl) ?s6 ?_
    rotate_left
    exact FactSteps.nil
    case s0 =>
      rintro L a v w hv hg hL hd hcl ⟨e1, hb, f0, f1, f2, f3, f4, f5, f6⟩ K hK
      refine step_do rfl ?_
      clear hv
      go_simp
      exact hK.out _ _ ⟨e1, hb, fun _ => rfl, f1, f2, f3, f4, f5, f6⟩
    case s1 =>
      rintro L a v w hv hg hL hd hcl ⟨e1, hb, f0, f1, f2, f3, f4, f5, f6⟩ K hK
      have g0 := f0 (hd 0 (by decide))
      refine step_do rfl ?_
      refine wp_ldr rowT (.tmp 6) rfl ((hv 6).trans g0) ((k0.below hb k0.lt).tal HS.out) S16.out ?_
      exact hK.out _ _ ⟨e1, hb, f0, fun _ => rfl, f2, f3, f4, f5, f6⟩
    case s2 =>
      rintro L a v w hv hg hL hd hcl ⟨e1, hb, f0, f1, f2, f3, f4, f5, f6⟩ K hK
      refine step_do rfl ?_
      clear hv
      go_simp
      exact hK.out _ _ ⟨e1, hb, f0, f1, fun _ => rfl, f3, f4, f5, f6⟩
    case s3 =>
      rintro L a v w hv hg hL hd hcl ⟨e1, hb, f0, f1, f2, f3, f4, f5, f6⟩ K hK
      have g2 := f2 (hd 2 (by decide))
      refine step_do rfl ?_
      refine wp_ldr rowM (.tmp 8) rfl ((hv 8).trans g2) ((k0.below hb k0.lt).notes HS.out) S9.out ?_
      exact hK.out _ _ ⟨e1, hb, f0, f1, f2, fun _ => rfl, f4, f5, f6⟩
    case s4 =>
      rintro L a v w hv hg hL hd hcl ⟨e1, hb, f0, f1, f2, f3, f4, f5, f6⟩ K hK
      have h3 := f3 (hd 3 (by decide))
      refine step_do rfl ?_
      clear hv
      go_simp
      refine (fromF HS.out.u ((HFR.out w (gb.trans (hb.mono gb.size))))).mono ?_
      rintro e wy ⟨q, rfl, hq, bb⟩
      exact hK.out _ _ ⟨e1, (hb.trans (bb.mono hb.size)), f0, f1, f2, f3, fun _ => hq, (fun h => (f5 h).below bb), f6.below bb⟩
    case s5 =>
      rintro L a v w hv hg hL hd hcl ⟨e1, hb, f0, f1, f2, f3, f4, f5, f6⟩ K hK
      have g1 := f1 (hd 1 (by decide))
      have h4 := f4 (hd 4 (by decide))
      obtain ⟨A4, m4, c4, ev, ho4, hm4⟩ := h4
      refine step_do rfl ?_
      refine wp_bd (v := .agg (bc ⟨b.t, Bo.z8l, b.u, b.l⟩ (.slice A4 m4 c4))) (w' := w) 32 #[(0, .tmp 7), (2, .tmp 10)] rfl ?_ ?_
      · simp only [List.map_toArray, List.map_cons, List.map_nil, hv, g1, ev]; exact HBD.out _ _
      exact hK.out _ _ ⟨e1, hb, f0, f1, f2, f3, f4, fun _ => ⟨A4, m4, c4, rfl, ho4, hm4⟩, f6⟩
    case s6 =>
      rintro L a v w hv hg hL hd hcl ⟨e1, hb, f0, f1, f2, f3, f4, f5, f6⟩ K hK
      refine step_do rfl ?_
      go_simp
      have bb : Below w.heap.size w (w.alloc (.cells (bc Bo.zero (.slice none 0 0)) 32)) := (Below.refl _ _).alloc (Nat.le_refl _) _
      rw [hL] at f6
      exact hK.out _ _ ⟨e1, (hb.trans (bb.mono hb.size)), f0, f1, f2, f3, (fun h => (f4 h).below bb), (fun h => (f5 h).below bb), f6.alloc_ hb.size rfl⟩
  case hend =>
  rintro L v w1 hall ⟨e1, hb, f0, f1, f2, f3, f4, f5, f6⟩
  have hL : ∀ i, i < 7 → L i = true := hall
  have f0 := f0 (hL 0 (by decide))
  have f1 := f1 (hL 1 (by decide))
  have f2 := f2 (hL 2 (by decide))
  have f3 := f3 (hL 3 (by decide))
  have f4 := f4 (hL 4 (by decide))
  have f5 := f5 (hL 5 (by decide))
  rw [hL 6 (by decide)] at f6
  obtain ⟨A5, m5, c5, e11, o5, hm5⟩ := f5
  obtain ⟨X, ds, eX, hX, kX, hds, _⟩ := f6.2 rfl
  simp only [finA, List.foldl_cons, List.foldl_nil, Act.put, List.setIfInBounds_toArray, List.set_cons_succ, List.set_cons_zero, f0, f1, f2, f3, e11, eX]
  have hgz : g + 1 < wv.heap.size := kz.lt
  have k0 := k0.below hb k0.lt
  have kz := kz.below hb kz.lt
  have gb := gb.trans (hb.mono gb.size)
  have HM5 := Lib.hid hm5
  have HX := Lib.hid (show g + 1 < X by have := hX; omega)
  clear hgz
  obtain ⟨b0, hb0⟩ : ∃ b0 : Bd, b0 = ⟨b.t, Bo.z8l, b.u, b.l⟩ := ⟨_, rfl⟩
  have hs0 : Bo.Shaped b0 := by rw [hb0]; exact ⟨HS.out.t, rfl, HS.out.u⟩
  have T49 := Lib.hid (bc_size (s := .slice A5 m5 c5) hs0)
  have T1 := Lib.hid (bc_one (b := b0) (s := .slice A5 m5 c5) rfl)
  have HB0 := Lib.hid hb0
  have HS0 := Lib.hid hs0
  rw [← hb0] at o5 ⊢
  clear hs0 hb0
  clear e1 f0 f1 f2 f3 f4 f5 hL hall f6 e11 eX hb hm5 hX
  show wpList _ _ _ [_] _ _
  refine wpList_st rowRBo kX T49.out hds T1.out (fun w2 k2 g2 z2 => ?_) rfl rfl
  have hne : A5.map (·.block) ≠ some X := own_ne o5.2 kX (by decide)
  have k0 := k0.grown g2 (by intro e; injection e with e; have := HX.out; omega)
  have kz := kz.grown g2 (by intro e; injection e with e; have := HX.out; omega)
  have o2 := o5.grown g2 (.inr hne)
  have gb := gb.grown g2 gb.size (fun q hq => by injection hq; have := HX.out; have := HG.out; omega)
  have hpl : w2.rangeAt g 16 (plA b.p).toList := k0.plans HS.out
  clear kX g2 z2 hds o5 hne
  go_wp2_with first
    | ((with_reducible refine wpList_ldr rowPl hpl S24.out ?_ ?_); rotate_left; (rfl))
  go_loopw [14] (fun i wr => ∃ k : Nat, k ≤ 8 ∧ i = .int .i64 (k : Nat) ∧ Blk wr X 32 (bc { b0 with p := b.p.take k ++ Bo.z8l.drop k } (.slice A5 m5 c5)) ∧ OwnV 121 wr 0 A5 m5 c5 b0.l ∧ Blk wr (g + 1) 32 (bc Bo.zero (.slice none 0 0)) ∧ Below w.heap.size w wr) (fun i _ => 8 - (intOf i).toNat)
  case atStart => exact ⟨0, by omega, rfl, by have := k2; rw [HB0.out] at this ⊢; exact this, o2, kz, gb⟩
  case round =>
    clear k2 o2 kz gb k0 hpl
    obtain ⟨k, hk, rfl, kX, o, kz, gb⟩ := hrel
    by_cases hlt : k < 8
    · have hk0 : (0 : Int) ≤ (k : Int) := by omega
      have hk1 : (k : Int) < 8 := by omega
      have hix := fun w' => run_indexP w' b.p HS.out.p k hlt
      have hst := half_succ HS.out.p hlt
      obtain ⟨q, hq⟩ : ∃ q, q = b.p.getD k (0, 0, 0) := ⟨_, rfl⟩
      rw [← hq] at hix hst
      obtain ⟨x, y, z⟩ := q
      unfold v3 at hix
      simp only at hix
      have HIX := Lib.hid hix
      have HST := Lib.hid hst
      have HSS := Lib.hid (show Bo.Shaped { b0 with p := b.p.take k ++ Bo.z8l.drop k } from ⟨HS0.out.t, half_len HS.out.p hk, HS0.out.u⟩)
      clear hix hst hq
      go_upto_region 5 with first
        | ((with_reducible refine wpList_ix (HIX.out _) ?_ ?_ ?_); rotate_left; (rfl); (rfl))
        | ((with_reducible refine wpList_st (cs := #[.int .i64 x, .int .i64 y, .int .i64 z]) rowLa (Blk.new _ _ _) (th_size _ _ _) ?_ (th_one _ _ _) ?_ ?_ ?_); (rfl); rotate_left; (rfl); (rfl); intro w3 kq g3 z3)
      have bq : Below wr.heap.size wr w3 := new_below g3
      have kX := kX.below bq kX.lt
      have kz := kz.below bq kz.lt
      have o := o.below bq (Nat.le_refl _)
      have gb := gb.trans (bq.mono gb.size)
      have hth := kX.there_ (o := 16 + k * 3) (n := 3) (by rw [bc_size HSS.out]; omega)
      have gS := cells_grown w3 X (16 + k * 3) [.int .i64 x, .int .i64 y, .int .i64 z]
      have hXg := HX.out
      have o4 := o.grown gS (.inr (own_ne o.2 kX (by decide)))
      have kz4 := kz.grown gS (by intro e; injection e with e; omega)
      have gb4 := gb.grown gS gb.size (fun q hq => by injection hq; have := HG.out; omega)
      have kX4 := kX.setP HSS.out hlt (x, y, z)
      rw [HST.out] at kX4
      have HH := Lib.hid (And.intro kX4 (And.intro o4 (And.intro kz4 gb4)))
      clear g3 z3 bq gS o4 kz4 gb4 kX4 hXg kz gb o kX
      go_wp2_with first
        | ((with_reducible refine wpList_ld rowLa kq (th_size _ _ _) ?_ ?_); rotate_left; (rfl))
        | ((with_reducible refine wpList_str (cs := #[.int .i64 x, .int .i64 y, .int .i64 z]) rowRLa hth (th_size _ _ _) (th_one _ _ _) ?_ ?_ ?_); rotate_left; (rfl); (rfl); intro w4 hw4)
      go_roundw
      case rel => exact ⟨k + 1, by omega, by go_num, HH.out.1, HH.out.2.1, HH.out.2.2.1, HH.out.2.2.2⟩
      case measure => simp [intOf]; omega
    · obtain rfl : k = 8 := by omega
      have hb8 : ({ b0 with p := b.p.take 8 ++ Bo.z8l.drop 8 } : Bd) = b := by
        rw [HB0.out, List.take_of_length_le (by rw [HS.out.p]; exact Nat.le_refl _), show Bo.z8l.drop 8 = [] from rfl, List.append_nil]
      have kX : Blk wr X 32 (bc b (.slice A5 m5 c5)) := by rw [← hb8]; exact kX
      have hbl : b0.l = b.l := by rw [HB0.out]
      rw [hbl] at o
      have B49 := Lib.hid (bc_size (s := .slice A5 m5 c5) HS.out)
      have B1 := Lib.hid (bc_one (b := b) (s := .slice A5 m5 c5) rfl)
      clear hb8 hbl
      go_wp2_with first
        | ((with_reducible refine wpList_ld rowRBo kX B49.out ?_ ?_); rotate_left; (rfl))
        | ((with_reducible refine wpList_st rowRBo kz B49.out z49.out B1.out ?_ ?_ ?_); rotate_left; (rfl); (rfl); intro w5 k5 g5 z5)
      exact bodyPost_ret (v := .agg (bc b (.slice A5 m5 c5))) (results_blk rfl rowRBo k5 B49.out rfl) rfl ⟨_, rfl, ⟨A5, m5, c5, rfl, o.grown g5 (.inr (own_ne o.2 kz (by decide))), HM5.out⟩, gb.grown g5 gb.size (fun q hq => by injection hq; have := HG.out; omega)⟩
end Go.Proofs.YtocoohpekpkmkaaGreat

/- '==' between two boards' plans. -/
namespace Go.Proofs.YtocoohpekpkmkaaGreat
set_option linter.unusedVariables false
set_option linter.unusedSimpArgs false
set_option maxRecDepth 100000
open Go.RowKit
open Reg (La Vl)
/-- Each number of the plans is one of an int64. -/
def WfP (p : List La) : Prop := ∀ q ∈ p, (Lit.int .i64 q.1).wf = true ∧ (Lit.int .i64 q.2.1).wf = true ∧ (Lit.int .i64 q.2.2).wf = true
def lit3 (q : La) : List Lit := [Lit.int .i64 q.1, Lit.int .i64 q.2.1, Lit.int .i64 q.2.2]
theorem cellsLR : (Tryz.prog).cellsOf 26 = 3 := by kernel_rfl
theorem cellsPR : (Tryz.prog).cellsOf 27 = 24 := by kernel_rfl
theorem keyLits_last (d : Nat) (q : La) (h : (Lit.int .i64 q.1).wf = true ∧ (Lit.int .i64 q.2.1).wf = true ∧ (Lit.int .i64 q.2.2).wf = true) : (Tryz.prog).keyLits (d + 2) 26 (pc q) = some (lit3 q) := by
  obtain ⟨a, b, c⟩ := q
  obtain ⟨h1, h2, h3⟩ := h
  simp only at h1 h2 h3
  unfold Program.keyLits
  simp [Tryz.underlying26, cellsLR, cellsI, pc, Program.keyLits, Tryz.underlying3, h1, h2, h3, lit3]
theorem mapM_last (d : Nat) (p : List La) (hw : WfP p) : ((List.range p.length).mapM fun i => (Tryz.prog).keyLits (d + 2) 26 (((plansC p).drop (i * 3)).take 3)) = some (p.map lit3) := by
  induction p with
  | nil => rfl
  | cons x r ih =>
    rw [List.length_cons, List.range_succ_eq_map, List.mapM_cons]
    have h0 : (Tryz.prog).keyLits (d + 2) 26 (((plansC (x :: r)).drop (0 * 3)).take 3) = some (lit3 x) := keyLits_last d x (hw x (by simp))
    rw [h0]
    have hm : ((List.range r.length).map Nat.succ).mapM (fun i => (Tryz.prog).keyLits (d + 2) 26 (((plansC (x :: r)).drop (i * 3)).take 3)) = some (r.map lit3) := by
      rw [List.mapM_map]
      have := ih (fun y hy => hw y (by simp [hy]))
      refine Eq.trans ?_ this
      refine congrArg (fun f => (List.range r.length).mapM f) (funext fun i => ?_)
      show (Tryz.prog).keyLits (d + 2) 26 (((plansC (x :: r)).drop ((i + 1) * 3)).take 3) = _
      rw [show (plansC (x :: r)).drop ((i + 1) * 3) = (plansC r).drop (i * 3) from by
        rw [show (i + 1) * 3 = 3 + i * 3 by omega, ← List.drop_drop]
        rfl]
    simp only [Option.pure_def, Option.bind_eq_bind, Option.bind_some]
    rw [hm]
    rfl
theorem keyLits_plans (d : Nat) (p : List La) (hl : p.length = 8) (hw : WfP p) : (Tryz.prog).keyLits (d + 3) 27 (plansC p) = some (p.map lit3).flatten := by
  have h := mapM_last d p hw
  rw [hl] at h
  have hc := plansC_len p
  rw [hl] at hc
  unfold Program.keyLits
  simp only [Tryz.underlying27, cellsPR, cellsLR, hc, if_true]
  rw [h]
  simp only [Option.map_some]
theorem lit3_inj {p q : List La} (h : (p.map lit3).flatten = (q.map lit3).flatten) (hl : p.length = q.length) : p = q := by
  induction p generalizing q with
  | nil => exact (List.eq_nil_of_length_eq_zero hl.symm).symm
  | cons x r ih =>
    cases q with
    | nil => simp at hl
    | cons y s =>
      simp [lit3] at h
      obtain ⟨h1, h2, h3, h4⟩ := h
      rw [ih h4 (by simpa using hl)]
      obtain ⟨a, b, c⟩ := x
      obtain ⟨a', b', c'⟩ := y
      simp only at h1 h2 h3
      rw [h1, h2, h3]
theorem eq_runP (w : World) (a b : List La) (ha : a.length = 8) (hb : b.length = 8) (wa : WfP a) (wb : WfP b) :
    (binOp .eql 27 (.agg (plA a)) (.agg (plA b))).run Tryz.prog w = .ok (.bool (decide (a = b))) w := by
  have hk : (Tryz.prog).keyTypeAt 4 27 = true := by kernel_rfl
  have hfm : ∀ l : List La, l.length = 8 → (Value.agg (plA l)).formed Tryz.prog 27 = true := fun l hl => by
    simp [Value.formed, Tryz.underlying27, cellsPR, plA_size hl]
  obtain ⟨r, h1, h2⟩ := run_equalIn_deep (P := Tryz.prog) 9996 4 27 hk w 3 3 (.agg (plA a)) (.agg (plA b)) _ _ (hfm a ha) (hfm b hb) (keyLits_plans 0 a ha wa) (keyLits_plans 0 b hb wb)
  rw [run_eql_struct, h1]
  have : r = decide (a = b) := by
    rw [Bool.eq_iff_iff, h2, decide_eq_true_eq]
    constructor
    · intro h
      exact lit3_inj h (by rw [ha, hb])
    · intro h; rw [h]
  rw [this]
  rfl
section
variable {ops : Array Oper} {rest : List Oper} {d : Option Tmp} {ty : TypeId} {pos : String} {aft : Array Edge} {gd : Option (Nat × Bool)} {x y : Operand} {z : TypeId} {A B : List La}
theorem exec_eqP {a : Act} (ha : A.length = 8) (hb : B.length = 8) (wa : WfP A) (wb : WfP B) (hx : a.eval x = .agg (plA A)) (hy : a.eval y = .agg (plA B)) (w : World) : (execOp a.eval ⟨d, .binOp .eql 27 x y z, ty, pos, aft, gd⟩).run Tryz.prog w = .ok (.value (.bool (decide (A = B)))) w := by
  unfold execOp
  simp only [hx, hy, Sem.run_bind, run_eqGuard_agg w .eql 27 x y (plA A) (plA B) (show (Tryz.prog).eqGuardType (Tryz.prog).depth 27 = false by kernel_rfl), Result.andThen_ok, eq_runP w A B ha hb wa wb, Sem.run_pure]
theorem wpList_eqP {a : Act} {w : World} {Q : Exit → Act → World → Prop} (ha : A.length = 8) (hb : B.length = 8) (wa : WfP A) (wb : WfP B)
    (h : wpList Tryz.prog ops Q rest (a.put d (.bool (decide (A = B)))) w) (hx : a.eval x = .agg (plA A)) (hy : a.eval y = .agg (plA B)) (hw : Region.wanted ⟨d, .binOp .eql 27 x y z, ty, pos, aft, gd⟩ (yielded ops a.tmps) = true) : wpList Tryz.prog ops Q (⟨d, .binOp .eql 27 x y z, ty, pos, aft, gd⟩ :: rest) a w := by
  refine wpList_step fun K hK => ?_
  rw [if_pos hw]
  unfold Oper.wp
  rw [exec_eqP ha hb wa wb hx hy w]
  exact hK _ _ h
end
end Go.Proofs.YtocoohpekpkmkaaGreat

/- The walk of the document's Same of boards. -/
namespace Go.Proofs.YtocoohpekpkmkaaGreat
set_option linter.unusedVariables false
set_option linter.unusedSimpArgs false
set_option maxRecDepth 100000
open Go.RowKit
open Reg (La Vl)
structure WfB (b : Bd) : Prop where
  t : Wf b.t
  p : WfP b.p
  u : Wf b.u
def sameB (a b : Bd) : Bool := decide (a.t = b.t) && decide (a.p = b.p) && (decide (a.u = b.u) && decide (a.l = b.l))
theorem sameB_iff (a b : Bd) : sameB a b = true ↔ a = b := by
  obtain ⟨t, p, u, l⟩ := a
  obtain ⟨t', p', u', l'⟩ := b
  unfold sameB
  simp only [Bool.and_eq_true, decide_eq_true_eq, Bd.mk.injEq]
  constructor
  · rintro ⟨⟨h1, h2⟩, h3, h4⟩; exact ⟨h1, h2, h3, h4⟩
  · rintro ⟨h1, h2, h3, h4⟩; exact ⟨⟨h1, h2⟩, h3, h4⟩
set_option maxHeartbeats 800000 in
theorem bsame_any (a b : Bd) (ha : Bo.Shaped a) (hb : Bo.Shaped b) (wa : WfB a) (wb : WfB b) (q q2 : Value) (w : World) (hq : FrBo a q w) (hq2 : FrBo b q2 w) :
    Calls Tryz.prog 9 #[q, q2] w (GiveBo w (sameB a b)) := by
  obtain ⟨A, m, c, rfl, hr, hm⟩ := hq
  obtain ⟨A', m', c', rfl, hr', hm'⟩ := hq2
  obtain ⟨e1, h1⟩ : ∃ e, decide (a.t = b.t) = e := ⟨_, rfl⟩
  obtain ⟨e2, h2⟩ : ∃ e, decide (a.p = b.p) = e := ⟨_, rfl⟩
  obtain ⟨e3, h3⟩ : ∃ e, (decide (a.u = b.u) && decide (a.l = b.l)) = e := ⟨_, rfl⟩
  have HV := Lib.hid (show sameB a b = (e1 && e2 && e3) by unfold sameB; rw [h1, h2, h3])
  have HC := Lib.hid fun (w' : World) (hbb : Below w.heap.size w w') => (h3 ▸ sameF ha.u hb.u wa.u wb.u (⟨A, m, c, rfl, (hr.below hbb).size, hm⟩ : Fresh a.u a.l (.agg (uc a.u (.slice A m c))) w') (⟨A', m', c', rfl, (hr'.below hbb).size, hm'⟩ : Fresh b.u b.l (.agg (uc b.u (.slice A' m' c'))) w') : Calls Tryz.prog _ _ w' (GiveBo w' e3))
  have H1 := Lib.hid h1
  have H2 := Lib.hid h2
  have SA := Lib.hid ha
  have SB := Lib.hid hb
  have WA := Lib.hid wa
  have WB := Lib.hid wb
  have TA := Lib.hid (show (tc a.t).size = 16 by rw [tc_size, ha.t])
  have TB := Lib.hid (show (tc b.t).size = 16 by rw [tc_size, hb.t])
  have PA := Lib.hid (plA_size ha.p)
  have PB := Lib.hid (plA_size hb.p)
  have UA := Lib.hid (uc_size ha.u (.slice A m c))
  have UB := Lib.hid (uc_size hb.u (.slice A' m' c'))
  clear h1 h2 h3 ha hb wa wb hr hr' hm hm'
  go_enter Tryz.func9, Tryz.ntmps9
  go_upto_region 1 with fail
  refine nameW ?_
  intro wv hwv
  obtain ⟨g, hg⟩ : ∃ g, g = w.heap.size := ⟨_, rfl⟩
  rw [← hg]
  have ka : Blk wv g 32 (bc a (.slice A m c)) := by rw [hwv, hg]; exact (Blk.new w _ _).alloc _
  have kb : Blk wv (g + 1) 32 (bc b (.slice A' m' c')) := by
    have h := Blk.new (w.alloc (.cells (bc a (.slice A m c)) 32)) 32 (bc b (.slice A' m' c'))
    rw [hwv, hg]
    simpa using h
  have gb : Below w.heap.size w wv := by rw [hwv]; exact ((Below.refl _ _).alloc (Nat.le_refl _) _).alloc (by simp) _
  have pa : wv.rangeAt g 16 (plA a.p).toList := ka.plans SA.out
  have pb : wv.rangeAt (g + 1) 16 (plA b.p).toList := kb.plans SB.out
  have HPV := Lib.hid (HC.out wv gb)
  clear hwv hg HC
  cases e1
  case false =>
    go_wp2_with first
      | ((with_reducible refine wpList_ldr rowRT (ka.tal SA.out) TA.out ?_ ?_); rotate_left; (rfl))
      | ((with_reducible refine wpList_ldr rowRT (kb.tal SB.out) TB.out ?_ ?_); rotate_left; (rfl))
      | ((with_reducible refine wpList_eq twoR SA.out.t SB.out.t WA.out.t WB.out.t ?_ ?_ ?_ ?_); rotate_left; (rfl); (rfl); (rfl); rw [H1.out])
    go_ret
    exact ⟨by rw [HV.out]; rfl, gb⟩
  case true =>
  cases e2
  case false =>
    go_wp2_with first
      | ((with_reducible refine wpList_ldr rowRT (ka.tal SA.out) TA.out ?_ ?_); rotate_left; (rfl))
      | ((with_reducible refine wpList_ldr rowRT (kb.tal SB.out) TB.out ?_ ?_); rotate_left; (rfl))
      | ((with_reducible refine wpList_eq twoR SA.out.t SB.out.t WA.out.t WB.out.t ?_ ?_ ?_ ?_); rotate_left; (rfl); (rfl); (rfl); rw [H1.out])
      | ((with_reducible refine wpList_ldrg rowRPl pa PA.out ?_ ?_ ?_); rotate_left; (rfl); (rfl))
      | ((with_reducible refine wpList_ldrg rowRPl pb PB.out ?_ ?_ ?_); rotate_left; (rfl); (rfl))
      | ((with_reducible refine wpList_eqP SA.out.p SB.out.p WA.out.p WB.out.p ?_ ?_ ?_ ?_); rotate_left; (rfl); (rfl); (rfl); rw [H2.out])
    go_ret
    exact ⟨by rw [HV.out]; rfl, gb⟩
  case true =>
  go_wp2_with first
    | ((with_reducible refine wpList_ldr rowRT (ka.tal SA.out) TA.out ?_ ?_); rotate_left; (rfl))
    | ((with_reducible refine wpList_ldr rowRT (kb.tal SB.out) TB.out ?_ ?_); rotate_left; (rfl))
    | ((with_reducible refine wpList_eq twoR SA.out.t SB.out.t WA.out.t WB.out.t ?_ ?_ ?_ ?_); rotate_left; (rfl); (rfl); (rfl); rw [H1.out])
    | ((with_reducible refine wpList_ldrg rowRPl pa PA.out ?_ ?_ ?_); rotate_left; (rfl); (rfl))
    | ((with_reducible refine wpList_ldrg rowRPl pb PB.out ?_ ?_ ?_); rotate_left; (rfl); (rfl))
    | ((with_reducible refine wpList_eqP SA.out.p SB.out.p WA.out.p WB.out.p ?_ ?_ ?_ ?_); rotate_left; (rfl); (rfl); (rfl); rw [H2.out])
    | ((with_reducible refine wpList_ldrg rowRM (ka.notes SA.out) UA.out ?_ ?_ ?_); rotate_left; (rfl); (rfl))
    | ((with_reducible refine wpList_ldrg rowRM (kb.notes SB.out) UB.out ?_ ?_ ?_); rotate_left; (rfl); (rfl))
  refine HPV.out.mono ?_
  rintro e w2 ⟨rfl, b2⟩
  have gb := gb.trans (b2.mono gb.size)
  clear b2 pa pb ka kb
  go_wp2_with fail
  go_ret
  exact ⟨by rw [HV.out]; simp, gb⟩
end Go.Proofs.YtocoohpekpkmkaaGreat

/- The walk of board.Wrote. -/
namespace Go.Proofs.YtocoohpekpkmkaaGreat
set_option linter.unusedVariables false
set_option linter.unusedSimpArgs false
set_option maxRecDepth 100000
open Go.RowKit
open Reg (La Vl)
theorem bwrote_bad {b : Bd} {x y z : Int} (h : (Bo.rightB b && Reg.inB x 0 7 && Reg.inB y 0 7 && Reg.inB z 0 1000) = false) : Bo.wrote b x y z = (Bo.zero, 2) := by
  unfold Bo.wrote
  rw [if_pos]
  simp only [Bool.and_eq_false_iff] at h
  rcases h with ((h | h) | h) | h
  · exact .inl h
  · exact .inr (.inl h)
  · exact .inr (.inr (.inl h))
  · exact .inr (.inr (.inr h))
set_option maxHeartbeats 4000000 in
theorem bwrote_anyB (b : Bd) (hs : Bo.Shaped b) (nd wk rp : Int) (q : Value) (w : World) (hq : FrBo b q w) : Calls Tryz.prog 13 #[q, .int .i64 nd, .int .i64 wk, .int .i64 rp] w (GiveBdEB 84 w (Bo.wrote b nd wk rp).1 (Bo.wrote b nd wk rp).2) := by
  obtain ⟨x, k, hx⟩ : ∃ x k, Bo.wrote b nd wk rp = (x, k) := ⟨_, _, rfl⟩
  rw [hx]
  have HX := Lib.hid hx
  clear hx
  obtain ⟨A, m, c, rfl, hr, hm⟩ := hq
  obtain ⟨R, hR⟩ : ∃ R, R = Bo.rightB b := ⟨_, rfl⟩
  have HC1 := Lib.hid fun (w' : World) (hb : Below w.heap.size w w') => (hR ▸ boRight_any b hs (.agg (bc b (.slice A m c))) w' ⟨A, m, c, rfl, (hr.below hb).size, hm⟩ : Calls Tryz.prog _ _ w' (GiveBo w' R))
  have HC2 := Lib.hid fun (hr1 : Bo.rightB b = true) (w' : World) (hb : Below w.heap.size w w') => (Bo.own_of hr1 ▸ boOwn_anyB b hs (.agg (bc b (.slice A m c))) w' ⟨A, m, c, rfl, (hr.below hb).size, hm⟩ : Calls Tryz.prog _ _ w' (GiveBdB 84 w' b))
  have HS := Lib.hid hs
  have h49 := Lib.hid (bc_size (s := .slice A m c) hs)
  have z49 := Lib.hid (bc_size (s := .slice none 0 0) Bo.zero_shaped)
  have o49 := Lib.hid (bc_one (b := b) (s := .slice A m c) rfl)
  have HR := Lib.hid hR
  clear hr hm hs hR
  obtain ⟨r1, hr1⟩ : ∃ r1, Reg.inB nd 0 7 = r1 := ⟨_, rfl⟩
  obtain ⟨r2, hr2⟩ : ∃ r2, Reg.inB wk 0 7 = r2 := ⟨_, rfl⟩
  obtain ⟨r3, hr3⟩ : ∃ r3, Reg.inB rp 0 1000 = r3 := ⟨_, rfl⟩
  have H1 := Lib.hid hr1
  have H2 := Lib.hid hr2
  have H3 := Lib.hid hr3
  clear hr1 hr2 hr3
  have bad : (R && r1 && r2 && r3) = false → x = Bo.zero ∧ k = 2 := fun h => by
    have := HX.out
    rw [bwrote_bad (by rw [H1.out, H2.out, H3.out, ← HR.out]; exact h)] at this
    injection this with h1 h2
    exact ⟨h1.symm, h2.symm⟩
  have BAD := Lib.hid bad
  clear bad
  go_enter_defers Tryz.func13, Tryz.ntmps13
  go_upto_region 2 with fail
  refine nameW ?_
  intro wv hwv
  obtain ⟨B, hB⟩ : ∃ B, B = w.heap.size := ⟨_, rfl⟩
  rw [← hB]
  have k0 : Blk wv B 41 (bc b (.slice A m c)) := by rw [hwv, hB]; exact ((Blk.new w _ _).alloc _).alloc _
  have ke : Blk wv (B + 1) 41 (bc Bo.zero (.slice none 0 0)) := by
    have h := Blk.new (w.alloc (.cells (bc b (.slice A m c)) 41)) 41 (bc Bo.zero (.slice none 0 0))
    rw [zbo] at h ⊢
    rw [hwv, hB]
    exact (by simpa using h : Blk _ (w.heap.size + 1) _ _).alloc _
  have kf : Blk wv (B + 2) 50 #[.int .i64 0] := by
    have h := Blk.new ((w.alloc (.cells (bc b (.slice A m c)) 41)).alloc (.cells (bc Bo.zero (.slice none 0 0)) 41)) 50 #[.int .i64 0]
    rw [zbo] at h
    rw [hwv, hB]
    simpa using h
  have gb : Below B w wv := by rw [hwv, hB]; exact (((Below.refl _ _).alloc (Nat.le_refl _) _).alloc (by simp) _).alloc (by simp; omega) _
  have HB := Lib.hid hB
  clear hwv hB
  go_wp2_with ((with_reducible refine wpList_ld rowBo k0 h49.out ?_ ?_); rotate_left; (rfl))
  refine (HC1.out wv (by rw [← HB.out]; exact gb)).mono ?_
  rintro e w1 ⟨rfl, b1⟩
  have k0 := k0.below b1 k0.lt
  have ke := ke.below b1 ke.lt
  have kf := kf.below b1 kf.lt
  have gb := gb.trans (b1.mono (by have := gb.size; have := HB.out; omega))
  clear b1
  cases R
  case false =>
    go_wp2_with fail
    refine (bmust_bad 2 _).mono ?_
    rintro e w2 ⟨rfl, rfl⟩
    go_wp2_with fail
    obtain ⟨rfl, rfl⟩ := BAD.out (by simp)
    refine leaves_cons (f := 37) (args := #[.pointer (some ⟨B + 2, 0, none⟩)]) (by simp) (by simp [go_sem]) ?_
    refine (bcaught_panic _ _ _ _ _ (kf.cell 0) (kf.free 0)).mono ?_
    rintro e u' w4 ⟨rfl, rfl, rfl⟩
    have k4 := (kf.alloc (.cells #[.int .i64 2] 134)).set_ 0 (.int .i64 2)
    have e4 := (ke.alloc (.cells #[.int .i64 2] 134)).far (p := ⟨B + 2, 0, none⟩) (by show B + 1 ≠ B + 2; omega) (.int .i64 2)
    have c4 := k4.cell 0
    have g4 := (gb.alloc (by have := gb.size; have := HB.out; omega) (.cells #[.int .i64 2] 134)).setCell (p := ⟨B + 2, 0, none⟩) (by show B ≤ B + 2; omega) (.int .i64 2)
    exact ⟨.tuple #[.agg (bc Bo.zero (.slice none 0 0)), .int .i64 2], results_cc30 rfl rowBo e4 z49.out rfl rfl (by simp [go_sem, c4]), .agg (bc Bo.zero (.slice none 0 0)), rfl, ⟨none, 0, 0, rfl, OwnV.nil _ _ _, by omega⟩, by rw [← HB.out]; exact g4⟩
  case true =>
  go_wp2_with fail
  refine (nodeB_any nd _ H1.out).mono ?_
  rintro e w2 ⟨rfl, rfl⟩
  cases r1
  case false =>
    go_wp2_with fail
    refine (bmust_bad 2 _).mono ?_
    rintro e w2 ⟨rfl, rfl⟩
    go_wp2_with fail
    obtain ⟨rfl, rfl⟩ := BAD.out (by simp)
    refine leaves_cons (f := 37) (args := #[.pointer (some ⟨B + 2, 0, none⟩)]) (by simp) (by simp [go_sem]) ?_
    refine (bcaught_panic _ _ _ _ _ (kf.cell 0) (kf.free 0)).mono ?_
    rintro e u' w4 ⟨rfl, rfl, rfl⟩
    have k4 := (kf.alloc (.cells #[.int .i64 2] 134)).set_ 0 (.int .i64 2)
    have e4 := (ke.alloc (.cells #[.int .i64 2] 134)).far (p := ⟨B + 2, 0, none⟩) (by show B + 1 ≠ B + 2; omega) (.int .i64 2)
    have c4 := k4.cell 0
    have g4 := (gb.alloc (by have := gb.size; have := HB.out; omega) (.cells #[.int .i64 2] 134)).setCell (p := ⟨B + 2, 0, none⟩) (by show B ≤ B + 2; omega) (.int .i64 2)
    exact ⟨.tuple #[.agg (bc Bo.zero (.slice none 0 0)), .int .i64 2], results_cc30 rfl rowBo e4 z49.out rfl rfl (by simp [go_sem, c4]), .agg (bc Bo.zero (.slice none 0 0)), rfl, ⟨none, 0, 0, rfl, OwnV.nil _ _ _, by omega⟩, by rw [← HB.out]; exact g4⟩
  case true =>
  go_wp2_with fail
  refine (withinB_any wk 0 7 _ (by omega) H2.out).mono ?_
  rintro e w2 ⟨rfl, rfl⟩
  cases r2
  case false =>
    go_wp2_with fail
    refine (bmust_bad 2 _).mono ?_
    rintro e w2 ⟨rfl, rfl⟩
    go_wp2_with fail
    obtain ⟨rfl, rfl⟩ := BAD.out (by simp)
    refine leaves_cons (f := 37) (args := #[.pointer (some ⟨B + 2, 0, none⟩)]) (by simp) (by simp [go_sem]) ?_
    refine (bcaught_panic _ _ _ _ _ (kf.cell 0) (kf.free 0)).mono ?_
    rintro e u' w4 ⟨rfl, rfl, rfl⟩
    have k4 := (kf.alloc (.cells #[.int .i64 2] 134)).set_ 0 (.int .i64 2)
    have e4 := (ke.alloc (.cells #[.int .i64 2] 134)).far (p := ⟨B + 2, 0, none⟩) (by show B + 1 ≠ B + 2; omega) (.int .i64 2)
    have c4 := k4.cell 0
    have g4 := (gb.alloc (by have := gb.size; have := HB.out; omega) (.cells #[.int .i64 2] 134)).setCell (p := ⟨B + 2, 0, none⟩) (by show B ≤ B + 2; omega) (.int .i64 2)
    exact ⟨.tuple #[.agg (bc Bo.zero (.slice none 0 0)), .int .i64 2], results_cc30 rfl rowBo e4 z49.out rfl rfl (by simp [go_sem, c4]), .agg (bc Bo.zero (.slice none 0 0)), rfl, ⟨none, 0, 0, rfl, OwnV.nil _ _ _, by omega⟩, by rw [← HB.out]; exact g4⟩
  case true =>
  go_wp2_with fail
  refine (withinB_any rp 0 1000 _ (by omega) H3.out).mono ?_
  rintro e w2 ⟨rfl, rfl⟩
  cases r3
  case false =>
    go_wp2_with fail
    refine (bmust_bad 2 _).mono ?_
    rintro e w2 ⟨rfl, rfl⟩
    go_wp2_with fail
    obtain ⟨rfl, rfl⟩ := BAD.out (by simp)
    refine leaves_cons (f := 37) (args := #[.pointer (some ⟨B + 2, 0, none⟩)]) (by simp) (by simp [go_sem]) ?_
    refine (bcaught_panic _ _ _ _ _ (kf.cell 0) (kf.free 0)).mono ?_
    rintro e u' w4 ⟨rfl, rfl, rfl⟩
    have k4 := (kf.alloc (.cells #[.int .i64 2] 134)).set_ 0 (.int .i64 2)
    have e4 := (ke.alloc (.cells #[.int .i64 2] 134)).far (p := ⟨B + 2, 0, none⟩) (by show B + 1 ≠ B + 2; omega) (.int .i64 2)
    have c4 := k4.cell 0
    have g4 := (gb.alloc (by have := gb.size; have := HB.out; omega) (.cells #[.int .i64 2] 134)).setCell (p := ⟨B + 2, 0, none⟩) (by show B ≤ B + 2; omega) (.int .i64 2)
    exact ⟨.tuple #[.agg (bc Bo.zero (.slice none 0 0)), .int .i64 2], results_cc30 rfl rowBo e4 z49.out rfl rfl (by simp [go_sem, c4]), .agg (bc Bo.zero (.slice none 0 0)), rfl, ⟨none, 0, 0, rfl, OwnV.nil _ _ _, by omega⟩, by rw [← HB.out]; exact g4⟩
  case true =>
  clear BAD
  go_wp2_with fail
  refine (bmust_ok 2 _).mono ?_
  rintro e w2 ⟨rfl, rfl⟩
  go_wp2_with ((with_reducible refine wpList_ld rowBo k0 h49.out ?_ ?_); rotate_left; (rfl))
  have HW1 := gb.size
  refine (HC2.out HR.out.symm w1 (by rw [← HB.out]; exact gb)).mono ?_
  rintro e w2 ⟨_, rfl, ⟨A', m', c', rfl, o, hm'⟩, b1⟩
  have k0 := k0.below b1 k0.lt
  have ke := ke.below b1 ke.lt
  have kf := kf.below b1 kf.lt
  have gb := gb.trans (b1.mono (by have := gb.size; have := HB.out; omega))
  clear b1
  have HM := Lib.hid hm'
  have n49 := Lib.hid (bc_size (b := b) (s := .slice A' m' c') HS.out)
  have n1 := Lib.hid (bc_one (b := b) (s := .slice A' m' c') rfl)
  clear hm' HC1 HC2 h49 o49
  go_upto_region 4 with ((with_reducible refine wpList_st rowBo (Blk.new _ _ _) n49.out ?_ n1.out ?_ ?_ ?_); (rfl); rotate_left; (rfl); (rfl); intro w3 kx g3 z3)
  obtain ⟨X, hX⟩ : ∃ X, X = w2.heap.size := ⟨_, rfl⟩
  rw [← hX] at kx g3 ⊢
  have hXB : B + 2 < X := by have := kf.lt; omega
  have bx : Below w2.heap.size w2 w3 := new_below (hX ▸ g3)
  have k0 := k0.below bx k0.lt
  have ke := ke.below bx ke.lt
  have kf := kf.below bx kf.lt
  have o := o.below bx (Nat.le_refl _)
  have gb := gb.trans (bx.mono (by have := gb.size; have := HB.out; omega))
  clear bx
  clear g3 z3 hX
  obtain ⟨n, hn8, rfl⟩ : ∃ n : Nat, n < 8 ∧ wk = n := by
    have := (Reg.inB_iff wk 0 7).1 H2.out
    exact ⟨wk.toNat, by omega, by omega⟩
  obtain ⟨t', kt, ht⟩ : ∃ t' kt, Tally.addL b.t nd 1 = (t', kt) := ⟨_, _, rfl⟩
  have had := add_any b.t nd 1 w3 HS.out.t
  unfold AddEnd at had
  rw [ht] at had
  have HAD := Lib.hid had
  have HT := Lib.hid ht
  have t16 : t'.length = 16 := by
    have := (Tally.add_len HS.out.t nd 1).1
    rwa [ht] at this
  have T16 := Lib.hid t16
  have S16 := Lib.hid (show (tc b.t).size = 16 by rw [tc_size, HS.out.t])
  clear had ht t16
  go_wp2_with ((with_reducible refine wpList_ldr rowT (kx.tal HS.out) S16.out ?_ ?_); rotate_left; (rfl))
  refine HAD.out.mono ?_
  rintro e w4 ⟨rfl, b1⟩
  have k0 := k0.below b1 k0.lt
  have ke := ke.below b1 ke.lt
  have kf := kf.below b1 kf.lt
  have kx := kx.below b1 kx.lt
  have o := o.below b1 (Nat.le_refl _)
  have gb := gb.trans (b1.mono (by have := gb.size; have := HB.out; omega))
  clear b1
  clear HAD
  by_cases hkt : kt = 0
  case neg =>
    have HK := Lib.hid hkt
    go_wp2_with fail
    refine (gotT_bad (tc t') kt HK.out _).mono ?_
    rintro e w5 ⟨rfl, b1⟩
    have k0 := k0.below b1 k0.lt
    have ke := ke.below b1 ke.lt
    have kf := kf.below b1 kf.lt
    have gb := gb.trans (b1.mono (by have := gb.size; have := HB.out; omega))
    clear b1
    have hxk : x = Bo.zero ∧ k = kt := by
      have := HX.out
      unfold Bo.wrote at this
      rw [if_neg (by rw [H1.out, H2.out, H3.out, ← HR.out]; simp), if_pos (by rw [HT.out]; exact HK.out), HT.out] at this
      injection this with h1 h2
      exact ⟨h1.symm, h2.symm⟩
    obtain ⟨rfl, rfl⟩ := hxk
    clear HX HT hkt HK
    go_wp2_with fail
    refine leaves_cons (f := 37) (args := #[.pointer (some ⟨B + 2, 0, none⟩)]) (by simp) (by simp [go_sem]) ?_
    refine (bcaught_panic _ _ _ _ _ (kf.cell 0) (kf.free 0)).mono ?_
    rintro e u' w4 ⟨rfl, rfl, rfl⟩
    have k4 := (kf.alloc (.cells #[.int .i64 k] 134)).set_ 0 (.int .i64 k)
    have e4 := (ke.alloc (.cells #[.int .i64 k] 134)).far (p := ⟨B + 2, 0, none⟩) (by show B + 1 ≠ B + 2; omega) (.int .i64 k)
    have c4 := k4.cell 0
    have g4 := (gb.alloc (by have := gb.size; have := HB.out; omega) (.cells #[.int .i64 k] 134)).setCell (p := ⟨B + 2, 0, none⟩) (by show B ≤ B + 2; omega) (.int .i64 k)
    exact ⟨.tuple #[.agg (bc Bo.zero (.slice none 0 0)), .int .i64 k], results_cc30 rfl rowBo e4 z49.out rfl rfl (by simp [go_sem, c4]), .agg (bc Bo.zero (.slice none 0 0)), rfl, ⟨none, 0, 0, rfl, OwnV.nil _ _ _, by omega⟩, by rw [← HB.out]; exact g4⟩
  case pos =>
  subst hkt
  go_wp2_with fail
  refine (gotT_ok (tc t') (by rw [tc_size, T16.out]) (tc_one t') _).mono ?_
  rintro e w5 ⟨rfl, b1⟩
  have k0 := k0.below b1 k0.lt
  have ke := ke.below b1 ke.lt
  have kf := kf.below b1 kf.lt
  have kx := kx.below b1 kx.lt
  have o := o.below b1 (Nat.le_refl _)
  have gb := gb.trans (b1.mono (by have := gb.size; have := HB.out; omega))
  clear b1
  have hth := kx.there_ (o := 0) (n := 16) (by rw [n49.out]; omega)
  have SB := Lib.hid (show (tc t').size = 16 by rw [tc_size, T16.out])
  have OB := Lib.hid (tc_one t')
  go_upto_region 5 with ((with_reducible refine wpList_str rowT hth SB.out OB.out ?_ ?_ ?_); rotate_left; (rfl); (rfl); intro w6 hw6)
  have gx := cells_grown w5 X 0 (tc t').toList
  rw [← hw6] at gx
  have k0 := k0.grown gx (fun h => by injection h; omega)
  have ke := ke.grown gx (fun h => by injection h; omega)
  have kf := kf.grown gx (fun h => by injection h; omega)
  have o := o.grown gx (.inr (own_ne o.2 kx (by decide)))
  have gb := gb.grown gx (by have := gb.size; have := HB.out; omega) (fun q hq => by injection hq; have := HB.out; omega)
  have kx := kx.setT HS.out T16.out
  rw [← hw6] at kx
  have hs2 : Bo.Shaped { b with t := t' } := ⟨T16.out, HS.out.p, HS.out.u⟩
  obtain ⟨b2, hb2⟩ : ∃ b2 : Bd, b2 = { b with t := t' } := ⟨_, rfl⟩
  rw [← hb2] at kx hs2
  have HB2 := Lib.hid hb2
  have HS2 := Lib.hid hs2
  obtain ⟨p, hp⟩ : ∃ p, p = b.p.getD n (0, 0, 0) := ⟨_, rfl⟩
  have hpl : w6.rangeAt X (16 + n * 3) (pc p).toArray.toList := by
    have := kx.plan HS2.out hn8
    rw [HB2.out, ← hp] at this
    exact this
  have hp1 : -9223372036854775808 ≤ p.1 := by
    have hm : p ∈ b.p := by rw [hp, List.getD_eq_getElem?_getD, List.getElem?_eq_getElem (by rw [HS.out.p]; exact hn8)]; exact List.getElem_mem _
    have := (Bo.planB_iff p).1 (((Bo.right_iff b).1 HR.out.symm).1 p hm)
    rcases this with h | h
    · rw [h]; decide
    · omega
  obtain ⟨p', kp, hkp⟩ : ∃ p' kp, Reg.writeL p nd rp = (p', kp) := ⟨_, _, rfl⟩
  have hwr := fun w => write29_any p nd rp hp1 w
  rw [hkp] at hwr
  have HWR := Lib.hid (show ∀ w, Calls Tryz.prog 44 #[.agg (pc p).toArray, .int .i64 nd, .int .i64 rp] w fun e w' => e = .returned (.tuple #[.agg (pc p').toArray, .int .i64 kp]) ∧ Below w.heap.size w w' from hwr)
  have SP := Lib.hid (show (pc p).toArray.size = 3 from rfl)
  have HKP := Lib.hid hkp
  have HP := Lib.hid hp
  clear hs2 hb2 hp1 hkp hwr hth gx hp hw6
  go_wp2_with ((with_reducible refine wpList_ldr rowLa hpl SP.out ?_ ?_); rotate_left; (rfl))
  refine (HWR.out w6).mono ?_
  rintro e w7 ⟨rfl, b1⟩
  have k0 := k0.below b1 k0.lt
  have ke := ke.below b1 ke.lt
  have kf := kf.below b1 kf.lt
  have kx := kx.below b1 kx.lt
  have o := o.below b1 (Nat.le_refl _)
  have gb := gb.trans (b1.mono (by have := gb.size; have := HB.out; omega))
  clear b1
  clear HWR hpl
  by_cases hkt : kp = 0
  case neg =>
    have HK := Lib.hid hkt
    go_wp2_with fail
    refine (gotL_bad (pc p').toArray kp HK.out _).mono ?_
    rintro e w8 ⟨rfl, b1⟩
    have k0 := k0.below b1 k0.lt
    have ke := ke.below b1 ke.lt
    have kf := kf.below b1 kf.lt
    have gb := gb.trans (b1.mono (by have := gb.size; have := HB.out; omega))
    clear b1
    have hxk : x = Bo.zero ∧ k = kp := by
      have := HX.out
      unfold Bo.wrote at this
      rw [if_neg (by rw [H1.out, H2.out, H3.out, ← HR.out]; simp), if_neg (by rw [HT.out]; simp), Int.toNat_natCast, ← HP.out, if_pos (by rw [HKP.out]; exact HK.out), HKP.out] at this
      injection this with h1 h2
      exact ⟨h1.symm, h2.symm⟩
    obtain ⟨rfl, rfl⟩ := hxk
    clear HX HT hkt HK
    go_wp2_with fail
    refine leaves_cons (f := 37) (args := #[.pointer (some ⟨B + 2, 0, none⟩)]) (by simp) (by simp [go_sem]) ?_
    refine (bcaught_panic _ _ _ _ _ (kf.cell 0) (kf.free 0)).mono ?_
    rintro e u' w4 ⟨rfl, rfl, rfl⟩
    have k4 := (kf.alloc (.cells #[.int .i64 k] 134)).set_ 0 (.int .i64 k)
    have e4 := (ke.alloc (.cells #[.int .i64 k] 134)).far (p := ⟨B + 2, 0, none⟩) (by show B + 1 ≠ B + 2; omega) (.int .i64 k)
    have c4 := k4.cell 0
    have g4 := (gb.alloc (by have := gb.size; have := HB.out; omega) (.cells #[.int .i64 k] 134)).setCell (p := ⟨B + 2, 0, none⟩) (by show B ≤ B + 2; omega) (.int .i64 k)
    exact ⟨.tuple #[.agg (bc Bo.zero (.slice none 0 0)), .int .i64 k], results_cc30 rfl rowBo e4 z49.out rfl rfl (by simp [go_sem, c4]), .agg (bc Bo.zero (.slice none 0 0)), rfl, ⟨none, 0, 0, rfl, OwnV.nil _ _ _, by omega⟩, by rw [← HB.out]; exact g4⟩
  case pos =>
  subst hkt
  go_wp2_with fail
  refine (gotL_ok (pc p').toArray rfl (th_one _ _ _) _).mono ?_
  rintro e w8 ⟨rfl, b1⟩
  have k0 := k0.below b1 k0.lt
  have ke := ke.below b1 ke.lt
  have kf := kf.below b1 kf.lt
  have kx := kx.below b1 kx.lt
  have o := o.below b1 (Nat.le_refl _)
  have gb := gb.trans (b1.mono (by have := gb.size; have := HB.out; omega))
  clear b1
  have hth := kx.there_ (o := 16 + n * 3) (n := 3) (by rw [bc_size HS2.out]; omega)
  have SB := Lib.hid (show (pc p').toArray.size = 3 from rfl)
  have OB := Lib.hid (show (pc p').toArray.all (·.oneCell') = true from th_one _ _ _)
  go_upto_region 6 with ((with_reducible refine wpList_str rowLa hth SB.out OB.out ?_ ?_ ?_); rotate_left; (rfl); (rfl); intro w9 hw9)
  have gx := cells_grown w8 X (16 + n * 3) (pc p').toArray.toList
  rw [← hw9] at gx
  have ke := ke.grown gx (fun h => by injection h; omega)
  have kf := kf.grown gx (fun h => by injection h; omega)
  have o := o.grown gx (.inr (own_ne o.2 kx (by decide)))
  have gb := gb.grown gx (by have := gb.size; have := HB.out; omega) (fun q hq => by injection hq; have := HB.out; omega)
  have kx := kx.setP HS2.out hn8 p'
  have kx : Blk w9 X 41 (bc { b2 with p := b2.p.set n p' } (.slice A' m' c')) := by rw [hw9]; exact kx
  have hxk : x = { b2 with p := b2.p.set n p' } ∧ k = 0 := by
    have := HX.out
    unfold Bo.wrote at this
    rw [if_neg (by rw [H1.out, H2.out, H3.out, ← HR.out]; simp), if_neg (by rw [HT.out]; simp), Int.toNat_natCast, ← HP.out, if_neg (by rw [HKP.out]; simp), HKP.out, HT.out] at this
    injection this with h1 h2
    rw [HB2.out]
    exact ⟨h1.symm, h2.symm⟩
  have hs3 : Bo.Shaped x := by rw [hxk.1]; exact ⟨HS2.out.t, by rw [List.length_set]; exact HS2.out.p, HS2.out.u⟩
  have hl3 : x.l = b.l := by rw [hxk.1, HB2.out]
  rw [← hxk.1] at kx
  obtain ⟨_, rfl⟩ := hxk
  have N49 := Lib.hid (bc_size (b := x) (s := .slice A' m' c') hs3)
  have N1 := Lib.hid (bc_one (b := x) (s := .slice A' m' c') rfl)
  have HL := Lib.hid hl3
  clear hs3 hl3 gx hth hw9 k0
  have cf := kf.cell 0
  have ff := kf.free 0
  go_wp2_with first
    | ((with_reducible refine wpList_ld rowBo kx N49.out ?_ ?_); rotate_left; (rfl))
    | ((with_reducible refine wpList_st rowBo ke N49.out z49.out N1.out ?_ ?_ ?_); rotate_left; (rfl); (rfl); intro w10 k10 g10 z10; have kf := kf.grown g10 (fun h => by injection h; omega); have cf := kf.cell 0; have ff := kf.free 0)
  have o := o.grown g10 (.inr (own_ne o.2 ke (by decide)))
  have gb := gb.grown g10 (by have := gb.size; have := HB.out; omega) (fun q hq => by injection hq; have := HB.out; omega)
  refine leaves_cons (f := 37) (args := #[.pointer (some ⟨B + 2, 0, none⟩)]) (by simp) (by simp [go_sem]) ?_
  refine (bcaught_none _ _).mono ?_
  rintro e u' w11 ⟨rfl, rfl, rfl⟩
  have k12 := k10.far (p := ⟨B + 2, 0, none⟩) (by show B + 1 ≠ B + 2; omega) (.int .i64 0)
  have f12 := kf.set_ 0 (.int .i64 0)
  have c12 := f12.cell 0
  have o12 := o.setFar (p := ⟨B + 2, 0, none⟩) (own_ne o.2 kf (by decide)) (.int .i64 0)
  have g12 := gb.setCell (p := ⟨B + 2, 0, none⟩) (by show B ≤ B + 2; omega) (.int .i64 0)
  rw [← HL.out] at o12
  have HWL : w.heap.size ≤ w1.heap.size := by have := HB.out; omega
  exact ⟨.tuple #[.agg (bc x (.slice A' m' c')), .int .i64 0], results_cc30 rfl rowBo k12 N49.out rfl rfl (by simp [go_sem, c12]), .agg (bc x (.slice A' m' c')), rfl, ⟨A', m', c', rfl, o12.mono HWL, HM.out⟩, by rw [← HB.out]; exact g12⟩
theorem bwrote_any (b : Bd) (hs : Bo.Shaped b) (nd wk rp : Int) (q : Value) (w : World) (hq : FrBo b q w) : Calls Tryz.prog 13 #[q, .int .i64 nd, .int .i64 wk, .int .i64 rp] w (GiveBdE 84 w (Bo.wrote b nd wk rp).1 (Bo.wrote b nd wk rp).2) := (bwrote_anyB b hs nd wk rp q w hq).mono fun _ _ h => h.give
end Go.Proofs.YtocoohpekpkmkaaGreat

/- The walk of board.Note. -/
namespace Go.Proofs.YtocoohpekpkmkaaGreat
set_option linter.unusedVariables false
set_option linter.unusedSimpArgs false
set_option maxRecDepth 100000
open Go.RowKit
open Reg (La Vl)
theorem bnote_bad {b : Bd} {x y : Int} (h : (Bo.rightB b && decide (0 ≤ y)) = false) : Bo.note b x y = (Bo.zero, 2) := by
  unfold Bo.note
  rw [if_pos]
  simp only [Bool.and_eq_false_iff, decide_eq_false_iff_not] at h
  rcases h with h | h
  · exact .inl h
  · exact .inr (by omega)
set_option maxHeartbeats 4000000 in
theorem bnote_any (b : Bd) (hs : Bo.Shaped b) (nd v : Int) (q : Value) (w : World) (hq : FrBo b q w) : Calls Tryz.prog 15 #[q, .int .i64 nd, .int .i64 v] w (GiveBdE 84 w (Bo.note b nd v).1 (Bo.note b nd v).2) := by
  obtain ⟨x, k, hx⟩ : ∃ x k, Bo.note b nd v = (x, k) := ⟨_, _, rfl⟩
  rw [hx]
  have HX := Lib.hid hx
  clear hx
  obtain ⟨A, m, c, rfl, hr, hm⟩ := hq
  obtain ⟨R, hR⟩ : ∃ R, R = Bo.rightB b := ⟨_, rfl⟩
  have HC1 := Lib.hid fun (w' : World) (hb : Below w.heap.size w w') => (hR ▸ boRight_any b hs (.agg (bc b (.slice A m c))) w' ⟨A, m, c, rfl, (hr.below hb).size, hm⟩ : Calls Tryz.prog _ _ w' (GiveBo w' R))
  have HC2 := Lib.hid fun (hr1 : Bo.rightB b = true) (w' : World) (hb : Below w.heap.size w w') => (Bo.own_of hr1 ▸ boOwn_any b hs (.agg (bc b (.slice A m c))) w' ⟨A, m, c, rfl, (hr.below hb).size, hm⟩ : Calls Tryz.prog _ _ w' (GiveBd 84 w' b))
  have HS := Lib.hid hs
  have h49 := Lib.hid (bc_size (s := .slice A m c) hs)
  have z49 := Lib.hid (bc_size (s := .slice none 0 0) Bo.zero_shaped)
  have o49 := Lib.hid (bc_one (b := b) (s := .slice A m c) rfl)
  have HR := Lib.hid hR
  clear hr hm hs hR
  obtain ⟨r1, hr1⟩ : ∃ r1, r1 = decide (v ≥ 0) := ⟨_, rfl⟩
  have H1 := Lib.hid hr1
  have bad : (R && r1) = false → x = Bo.zero ∧ k = 2 := fun h => by
    have := HX.out
    rw [bnote_bad (by rw [← HR.out]; rw [H1.out] at h; exact h)] at this
    injection this with h1 h2
    exact ⟨h1.symm, h2.symm⟩
  have BAD := Lib.hid bad
  clear bad hr1
  go_enter_defers Tryz.func15, Tryz.ntmps15
  go_upto_region 2 with fail
  refine nameW ?_
  intro wv hwv
  obtain ⟨B, hB⟩ : ∃ B, B = w.heap.size := ⟨_, rfl⟩
  rw [← hB]
  have k0 : Blk wv B 41 (bc b (.slice A m c)) := by rw [hwv, hB]; exact ((Blk.new w _ _).alloc _).alloc _
  have ke : Blk wv (B + 1) 41 (bc Bo.zero (.slice none 0 0)) := by
    have h := Blk.new (w.alloc (.cells (bc b (.slice A m c)) 41)) 41 (bc Bo.zero (.slice none 0 0))
    rw [zbo] at h ⊢
    rw [hwv, hB]
    exact (by simpa using h : Blk _ (w.heap.size + 1) _ _).alloc _
  have kf : Blk wv (B + 2) 50 #[.int .i64 0] := by
    have h := Blk.new ((w.alloc (.cells (bc b (.slice A m c)) 41)).alloc (.cells (bc Bo.zero (.slice none 0 0)) 41)) 50 #[.int .i64 0]
    rw [zbo] at h
    rw [hwv, hB]
    simpa using h
  have gb : Below B w wv := by rw [hwv, hB]; exact (((Below.refl _ _).alloc (Nat.le_refl _) _).alloc (by simp) _).alloc (by simp; omega) _
  have HB := Lib.hid hB
  clear hwv hB
  go_wp2_with ((with_reducible refine wpList_ld rowBo k0 h49.out ?_ ?_); rotate_left; (rfl))
  refine (HC1.out wv (by rw [← HB.out]; exact gb)).mono ?_
  rintro e w1 ⟨rfl, b1⟩
  have k0 := k0.below b1 k0.lt
  have ke := ke.below b1 ke.lt
  have kf := kf.below b1 kf.lt
  have gb := gb.trans (b1.mono (by have := gb.size; have := HB.out; omega))
  clear b1
  cases R
  case false =>
    go_wp2_with fail
    refine (bmust_bad 2 _).mono ?_
    rintro e w2 ⟨rfl, rfl⟩
    go_wp2_with fail
    obtain ⟨rfl, rfl⟩ := BAD.out (by simp)
    refine leaves_cons (f := 37) (args := #[.pointer (some ⟨B + 2, 0, none⟩)]) (by simp) (by simp [go_sem]) ?_
    refine (bcaught_panic _ _ _ _ _ (kf.cell 0) (kf.free 0)).mono ?_
    rintro e u' w4 ⟨rfl, rfl, rfl⟩
    have k4 := (kf.alloc (.cells #[.int .i64 2] 134)).set_ 0 (.int .i64 2)
    have e4 := (ke.alloc (.cells #[.int .i64 2] 134)).far (p := ⟨B + 2, 0, none⟩) (by show B + 1 ≠ B + 2; omega) (.int .i64 2)
    have c4 := k4.cell 0
    have g4 := (gb.alloc (by have := gb.size; have := HB.out; omega) (.cells #[.int .i64 2] 134)).setCell (p := ⟨B + 2, 0, none⟩) (by show B ≤ B + 2; omega) (.int .i64 2)
    exact ⟨.tuple #[.agg (bc Bo.zero (.slice none 0 0)), .int .i64 2], results_cc30 rfl rowBo e4 z49.out rfl rfl (by simp [go_sem, c4]), .agg (bc Bo.zero (.slice none 0 0)), rfl, ⟨none, 0, 0, rfl, OwnV.nil _ _ _, by omega⟩, by rw [← HB.out]; exact g4⟩
  case true =>
  cases r1
  case false =>
    have hv0 : decide (0 ≤ v) = false := H1.out.symm
    go_wp2_with fail
    refine (bmust_bad 2 _).mono ?_
    rintro e w2 ⟨rfl, rfl⟩
    go_wp2_with fail
    obtain ⟨rfl, rfl⟩ := BAD.out (by simp)
    refine leaves_cons (f := 37) (args := #[.pointer (some ⟨B + 2, 0, none⟩)]) (by simp) (by simp [go_sem]) ?_
    refine (bcaught_panic _ _ _ _ _ (kf.cell 0) (kf.free 0)).mono ?_
    rintro e u' w4 ⟨rfl, rfl, rfl⟩
    have k4 := (kf.alloc (.cells #[.int .i64 2] 134)).set_ 0 (.int .i64 2)
    have e4 := (ke.alloc (.cells #[.int .i64 2] 134)).far (p := ⟨B + 2, 0, none⟩) (by show B + 1 ≠ B + 2; omega) (.int .i64 2)
    have c4 := k4.cell 0
    have g4 := (gb.alloc (by have := gb.size; have := HB.out; omega) (.cells #[.int .i64 2] 134)).setCell (p := ⟨B + 2, 0, none⟩) (by show B ≤ B + 2; omega) (.int .i64 2)
    exact ⟨.tuple #[.agg (bc Bo.zero (.slice none 0 0)), .int .i64 2], results_cc30 rfl rowBo e4 z49.out rfl rfl (by simp [go_sem, c4]), .agg (bc Bo.zero (.slice none 0 0)), rfl, ⟨none, 0, 0, rfl, OwnV.nil _ _ _, by omega⟩, by rw [← HB.out]; exact g4⟩
  case true =>
  have hv0 : decide (0 ≤ v) = true := H1.out.symm
  clear BAD
  go_wp2_with fail
  refine (bmust_ok 2 _).mono ?_
  rintro e w2 ⟨rfl, rfl⟩
  go_wp2_with ((with_reducible refine wpList_ld rowBo k0 h49.out ?_ ?_); rotate_left; (rfl))
  refine (HC2.out HR.out.symm w1 (by rw [← HB.out]; exact gb)).mono ?_
  rintro e w2 ⟨_, rfl, ⟨A', m', c', rfl, o, hm'⟩, b1⟩
  have k0 := k0.below b1 k0.lt
  have ke := ke.below b1 ke.lt
  have kf := kf.below b1 kf.lt
  have gb := gb.trans (b1.mono (by have := gb.size; have := HB.out; omega))
  clear b1
  have HM := Lib.hid hm'
  have n49 := Lib.hid (bc_size (b := b) (s := .slice A' m' c') HS.out)
  have n1 := Lib.hid (bc_one (b := b) (s := .slice A' m' c') rfl)
  clear hm' HC1 HC2 h49 o49 hv0
  go_upto_region 4 with ((with_reducible refine wpList_st rowBo (Blk.new _ _ _) n49.out ?_ n1.out ?_ ?_ ?_); (rfl); rotate_left; (rfl); (rfl); intro w3 kx g3 z3)
  obtain ⟨X, hX⟩ : ∃ X, X = w2.heap.size := ⟨_, rfl⟩
  rw [← hX] at kx g3 ⊢
  have hXB : B + 2 < X := by have := kf.lt; omega
  have bx : Below w2.heap.size w2 w3 := new_below (hX ▸ g3)
  have k0 := k0.below bx k0.lt
  have ke := ke.below bx ke.lt
  have kf := kf.below bx kf.lt
  have o := o.below bx (Nat.le_refl _)
  have gb := gb.trans (bx.mono (by have := gb.size; have := HB.out; omega))
  clear bx
  clear g3 z3 hX
  obtain ⟨u', l', kt, ht⟩ : ∃ u' l' kt, Reg.putM b.u b.l nd v = ((u', l'), kt) := ⟨_, _, _, rfl⟩
  have had := putF (U := b.u) (l := b.l) HS.out.u nd v (q := .agg (uc b.u (.slice A' m' c'))) (w := w3) ⟨A', m', c', rfl, o.rd, HM.out⟩
  rw [ht] at had
  have HAD := Lib.hid had
  have HT := Lib.hid ht
  have u8 : u'.length = 8 := by
    have := putM_len8 (l := b.l) HS.out.u nd v
    rwa [ht] at this
  have U8 := Lib.hid u8
  have S9 := Lib.hid (uc_size HS.out.u (.slice A' m' c'))
  clear had ht u8
  go_wp2_with ((with_reducible refine wpList_ldr rowM (kx.notes HS.out) S9.out ?_ ?_); rotate_left; (rfl))
  refine HAD.out.mono ?_
  rintro e w4 ⟨_, rfl, ⟨A2, m2, c2, rfl, o2, hm2⟩, b1⟩
  have k0 := k0.below b1 k0.lt
  have ke := ke.below b1 ke.lt
  have kf := kf.below b1 kf.lt
  have kx := kx.below b1 kx.lt
  have gb := gb.trans (b1.mono (by have := gb.size; have := HB.out; omega))
  clear b1
  have HM2 := Lib.hid hm2
  clear HAD o hm2
  by_cases hkt : kt = 0
  case neg =>
    have HK := Lib.hid hkt
    go_wp2_with fail
    refine (gotM_bad (uc u' (.slice A2 m2 c2)) kt HK.out _).mono ?_
    rintro e w5 ⟨rfl, b1⟩
    have k0 := k0.below b1 k0.lt
    have ke := ke.below b1 ke.lt
    have kf := kf.below b1 kf.lt
    have gb := gb.trans (b1.mono (by have := gb.size; have := HB.out; omega))
    clear b1
    have hxk : x = Bo.zero ∧ k = kt := by
      have := HX.out
      unfold Bo.note at this
      rw [if_neg (by have := of_decide_eq_true H1.out.symm; rw [← HR.out]; simp; omega), if_pos (by rw [HT.out]; exact HK.out), HT.out] at this
      injection this with h1 h2
      exact ⟨h1.symm, h2.symm⟩
    obtain ⟨rfl, rfl⟩ := hxk
    clear HX HT hkt HK
    go_wp2_with fail
    refine leaves_cons (f := 37) (args := #[.pointer (some ⟨B + 2, 0, none⟩)]) (by simp) (by simp [go_sem]) ?_
    refine (bcaught_panic _ _ _ _ _ (kf.cell 0) (kf.free 0)).mono ?_
    rintro e u' w4 ⟨rfl, rfl, rfl⟩
    have k4 := (kf.alloc (.cells #[.int .i64 k] 134)).set_ 0 (.int .i64 k)
    have e4 := (ke.alloc (.cells #[.int .i64 k] 134)).far (p := ⟨B + 2, 0, none⟩) (by show B + 1 ≠ B + 2; omega) (.int .i64 k)
    have c4 := k4.cell 0
    have g4 := (gb.alloc (by have := gb.size; have := HB.out; omega) (.cells #[.int .i64 k] 134)).setCell (p := ⟨B + 2, 0, none⟩) (by show B ≤ B + 2; omega) (.int .i64 k)
    exact ⟨.tuple #[.agg (bc Bo.zero (.slice none 0 0)), .int .i64 k], results_cc30 rfl rowBo e4 z49.out rfl rfl (by simp [go_sem, c4]), .agg (bc Bo.zero (.slice none 0 0)), rfl, ⟨none, 0, 0, rfl, OwnV.nil _ _ _, by omega⟩, by rw [← HB.out]; exact g4⟩
  case pos =>
  subst hkt
  go_wp2_with fail
  refine (gotM_ok (uc u' (.slice A2 m2 c2)) (uc_size U8.out _) (uc_one rfl) _).mono ?_
  rintro e w5 ⟨rfl, b1⟩
  have k0 := k0.below b1 k0.lt
  have ke := ke.below b1 ke.lt
  have kf := kf.below b1 kf.lt
  have kx := kx.below b1 kx.lt
  have o2 := o2.below b1 (Nat.le_refl _)
  have gb := gb.trans (b1.mono (by have := gb.size; have := HB.out; omega))
  clear b1
  have hth := kx.there_ (o := 40) (n := 9) (by rw [n49.out]; omega)
  have SB := Lib.hid (uc_size U8.out (.slice A2 m2 c2))
  have OB := Lib.hid (uc_one (U := u') (s := .slice A2 m2 c2) rfl)
  go_upto_region 5 with ((with_reducible refine wpList_str rowM hth SB.out OB.out ?_ ?_ ?_); rotate_left; (rfl); (rfl); intro w9 hw9)
  have gx := cells_grown w5 X 40 (uc u' (.slice A2 m2 c2)).toList
  rw [← hw9] at gx
  have ke := ke.grown gx (fun h => by injection h; omega)
  have kf := kf.grown gx (fun h => by injection h; omega)
  have o := o2.grown gx (.inr (own_ne o2.2 kx (by decide)))
  have gb := gb.grown gx (by have := gb.size; have := HB.out; omega) (fun q hq => by injection hq; have := HB.out; omega)
  have kx := kx.setN HS.out (l := l') (s' := .slice A2 m2 c2) U8.out
  have kx : Blk w9 X 41 (bc { b with u := u', l := l' } (.slice A2 m2 c2)) := by rw [hw9]; exact kx
  have hxk : x = { b with u := u', l := l' } ∧ k = 0 := by
    have := HX.out
    unfold Bo.note at this
    rw [if_neg (by have := of_decide_eq_true H1.out.symm; rw [← HR.out]; simp; omega), if_neg (by rw [HT.out]; simp), HT.out] at this
    injection this with h1 h2
    exact ⟨h1.symm, h2.symm⟩
  have hs3 : Bo.Shaped x := by rw [hxk.1]; exact ⟨HS.out.t, HS.out.p, U8.out⟩
  have hl3 : x.l = l' := by rw [hxk.1]
  rw [← hxk.1] at kx
  obtain ⟨_, rfl⟩ := hxk
  have N49 := Lib.hid (bc_size (b := x) (s := .slice A2 m2 c2) hs3)
  have N1 := Lib.hid (bc_one (b := x) (s := .slice A2 m2 c2) rfl)
  have HL := Lib.hid hl3
  clear hs3 hl3 gx hth hw9 k0 o2
  have cf := kf.cell 0
  have ff := kf.free 0
  go_wp2_with first
    | ((with_reducible refine wpList_ld rowBo kx N49.out ?_ ?_); rotate_left; (rfl))
    | ((with_reducible refine wpList_st rowBo ke N49.out z49.out N1.out ?_ ?_ ?_); rotate_left; (rfl); (rfl); intro w10 k10 g10 z10; have kf := kf.grown g10 (fun h => by injection h; omega); have cf := kf.cell 0; have ff := kf.free 0)
  have o := o.grown g10 (.inr (own_ne o.2 ke (by decide)))
  have gb := gb.grown g10 (by have := gb.size; have := HB.out; omega) (fun q hq => by injection hq; have := HB.out; omega)
  refine leaves_cons (f := 37) (args := #[.pointer (some ⟨B + 2, 0, none⟩)]) (by simp) (by simp [go_sem]) ?_
  refine (bcaught_none _ _).mono ?_
  rintro e u' w11 ⟨rfl, rfl, rfl⟩
  have k12 := k10.far (p := ⟨B + 2, 0, none⟩) (by show B + 1 ≠ B + 2; omega) (.int .i64 0)
  have f12 := kf.set_ 0 (.int .i64 0)
  have c12 := f12.cell 0
  have o12 := o.setFar (p := ⟨B + 2, 0, none⟩) (own_ne o.2 kf (by decide)) (.int .i64 0)
  have g12 := gb.setCell (p := ⟨B + 2, 0, none⟩) (by show B ≤ B + 2; omega) (.int .i64 0)
  rw [← HL.out] at o12
  exact ⟨.tuple #[.agg (bc x (.slice A2 m2 c2)), .int .i64 0], results_cc30 rfl rowBo k12 N49.out rfl rfl (by simp [go_sem, c12]), .agg (bc x (.slice A2 m2 c2)), rfl, ⟨A2, m2, c2, rfl, o12, HM2.out⟩, by rw [← HB.out]; exact g12⟩
end Go.Proofs.YtocoohpekpkmkaaGreat

/- A right board's numbers are those of an int64. -/
namespace Go.Proofs.YtocoohpekpkmkaaGreat
set_option linter.unusedVariables false
set_option linter.unusedSimpArgs false
open Go.RowKit
open Reg (La Vl)
theorem right_wfB {b : Bd} (h : Bo.rightB b = true) : WfB b := by
  obtain ⟨h1, h2, h3, h4⟩ := (Bo.right_iff b).1 h
  refine ⟨right_wf h3, fun q hq => ?_, fun x hx => ?_⟩
  · have := (Bo.planB_iff q).1 (h1 q hq)
    obtain ⟨x, y, z⟩ := q
    show (Lit.int .i64 x).wf = true ∧ (Lit.int .i64 y).wf = true ∧ (Lit.int .i64 z).wf = true
    rcases this with e | e
    · injection e with e1 e2
      injection e2 with e2 e3
      subst e1 e2 e3
      exact ⟨wf_of (by omega) (by omega), wf_of (by omega) (by omega), wf_of (by omega) (by omega)⟩
    · simp only at e
      exact ⟨wf_of (by omega) (by omega), wf_of (by omega) (by omega), wf_of (by omega) (by omega)⟩
  · have hm := (Reg.rightM_iff b.u b.l).1 h4
    have := (Reg.numOk_iff x).1 (List.all_eq_true.1 hm.1 x hx)
    exact wf_of (by omega) (by omega)
theorem zero_wfB : WfB Bo.zero := right_wfB Bo.zero_right
/-- what was read of bytes is right, and gives the bytes -/
theorem getX_ok {xs : List UInt8} {b : Bd} (h : Bo.getX xs = .ok b) : Bo.rightB b = true ∧ bodyL b = xs := by
  unfold Bo.getX at h
  split at h
  · cases h
  split at h
  · cases h
  split at h
  · cases h
  split at h
  case isTrue hc =>
    injection h with h
    rw [← h]
    exact hc
  case isFalse => cases h
theorem getBo_right (bs : List UInt8) : Bo.rightB (getBo bs).1 = true := by
  unfold getBo
  cases hg : Bo.getE bs with
  | error y => exact Bo.zero_right
  | ok b =>
    unfold Bo.getE at hg
    split at hg
    · cases hg
    · split at hg
      · exact (getX_ok hg).1
      · cases hg
end Go.Proofs.YtocoohpekpkmkaaGreat

/- What comes of a write or a note has the right shape, and numbers of an int64. -/
namespace Go.Proofs.YtocoohpekpkmkaaGreat
set_option linter.unusedVariables false
set_option linter.unusedSimpArgs false
open Go.RowKit
open Reg (La Vl)
theorem writeL_wf (l : La) (n v : Int) : (Lit.int .i64 (Reg.writeL l n v).1.1).wf = true ∧ (Lit.int .i64 (Reg.writeL l n v).1.2.1).wf = true ∧ (Lit.int .i64 (Reg.writeL l n v).1.2.2).wf = true := by
  unfold Reg.writeL
  split
  · exact ⟨wf_of (by simp) (by simp), wf_of (by simp) (by simp), wf_of (by simp) (by simp)⟩
  · split
    · exact ⟨wf_of (by simp) (by simp), wf_of (by simp) (by simp), wf_of (by simp) (by simp)⟩
    · rename_i h1 h2
      have h1 : Reg.mayN n v = true := by simpa using h1
      have := (Reg.mayN_iff n v).1 h1
      exact ⟨wf_of (by show _ ≤ max l.1 0 + 1; omega) (by show max l.1 0 + 1 ≤ _; omega), wf_of (by show _ ≤ n; omega) (by show n ≤ _; omega), wf_of (by show _ ≤ v; omega) (by show v ≤ _; omega)⟩
theorem wrote_shaped {b : Bd} (hs : Bo.Shaped b) (x y z : Int) : Bo.Shaped (Bo.wrote b x y z).1 := by
  unfold Bo.wrote
  split
  · exact Bo.zero_shaped
  · split
    · exact Bo.zero_shaped
    · split
      · exact Bo.zero_shaped
      · exact ⟨(Tally.add_len hs.t x 1).1, by rw [List.length_set]; exact hs.p, hs.u⟩
theorem note_shaped {b : Bd} (hs : Bo.Shaped b) (x v : Int) : Bo.Shaped (Bo.note b x v).1 := by
  unfold Bo.note
  split
  · exact Bo.zero_shaped
  · split
    · exact Bo.zero_shaped
    · exact ⟨hs.t, hs.p, putM_len8 hs.u _ _ _⟩
theorem wrote_wfB {b : Bd} (hs : Bo.Shaped b) (hw : WfB b) (x y z : Int) : WfB (Bo.wrote b x y z).1 := by
  unfold Bo.wrote
  split
  · exact zero_wfB
  · split
    · exact zero_wfB
    · split
      · exact zero_wfB
      · refine ⟨right_wf (Tally.add_len hs.t x 1).2, fun q hq => ?_, hw.u⟩
        rcases List.mem_or_eq_of_mem_set hq with h | h
        · exact hw.p q h
        · rw [h]; exact writeL_wf _ _ _
theorem note_wfB {b : Bd} (hs : Bo.Shaped b) (hw : WfB b) (x v : Int) : WfB (Bo.note b x v).1 := by
  unfold Bo.note
  split
  · exact zero_wfB
  · split
    · exact zero_wfB
    · exact ⟨hw.t, hw.p, putM_wf hs.u hw.u _ _ _⟩
theorem wrote_len {b : Bd} (x y z : Int) (h : b.l.length ≤ 100000) : (Bo.wrote b x y z).1.l.length ≤ 100000 := by
  unfold Bo.wrote
  split
  · exact Nat.zero_le _
  · split
    · exact Nat.zero_le _
    · split
      · exact Nat.zero_le _
      · exact h
end Go.Proofs.YtocoohpekpkmkaaGreat

/- What two boards know together, in plain words. -/
namespace Go.Proofs.YtocoohpekpkmkaaGreat
set_option linter.unusedVariables false
set_option linter.unusedSimpArgs false
open Reg (La Vl)
namespace Reg
/-- a right register is that of its nodes -/
theorem right_of_nodes {U : List Int} {l : List Vl} (hU : U.length = 8) (h : rightM U l = true) : ∃ f, GoodF f ∧ U = repU f ∧ l = repL f := by
  have hf := right_facts h
  obtain ⟨h1, h2⟩ := (rightM_iff U l).1 h
  have hval : ∀ v, v ∈ l → -1099511627776 ≤ v.2.2 ∧ v.2.2 ≤ 1099511627776 := fun v hv => by
    obtain ⟨k, hk, hkv⟩ := List.getElem_of_mem hv
    have h3 := h2 k hk
    unfold goodV at h3
    rw [show l.getD k (0, 0, 0) = v by rw [List.getD_eq_getElem?_getD, List.getElem?_eq_getElem hk, ← hkv]; rfl] at h3
    simp only [Bool.and_eq_true] at h3
    have := (mayN_iff _ _).1 h3.1.1
    omega
  obtain ⟨f, hfd⟩ : ∃ f : Nat → Nd, f = fun n => (U.getD n 0, (l.find? (fun v => v.1 == (n : Int))).map (fun v => v.2)) := ⟨_, rfl⟩
  have hfs : ∀ n (x : Int × Int), (f n).2 = some x ↔ ((n : Int), x.1, x.2) ∈ l := fun n x => by
    rw [hfd]
    simp only [Option.map_eq_some_iff]
    constructor
    · rintro ⟨v, hv, rfl⟩
      have e1 := List.mem_of_find?_eq_some hv
      have e2 := List.find?_some hv
      have e3 : v.1 = (n : Int) := by simpa using e2
      rw [← e3]
      exact e1
    · intro hm
      have hv := ofV_mem hf.up hm
      unfold ofV at hv
      simp only at hv
      cases hq : l.find? (fun v => v.1 == (n : Int)) with
      | none =>
        have := List.find?_eq_none.1 hq _ hm
        simp at this
      | some v =>
        rw [hq, Option.getD_some] at hv
        exact ⟨v, rfl, by rw [hv]⟩
  have hgood : GoodF f := fun n hn => by
    refine ⟨by rw [hfd]; exact all_numV h1 n, fun q v hq => ?_⟩
    have hm := (hfs n (q, v)).1 hq
    have a := hf.seq _ hm
    have b := hval _ hm
    simp only [Int.toNat_natCast] at a b
    rw [hfd]
    exact ⟨a.1, a.2, b.1, b.2⟩
  refine ⟨f, hgood, ?_, ?_⟩
  · apply List.ext_getElem?
    intro i
    by_cases hi : i < 8
    · unfold repU
      rw [List.getElem?_map, List.getElem?_range hi, hfd, List.getElem?_eq_getElem (by omega)]
      simp [List.getD_eq_getElem?_getD, List.getElem?_eq_getElem (show i < U.length by omega)]
    · rw [List.getElem?_eq_none (by omega), List.getElem?_eq_none (by rw [repU_len]; omega)]
  · refine perm_sorted ((List.perm_ext_iff_of_nodup ?_ ?_).2 fun v => ?_) (hf.up.imp fun {a b} h => by omega) (repL_up f)
    · exact hf.up.imp fun {a b} h e => by rw [e] at h; omega
    · exact (repL_up f).imp fun {a b} h e => by rw [e] at h; omega
    · rw [mem_repL]
      constructor
      · intro hv
        have hn := hf.node v hv
        refine ⟨v.1.toNat, by omega, (hfs _ _).2 ?_, by omega⟩
        have : ((v.1.toNat : Int)) = v.1 := by omega
        rw [this]
        exact hv
      · rintro ⟨n, hn, e1, e2⟩
        have := (hfs n v.2).1 e1
        rw [← e2] at this
        exact this
section
variable {U V W : List Int} {l m k : List Vl}
def maxU (U V : List Int) : List Int := (List.range 8).map (fun i => max (U.getD i 0) (V.getD i 0))
theorem maxU_len (U V : List Int) : (maxU U V).length = 8 := by simp [maxU]
theorem meet_rightM (hU : U.length = 8) (hV : V.length = 8) (h : rightM U l = true) (h' : rightM V m = true) : rightM (maxU U V) (meetL U V l m) = true := by
  obtain ⟨f, hf, rfl, rfl⟩ := right_of_nodes hU h
  obtain ⟨g, hg, rfl, rfl⟩ := right_of_nodes hV h'
  unfold maxU
  rw [meet_rep_U, meet_rep_L hf hg]
  exact right_rep fun n hn => meetN_good (hf n hn) (hg n hn)
theorem meet_selfM (hU : U.length = 8) (h : rightM U l = true) : maxU U U = U ∧ meetL U U l l = l := by
  obtain ⟨f, hf, rfl, rfl⟩ := right_of_nodes hU h
  unfold maxU
  rw [meet_rep_U, meet_rep_L hf hf]
  exact rep_congr fun n hn => meetN_self _
theorem meet_commM (hU : U.length = 8) (hV : V.length = 8) (h : rightM U l = true) (h' : rightM V m = true) : maxU U V = maxU V U ∧ meetL U V l m = meetL V U m l := by
  obtain ⟨f, hf, rfl, rfl⟩ := right_of_nodes hU h
  obtain ⟨g, hg, rfl, rfl⟩ := right_of_nodes hV h'
  unfold maxU
  rw [meet_rep_U, meet_rep_L hf hg, meet_rep_U, meet_rep_L hg hf]
  exact rep_congr fun n hn => meetN_comm (hf n hn) (hg n hn)
theorem meet_assocM (hU : U.length = 8) (hV : V.length = 8) (hW : W.length = 8) (h : rightM U l = true) (h' : rightM V m = true) (h2 : rightM W k = true) :
    maxU (maxU U V) W = maxU U (maxU V W) ∧ meetL (maxU U V) W (meetL U V l m) k = meetL U (maxU V W) l (meetL V W m k) := by
  obtain ⟨f, hf, rfl, rfl⟩ := right_of_nodes hU h
  obtain ⟨g, hg, rfl, rfl⟩ := right_of_nodes hV h'
  obtain ⟨e, he, rfl, rfl⟩ := right_of_nodes hW h2
  have hfg : GoodF fun n => meetN (f n) (g n) := fun n hn => meetN_good (hf n hn) (hg n hn)
  have hge : GoodF fun n => meetN (g n) (e n) := fun n hn => meetN_good (hg n hn) (he n hn)
  unfold maxU
  rw [meet_rep_U f g, meet_rep_L hf hg, meet_rep_U g e, meet_rep_L hg he, meet_rep_U _ e, meet_rep_L hfg he, meet_rep_U f, meet_rep_L hf hge]
  exact rep_congr fun n hn => meetN_assoc (hf n hn) (hg n hn) (he n hn)
end
end Reg
namespace Bo
theorem joinP_plan {a b : La} (h : planB a = true) (h' : planB b = true) : planB (Reg.joinL a b) = true := by
  unfold Reg.joinL
  split <;> assumption
theorem join_eq {a b : Bd} (ha : rightB a = true) (hb : rightB b = true) : join a b = ⟨Tally.joinL a.t b.t, List.zipWith Reg.joinL a.p b.p, Reg.maxU a.u b.u, Reg.meetL a.u b.u a.l b.l⟩ := by
  unfold join
  rw [own_of ha, own_of hb]
  rfl
theorem join_shaped {a b : Bd} (ha : Shaped a) (hb : Shaped b) : Shaped (join a b) := by
  have h1 := own_shaped ha
  have h2 := own_shaped hb
  refine ⟨join_len h1.t h2.t, ?_, by simp [join]⟩
  show (List.zipWith Reg.joinL (own a).p (own b).p).length = 8
  rw [List.length_zipWith, h1.p, h2.p]
  rfl
theorem join_own (a b : Bd) : join a b = join (own a) (own b) := by
  unfold join
  rw [own_of (own_right a), own_of (own_right b)]
theorem meetL_val {U V : List Int} {l m : List Vl} (ha : Reg.RightF U l) (hb : Reg.RightF V m) (h1 : ∀ v ∈ l, 0 ≤ v.2.2) (h2 : ∀ v ∈ m, 0 ≤ v.2.2) : ∀ v ∈ Reg.meetL U V l m, 0 ≤ v.2.2 := fun v hv => by
  rcases (Reg.mem_meetL ha hb v).1 hv with h | h
  · exact h1 v h.1
  · exact h2 v h.1
theorem join_right {a b : Bd} (ha : Shaped a) (hb : Shaped b) : rightB (join a b) = true := by
  rw [join_own]
  have sa := own_shaped ha
  have sb := own_shaped hb
  have ra := own_right a
  have rb := own_right b
  generalize own a = x at *
  generalize own b = y at *
  rw [join_eq ra rb]
  obtain ⟨p1, v1, t1, m1⟩ := (right_iff x).1 ra
  obtain ⟨p2, v2, t2, m2⟩ := (right_iff y).1 rb
  refine (right_iff _).2 ⟨fun q hq => ?_, meetL_val (Reg.right_facts m1) (Reg.right_facts m2) v1 v2, Go.Proofs.YtocoohpekpkmkaaGreat.join_right sa.t sb.t, Reg.meet_rightM sa.u sb.u m1 m2⟩
  obtain ⟨i, hi, rfl⟩ := List.getElem_of_mem hq
  rw [List.length_zipWith] at hi
  rw [List.getElem_zipWith]
  exact joinP_plan (p1 _ (List.getElem_mem _)) (p2 _ (List.getElem_mem _))
section
variable {a b c : Bd}
theorem zip_comm (p q : List La) : List.zipWith Reg.joinL p q = List.zipWith Reg.joinL q p := List.zipWith_comm_of_comm (fun x y => Reg.join_comm x y)
theorem zip_self : ∀ p : List La, List.zipWith Reg.joinL p p = p
  | [] => rfl
  | a :: l => by rw [List.zipWith_cons_cons, Reg.join_self, zip_self l]
theorem zip_assoc : ∀ p q r : List La, List.zipWith Reg.joinL (List.zipWith Reg.joinL p q) r = List.zipWith Reg.joinL p (List.zipWith Reg.joinL q r)
  | [], _, _ => rfl
  | _ :: _, [], _ => rfl
  | _ :: _, _ :: _, [] => rfl
  | a :: p, b :: q, c :: r => by
    simp only [List.zipWith_cons_cons]
    rw [Reg.join_assoc, zip_assoc p q r]
theorem join_comm (ha : Shaped a) (hb : Shaped b) (ra : rightB a = true) (rb : rightB b = true) : join a b = join b a := by
  rw [join_eq ra rb, join_eq rb ra]
  obtain ⟨p1, v1, t1, m1⟩ := (right_iff a).1 ra
  obtain ⟨p2, v2, t2, m2⟩ := (right_iff b).1 rb
  obtain ⟨e1, e2⟩ := Reg.meet_commM ha.u hb.u m1 m2
  rw [Go.Proofs.YtocoohpekpkmkaaGreat.join_comm hb.t ha.t, zip_comm a.p b.p, e1, e2]
theorem tally_self {t : List Int} (h : t.length = 16) (r : Tally.rightB t = true) : Tally.joinL t t = t := ext16 (join_len h h) h fun i hi => by
  rw [join_at h h hi, Tally.own_own _ r]
  have := mx_or (t.getD i 0) (t.getD i 0)
  omega
theorem join_self (ha : Shaped a) (ra : rightB a = true) : join a a = a := by
  rw [join_eq ra ra]
  obtain ⟨p1, v1, t1, m1⟩ := (right_iff a).1 ra
  obtain ⟨e1, e2⟩ := Reg.meet_selfM ha.u m1
  rw [tally_self ha.t t1, zip_self, e1, e2]
theorem join_assoc (ha : Shaped a) (hb : Shaped b) (hc : Shaped c) (ra : rightB a = true) (rb : rightB b = true) (rc : rightB c = true) : join (join a b) c = join a (join b c) := by
  rw [join_eq (join_right ha hb) rc, join_eq ra (join_right hb hc), join_eq ra rb, join_eq rb rc]
  obtain ⟨p1, v1, t1, m1⟩ := (right_iff a).1 ra
  obtain ⟨p2, v2, t2, m2⟩ := (right_iff b).1 rb
  obtain ⟨p3, v3, t3, m3⟩ := (right_iff c).1 rc
  obtain ⟨e1, e2⟩ := Reg.meet_assocM ha.u hb.u hc.u m1 m2 m3
  simp only
  rw [Go.Proofs.YtocoohpekpkmkaaGreat.join_assoc ha.t hb.t hc.t, zip_assoc, e1, e2]
end
/-- what a writer wrote, told apart -/
theorem wrote_ok {b x : Bd} {n m v : Int} (h : wrote b n m v = (x, 0)) : rightB b = true ∧ (0 ≤ n ∧ n ≤ 7) ∧ (0 ≤ m ∧ m ≤ 7) ∧ (0 ≤ v ∧ v ≤ 1000) ∧ ∃ t q, Tally.addL b.t n 1 = (t, 0) ∧ Reg.writeL (b.p.getD m.toNat (0, 0, 0)) n v = (q, 0) ∧ x = ⟨t, b.p.set m.toNat q, b.u, b.l⟩ := by
  unfold wrote at h
  split at h
  · injection h with _ h; cases h
  · rename_i hc
    simp only [not_or, Bool.not_eq_false] at hc
    obtain ⟨h1, h2, h3, h4⟩ := hc
    split at h
    · rename_i e; injection h with _ h; exact absurd h e
    · split at h
      · rename_i e; injection h with _ h; exact absurd h e
      · rename_i e1 e2
        injection h with h _
        refine ⟨h1, (Reg.inB_iff _ _ _).1 h2, (Reg.inB_iff _ _ _).1 h3, (Reg.inB_iff _ _ _).1 h4, _, _, Prod.ext rfl (by simpa using e1), Prod.ext rfl (by simpa using e2), h.symm⟩
theorem writeL_ok {q w : La} {n v : Int} (h : Reg.writeL q n v = (w, 0)) : w = (max q.1 0 + 1, n, v) ∧ q.1 < 1099511627776 := by
  unfold Reg.writeL at h
  split at h
  · injection h with _ h; cases h
  · split at h
    · injection h with _ h; cases h
    · injection h with h _
      exact ⟨h.symm, by omega⟩
theorem wrote_right {b x : Bd} {n m v : Int} (h : wrote b n m v = (x, 0)) (hs : Shaped b) : rightB x = true := by
  obtain ⟨hr, hn, hm, hv, t, q, ht, hq, rfl⟩ := wrote_ok h
  obtain ⟨p1, v1, t1, m1⟩ := (right_iff b).1 hr
  refine (right_iff _).2 ⟨fun z hz => ?_, v1, ?_, m1⟩
  · rcases List.mem_or_eq_of_mem_set hz with h | h
    · exact p1 z h
    · obtain ⟨hw, hl⟩ := writeL_ok hq
      rw [h, hw]
      refine (planB_iff _).2 (.inr ?_)
      have hg : (b.p.getD m.toNat (0, 0, 0)).1 < 1099511627776 := hl
      simp only
      omega
  · have := (Tally.add_len hs.t n 1).2
    rwa [ht] at this
theorem wrote_join {b x : Bd} {n m v : Int} (h : wrote b n m v = (x, 0)) (hs : Shaped b) : join x b = x := by
  have rx := wrote_right h hs
  obtain ⟨hr, hn, hm, hv, t, q, ht, hq, rfl⟩ := wrote_ok h
  obtain ⟨p1, v1, t1, m1⟩ := (right_iff b).1 hr
  rw [join_eq rx hr]
  obtain ⟨e1, e2⟩ := Reg.meet_selfM hs.u m1
  simp only
  have htl : t.length = 16 := by
    have := (Tally.add_len hs.t n 1).1
    rwa [ht] at this
  have htr : Tally.rightB t = true := by
    have := (Tally.add_len hs.t n 1).2
    rwa [ht] at this
  have hT : Tally.joinL t b.t = t := ext16 (join_len htl hs.t) htl fun i hi => by
    rw [join_at htl hs.t hi, Tally.own_own _ htr, Tally.own_own _ t1]
    have he : t = b.t.set (Tally.slot n 1) (b.t.getD (Tally.slot n 1) 0 + Tally.amt 1) := by
      unfold Tally.addL at ht
      split at ht
      · split at ht
        · injection ht with _ ht; cases ht
        · injection ht with ht _; exact ht.symm
      · injection ht with _ ht; cases ht
    have hsl : Tally.slot n 1 < 16 := by unfold Tally.slot; rw [if_neg (by omega)]; omega
    have hA : Tally.amt 1 = 1 := rfl
    have h1 := add_at (a := Tally.amt 1) hs.t hsl i
    rw [← he] at h1
    have h2 := mx_or (t.getD i 0) (b.t.getD i 0)
    omega
  have hP : List.zipWith Reg.joinL (b.p.set m.toNat q) b.p = b.p.set m.toNat q := by
    apply List.ext_getElem?
    intro i
    by_cases hi : i < 8
    · rw [List.getElem?_zipWith, List.getElem?_set]
      have hbi : b.p[i]? = some (b.p.getD i (0, 0, 0)) := by rw [List.getD_eq_getElem?_getD, List.getElem?_eq_getElem (by rw [hs.p]; exact hi)]; rfl
      by_cases e : m.toNat = i
      · subst e
        rw [if_pos rfl, if_pos (by rw [hs.p]; exact hi), hbi]
        show some (Reg.joinL q _) = some q
        unfold Reg.joinL
        rw [if_pos (Reg.write_newer hq).1]
      · rw [if_neg e, hbi]
        show some (Reg.joinL _ _) = some _
        rw [Reg.join_self]
    · rw [List.getElem?_eq_none (by rw [List.length_zipWith, List.length_set, hs.p]; omega), List.getElem?_eq_none (by rw [List.length_set, hs.p]; omega)]
  rw [hT, hP, e1, e2]
theorem note_ok {b x : Bd} {n v : Int} (h : note b n v = (x, 0)) : rightB b = true ∧ 0 ≤ v ∧ ∃ u l, Reg.putM b.u b.l n v = ((u, l), 0) ∧ x = ⟨b.t, b.p, u, l⟩ := by
  unfold note at h
  split at h
  · injection h with _ h; cases h
  · rename_i hc
    simp only [not_or, Bool.not_eq_false, Int.not_lt] at hc
    split at h
    · rename_i e; injection h with _ h; exact absurd h e
    · rename_i e
      injection h with h _
      exact ⟨hc.1, hc.2, _, _, Prod.ext rfl (by simpa using e), h.symm⟩
end Bo
end Go.Proofs.YtocoohpekpkmkaaGreat

/- What a writer wrote, in plain words. -/
namespace Go.Proofs.YtocoohpekpkmkaaGreat
set_option linter.unusedVariables false
set_option linter.unusedSimpArgs false
open Reg (La Vl)
namespace Bo
theorem wrote_err {b x : Bd} {n m v k : Int} (h : wrote b n m v = (x, k)) (hk : k ≠ 0) : x = zero := by
  unfold wrote at h
  split at h
  · injection h with h _; exact h.symm
  · split at h
    · injection h with h _; exact h.symm
    · split at h
      · injection h with h _; exact h.symm
      · injection h with _ h; exact absurd h.symm hk
theorem slot_one {n : Int} (hn : 0 ≤ n ∧ n ≤ 7) : Tally.slot n 1 < 8 := by unfold Tally.slot; rw [if_neg (by omega)]; omega
theorem add_one {t t' : List Int} {n : Int} (ht : Tally.addL t n 1 = (t', 0)) : t' = t.set (Tally.slot n 1) (t.getD (Tally.slot n 1) 0 + 1) := by
  unfold Tally.addL at ht
  split at ht
  · split at ht
    · injection ht with _ ht; cases ht
    · injection ht with ht _; exact ht.symm
  · injection ht with _ ht; cases ht
theorem wrote_value {b x : Bd} {n m v : Int} (h : wrote b n m v = (x, 0)) (hs : Shaped b) : Tally.valueL x.t = Tally.valueL b.t + 1 := by
  obtain ⟨hr, hn, hm, hv, t, q, ht, hq, rfl⟩ := wrote_ok h
  obtain ⟨p1, v1, t1, m1⟩ := (right_iff b).1 hr
  have h2 := (Tally.add_len hs.t n 1).2
  rw [ht] at h2
  have he := add_one ht
  have hsl := slot_one hn
  simp only at h2 ⊢
  rw [he] at h2 ⊢
  exact add_value hs.t t1 (by omega) h2 (by rw [if_pos hsl])
theorem wrote_plan {b x : Bd} {n v : Int} {m : Nat} (h : wrote b n m v = (x, 0)) (hs : Shaped b) : ∃ tm, x.p.getD m (0, 0, 0) = (tm, n, v) := by
  obtain ⟨hr, hn, hm, hv, t, q, ht, hq, rfl⟩ := wrote_ok h
  refine ⟨max (b.p.getD m (0, 0, 0)).1 0 + 1, ?_⟩
  rw [Int.toNat_natCast] at hq ⊢
  show (b.p.set m q).getD m (0, 0, 0) = _
  rw [List.getD_eq_getElem?_getD, List.getElem?_set_self (by rw [hs.p]; omega), Option.getD_some]
  exact (writeL_ok hq).1
theorem wrote_notes {b x : Bd} {n m v : Int} (h : wrote b n m v = (x, 0)) : x.l = b.l ∧ x.u = b.u := by
  obtain ⟨hr, hn, hm, hv, t, q, ht, hq, rfl⟩ := wrote_ok h
  exact ⟨rfl, rfl⟩
theorem value_bd {t : List Int} : -8796093022208 ≤ Tally.valueL t ∧ Tally.valueL t ≤ 8796093022208 := by
  have := Tally.sumTo_bd (Tally.own_right t) 8
  unfold Tally.valueL
  unfold Tally.top at this
  omega
end Bo
end Go.Proofs.YtocoohpekpkmkaaGreat

/- Eight registers in one block. -/
namespace Go.Proofs.YtocoohpekpkmkaaGreat
set_option linter.unusedVariables false
set_option linter.unusedSimpArgs false
open Go.RowKit
open Reg
/-- the cells of rows of nine, one behind the other -/
def fl9 (Q : Nat → Array Value) : List Value := (List.range 8).flatMap fun i => (Q i).toList
def cat9 (Q : Nat → Array Value) : Array Value := (fl9 Q).toArray
theorem flat_len {α : Type} {f : Nat → List α} {m : Nat} : ∀ (k s : Nat), (∀ i, s ≤ i → i < s + k → (f i).length = m) → ((List.range' s k).flatMap f).length = k * m := by
  intro k
  induction k with
  | zero => intro s _; simp
  | succ k ih =>
    intro s h
    rw [List.range'_succ, List.flatMap_cons, List.length_append, h s (by omega) (by omega), ih (s + 1) fun i h1 h2 => h i (by omega) (by omega), Nat.succ_mul]
    omega
theorem flat_at {α : Type} {f : Nat → List α} {m : Nat} : ∀ (k s : Nat), (∀ i, s ≤ i → i < s + k → (f i).length = m) → ∀ a b, a < k → b < m → ((List.range' s k).flatMap f)[a * m + b]? = (f (s + a))[b]? := by
  intro k
  induction k with
  | zero => intro s _ a b h; omega
  | succ k ih =>
    intro s h a b ha hb
    rw [List.range'_succ, List.flatMap_cons]
    cases a with
    | zero => rw [Nat.zero_mul, Nat.zero_add, List.getElem?_append_left (by rw [h s (by omega) (by omega)]; exact hb)]; rfl
    | succ a =>
      rw [List.getElem?_append_right (by rw [h s (by omega) (by omega), Nat.succ_mul]; omega), h s (by omega) (by omega), show (a + 1) * m + b - m = a * m + b by rw [Nat.succ_mul]; omega,
        ih (s + 1) (fun i h1 h2 => h i (by omega) (by omega)) a b (by omega) hb, show s + 1 + a = s + (a + 1) by omega]
def Nine (Q : Nat → Array Value) : Prop := ∀ i, i < 8 → (Q i).size = 9
section
variable {Q : Nat → Array Value}
theorem fl9_len (h : Nine Q) : (fl9 Q).length = 72 := by
  unfold fl9
  rw [List.range_eq_range', flat_len (m := 9) 8 0 fun i _ hi => by rw [Array.length_toList, h i (by omega)]]
theorem fl9_at (h : Nine Q) {a b : Nat} (ha : a < 8) (hb : b < 9) : (fl9 Q)[a * 9 + b]? = (Q a)[b]? := by
  unfold fl9
  rw [List.range_eq_range', flat_at (m := 9) 8 0 (fun i _ hi => by rw [Array.length_toList, h i (by omega)]) a b ha hb, Nat.zero_add, Array.getElem?_toList]
theorem cat9_size (h : Nine Q) : (cat9 Q).size = 72 := by unfold cat9; rw [List.size_toArray, fl9_len h]
theorem cat9_at (h : Nine Q) {a b : Nat} (ha : a < 8) (hb : b < 9) : (cat9 Q)[a * 9 + b]? = (Q a)[b]? := by
  unfold cat9
  rw [List.getElem?_toArray, fl9_at h ha hb]
/-- row a turned -/
def upQ (Q : Nat → Array Value) (a : Nat) (c : Array Value) : Nat → Array Value := fun i => if i = a then c else Q i
theorem upQ_nine (h : Nine Q) {a : Nat} {c : Array Value} (hc : c.size = 9) : Nine (upQ Q a c) := fun i hi => by
  unfold upQ
  split
  · exact hc
  · exact h i hi
variable {w w' : World} {g a : Nat}
theorem rng9 {t : TypeId} (hB : Blk w g t (cat9 Q)) (h : Nine Q) (ha : a < 8) : w.rangeAt g (a * 9) (Q a).toList := fun j v hv => by
  have hj : j < 9 := by
    have := (List.getElem?_eq_some_iff.1 hv).1
    rwa [Array.length_toList, h a ha] at this
  rw [hB.cell, cat9_at h ha hj, ← hv, Array.getElem?_toList]
theorem there9 {t : TypeId} (hB : Blk w g t (cat9 Q)) (h : Nine Q) (ha : a < 8) : w.there g (a * 9) 9 := fun i hi => by
  rw [hB.cell, hB.free, cat9_at h ha hi]
  have := h a ha
  simp
  omega
theorem set9 {t : TypeId} (hB : Blk w g t (cat9 Q)) (h : Nine Q) (ha : a < 8) {c : Array Value} (hc : c.size = 9) : Blk (w.setCells g (a * 9) c.toList) g t (cat9 (upQ Q a c)) := by
  obtain ⟨cs', k1, k2, k3, k4⟩ := setCells_heap w g c.toList (a * 9) (cat9 Q) hB
  have hs := cat9_size h
  have h2 := upQ_nine h (a := a) hc
  have hcl : c.toList.length = 9 := hc
  have : cs' = cat9 (upQ Q a c) := by
    apply Array.ext_getElem?
    intro q
    by_cases hq : q < 72
    · obtain ⟨j, i, hi, rfl⟩ : ∃ j i, i < 9 ∧ q = j * 9 + i := ⟨q / 9, q % 9, Nat.mod_lt _ (by omega), by omega⟩
      have hj : j < 8 := by omega
      rw [cat9_at h2 hj hi]
      unfold upQ
      by_cases e : j = a
      · subst e
        rw [if_pos rfl, k4 i (by omega) (by omega), Array.getElem?_toList]
      · rw [if_neg e, k3 _ (by omega), cat9_at h hj hi]
    · rw [Array.getElem?_eq_none (by omega), Array.getElem?_eq_none (by rw [cat9_size h2]; omega)]
  rw [← this]
  exact k1
theorem setCells_grown (w : World) (g o : Nat) (vs : List Value) : w.grownBy (w.setCells g o vs) (some g) := by
  obtain ⟨k1, k2, k3, k4⟩ := setCells_size w g vs o
  exact ⟨k2, k3, k4, by rw [k1]; exact Nat.le_refl _, fun k hk hne => setCells_other w g _ _ k (fun e => hne (by rw [e]))⟩
end
/-- eight registers, in a value -/
def Eight (F : Nat → Nat → Nd) (Q : Nat → Array Value) (w : World) : Prop := ∀ i, i < 8 → GoodF (F i) ∧ FreshO 84 (repU (F i)) (repL (F i)) (.agg (Q i)) w
section
variable {F : Nat → Nat → Nd} {Q : Nat → Array Value} {w w' : World} {g a : Nat}
theorem Eight.nine (h : Eight F Q w) : Nine Q := fun i hi => (h i hi).2.fresh.size9 (repU_len _)
theorem Eight.below (h : Eight F Q w) (hb : Below w.heap.size w w') : Eight F Q w' := fun i hi => ⟨(h i hi).1, (h i hi).2.below hb⟩
theorem Eight.grown {t : TypeId} {cs : Array Value} (h : Eight F Q w) (hg : w.grownBy w' (some g)) (k : Blk w g t cs) (hne : t ≠ 84) : Eight F Q w' := fun i hi => ⟨(h i hi).1, (h i hi).2.grown hg k hne⟩
def upF (F : Nat → Nat → Nd) (a : Nat) (f : Nat → Nd) : Nat → Nat → Nd := fun i => if i = a then f else F i
theorem Eight.up (h : Eight F Q w) {f : Nat → Nd} {c : Array Value} (hf : GoodF f) (hc : FreshO 84 (repU f) (repL f) (.agg c) w) : Eight (upF F a f) (upQ Q a c) w := fun i hi => by
  unfold upF upQ
  by_cases e : i = a
  · rw [if_pos e, if_pos e]; exact ⟨hf, hc⟩
  · rw [if_neg e, if_neg e]; exact h i hi
end
def f0 : Nat → Nd := fun _ => (0, none)
theorem f0_good : GoodF f0 := fun _ _ => ⟨by unfold f0; simp, fun q v h => by cases h⟩
def zQ : Nat → Array Value := fun _ => uc z8 (.slice none 0 0)
/-- the cells of eight empty registers -/
def z72 : Array Value := cat9 zQ
theorem rep0 : repU f0 = z8 ∧ repL f0 = [] := ⟨rfl, rfl⟩
theorem eight0 (w : World) : Eight (fun _ => f0) zQ w := fun i hi => ⟨f0_good, by
  rw [rep0.1, rep0.2]
  exact ⟨none, 0, 0, rfl, OwnV.nil _ _ _, by omega⟩⟩
/-! registers by their nodes -/
theorem maxL_rep (f g : Nat → Nd) : maxL (repU f) (repU g) = repU fun n => meetN (f n) (g n) := meet_rep_U f g
theorem meetN_goodF {f g : Nat → Nd} (hf : GoodF f) (hg : GoodF g) : GoodF fun n => meetN (f n) (g n) := fun n hn => meetN_good (hf n hn) (hg n hn)
theorem repU_Wf {f : Nat → Nd} (h : GoodF f) : Wf (repU f) := fun x hx => by
  have := repU_wf h x hx
  exact wf_of (by omega) (by omega)
section
variable {f g : Nat → Nd} {q q2 : Value} {w : World}
theorem meetG (hf : GoodF f) (hg : GoodF g) (h : Fresh (repU f) (repL f) q w) (h2 : Fresh (repU g) (repL g) q2 w) :
    Calls Tryz.prog 61 #[q, q2] w (GiveM 84 w (repU fun n => meetN (f n) (g n)) (repL fun n => meetN (f n) (g n))) := by
  have := meetF (repU_len f) (repU_len g) h h2
  rw [own_rep hf, own_rep hg] at this
  simp only at this
  rw [maxL_rep, meet_rep_L hf hg] at this
  exact this
theorem rightG (hf : GoodF f) (h : Fresh (repU f) (repL f) q w) : Calls Tryz.prog 36 #[q] w (GiveBo w true) := by
  have := rightF (repU_len f) h
  rwa [right_rep hf] at this
theorem putG (hf : GoodF f) {k : Nat} (hk : k < 8) (v : Int) (hv : -1099511627776 ≤ v ∧ v ≤ 1099511627776) (hlt : (f k).1 < 1099511627776) (h : Fresh (repU f) (repL f) q w) :
    Calls Tryz.prog 47 #[q, .int .i64 (k : Nat), .int .i64 v] w (GiveMI 84 w (repU (putNd f k v)) (repL (putNd f k v)) 0) := by
  have := putF (repU_len f) (k : Int) v h
  rw [put_rep hf hk hv hlt] at this
  exact this
theorem sameG (hf : GoodF f) (h : Fresh (repU f) (repL f) q w) (h2 : Fresh (repU f) (repL f) q2 w) : Calls Tryz.prog 24 #[q, q2] w (GiveBo w true) := by
  have := sameF (repU_len f) (repU_len f) (repU_Wf hf) (repU_Wf hf) h h2
  rw [decide_eq_true (rfl : repU f = repU f), decide_eq_true (rfl : repL f = repL f)] at this
  exact this
end
end Go.Proofs.YtocoohpekpkmkaaGreat

/- The walk of the law's alive (printed by gen/regalive.py). -/
namespace Go.Proofs.YtocoohpekpkmkaaGreat
set_option linter.unusedVariables false
set_option linter.unusedSimpArgs false
open Go.RowKit
open Reg
theorem al1 : putM z8 [] 0 5 = (([1, 0, 0, 0, 0, 0, 0, 0], [(0, 1, 5)]), 0) := by decide
theorem al2 : putM z8 [] 1 7 = (([0, 1, 0, 0, 0, 0, 0, 0], [(1, 1, 7)]), 0) := by decide
theorem al3 : ownM [1, 0, 0, 0, 0, 0, 0, 0] [(0, 1, 5)] = ([1, 0, 0, 0, 0, 0, 0, 0], [(0, 1, 5)]) := by decide
theorem al4 : ownM [0, 1, 0, 0, 0, 0, 0, 0] [(1, 1, 7)] = ([0, 1, 0, 0, 0, 0, 0, 0], [(1, 1, 7)]) := by decide
theorem al5 : maxL [1, 0, 0, 0, 0, 0, 0, 0] [0, 1, 0, 0, 0, 0, 0, 0] = [1, 1, 0, 0, 0, 0, 0, 0] := by decide
theorem al6 : meetL [1, 0, 0, 0, 0, 0, 0, 0] [0, 1, 0, 0, 0, 0, 0, 0] [(0, 1, 5)] [(1, 1, 7)] = [(0, 1, 5), (1, 1, 7)] := by decide
theorem al7 : putM [1, 1, 0, 0, 0, 0, 0, 0] [(0, 1, 5), (1, 1, 7)] 1 9 = (([1, 2, 0, 0, 0, 0, 0, 0], [(1, 2, 9)]), 0) := by decide
theorem al8 : ownM [1, 2, 0, 0, 0, 0, 0, 0] [(1, 2, 9)] = ([1, 2, 0, 0, 0, 0, 0, 0], [(1, 2, 9)]) := by decide
theorem al9 : maxL [1, 0, 0, 0, 0, 0, 0, 0] [1, 2, 0, 0, 0, 0, 0, 0] = [1, 2, 0, 0, 0, 0, 0, 0] := by decide
theorem al10 : meetL [1, 0, 0, 0, 0, 0, 0, 0] [1, 2, 0, 0, 0, 0, 0, 0] [(0, 1, 5)] [(1, 2, 9)] = [(1, 2, 9)] := by decide
theorem al11 : valuesM [1, 1, 0, 0, 0, 0, 0, 0] [(0, 1, 5), (1, 1, 7)] = [5, 7] := by decide
theorem al12 : valuesM [1, 2, 0, 0, 0, 0, 0, 0] [(1, 2, 9)] = [9] := by decide
theorem al13 : writeL (0, 0, 0) 3 4 = ((1, 3, 4), 0) := by decide
def sA : List Int := [1, 0, 0, 0, 0, 0, 0, 0]
def sB : List Int := [0, 1, 0, 0, 0, 0, 0, 0]
def sM : List Int := [1, 1, 0, 0, 0, 0, 0, 0]
def sC : List Int := [1, 2, 0, 0, 0, 0, 0, 0]
theorem putA (w : World) : Calls Tryz.prog 47 #[.agg zc, .int .i64 0, .int .i64 5] w fun e w' => ∃ A c, e = .returned (.tuple #[.agg (uc sA (.slice A 1 c)), .int .i64 0]) ∧ OwnV 84 w' w.heap.size A 1 c [(0, 1, 5)] ∧ Below w.heap.size w w' := by
  have h := put29_any z8 rfl none 0 0 [] 0 5 w (RdV.nil _ _ _) (by omega)
  rw [← zc_eq, al1] at h
  refine h.mono ?_
  rintro e w' ⟨A, m, c, rfl, o, b⟩
  obtain rfl : m = 1 := o.1
  exact ⟨A, c, rfl, o, b⟩
theorem putB (w : World) : Calls Tryz.prog 47 #[.agg zc, .int .i64 1, .int .i64 7] w fun e w' => ∃ A c, e = .returned (.tuple #[.agg (uc sB (.slice A 1 c)), .int .i64 0]) ∧ OwnV 84 w' w.heap.size A 1 c [(1, 1, 7)] ∧ Below w.heap.size w w' := by
  have h := put29_any z8 rfl none 0 0 [] 1 7 w (RdV.nil _ _ _) (by omega)
  rw [← zc_eq, al2] at h
  refine h.mono ?_
  rintro e w' ⟨A, m, c, rfl, o, b⟩
  obtain rfl : m = 1 := o.1
  exact ⟨A, c, rfl, o, b⟩
theorem meetAB (A A2 : Option Addr) (c c2 : Nat) (w : World) (h1 : RdV w w.heap.size A 1 [(0, 1, 5)]) (h2 : RdV w w.heap.size A2 1 [(1, 1, 7)]) : Calls Tryz.prog 61 #[.agg (uc sA (.slice A 1 c)), .agg (uc sB (.slice A2 1 c2))] w fun e w' => ∃ A c, e = .returned (.agg (uc sM (.slice A 2 c))) ∧ OwnV 84 w' w.heap.size A 2 c [(0, 1, 5), (1, 1, 7)] ∧ Below w.heap.size w w' := by
  have h := meet29_any sA sB rfl rfl A A2 1 c 1 c2 _ _ w h1 h2 (by omega) (by omega)
  unfold sA sB at *
  rw [al3, al4] at h
  simp only at h
  rw [al5, al6] at h
  refine h.mono ?_
  rintro e w' ⟨A, m, c, rfl, o, b⟩
  obtain rfl : m = 2 := o.1
  exact ⟨A, c, rfl, o, b⟩
theorem putC (A : Option Addr) (c : Nat) (w : World) (h1 : RdV w w.heap.size A 2 [(0, 1, 5), (1, 1, 7)]) : Calls Tryz.prog 47 #[.agg (uc sM (.slice A 2 c)), .int .i64 1, .int .i64 9] w fun e w' => ∃ A c, e = .returned (.tuple #[.agg (uc sC (.slice A 1 c)), .int .i64 0]) ∧ OwnV 84 w' w.heap.size A 1 c [(1, 2, 9)] ∧ Below w.heap.size w w' := by
  have h := put29_any sM rfl A 2 c _ 1 9 w h1 (by omega)
  unfold sM at *
  rw [al7] at h
  refine h.mono ?_
  rintro e w' ⟨A, m, c, rfl, o, b⟩
  obtain rfl : m = 1 := o.1
  exact ⟨A, c, rfl, o, b⟩
theorem meetAC (A A2 : Option Addr) (c c2 : Nat) (w : World) (h1 : RdV w w.heap.size A 1 [(0, 1, 5)]) (h2 : RdV w w.heap.size A2 1 [(1, 2, 9)]) : Calls Tryz.prog 61 #[.agg (uc sA (.slice A 1 c)), .agg (uc sC (.slice A2 1 c2))] w fun e w' => ∃ A c, e = .returned (.agg (uc sC (.slice A 1 c))) ∧ OwnV 84 w' w.heap.size A 1 c [(1, 2, 9)] ∧ Below w.heap.size w w' := by
  have h := meet29_any sA sC rfl rfl A A2 1 c 1 c2 _ _ w h1 h2 (by omega) (by omega)
  unfold sA sC at *
  rw [al3, al8] at h
  simp only at h
  rw [al9, al10] at h
  refine h.mono ?_
  rintro e w' ⟨A, m, c, rfl, o, b⟩
  obtain rfl : m = 1 := o.1
  exact ⟨A, c, rfl, o, b⟩
theorem writeW (w : World) : Calls Tryz.prog 44 #[.agg #[.int .i64 0, .int .i64 0, .int .i64 0], .int .i64 3, .int .i64 4] w fun e w' => e = .returned (.tuple #[.agg #[.int .i64 1, .int .i64 3, .int .i64 4], .int .i64 0]) ∧ Below w.heap.size w w' := by
  have h := write29_any (0, 0, 0) 3 4 (by decide) w
  rw [al13] at h
  exact h
end Go.Proofs.YtocoohpekpkmkaaGreat

namespace Go.Proofs.YtocoohpekpkmkaaGreat
set_option linter.unusedVariables false
set_option linter.unusedSimpArgs false
open Go.ChangeShapes Go.WideShapes Go.ChangeAt Go.RowKit Go.Deep
open Reg
set_option maxRecDepth 100000
theorem cellsLa : (Tryz.prog).cellsOf 26 = 3 := by kernel_rfl
section
variable {H : Type} {enc : TypeId × Value → H} {W : World} {base : Nat} {sp : Nat → Bool} {held : Bool} {fuel : Nat} {cs : List Value} {x : DataW H × List MemPlace}
theorem rd_la (hf : DataW.trod enc Tryz.prog W base sp held fuel 26 cs = some x) : ∃ d : La, cs = [.int .i64 d.1, .int .i64 d.2.1, .int .i64 d.2.2] ∧ -9223372036854775808 ≤ d.1 := by
  have hl := rd_len Tryz.underlying26 cellsLa hf
  obtain ⟨_, _, g0⟩ := rd_field Tryz.underlying26 hf 0 3 0 1 rfl cellsI
  obtain ⟨_, _, g1⟩ := rd_field Tryz.underlying26 hf 1 3 1 1 rfl cellsI
  obtain ⟨_, _, g2⟩ := rd_field Tryz.underlying26 hf 2 3 2 1 rfl cellsI
  obtain ⟨x0, e0, h0⟩ := rd_int g0
  obtain ⟨x1, e1, _⟩ := rd_int g1
  obtain ⟨x2, e2, _⟩ := rd_int g2
  match cs, hl with
  | [a, b, c], _ =>
    simp at e0 e1 e2
    exact ⟨(x0, x1, x2), by rw [e0, e1, e2], h0.1⟩
end
section
variable {H : Type} {enc : TypeId × Value → H} {W : World} {base : Nat} {sp : Nat → Bool} {held : Bool} {r : Reach} {b0 : Nat} {v : Value} {d : DataW H} {p : List MemPlace}
theorem open_la (hv : Value.okWide Tryz.prog W r b0 26 v) (h : DataW.Trod enc Tryz.prog W base sp held 26 v d p) : ∃ a : La, v = v3 a ∧ -9223372036854775808 ≤ a.1 := by
  obtain ⟨cs, rfl, hsz⟩ := okWide_struct Tryz.underlying26 hv
  obtain ⟨fuel, hf0⟩ := h
  have hf : DataW.trod enc Tryz.prog W base sp held fuel 26 cs.toList = some (d, p) := hf0
  obtain ⟨a, h1, h2⟩ := rd_la hf
  exact ⟨a, by rw [← Array.toArray_toList (xs := cs), h1]; rfl, h2⟩
end
end Go.Proofs.YtocoohpekpkmkaaGreat

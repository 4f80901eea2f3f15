/- The walks of tally: both, Join, More, Within. -/
import Derived.Test.YtocoohpekpkmkaaGreatBoOwn
import Derived.Test.YtocoohpekpkmkaaGreatFrameMust
import Derived.Test.YtocoohpekpkmkaaGreatRegLast
import Derived.Test.YtocoohpekpkmkaaGreatVintRead
import Derived.Test.YtocoohpekpkmkaaGreatFacts
import Derived.Test.YtocoohpekpkmkaaGreatFoot
import Derived.Test.YtocoohpekpkmkaaGreatTallyWalks
import Derived.Test.YtocoohpekpkmkaaGreatWf
/- The walks of board's must, caught and got. -/
namespace Go.Proofs.YtocoohpekpkmkaaGreat
set_option linter.unusedVariables false
set_option linter.unusedSimpArgs false
set_option maxRecDepth 100000
open Go.RowKit
theorem cells_grown (w : World) (g o : Nat) (vs : List Value) : w.grownBy (w.setCells g o vs) (some g) := by
  obtain ⟨k1, k2, k3, k4⟩ := setCells_size w g vs o
  exact ⟨k2, k3, k4, by rw [k1]; exact Nat.le_refl _, fun k hk hne => setCells_other w g _ _ k (fun e => hne (by rw [e]))⟩
theorem Blk.there_ {w : World} {g o n : Nat} {t : TypeId} {cs : Array Value} (h : Blk w g t cs) (hn : o + n ≤ cs.size) : w.there g o n := fun i hi => by
  rw [h.cell, h.free]
  simp
  omega
theorem results_cc30 {P : Program} {T U : TypeId} {n g : Nat} {cs : Array Value} {t : TypeId} {fn : Func} {p q : Tmp} {w : World} {tmps : Array Value} {ad : Addr} {v : Value} (h : fn.results = #[.cell p T, .cell q U]) (hR : RowT P T n) (hB : Blk w g t cs) (hn : cs.size = n) (hp : tmps.getD p undef = .pointer (some ⟨g, 0, none⟩)) (hq : tmps.getD q undef = .pointer (some ad)) (hl2 : (loadVar U ad).run P w = .ok v w) : (results fn tmps).run P w = .ok (.tuple #[.agg cs, v]) w := by
  obtain ⟨d, hu, hd, hi⟩ := hR
  rw [← hn, ← Array.length_toList] at hi
  have hp' : tmps[p]?.getD undef = .pointer (some ⟨g, 0, none⟩) := by simpa using hp
  have hq' : tmps[q]?.getD undef = .pointer (some ad) := by simpa using hq
  have hl := run_loadVar_mid w g 0 T cs.toList d hB.range hu hd hi
  rw [Array.toArray_toList] at hl
  simp [results, h, hp', hq', asAddr, hl, hl2]
/-- a fault, as a panic's value -/
abbrev bflt (x : Int) : Value := .iface 134 (.agg #[.int .i64 x])
theorem bmust_ok (x : Int) (w : World) :
    Calls Tryz.prog 38 #[.bool true, .int .i64 x] w fun e w' => e = .returned (.tuple #[]) ∧ w = w' := by
  go_enter Tryz.func38, Tryz.ntmps38
  go_wp2_with fail
  go_end0
  exact ⟨rfl, rfl⟩
theorem bmust_bad (x : Int) (w : World) :
    Calls Tryz.prog 38 #[.bool false, .int .i64 x] w fun e w' => e = .panicked [{ v := bflt x, recovered := false }] ∧ w = w' := by
  go_enter Tryz.func38, Tryz.ntmps38
  go_wp2_with fail
  exact ⟨rfl, rfl, rfl⟩
theorem bmust_yes {b : Bool} (hb : b = true) (x : Int) (w : World) : Calls Tryz.prog 38 #[.bool b, .int .i64 x] w fun e w' => e = .returned (.tuple #[]) ∧ w = w' := hb ▸ bmust_ok x w
theorem bmust_no {b : Bool} (hb : b = false) (x : Int) (w : World) : Calls Tryz.prog 38 #[.bool b, .int .i64 x] w fun e w' => e = .panicked [{ v := bflt x, recovered := false }] ∧ w = w' := hb ▸ bmust_bad x w
theorem bassert_flt (x : Int) (w : World) : (Instr.typeAssert (bflt x) 20 134 true).run Tryz.prog w = .ok (.tuple #[.agg #[.int .i64 x], .bool true]) w := by kernel_rfl
theorem bcaught_panic (g : Nat) (x : Int) (older : List PanicEntry) (v : Value) (w : World) (h0 : w.cell? ⟨g, 0, none⟩ = some v) (hf : w.frozen? ⟨g, 0, none⟩ = false) :
    CallsD Tryz.prog 37 #[.pointer (some ⟨g, 0, none⟩)] (.panicking ({ v := bflt x, recovered := false } :: older)) w fun e u' w' =>
      e = .returned (.tuple #[]) ∧ u' = .panicking ({ v := bflt x, recovered := true } :: older) ∧ w' = (w.alloc (.cells #[.int .i64 x] 134)).setCell ⟨g, 0, none⟩ (.int .i64 x) := by
  have ta := bassert_flt x
  have lt0 := World.block_lt_of_cell? w _ h0
  refine callsD_of_wpS Tryz.func37 rfl fun c₀ cs hu => ?_
  apply wpS_seq
  apply wpS_region
  simp [wpOpsS, go_sem, recoverD, hu, Tryz.ntmps37, Exit.thenS]
  refine wpS_of_wp ?_
  rw [Frame.frame15]
  go_wp2_with fail
  simp [bodyPostS, results, Tryz.results37]
theorem bcaught_none (g : Nat) (w : World) :
    CallsD Tryz.prog 37 #[.pointer (some ⟨g, 0, none⟩)] .returning w fun e u' w' => e = .returned (.tuple #[]) ∧ u' = .returning ∧ w' = w := by
  refine callsD_of_wpS Tryz.func37 rfl fun c₀ cs hu => ?_
  apply wpS_seq
  apply wpS_region
  simp [wpOpsS, go_sem, recoverD, hu, Tryz.ntmps37, Exit.thenS]
  refine wpS_of_wp ?_
  rw [Frame.frame15]
  go_wp2_with fail
  cases c₀
  simp_all [bodyPostS, results, Tryz.results37]

set_option maxHeartbeats 2000000 in
theorem gotT_ok (cs : Array Value) (hn : cs.size = 16) (h1 : cs.all (·.oneCell') = true) (w : World) :
    Calls Tryz.prog 41 #[.agg cs, .int .i64 0] w fun e w' => e = .returned (.agg cs) ∧ Below w.heap.size w w' := by
  have HN := Lib.hid hn
  have H1 := Lib.hid h1
  clear hn h1
  obtain ⟨zz, hzz⟩ : ∃ zz : Array Value, zz = #[.int .i64 0, .int .i64 0, .int .i64 0, .int .i64 0, .int .i64 0, .int .i64 0, .int .i64 0, .int .i64 0, .int .i64 0, .int .i64 0, .int .i64 0, .int .i64 0, .int .i64 0, .int .i64 0, .int .i64 0, .int .i64 0] := ⟨_, rfl⟩
  have ZN := Lib.hid (show zz.size = 16 by rw [hzz]; rfl)
  have ZZ := Lib.hid hzz
  clear hzz
  go_enter Tryz.func41, Tryz.ntmps41
  go_upto_region 1 with fail
  refine nameW ?_
  intro W hW
  obtain ⟨B, hB⟩ : ∃ B, B = w.heap.size := ⟨_, rfl⟩
  rw [← hB]
  have kc : Blk W B 34 cs := by rw [hW, hB]; exact (Blk.new w _ _).alloc _
  have kz : Blk W (B + 1) 34 zz := by
    have h := Blk.new (w.alloc (.cells cs 34)) 34 zz
    rw [ZZ.out] at h ⊢
    rw [hW, hB]
    simpa using h
  have gb : Below B w W := by rw [hW, hB]; exact ((Below.refl _ _).alloc (Nat.le_refl _) _).alloc (by simp) _
  have HB := Lib.hid hB
  clear hW hB
  go_wp2_with fail
  refine (bmust_ok 0 W).mono ?_
  rintro e w1 ⟨rfl, rfl⟩
  go_wp2_with first
    | ((with_reducible refine wpList_ld rowT kc HN.out ?_ ?_); rotate_left; (rfl))
    | ((with_reducible refine wpList_st rowT kz HN.out ZN.out H1.out ?_ ?_ ?_); rotate_left; (rfl); (rfl); intro w5 k5 g5 z5)
  exact bodyPost_ret (v := .agg cs) (results_blk rfl rowT k5 HN.out rfl) rfl ⟨rfl, by rw [← HB.out]; exact gb.grown g5 (by have := gb.size; have := HB.out; omega) (fun q hq => by injection hq; omega)⟩
theorem gotT_bad (cs : Array Value) (x : Int) (hx : x ≠ 0) (w : World) :
    Calls Tryz.prog 41 #[.agg cs, .int .i64 x] w fun e w' => e = .panicked [{ v := bflt x, recovered := false }] ∧ Below w.heap.size w w' := by
  have hq : (x == (0 : Int)) = false := by simpa using hx
  have HQ := Lib.hid hq
  clear hx hq
  go_enter Tryz.func41, Tryz.ntmps41
  go_wp2_with fail
  refine (bmust_no HQ.out x _).mono ?_
  rintro e w1 ⟨rfl, rfl⟩
  go_wp2_with fail
  exact ⟨rfl, rfl, ((Below.refl _ _).alloc (Nat.le_refl _) _).alloc (by simp) _⟩

set_option maxHeartbeats 2000000 in
theorem gotL_ok (cs : Array Value) (hn : cs.size = 3) (h1 : cs.all (·.oneCell') = true) (w : World) :
    Calls Tryz.prog 43 #[.agg cs, .int .i64 0] w fun e w' => e = .returned (.agg cs) ∧ Below w.heap.size w w' := by
  have HN := Lib.hid hn
  have H1 := Lib.hid h1
  clear hn h1
  obtain ⟨zz, hzz⟩ : ∃ zz : Array Value, zz = #[.int .i64 0, .int .i64 0, .int .i64 0] := ⟨_, rfl⟩
  have ZN := Lib.hid (show zz.size = 3 by rw [hzz]; rfl)
  have ZZ := Lib.hid hzz
  clear hzz
  go_enter Tryz.func43, Tryz.ntmps43
  go_upto_region 1 with fail
  refine nameW ?_
  intro W hW
  obtain ⟨B, hB⟩ : ∃ B, B = w.heap.size := ⟨_, rfl⟩
  rw [← hB]
  have kc : Blk W B 35 cs := by rw [hW, hB]; exact (Blk.new w _ _).alloc _
  have kz : Blk W (B + 1) 35 zz := by
    have h := Blk.new (w.alloc (.cells cs 35)) 35 zz
    rw [ZZ.out] at h ⊢
    rw [hW, hB]
    simpa using h
  have gb : Below B w W := by rw [hW, hB]; exact ((Below.refl _ _).alloc (Nat.le_refl _) _).alloc (by simp) _
  have HB := Lib.hid hB
  clear hW hB
  go_wp2_with fail
  refine (bmust_ok 0 W).mono ?_
  rintro e w1 ⟨rfl, rfl⟩
  go_wp2_with first
    | ((with_reducible refine wpList_ld rowLa kc HN.out ?_ ?_); rotate_left; (rfl))
    | ((with_reducible refine wpList_st rowLa kz HN.out ZN.out H1.out ?_ ?_ ?_); rotate_left; (rfl); (rfl); intro w5 k5 g5 z5)
  exact bodyPost_ret (v := .agg cs) (results_blk rfl rowLa k5 HN.out rfl) rfl ⟨rfl, by rw [← HB.out]; exact gb.grown g5 (by have := gb.size; have := HB.out; omega) (fun q hq => by injection hq; omega)⟩
theorem gotL_bad (cs : Array Value) (x : Int) (hx : x ≠ 0) (w : World) :
    Calls Tryz.prog 43 #[.agg cs, .int .i64 x] w fun e w' => e = .panicked [{ v := bflt x, recovered := false }] ∧ Below w.heap.size w w' := by
  have hq : (x == (0 : Int)) = false := by simpa using hx
  have HQ := Lib.hid hq
  clear hx hq
  go_enter Tryz.func43, Tryz.ntmps43
  go_wp2_with fail
  refine (bmust_no HQ.out x _).mono ?_
  rintro e w1 ⟨rfl, rfl⟩
  go_wp2_with fail
  exact ⟨rfl, rfl, ((Below.refl _ _).alloc (Nat.le_refl _) _).alloc (by simp) _⟩

set_option maxHeartbeats 2000000 in
theorem gotM_ok (cs : Array Value) (hn : cs.size = 9) (h1 : cs.all (·.oneCell') = true) (w : World) :
    Calls Tryz.prog 46 #[.agg cs, .int .i64 0] w fun e w' => e = .returned (.agg cs) ∧ Below w.heap.size w w' := by
  have HN := Lib.hid hn
  have H1 := Lib.hid h1
  clear hn h1
  obtain ⟨zz, hzz⟩ : ∃ zz : Array Value, zz = #[.int .i64 0, .int .i64 0, .int .i64 0, .int .i64 0, .int .i64 0, .int .i64 0, .int .i64 0, .int .i64 0, .slice none 0 0] := ⟨_, rfl⟩
  have ZN := Lib.hid (show zz.size = 9 by rw [hzz]; rfl)
  have ZZ := Lib.hid hzz
  clear hzz
  go_enter Tryz.func46, Tryz.ntmps46
  go_upto_region 1 with fail
  refine nameW ?_
  intro W hW
  obtain ⟨B, hB⟩ : ∃ B, B = w.heap.size := ⟨_, rfl⟩
  rw [← hB]
  have kc : Blk W B 39 cs := by rw [hW, hB]; exact (Blk.new w _ _).alloc _
  have kz : Blk W (B + 1) 39 zz := by
    have h := Blk.new (w.alloc (.cells cs 39)) 39 zz
    rw [ZZ.out] at h ⊢
    rw [hW, hB]
    simpa using h
  have gb : Below B w W := by rw [hW, hB]; exact ((Below.refl _ _).alloc (Nat.le_refl _) _).alloc (by simp) _
  have HB := Lib.hid hB
  clear hW hB
  go_wp2_with fail
  refine (bmust_ok 0 W).mono ?_
  rintro e w1 ⟨rfl, rfl⟩
  go_wp2_with first
    | ((with_reducible refine wpList_ld rowM kc HN.out ?_ ?_); rotate_left; (rfl))
    | ((with_reducible refine wpList_st rowM kz HN.out ZN.out H1.out ?_ ?_ ?_); rotate_left; (rfl); (rfl); intro w5 k5 g5 z5)
  exact bodyPost_ret (v := .agg cs) (results_blk rfl rowM k5 HN.out rfl) rfl ⟨rfl, by rw [← HB.out]; exact gb.grown g5 (by have := gb.size; have := HB.out; omega) (fun q hq => by injection hq; omega)⟩
theorem gotM_bad (cs : Array Value) (x : Int) (hx : x ≠ 0) (w : World) :
    Calls Tryz.prog 46 #[.agg cs, .int .i64 x] w fun e w' => e = .panicked [{ v := bflt x, recovered := false }] ∧ Below w.heap.size w w' := by
  have hq : (x == (0 : Int)) = false := by simpa using hx
  have HQ := Lib.hid hq
  clear hx hq
  go_enter Tryz.func46, Tryz.ntmps46
  go_wp2_with fail
  refine (bmust_no HQ.out x _).mono ?_
  rintro e w1 ⟨rfl, rfl⟩
  go_wp2_with fail
  exact ⟨rfl, rfl, ((Below.refl _ _).alloc (Nat.le_refl _) _).alloc (by simp) _⟩
end Go.Proofs.YtocoohpekpkmkaaGreat

/- The walk of board's reader.number. -/
namespace Go.Proofs.YtocoohpekpkmkaaGreat
set_option linter.unusedVariables false
set_option linter.unusedSimpArgs false
set_option maxRecDepth 100000
open Go.RowKit
/-- what reading a number leaves -/
def BNum (w : World) (g : Nat) (bs : List UInt8) (e : Ending) (w' : World) : Prop :=
  w.grownBy w' (some g) ∧ match Vint.dec bs with
    | .ok (x, r) => e = .returned (.int .i64 (x : Nat)) ∧ ∃ A c, Rdr w' g A r.length c r 0
    | .error x => e = .panicked [{ v := bflt (x : Nat), recovered := false }]
theorem BNum.good {w w' : World} {g : Nat} {bs : List UInt8} {e : Ending} (h : BNum w g bs e w') {x : Nat} {r : List UInt8} (hd : Vint.dec bs = .ok (x, r)) : e = .returned (.int .i64 (x : Nat)) ∧ (∃ A c, Rdr w' g A r.length c r 0) ∧ w.grownBy w' (some g) := by
  obtain ⟨h1, h2⟩ := h
  rw [hd] at h2
  exact ⟨h2.1, h2.2, h1⟩
theorem BNum.bad {w w' : World} {g : Nat} {bs : List UInt8} {e : Ending} (h : BNum w g bs e w') {x : Nat} (hd : Vint.dec bs = .error x) : e = .panicked [{ v := bflt (x : Nat), recovered := false }] ∧ w.grownBy w' (some g) := by
  obtain ⟨h1, h2⟩ := h
  rw [hd] at h2
  exact ⟨h2, h1⟩
theorem grownBy_trans {w w1 w2 : World} {g : Nat} (h : w.grownBy w1 (some g)) (k : w1.grownBy w2 (some g)) : w.grownBy w2 (some g) :=
  ⟨k.os.trans h.os, k.tape.trans h.tape, k.output.trans h.output, Nat.le_trans h.size k.size, fun b hb hne => (k.block b (Nat.lt_of_lt_of_le hb h.size) hne).trans (h.block b hb hne)⟩
set_option maxHeartbeats 4000000 in
theorem bnum_any (g : Nat) (A : Option Addr) (n c : Nat) (bs : List UInt8) (w : World) (hR : Rdr w g A n c bs 0) :
    Calls Tryz.prog 55 #[.agg #[.pointer (some ⟨g, 0, none⟩)]] w (BNum w g bs) := by
  obtain ⟨W, hW⟩ : ∃ W, W = w.alloc (.cells #[.pointer (some ⟨g, 0, none⟩)] 110) := ⟨_, rfl⟩
  obtain ⟨s, hs⟩ : ∃ s, s = w.heap.size := ⟨_, rfl⟩
  have hBW : Below w.heap.size w W := by rw [hW]; exact (Below.refl _ _).alloc (Nat.le_refl _) _
  have hRW : Rdr W g A n c bs 0 := hR.below (hBW.mono (by have := hR.lt; omega))
  have ks : Blk W s 110 #[.pointer (some ⟨g, 0, none⟩)] := by rw [hW, hs]; exact Blk.new _ _ _
  have o0 : w.grownBy W (some g) := only_of_below hBW _
  have hgs : g < s := by rw [hs]; exact hR.lt
  have HW := Lib.hid hW
  have HS := Lib.hid hs
  have HIB := Lib.hid (int_any g A n c bs 0 W hRW)
  clear hW hs hR
  go_enter Tryz.func55, Tryz.ntmps55
  go_upto_region 1 with fail
  rw [← HW.out, ← HS.out]
  have hc0 : W.cell? ⟨s, 0, none⟩ = some (.pointer (some ⟨g, 0, none⟩)) := ks.cell 0
  go_wp2_with fail
  refine HIB.out.mono ?_
  rintro e w2 ⟨rfl, g1, A1, c1, r2⟩
  have s2 := ks.grown g1 (by intro h; injection h; omega)
  have o2 := grownBy_trans o0 g1
  obtain ⟨m, r, x, hI⟩ : ∃ m r x, Vint.intM bs 0 = (m, r, x) := ⟨_, _, _, rfl⟩
  rw [hI] at r2 ⊢
  simp only at r2 ⊢
  have HI := Lib.hid hI
  obtain ⟨okb, hok⟩ : ∃ okb, (((x : Nat) : Int) == 0) = okb := ⟨_, rfl⟩
  have HOK := Lib.hid hok
  clear g1 ks hc0 hI hok HIB hBW hRW o0
  go_upto_region 2 with fail
  refine wp_region_tailF 5 7 (fun L v w => v 1 = .pointer (some ⟨s, 0, none⟩) ∧ Below w2.heap.size w2 w ∧ (L 0 = true → v 7 = .pointer (some ⟨s, 0, none⟩)) ∧ (L 1 = true → v 8 = .pointer (some ⟨g, 0, none⟩)) ∧ (L 2 = true → v 9 = .int .i64 (x : Nat)) ∧ (L 3 = true → v 10 = .bool okb) ∧ (L 4 = true → v 11 = .pointer (some ⟨s, 0, none⟩)) ∧ (L 5 = true → v 12 = .pointer (some ⟨g, 0, none⟩)) ∧ (L 6 = true → v 13 = .int .i64 (x : Nat))) [7, 8, 9, 10, 11, 12, 13] (by kernel_rfl) (by kernel_rfl) (by kernel_rfl) (by kernel_rfl) (by kernel_rfl) (by kernel_rfl) ?h0 ?hst ?hend
  case h0 =>
    intro L h0
    have h0 : ∀ i, i < 7 → L i = false := h0
    exact ⟨rfl, (Below.refl _ _).drew, offF h0 (i := 0) (by decide), offF h0 (i := 1) (by decide), offF h0 (i := 2) (by decide), offF h0 (i := 3) (by decide), offF h0 (i := 4) (by decide), offF h0 (i := 5) (by decide), offF h0 (i := 6) (by decide)⟩
  case hst =>
    show FactSteps _ _ _ _ [0, 1, 2, 3, 4, 5, 6]
    refine @FactSteps.cons _ _ _ _ 0 _ [] _ rfl (by kernel_rfl) ?s0 ?_
    rotate_left
    refine @FactSteps.cons _ _ _ _ 1 _ [0] _ rfl (by kernel_rfl) ?s1 ?_
    rotate_left
    refine @FactSteps.cons _ _ _ _ 2 _ [1] _ rfl (by kernel_rfl) ?s2 ?_
    rotate_left
    refine @FactSteps.cons _ _ _ _ 3 _ [2] _ rfl (by kernel_rfl) ?s3 ?_
    rotate_left
    refine @FactSteps.cons _ _ _ _ 4 _ [] _ rfl (by kernel_rfl) ?s4 ?_
    rotate_left
    refine @FactSteps.cons _ _ _ _ 5 _ [4] _ rfl (by kernel_rfl) ?s5 ?_
    rotate_left
    refine @FactSteps.cons _ _ _ _ 6 _ [5, 2] _ rfl (by kernel_rfl) ?s6 ?_
    rotate_left
    exact FactSteps.nil
    case s0 =>
      rintro L a v w hv hg hL hd hcl ⟨e1, hb, f0, f1, f2, f3, f4, f5, f6⟩ K hK
      refine step_do rfl ?_
      clear hv
      go_simp
      exact hK.out _ _ ⟨e1, hb, fun _ => rfl, f1, f2, f3, f4, f5, f6⟩
    case s1 =>
      rintro L a v w hv hg hL hd hcl ⟨e1, hb, f0, f1, f2, f3, f4, f5, f6⟩ K hK
      have g0 := f0 (hd 0 (by decide))
      have cs : w.cell? ⟨s, 0, none⟩ = some (.pointer (some ⟨g, 0, none⟩)) := (s2.below hb s2.lt).cell 0
      refine step_do rfl ?_
      clear hv
      go_simp
      exact hK.out _ _ ⟨e1, hb, f0, fun _ => rfl, f2, f3, f4, f5, f6⟩
    case s2 =>
      rintro L a v w hv hg hL hd hcl ⟨e1, hb, f0, f1, f2, f3, f4, f5, f6⟩ K hK
      have g1 := f1 (hd 1 (by decide))
      refine step_do rfl ?_
      clear hv
      go_simp
      refine (err_any g A1 _ c1 r x w (r2.below (hb.mono (by have := r2.lt; omega)))).mono ?_
      rintro e wy ⟨rfl, rfl⟩
      exact hK.out _ _ ⟨e1, hb, f0, f1, fun _ => rfl, f3, f4, f5, f6⟩
    case s3 =>
      rintro L a v w hv hg hL hd hcl ⟨e1, hb, f0, f1, f2, f3, f4, f5, f6⟩ K hK
      have hk := HOK.out
      refine step_do rfl ?_
      clear hv
      go_simp
      exact hK.out _ _ ⟨e1, hb, f0, f1, f2, fun _ => rfl, f4, f5, f6⟩
    case s4 =>
      rintro L a v w hv hg hL hd hcl ⟨e1, hb, f0, f1, f2, f3, f4, f5, f6⟩ K hK
      refine step_do rfl ?_
      clear hv
      go_simp
      exact hK.out _ _ ⟨e1, hb, f0, f1, f2, f3, fun _ => rfl, f5, f6⟩
    case s5 =>
      rintro L a v w hv hg hL hd hcl ⟨e1, hb, f0, f1, f2, f3, f4, f5, f6⟩ K hK
      have g4 := f4 (hd 4 (by decide))
      have cs : w.cell? ⟨s, 0, none⟩ = some (.pointer (some ⟨g, 0, none⟩)) := (s2.below hb s2.lt).cell 0
      refine step_do rfl ?_
      clear hv
      go_simp
      exact hK.out _ _ ⟨e1, hb, f0, f1, f2, f3, f4, fun _ => rfl, f6⟩
    case s6 =>
      rintro L a v w hv hg hL hd hcl ⟨e1, hb, f0, f1, f2, f3, f4, f5, f6⟩ K hK
      have g5 := f5 (hd 5 (by decide))
      refine step_do rfl ?_
      clear hv
      go_simp
      refine (err_any g A1 _ c1 r x w (r2.below (hb.mono (by have := r2.lt; omega)))).mono ?_
      rintro e wy ⟨rfl, rfl⟩
      exact hK.out _ _ ⟨e1, hb, f0, f1, f2, f3, f4, f5, fun _ => rfl⟩
  case hend =>
  rintro L v w3 hall ⟨e1, hb, f0, f1, f2, f3, f4, f5, f6⟩
  have hL : ∀ i, i < 7 → L i = true := hall
  have f0 := f0 (hL 0 (by decide))
  have f1 := f1 (hL 1 (by decide))
  have f2 := f2 (hL 2 (by decide))
  have f3 := f3 (hL 3 (by decide))
  have f4 := f4 (hL 4 (by decide))
  have f5 := f5 (hL 5 (by decide))
  have f6 := f6 (hL 6 (by decide))
  simp only [finA, List.foldl_cons, List.foldl_nil, Act.put, List.setIfInBounds_toArray, List.set_cons_succ, List.set_cons_zero, f0, f1, f3, f4, f5, f2, f6]
  have o3 : w.grownBy w3 (some g) := grownBy_trans o2 (only_of_below hb _)
  have r3 := r2.below (hb.mono (by have := r2.lt; omega))
  clear e1 f0 f1 f2 f3 f4 f5 f6 hL hall hb
  show wpList _ _ _ [_] _ _
  cases hd : Vint.dec bs with
  | ok p =>
    obtain ⟨y, rr⟩ := p
    have hy := HI.out
    rw [Vint.intM_ok hd] at hy
    injection hy with h1 h2
    injection h2 with h2 h3
    subst h1 h2 h3
    obtain rfl : okb = true := HOK.out.symm.trans rfl
    have HD := Lib.hid hd
    clear hd
    go_wp2_with fail
    refine (bmust_ok _ _).mono ?_
    rintro e w4 ⟨rfl, rfl⟩
    go_wp2_with fail
    go_ret
    refine ⟨o3, ?_⟩
    rw [HD.out]
    exact ⟨rfl, A1, c1, r3⟩
  | error y =>
    have hy := HI.out
    rw [Vint.intM_bad hd] at hy
    have hne := Vint.dec_err hd
    injection hy with h1 h2
    injection h2 with h2 h3
    subst h1 h2 h3
    obtain rfl : okb = false := by
      rw [← HOK.out, beq_eq_false_iff_ne]
      omega
    have HD := Lib.hid hd
    clear hd hne
    go_wp2_with fail
    refine (bmust_bad _ _).mono ?_
    rintro e w4 ⟨rfl, rfl⟩
    go_wp2_with fail
    refine ⟨rfl, o3, ?_⟩
    rw [HD.out]
end Go.Proofs.YtocoohpekpkmkaaGreat

/- The walk of board's reader.rows, whatever the row's function does. -/
namespace Go.Proofs.YtocoohpekpkmkaaGreat
set_option linter.unusedVariables false
set_option linter.unusedSimpArgs false
set_option maxRecDepth 100000
open Go.RowKit
theorem Blk.keptOnly {F : Nat → Prop} {w w' : World} {b : Nat} {t : TypeId} {cs : Array Value} (h : Blk w b t cs) (o : Only F w w') (hn : ¬ F b) : Blk w' b t cs := (o.block b h.lt hn).trans h
namespace Bo
variable {σ : Type}
/-- rows of numbers, each with a place and 1 ahead, up to a 0; the first place is read -/
def rowsE (step : Nat → σ → List UInt8 → Except Nat (σ × List UInt8)) : Nat → Nat → σ → Nat → List UInt8 → Except Nat (σ × List UInt8)
  | 0, _, _, _, _ => .error 4
  | k + 1, last, st, n, r => if n = 0 then .ok (st, r) else if last < n ∧ n ≤ 8 then
      match step (n - 1) st r with
      | .error y => .error y
      | .ok (st', r') => match Vint.dec r' with
        | .error y => .error y
        | .ok (n', r'') => rowsE step k n st' n' r''
    else .error 4
def rows (step : Nat → σ → List UInt8 → Except Nat (σ × List UInt8)) (st : σ) (bs : List UInt8) : Except Nat (σ × List UInt8) :=
  match Vint.dec bs with
  | .error x => .error x
  | .ok (n, r) => rowsE step 9 0 st n r
theorem rowsE_end (step : Nat → σ → List UInt8 → Except Nat (σ × List UInt8)) (k last : Nat) (st : σ) (r : List UInt8) : rowsE step (k + 1) last st 0 r = .ok (st, r) := by
  unfold rowsE
  rw [if_pos rfl]
theorem rowsE_bad (step : Nat → σ → List UInt8 → Except Nat (σ × List UInt8)) (k last : Nat) (st : σ) {n : Nat} (r : List UInt8) (h : n ≠ 0) (h2 : ¬ (last < n ∧ n ≤ 8)) : rowsE step (k + 1) last st n r = .error 4 := by
  unfold rowsE
  rw [if_neg h, if_neg h2]
theorem rowsE_step {step : Nat → σ → List UInt8 → Except Nat (σ × List UInt8)} (k last : Nat) (st : σ) {n : Nat} (r : List UInt8) (h : n ≠ 0) (h2 : last < n ∧ n ≤ 8) {y : Nat} (hs : step (n - 1) st r = .error y) : rowsE step (k + 1) last st n r = .error y := by
  unfold rowsE
  rw [if_neg h, if_pos h2, hs]
theorem rowsE_num {step : Nat → σ → List UInt8 → Except Nat (σ × List UInt8)} (k last : Nat) (st : σ) {n : Nat} (r : List UInt8) (h : n ≠ 0) (h2 : last < n ∧ n ≤ 8) {st' : σ} {r' : List UInt8} (hs : step (n - 1) st r = .ok (st', r')) {y : Nat} (hd : Vint.dec r' = .error y) : rowsE step (k + 1) last st n r = .error y := by
  unfold rowsE
  rw [if_neg h, if_pos h2, hs]
  simp only [hd]
theorem rowsE_on {step : Nat → σ → List UInt8 → Except Nat (σ × List UInt8)} (k last : Nat) (st : σ) {n : Nat} (r : List UInt8) (h : n ≠ 0) (h2 : last < n ∧ n ≤ 8) {st' : σ} {r' : List UInt8} (hs : step (n - 1) st r = .ok (st', r')) {n' : Nat} {r'' : List UInt8} (hd : Vint.dec r' = .ok (n', r'')) : rowsE step (k + 1) last st n r = rowsE step k n st' n' r'' := by
  rw [rowsE, if_neg h, if_pos h2, hs]
  simp only [hd]
end Bo
theorem rowRd30 : RowT Tryz.prog 110 1 := ⟨_, Tryz.underlying110, rfl, by kernel_rfl⟩
/-- what a step of reading leaves -/
def StepB {σ : Type} (g : Nat) (F : Nat → Prop) (J : σ → World → Prop) (R : Except Nat (σ × List UInt8)) (w : World) (e : Ending) (w' : World) : Prop :=
  Only F w w' ∧ match R with
    | .ok (st', r) => e = .returned (.tuple #[]) ∧ (∃ A c, Rdr w' g A r.length c r 0) ∧ J st' w'
    | .error y => e = .panicked [{ v := bflt (y : Nat), recovered := false }]
theorem StepB.good {σ : Type} {g : Nat} {F : Nat → Prop} {J : σ → World → Prop} {R : Except Nat (σ × List UInt8)} {w w' : World} {e : Ending} (h : StepB g F J R w e w') {st' : σ} {r : List UInt8} (hr : R = .ok (st', r)) :
    e = .returned (.tuple #[]) ∧ (∃ A c, Rdr w' g A r.length c r 0) ∧ J st' w' ∧ Only F w w' := by
  subst hr
  exact ⟨h.2.1, h.2.2.1, h.2.2.2, h.1⟩
theorem StepB.bad {σ : Type} {g : Nat} {F : Nat → Prop} {J : σ → World → Prop} {R : Except Nat (σ × List UInt8)} {w w' : World} {e : Ending} (h : StepB g F J R w e w') {y : Nat} (hr : R = .error y) :
    e = .panicked [{ v := bflt (y : Nat), recovered := false }] ∧ Only F w w' := by
  subst hr
  exact ⟨h.2, h.1⟩
set_option maxHeartbeats 600000 in
theorem rows_any {σ : Type} (step : Nat → σ → List UInt8 → Except Nat (σ × List UInt8)) (J : σ → World → Prop) (g : Nat) (F : Nat → Prop) (hFg : F g) (fid : FuncId) (cap : Array Value)
    (hk : ∀ args w, (callFunc fid args).run Tryz.prog w = .ok (.enter fid args) w)
    (hJ : ∀ st w w', J st w → w.grownBy w' (some g) → J st w')
    (hclo : ∀ (p : Nat) st bs A n c w, p < 8 → Rdr w g A n c bs 0 → J st w → (∀ k, F k → k < w.heap.size) → Calls Tryz.prog fid (#[.int .i64 (p : Nat)] ++ cap) w (StepB g F J (step p st bs) w))
    (A : Option Addr) (n c : Nat) (bs : List UInt8) (st : σ) (w : World) (hR : Rdr w g A n c bs 0) (hJ0 : J st w) (hFw : ∀ k, F k → k < w.heap.size) :
    Calls Tryz.prog 53 #[.agg #[.pointer (some ⟨g, 0, none⟩)], .int .i64 8, .func (.func fid) #[] cap] w (StepB g F J (Bo.rows step st bs) w) := by
  have HCLO := Lib.hid hclo
  have HJ := Lib.hid hJ
  have HF := Lib.hid hFg
  have HFW := Lib.hid hFw
  obtain ⟨W, hW⟩ : ∃ W, W = w.alloc (.cells #[.pointer (some ⟨g, 0, none⟩)] 110) := ⟨_, rfl⟩
  obtain ⟨s, hs⟩ : ∃ s, s = w.heap.size := ⟨_, rfl⟩
  have hBW : Below w.heap.size w W := by rw [hW]; exact (Below.refl _ _).alloc (Nat.le_refl _) _
  have hRW : Rdr W g A n c bs 0 := hR.below (hBW.mono (by have := hR.lt; omega))
  have ks : Blk W s 110 #[.pointer (some ⟨g, 0, none⟩)] := by rw [hW, hs]; exact Blk.new _ _ _
  have o0 : Only F w W := Only.of_below _ hBW
  have hgs : g < s := by rw [hs]; exact hR.lt
  have hJW : J st W := hJ _ _ _ hJ0 (only_of_below hBW _)
  have HNS := Lib.hid (fun h : F s => by have := hFw s h; omega : ¬ F s)
  have HW := Lib.hid hW
  have HS := Lib.hid hs
  clear hW hs hR hclo hJ hFg hFw hJ0 hBW
  go_enter Tryz.func53, Tryz.ntmps53
  go_upto_region 2 with fail
  rw [← HW.out, ← HS.out]
  go_wp2_with ((with_reducible refine wpList_ld (n := 1) rowRd30 ks rfl ?_ ?_); rotate_left; (rfl))
  refine (bnum_any g A n c bs W hRW).mono ?_
  intro e w1 hB
  cases hd : Vint.dec bs with
  | error y =>
    obtain ⟨rfl, gg⟩ := hB.bad hd
    have o1 := o0.trans (Only.of_grown (F := F) gg HF.out) (Grows.refl _ _)
    have HE := Lib.hid (show Bo.rows step st bs = .error y by unfold Bo.rows; rw [hd])
    clear hd hB
    go_wp2_with fail
    refine ⟨rfl, o1, ?_⟩
    rw [HE.out]
  | ok p0 =>
    obtain ⟨n0, r0⟩ := p0
    obtain ⟨rfl, ⟨A1, c1, r1⟩, gg⟩ := hB.good hd
    have o1 := o0.trans (Only.of_grown (F := F) gg HF.out) (Grows.refl _ _)
    have ks1 := ks.grown gg (by intro h; injection h; omega)
    have j1 := HJ.out _ _ _ hJW gg
    have HE := Lib.hid (show Bo.rows step st bs = Bo.rowsE step 9 0 st n0 r0 by unfold Bo.rows; rw [hd])
    have N0 := Lib.hid (show n0 ≤ 1099511627776 from (Vint.dec_ok hd).2)
    clear hd hB ks o0 hJW gg hRW
    go_wp2_with fail
    go_loopw [6, 7] (fun la nn wr => ∃ (k last n' : Nat) (st' : σ) (r' : List UInt8) (A' : Option Addr) (c' : Nat), la = .int .i64 (last : Nat) ∧ nn = .int .i64 (n' : Nat) ∧ last ≤ 8 ∧ 9 ≤ k + last ∧ n' ≤ 1099511627776 ∧ Bo.rows step st bs = Bo.rowsE step k last st' n' r' ∧ Rdr wr g A' r'.length c' r' 0 ∧ J st' wr ∧ Only F w wr ∧ Blk wr s 110 #[.pointer (some ⟨g, 0, none⟩)]) (fun la _ _ => 9 - (intOf la).toNat)
    case atStart => exact ⟨9, 0, n0, st, r0, A1, c1, rfl, rfl, by omega, by omega, N0.out, HE.out, r1, j1, o1, ks1⟩
    case round =>
      obtain ⟨k, last, n', st', r', A', c', rfl, rfl, hl8, hkl, hnb, he, hr, hj, ho, kr⟩ := hrel
      have HJ2 := Lib.hid hj
      have HR2 := Lib.hid hr
      have HO2 := Lib.hid ho
      have HFR := Lib.hid (fun k h => Nat.lt_of_lt_of_le (HFW.out k h) ho.size : ∀ k, F k → k < wr.heap.size)
      obtain ⟨k, rfl⟩ : ∃ j, k = j + 1 := ⟨k - 1, by omega⟩
      have HEE := Lib.hid he
      clear hj hr ho he ks1 r1 j1 o1 HE
      by_cases hz : n' = 0
      · subst hz
        have hee := HEE.out
        rw [Bo.rowsE_end] at hee
        have HE3 := Lib.hid hee
        clear hee
        go_wp2_with fail
        go_end0
        refine ⟨HO2.out, ?_⟩
        rw [HE3.out]
        exact ⟨rfl, ⟨A', c', HR2.out⟩, HJ2.out⟩
      · have d0 : ((n' : Int) != 0) = true := by rw [bne_iff_ne]; omega
        by_cases h2 : last < n' ∧ n' ≤ 8
        · have d1 : decide ((last : Int) < (n' : Int)) = true := decide_eq_true (by omega)
          have d2 : decide ((n' : Int) ≤ 8) = true := decide_eq_true (by omega)
          have ew : IntKind.i64.wrap ((n' : Int) - 1) = ((n' - 1 : Nat) : Int) := by rw [IntWalk.i64_in _ (by omega)]; omega
          have HZ := Lib.hid hz
          have H2 := Lib.hid h2
          have h3 := h2.1
          have h4 := h2.2
          clear h2
          go_wp2_with fail
          refine (bmust_ok _ _).mono ?_
          rintro e w4 ⟨rfl, rfl⟩
          go_wp2_with fail
          refine (show Calls Tryz.prog fid (#[.int .i64 ((n' - 1 : Nat) : Int)] ++ cap) wr _ from HCLO.out (n' - 1) st' r' A' _ c' wr (by have := H2.out; omega) HR2.out HJ2.out HFR.out).mono ?_
          intro e w2 hs
          cases hst : step (n' - 1) st' r' with
          | error y =>
            obtain ⟨rfl, o2⟩ := hs.bad hst
            have o3 := HO2.out.trans o2 (Grows.refl _ _)
            have HE3 := Lib.hid (HEE.out.trans (Bo.rowsE_step k last st' r' HZ.out H2.out hst))
            clear hs hst o2
            go_wp2_with fail
            refine ⟨rfl, o3, ?_⟩
            rw [HE3.out]
          | ok p1 =>
            obtain ⟨st2, r2⟩ := p1
            obtain ⟨rfl, ⟨A2, c2, R2⟩, j2, o2⟩ := hs.good hst
            have o3 := HO2.out.trans o2 (Grows.refl _ _)
            have kr2 := kr.keptOnly o2 HNS.out
            clear hs o2 kr
            go_wp2_with ((with_reducible refine wpList_ld (n := 1) rowRd30 kr2 rfl ?_ ?_); rotate_left; (rfl))
            refine (bnum_any g A2 _ c2 r2 w2 R2).mono ?_
            intro e w3 hB
            cases hd : Vint.dec r2 with
            | error y =>
              obtain ⟨rfl, gg⟩ := hB.bad hd
              have o4 := o3.trans (Only.of_grown (F := F) gg HF.out) (Grows.refl _ _)
              have HE3 := Lib.hid (HEE.out.trans (Bo.rowsE_num k last st' r' HZ.out H2.out hst hd))
              clear hd hB hst
              go_wp2_with fail
              refine ⟨rfl, o4, ?_⟩
              rw [HE3.out]
            | ok p2 =>
              obtain ⟨n3, r3⟩ := p2
              obtain ⟨rfl, ⟨A3, c3, R3⟩, gg⟩ := hB.good hd
              have o4 := o3.trans (Only.of_grown (F := F) gg HF.out) (Grows.refl _ _)
              have kr3 := kr2.grown gg (by intro h; injection h; omega)
              have j3 := HJ.out _ _ _ j2 gg
              have N3 := Lib.hid (show n3 ≤ 1099511627776 from (Vint.dec_ok hd).2)
              have HE3 := Lib.hid (HEE.out.trans (Bo.rowsE_on k last st' r' HZ.out H2.out hst hd))
              clear hd hB hst o3 kr2 j2 gg R2
              go_wp2_with fail
              go_roundw
              case rel => exact ⟨k, n', n3, st2, r3, A3, c3, rfl, rfl, H2.out.2, by have := H2.out; omega, N3.out, HE3.out, R3, j3, o4, kr3⟩
              case measure => have := H2.out; simp [intOf]; omega
        · have HZ := Lib.hid hz
          have HE3 := Lib.hid (HEE.out.trans (Bo.rowsE_bad step k last st' r' hz h2))
          by_cases h3 : last < n'
          · have d1 : decide ((last : Int) < (n' : Int)) = true := decide_eq_true (by omega)
            have d2 : decide ((n' : Int) ≤ 8) = false := decide_eq_false (by omega)
            have h4 : ¬ n' ≤ 8 := by omega
            clear h2
            go_wp2_with fail
            refine (bmust_bad _ _).mono ?_
            rintro e w4 ⟨rfl, rfl⟩
            go_wp2_with fail
            refine ⟨rfl, HO2.out, ?_⟩
            rw [HE3.out]
            show Ending.panicked [{ v := bflt 4, recovered := false }] = Ending.panicked [{ v := bflt ((4 : Nat) : Int), recovered := false }]
            rw [show ((4 : Nat) : Int) = 4 from rfl]
          · have d1 : decide ((last : Int) < (n' : Int)) = false := decide_eq_false (by omega)
            clear h2
            go_wp2_with fail
            refine (bmust_bad _ _).mono ?_
            rintro e w4 ⟨rfl, rfl⟩
            go_wp2_with fail
            refine ⟨rfl, HO2.out, ?_⟩
            rw [HE3.out]
            show Ending.panicked [{ v := bflt 4, recovered := false }] = Ending.panicked [{ v := bflt ((4 : Nat) : Int), recovered := false }]
            rw [show ((4 : Nat) : Int) = 4 from rfl]
end Go.Proofs.YtocoohpekpkmkaaGreat

/- '==' between two tallies. -/
namespace Go.Proofs.YtocoohpekpkmkaaGreat
set_option linter.unusedVariables false
set_option linter.unusedSimpArgs false
open Go.RowKit
open Tally
theorem right_wf {l : List Int} (h : rightB l = true) : Wf l := fun x hx => by
  obtain ⟨i, hi, rfl⟩ := List.getElem_of_mem hx
  have := right_at h i
  rw [List.getD_eq_getElem?_getD, List.getElem?_eq_getElem hi] at this
  unfold top at this
  simp only [Option.getD_some] at this
  exact wf_of (by omega) (by omega)
theorem split8 (l : List Int) (hl : l.length = 16) : l.map (Lit.int .i64) = (l.take 8).map (Lit.int .i64) ++ (l.drop 8).map (Lit.int .i64) := by rw [← List.map_append, List.take_append_drop]
/-- A type of two arrays of eight ints. -/
def TwoT (T : TypeId) : Prop := (∃ f0 f1 : Field, (Tryz.prog).underlying T = some (.struct #[f0, f1]) ∧ f0.type = 22 ∧ f0.offset = 0 ∧ f1.type = 22 ∧ f1.offset = 8 ∧ f0.name ≠ "_" ∧ f1.name ≠ "_") ∧ (Tryz.prog).cellsOf T = 16 ∧ (Tryz.prog).keyTypeAt 4 T = true ∧ (Tryz.prog).eqGuardType (Tryz.prog).depth T = false
theorem twoT : TwoT 34 := ⟨⟨_, _, Tryz.underlying34, rfl, rfl, rfl, rfl, by decide, by decide⟩, by kernel_rfl, by kernel_rfl, by kernel_rfl⟩
theorem twoR : TwoT 24 := ⟨⟨_, _, Tryz.underlying24, rfl, rfl, rfl, rfl, by decide, by decide⟩, by kernel_rfl, by kernel_rfl, by kernel_rfl⟩
theorem keyLits_tc {T : TypeId} (hT : TwoT T) (l : List Int) (hl : l.length = 16) (hw : Wf l) : (Tryz.prog).keyLits 3 T (tc l).toList = some (l.map (Lit.int .i64)) := by
  obtain ⟨⟨f0, f1, hu, t0, o0, t1, o1, n0, n1⟩, hc, _, _⟩ := hT
  have h0 := keyLits_arr 0 (l.take 8) (by simp; omega) (fun x hx => hw x (List.mem_of_mem_take hx))
  have h1 := keyLits_arr 0 (l.drop 8) (by simp; omega) (fun x hx => hw x (List.mem_of_mem_drop hx))
  have e0 : (((tc l).toList.drop 0).take 8) = (l.take 8).map (Value.int .i64) := by simp [tc]
  have e1 : (((tc l).toList.drop 8).take 8) = (l.drop 8).map (Value.int .i64) := by
    simp only [tc]
    rw [← List.map_drop, List.take_of_length_le (by simp; omega)]
  unfold Program.keyLits
  have hcs : (tc l).toList.length = 16 := by rw [Array.length_toList, tc_size, hl]
  simp only [hu, hcs, hc]
  rw [if_pos ⟨trivial, by simp [n0, n1]⟩]
  simp only [List.mapM_cons, List.mapM_nil, t0, t1, o0, o1, cellsA, e0, e1, h0, h1]
  rw [split8 l hl]
  simp
theorem eq_run {T : TypeId} (hT : TwoT T) (w : World) (a b : List Int) (ha : a.length = 16) (hb : b.length = 16) (wa : Wf a) (wb : Wf b) :
    (binOp .eql T (.agg (tc a)) (.agg (tc b))).run Tryz.prog w = .ok (.bool (decide (a = b))) w := by
  have hk := hT.2.2.1
  have hfm : ∀ l : List Int, l.length = 16 → (Value.agg (tc l)).formed Tryz.prog T = true := fun l hl => by
    obtain ⟨⟨f0, f1, hu, _⟩, hc, _⟩ := hT
    simp [Value.formed, hu, hc, tc_size, hl]
  obtain ⟨r, h1, h2⟩ := run_equalIn_deep (P := Tryz.prog) 9996 4 T hk w 3 3 (.agg (tc a)) (.agg (tc b)) _ _ (hfm a ha) (hfm b hb) (keyLits_tc hT a ha wa) (keyLits_tc hT b hb wb)
  rw [run_eql_struct, h1]
  have : r = decide (a = b) := by
    rw [Bool.eq_iff_iff, h2, decide_eq_true_eq]
    constructor
    · intro h
      exact (List.map_inj_right (fun x y h => by injection h)).1 h
    · intro h; rw [h]
  rw [this]
  rfl
section
variable {ops : Array Oper} {rest : List Oper} {d : Option Tmp} {ty : TypeId} {pos : String} {aft : Array Edge} {gd : Option (Nat × Bool)} {x y : Operand} {T z : TypeId} {A B : List Int}
theorem exec_eq {a : Act} (hT : TwoT T) (ha : A.length = 16) (hb : B.length = 16) (wa : Wf A) (wb : Wf B) (hx : a.eval x = .agg (tc A)) (hy : a.eval y = .agg (tc B)) (w : World) : (execOp a.eval ⟨d, .binOp .eql T x y z, ty, pos, aft, gd⟩).run Tryz.prog w = .ok (.value (.bool (decide (A = B)))) w := by
  unfold execOp
  simp only [hx, hy, Sem.run_bind, run_eqGuard_agg w .eql T x y (tc A) (tc B) hT.2.2.2, Result.andThen_ok, eq_run hT w A B ha hb wa wb, Sem.run_pure]
theorem quiet_eq {a : Act} {Q : Act → Prop} {C : World → Prop} (hT : TwoT T) (ha : A.length = 16) (hb : B.length = 16) (wa : Wf A) (wb : Wf B)
    (h : wpQuiet Tryz.prog ops C Q rest (a.put d (.bool (decide (A = B))))) (hx : a.eval x = .agg (tc A)) (hy : a.eval y = .agg (tc B)) (hw : Region.wanted ⟨d, .binOp .eql T x y z, ty, pos, aft, gd⟩ (yielded ops a.tmps) = true) : wpQuiet Tryz.prog ops C Q (⟨d, .binOp .eql T x y z, ty, pos, aft, gd⟩ :: rest) a := by
  unfold wpQuiet
  rw [if_pos hw]
  refine ⟨.bool (decide (A = B)), fun w hC => ?_, h⟩
  unfold Oper.quietAt
  rw [exec_eq hT ha hb wa wb hx hy w]
  exact ⟨rfl, rfl⟩
theorem wpList_eq {a : Act} {w : World} {Q : Exit → Act → World → Prop} (hT : TwoT T) (ha : A.length = 16) (hb : B.length = 16) (wa : Wf A) (wb : Wf B)
    (h : wpList Tryz.prog ops Q rest (a.put d (.bool (decide (A = B)))) w) (hx : a.eval x = .agg (tc A)) (hy : a.eval y = .agg (tc B)) (hw : Region.wanted ⟨d, .binOp .eql T x y z, ty, pos, aft, gd⟩ (yielded ops a.tmps) = true) : wpList Tryz.prog ops Q (⟨d, .binOp .eql T x y z, ty, pos, aft, gd⟩ :: rest) a w := by
  refine wpList_step fun K hK => ?_
  rw [if_pos hw]
  unfold Oper.wp
  rw [exec_eq hT ha hb wa wb hx hy w]
  exact hK _ _ h
theorem ne_run {T : TypeId} (hT : TwoT T) (w : World) (a b : List Int) (ha : a.length = 16) (hb : b.length = 16) (wa : Wf a) (wb : Wf b) :
    (binOp .neq T (.agg (tc a)) (.agg (tc b))).run Tryz.prog w = .ok (.bool (!decide (a = b))) w := by
  have h := eq_run hT w a b ha hb wa wb
  rw [run_eql_struct] at h
  rw [run_neq_struct]
  revert h
  generalize (Op.equalIn 10000 T (.agg (tc a)) (.agg (tc b))).run Tryz.prog w = r
  intro h
  cases r with
  | halt x w' => simp [Result.andThen] at h
  | ok b' w' =>
    simp only [Result.andThen_ok] at h ⊢
    injection h with h1 h2
    injection h1 with h1
    rw [h1, h2]
theorem quiet_ne {a : Act} {Q : Act → Prop} {C : World → Prop} (hT : TwoT T) (ha : A.length = 16) (hb : B.length = 16) (wa : Wf A) (wb : Wf B)
    (h : wpQuiet Tryz.prog ops C Q rest (a.put d (.bool (!decide (A = B))))) (hx : a.eval x = .agg (tc A)) (hy : a.eval y = .agg (tc B)) (hw : Region.wanted ⟨d, .binOp .neq T x y z, ty, pos, aft, gd⟩ (yielded ops a.tmps) = true) : wpQuiet Tryz.prog ops C Q (⟨d, .binOp .neq T x y z, ty, pos, aft, gd⟩ :: rest) a := by
  unfold wpQuiet
  rw [if_pos hw]
  refine ⟨.bool (!decide (A = B)), fun w hC => ?_, h⟩
  unfold Oper.quietAt execOp
  simp only [hx, hy, Sem.run_bind, run_eqGuard_agg w .neq T x y (tc A) (tc B) hT.2.2.2, Result.andThen_ok, ne_run hT w A B ha hb wa wb, Sem.run_pure]
  exact ⟨rfl, rfl⟩
end
end Go.Proofs.YtocoohpekpkmkaaGreat

namespace Go.Proofs.YtocoohpekpkmkaaGreat
set_option linter.unusedVariables false
set_option linter.unusedSimpArgs false
open Go.RowKit
open Tally
/-- A function of two ints, in this program. -/
def Fun2 (f : FuncId) (h : Int → Int → Int) : Prop := ∀ (x y : Int) (w : World), Calls Tryz.prog f #[.int .i64 x, .int .i64 y] w fun e w' => e = .returned (.int .i64 (h x y)) ∧ w = w'
theorem join1 : Fun2 84 mx := by
  intro x y w
  unfold mx
  by_cases h : x < y
  · rw [if_pos h]
    go_enter Tryz.func84, Tryz.ntmps84
    go_wp2_with fail
    go_ret
    exact ⟨rfl, rfl⟩
  · rw [if_neg h]
    go_enter Tryz.func84, Tryz.ntmps84
    go_wp2_with fail
    go_ret
    exact ⟨rfl, rfl⟩
/-- the first k of two tallies' numbers, in the order of 'ord', brought together -/
def bothTo (h : Int → Int → Int) (a b : List Int) : Nat → List Int
  | 0 => a
  | k + 1 => (bothTo h a b k).set (ord k) (h (a.getD (ord k) 0) (b.getD (ord k) 0))
theorem bothTo_len (h : Int → Int → Int) (a b : List Int) (k : Nat) : (bothTo h a b k).length = a.length := by
  induction k with
  | zero => rfl
  | succ k ih => simp [bothTo, ih]
theorem bothTo_at (h : Int → Int → Int) (a b : List Int) (ha : a.length = 16) (k : Nat) (hk : k ≤ 16) (j : Nat) (hj : j < 16) : (bothTo h a b k).getD (ord j) 0 = if j < k then h (a.getD (ord j) 0) (b.getD (ord j) 0) else a.getD (ord j) 0 := by
  induction k with
  | zero => simp [bothTo]
  | succ k ih =>
    have hl := bothTo_len h a b k
    have hok := ord_lt (show k < 16 by omega)
    rw [bothTo, List.getD_eq_getElem?_getD]
    by_cases e : j = k
    · subst e
      rw [List.getElem?_set_self (by omega), if_pos (by omega)]; rfl
    · rw [List.getElem?_set_ne (fun h => e (ord_inj hj (by omega) h.symm)), ← List.getD_eq_getElem?_getD, ih (by omega)]
      by_cases h1 : j < k
      · rw [if_pos h1, if_pos (by omega)]
      · rw [if_neg h1, if_neg (by omega)]
theorem bothTo_all (h : Int → Int → Int) (a b : List Int) (ha : a.length = 16) (hb : b.length = 16) : bothTo h a b 16 = List.zipWith h a b := by
  apply List.ext_getElem?
  intro i
  by_cases hi : i < 16
  · obtain ⟨j, hj, rfl⟩ := ord_onto hi
    have h1 := bothTo_at h a b ha 16 (Nat.le_refl _) j hj
    rw [if_pos hj, List.getD_eq_getElem?_getD, List.getElem?_eq_getElem (by rw [bothTo_len]; omega)] at h1
    rw [List.getElem?_eq_getElem (by rw [bothTo_len]; omega), List.getElem?_zipWith, List.getElem?_eq_getElem (by omega), List.getElem?_eq_getElem (by omega)]
    simp only [Option.getD_some] at h1
    rw [h1, List.getD_eq_getElem?_getD, List.getD_eq_getElem?_getD, List.getElem?_eq_getElem (by omega), List.getElem?_eq_getElem (by omega)]
    rfl
  · rw [List.getElem?_eq_none (by rw [bothTo_len]; omega), List.getElem?_eq_none (by simp; omega)]
/-- A call of that function enters it. -/
def Enters (f : FuncId) : Prop := ∀ (args : Array Value) (w : World), (callFunc f args).run Tryz.prog w = .ok (.enter f args) w
set_option maxRecDepth 100000 in
theorem enters_join : Enters 84 := fun _ _ => rfl
set_option maxRecDepth 100000 in
set_option maxHeartbeats 2000000 in
theorem both_any (f : FuncId) (h : Int → Int → Int) (hf : Fun2 f h) (hen : Enters f) (l m : List Int) (w : World) (hl : l.length = 16) (hm : m.length = 16) :
    Calls Tryz.prog 83 #[.agg (tc l), .agg (tc m), .func (.func f) #[] #[]] w fun e w' => e = .returned (.agg (tc (bothL h l m))) ∧ Below w.heap.size w w' := by
  have HF := Lib.hid hf
  have HEN := Lib.hid hen
  clear hen
  have HS := Lib.hid (show (tc l).size = 16 by rw [tc_size, hl])
  have HM := Lib.hid (show (tc m).size = 16 by rw [tc_size, hm])
  have HSo := Lib.hid (show (tc (ownL l)).size = 16 by rw [tc_size, own_len hl])
  have HMo := Lib.hid (show (tc (ownL m)).size = 16 by rw [tc_size, own_len hm])
  have HL := Lib.hid hl
  have HLM := Lib.hid hm
  clear hf hl hm
  go_enter Tryz.func83, Tryz.ntmps83
  go_upto_region 1 with fail
  refine nameW ?_
  intro wv hwv
  obtain ⟨g, hg⟩ : ∃ g, g = w.heap.size := ⟨_, rfl⟩
  rw [← hg]
  have k0 : Blk wv g 34 (tc l) := by rw [hwv, hg]; exact ((Blk.new w _ _).alloc _).alloc _
  have k1 : Blk wv (g + 1) 34 (tc m) := by
    have h := (Blk.new (w.alloc (.cells (tc l) 34)) 34 (tc m)).alloc (.cells (tc zero) 34)
    rw [zero_tc] at h
    rw [hwv, hg]
    simpa using h
  have k2 : Blk wv (g + 2) 34 (tc zero) := by
    have h := Blk.new ((w.alloc (.cells (tc l) 34)).alloc (.cells (tc m) 34)) 34 (tc zero)
    rw [zero_tc] at h
    rw [zero_tc, hwv, hg]
    simpa using h
  have hb : Below w.heap.size w wv := by rw [hwv]; exact (((Below.refl _ _).alloc (Nat.le_refl _) _).alloc (by simp) _).alloc (by simp; omega) _
  have hgw : w.heap.size ≤ g := by omega
  clear hwv hg
  have k0d : Blk wv.drew g 34 (tc l) := k0
  have k1d : Blk wv.drew (g + 1) 34 (tc m) := k1
  have k2d : Blk wv.drew (g + 2) 34 (tc zero) := k2
  have hbd := hb.drew
  clear k0 k1 k2 hb
  go_cut [3] (fun s wx => s = .pointer (some ⟨g, 0, none⟩) ∧ Blk wx g 34 (tc (ownL l)) ∧ Blk wx (g + 1) 34 (tc (ownL m)) ∧ Blk wx (g + 2) 34 (tc zero) ∧ Below w.heap.size w wx)
  case first =>
    refine wp_region_any (by kernel_rfl) ?_
    try (change wpAny _ _ _ _ _ _ _ (World.drew _))
    refine wpAny_ready (rs := [0, 2]) (by kernel_rfl) (by simp) ?_
    refine AllReady.cons rfl (fun K hK => ?_) (AllReady.cons rfl (fun K hK => ?_) AllReady.nil)
    · refine step_ld rfl rowT (.tmp 3) rfl (by rfl) k0d HS.out ?_
      refine hK _ _ ?_
      clear hK K
      refine wpAny_ready (rs := [1, 2]) (by kernel_rfl) (by simp) ?_
      refine AllReady.cons rfl (fun K hK => ?_) (AllReady.cons rfl (fun K hK => ?_) AllReady.nil)
      · go_simp
        refine (own_any l _ HL.out).mono ?_
        rintro e w1 ⟨rfl, h1⟩
        have k0a := k0d.below h1 k0d.lt
        have k1a := k1d.below h1 k1d.lt
        have k2a := k2d.below h1 k2d.lt
        have b1 := hbd.trans (h1.mono hbd.size)
        refine hK _ _ ?_
        clear hK K
        refine wpAny_ready (rs := [2]) (by kernel_rfl) (by simp) ?_
        refine AllReady.cons rfl (fun K hK => ?_) AllReady.nil
        refine step_ld rfl rowT (.tmp 4) rfl (by rfl) k1a HM.out ?_
        refine hK _ _ ?_
        clear hK K
        refine wpAny_ready (rs := [3]) (by kernel_rfl) (by simp) ?_
        refine AllReady.cons rfl (fun K hK => ?_) AllReady.nil
        go_simp
        refine (own_any m _ HLM.out).mono ?_
        rintro e w2 ⟨rfl, h2⟩
        have k0b := k0a.below h2 k0a.lt
        have k1b := k1a.below h2 k1a.lt
        have k2b := k2a.below h2 k2a.lt
        have b2 := b1.trans (h2.mono b1.size)
        refine hK _ _ ?_
        clear hK K
        refine wpAny_ready (rs := [4]) (by kernel_rfl) (by simp) ?_
        refine AllReady.cons rfl (fun K hK => ?_) AllReady.nil
        refine step_st rfl rowT (.tmp 3) (.tmp 11) rfl (by rfl) (by rfl) k0b HSo.out HS.out (tc_one _) ?_
        intro w3 k03 g3 z3
        have k13 := k1b.grown g3 (by simp)
        have k23 := k2b.grown g3 (by simp)
        have b3 := b2.grown g3 b2.size (fun q hq => by injection hq; omega)
        refine hK _ _ ?_
        clear hK K
        refine wpAny_ready (rs := [5]) (by kernel_rfl) (by simp) ?_
        refine AllReady.cons rfl (fun K hK => ?_) AllReady.nil
        refine step_st rfl rowT (.tmp 4) (.tmp 13) rfl (by rfl) (by rfl) k13 HMo.out HM.out (tc_one _) ?_
        intro w4 k14 g4 z4
        have k04 := k03.grown g4 (by simp)
        have k24 := k23.grown g4 (by simp)
        have b4 := b3.grown g4 b3.size (fun q hq => by injection hq; omega)
        refine hK _ _ ?_
        clear hK K
        refine wpAny_done (by kernel_rfl) ?_ _
        go_wp2_with fail
        go_meet
        exact ⟨rfl, k04, k14, k24, b4⟩
      · refine step_ld rfl rowT (.tmp 4) rfl (by rfl) k1d HM.out ?_
        refine hK _ _ ?_
        clear hK K
        refine wpAny_ready (rs := [1]) (by kernel_rfl) (by simp) ?_
        refine AllReady.cons rfl (fun K hK => ?_) AllReady.nil
        go_simp
        refine (own_any l _ HL.out).mono ?_
        rintro e w1 ⟨rfl, h1⟩
        have k0a := k0d.below h1 k0d.lt
        have k1a := k1d.below h1 k1d.lt
        have k2a := k2d.below h1 k2d.lt
        have b1 := hbd.trans (h1.mono hbd.size)
        refine hK _ _ ?_
        clear hK K
        refine wpAny_ready (rs := [3]) (by kernel_rfl) (by simp) ?_
        refine AllReady.cons rfl (fun K hK => ?_) AllReady.nil
        go_simp
        refine (own_any m _ HLM.out).mono ?_
        rintro e w2 ⟨rfl, h2⟩
        have k0b := k0a.below h2 k0a.lt
        have k1b := k1a.below h2 k1a.lt
        have k2b := k2a.below h2 k2a.lt
        have b2 := b1.trans (h2.mono b1.size)
        refine hK _ _ ?_
        clear hK K
        refine wpAny_ready (rs := [4]) (by kernel_rfl) (by simp) ?_
        refine AllReady.cons rfl (fun K hK => ?_) AllReady.nil
        refine step_st rfl rowT (.tmp 3) (.tmp 11) rfl (by rfl) (by rfl) k0b HSo.out HS.out (tc_one _) ?_
        intro w3 k03 g3 z3
        have k13 := k1b.grown g3 (by simp)
        have k23 := k2b.grown g3 (by simp)
        have b3 := b2.grown g3 b2.size (fun q hq => by injection hq; omega)
        refine hK _ _ ?_
        clear hK K
        refine wpAny_ready (rs := [5]) (by kernel_rfl) (by simp) ?_
        refine AllReady.cons rfl (fun K hK => ?_) AllReady.nil
        refine step_st rfl rowT (.tmp 4) (.tmp 13) rfl (by rfl) (by rfl) k13 HMo.out HM.out (tc_one _) ?_
        intro w4 k14 g4 z4
        have k04 := k03.grown g4 (by simp)
        have k24 := k23.grown g4 (by simp)
        have b4 := b3.grown g4 b3.size (fun q hq => by injection hq; omega)
        refine hK _ _ ?_
        clear hK K
        refine wpAny_done (by kernel_rfl) ?_ _
        go_wp2_with fail
        go_meet
        exact ⟨rfl, k04, k14, k24, b4⟩
    · refine step_ld rfl rowT (.tmp 4) rfl (by rfl) k1d HM.out ?_
      refine hK _ _ ?_
      clear hK K
      refine wpAny_ready (rs := [0]) (by kernel_rfl) (by simp) ?_
      refine AllReady.cons rfl (fun K hK => ?_) AllReady.nil
      refine step_ld rfl rowT (.tmp 3) rfl (by rfl) k0d HS.out ?_
      refine hK _ _ ?_
      clear hK K
      refine wpAny_ready (rs := [1]) (by kernel_rfl) (by simp) ?_
      refine AllReady.cons rfl (fun K hK => ?_) AllReady.nil
      go_simp
      refine (own_any l _ HL.out).mono ?_
      rintro e w1 ⟨rfl, h1⟩
      have k0a := k0d.below h1 k0d.lt
      have k1a := k1d.below h1 k1d.lt
      have k2a := k2d.below h1 k2d.lt
      have b1 := hbd.trans (h1.mono hbd.size)
      refine hK _ _ ?_
      clear hK K
      refine wpAny_ready (rs := [3]) (by kernel_rfl) (by simp) ?_
      refine AllReady.cons rfl (fun K hK => ?_) AllReady.nil
      go_simp
      refine (own_any m _ HLM.out).mono ?_
      rintro e w2 ⟨rfl, h2⟩
      have k0b := k0a.below h2 k0a.lt
      have k1b := k1a.below h2 k1a.lt
      have k2b := k2a.below h2 k2a.lt
      have b2 := b1.trans (h2.mono b1.size)
      refine hK _ _ ?_
      clear hK K
      refine wpAny_ready (rs := [4]) (by kernel_rfl) (by simp) ?_
      refine AllReady.cons rfl (fun K hK => ?_) AllReady.nil
      refine step_st rfl rowT (.tmp 3) (.tmp 11) rfl (by rfl) (by rfl) k0b HSo.out HS.out (tc_one _) ?_
      intro w3 k03 g3 z3
      have k13 := k1b.grown g3 (by simp)
      have k23 := k2b.grown g3 (by simp)
      have b3 := b2.grown g3 b2.size (fun q hq => by injection hq; omega)
      refine hK _ _ ?_
      clear hK K
      refine wpAny_ready (rs := [5]) (by kernel_rfl) (by simp) ?_
      refine AllReady.cons rfl (fun K hK => ?_) AllReady.nil
      refine step_st rfl rowT (.tmp 4) (.tmp 13) rfl (by rfl) (by rfl) k13 HMo.out HM.out (tc_one _) ?_
      intro w4 k14 g4 z4
      have k04 := k03.grown g4 (by simp)
      have k24 := k23.grown g4 (by simp)
      have b4 := b3.grown g4 b3.size (fun q hq => by injection hq; omega)
      refine hK _ _ ?_
      clear hK K
      refine wpAny_done (by kernel_rfl) ?_ _
      go_wp2_with fail
      go_meet
      exact ⟨rfl, k04, k14, k24, b4⟩
  case rest =>
    obtain ⟨rfl, k0, k1, k2, b0⟩ := hcut
    clear k0d k1d k2d hbd
    have hbo : bothL h l m = List.zipWith h (ownL l) (ownL m) := rfl
    have HBO := Lib.hid hbo
    have HOL := Lib.hid (own_len HL.out)
    have HOM := Lib.hid (own_len HLM.out)
    clear hbo
    generalize ownL l = x at *
    generalize ownL m = y at *
    go_wp2_with fail
    refine (cells_any (g + 1) _).mono ?_
    rintro e w5 ⟨A1, c1, rfl, o1, h5⟩
    have k05 := k0.below h5 k0.lt
    have k15 := k1.below h5 k1.lt
    have k25 := k2.below h5 k2.lt
    have b5 := b0.trans (h5.mono b0.size)
    clear k0 k1 k2 h5
    go_wp2_with fail
    refine (cells_any g _).mono ?_
    rintro e w6 ⟨A2, c2, rfl, o2, h6⟩
    have o1b := o1.kept (row := none) ⟨h6.os, h6.tape, h6.output, h6.size, fun k hk _ => h6.block k hk⟩ (by
      rcases o1.2 with ⟨e, _⟩ | ⟨q, cap, cur, e, _⟩
      · rw [e]; exact .inl rfl
      · rw [e]; exact .inr (by simp [Value.ownBlock]))
    have k06 := k05.below h6 k05.lt
    have k16 := k15.below h6 k15.lt
    have k26 := k25.below h6 k25.lt
    have b6 := b5.trans (h6.mono b5.size)
    have s5 : w.heap.size ≤ w5.heap.size := b5.size
    clear k05 k15 k25 h6 b5 o1 b0
    have hfun : ∀ (x y : Int) (w : World), Calls Tryz.prog f #[.int .i64 x, .int .i64 y] w fun e w' => e = .returned (.int .i64 (h x y)) ∧ w = w' := HF.out
    have HFUN := Lib.hid hfun
    have hen : ∀ (args : Array Value) (w : World), (callFunc f args).run Tryz.prog w = .ok (.enter f args) w := HEN.out
    clear hfun HF
    go_wp2_with fail
    go_loopw [17] (fun i wr => ∃ k : Nat, k ≤ 16 ∧ i = .int .i64 k ∧ Blk wr g 34 (tc (bothTo h x y k)) ∧ Blk wr (g + 1) 34 (tc y) ∧ Blk wr (g + 2) 34 (tc zero) ∧ wr.ownsRow wc.heap.size 131 1 (.slice A1 16 c1) 16 (ptrs (g + 1) 16) ∧ wr.ownsRow w5.heap.size 131 1 (.slice A2 16 c2) 16 (ptrs g 16) ∧ Below w.heap.size w wr) (fun i _ => 16 - (intOf i).toNat)
    case atStart => exact ⟨0, by omega, rfl, k06, k16, k26, o1b, o2, b6⟩
    case round =>
      clear k06 k16 k26 o1b o2 b6
      obtain ⟨k, hk, rfl, k0, k1, k2, o1, o2, b0⟩ := hrel
      by_cases hlt : k < 16
      · obtain ⟨q1, rfl, hq1, _, p1⟩ := ptr_at o1 hlt
        obtain ⟨q2, rfl, hq2, _, p2⟩ := ptr_at o2 hlt
        have hok := ord_lt hlt
        have hlen := bothTo_len h x y k
        have e1 := k0.tcell (i := ord k) (by rw [hlen, HOL.out]; exact hok)
        have hat := bothTo_at h x y HOL.out k (by omega) k hlt
        rw [if_neg (by omega)] at hat
        rw [hat] at e1
        have e2 := k1.tcell (i := ord k) (by rw [HOM.out]; exact hok)
        have e3 := k0.free (ord k)
        have hst : bothTo h x y (k + 1) = (bothTo h x y k).set (ord k) (h (x.getD (ord k) 0) (y.getD (ord k) 0)) := rfl
        generalize x.getD (ord k) 0 = u at *
        generalize y.getD (ord k) 0 = v at *
        have hk0 : (0 : Int) ≤ (k : Int) := by omega
        have hk1 : (k : Int) < 16 := by omega
        have K0 : Blk (wr.setCell ⟨g, ord k, none⟩ (.int .i64 (h u v))) g 34 (tc (bothTo h x y (k + 1))) := by
          have := k0.set_ (ord k) (.int .i64 (h u v))
          rwa [tc_set, ← hst] at this
        have K1 : Blk (wr.setCell ⟨g, ord k, none⟩ (.int .i64 (h u v))) (g + 1) 34 (tc y) := k1.far (p := ⟨g, ord k, none⟩) (by simp) _
        have K2 : Blk (wr.setCell ⟨g, ord k, none⟩ (.int .i64 (h u v))) (g + 2) 34 (tc zero) := k2.far (p := ⟨g, ord k, none⟩) (by simp) _
        have n1 := own_ne o1 k0 (by decide)
        have n2 := own_ne o2 k0 (by decide)
        have O1 := ownsRow_setCell_other o1 (a := ⟨g, ord k, none⟩) (by simpa [Value.ownBlock] using n1) (.int .i64 (h u v))
        have O2 := ownsRow_setCell_other o2 (a := ⟨g, ord k, none⟩) (by simpa [Value.ownBlock] using n2) (.int .i64 (h u v))
        have B0 : Below w.heap.size w (wr.setCell ⟨g, ord k, none⟩ (.int .i64 (h u v))) := b0.setCell hgw _
        have HK := Lib.hid (And.intro K0 (And.intro K1 (And.intro K2 (And.intro O1 (And.intro O2 B0)))))
        clear K0 K1 K2 O1 O2 B0 n1 n2 hst hat hlen k0 k1 k2 o1 o2 b0
        go_wp2_with fail
        go_region_with ((with_reducible refine (HFUN.out _ _ _).mono ?_); rintro e w' ⟨rfl, rfl⟩)
        all_goals
          go_wp2_with fail
          go_roundw
          case rel => exact ⟨k + 1, by omega, by go_num, HK.out.1, HK.out.2.1, HK.out.2.2.1, HK.out.2.2.2.1, HK.out.2.2.2.2.1, HK.out.2.2.2.2.2.drew⟩
          case measure => simp [intOf]; omega
      · obtain rfl : k = 16 := by omega
        have hbo := bothTo_all h x y HOL.out HOM.out
        rw [hbo] at k0
        have HZ := Lib.hid (show (tc (List.zipWith h x y)).size = 16 by rw [tc_size, List.length_zipWith, HOL.out, HOM.out]; rfl)
        have H1 := Lib.hid (tc_one (List.zipWith h x y))
        clear hbo o1 o2 k1
        generalize List.zipWith h x y = z at *
        go_wp2_with (first
          | ((with_reducible refine wpList_ld rowT k0 HZ.out ?_ ?_); rotate_left; (rfl))
          | ((with_reducible refine wpList_st rowT k2 HZ.out zero_size H1.out ?_ ?_ ?_); rotate_left; (rfl); (rfl); intro w7 k7 g7 z7))
        have b7 := b0.grown g7 b0.size (fun q hq => by injection hq; omega)
        exact bodyPost_ret (v := .agg (tc z)) (results_blk rfl rowT k7 HZ.out rfl) rfl ⟨by rw [HBO.out], b7⟩
end Go.Proofs.YtocoohpekpkmkaaGreat

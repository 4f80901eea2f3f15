/- LogCrashes: records that were written are there behind a crash in the midst of another one, with that one, whole, or without it; mended, what is written next stands behind them: the whole statement, without a condition. -/
import Derived.Test.YtbkcdnjpakicmaaLogMath
import Derived.Test.YtbkcdnjpakicmaaFrameRAll
import Derived.Test.YtbkcdnjpakicmaaFrameRef
import Derived.Test.YtbkcdnjpakicmaaFrameEnds
import Derived.Test.YtbkcdnjpakicmaaRowS
import Derived.Test.YtbkcdnjpakicmaaShell
namespace Go.Proofs.Ytbkcdnjpakicmaa.LogCrashes
open Go.ChangeShapes Go.WideShapes Go.ChangeAt Go.RowKit
set_option linter.unusedVariables false
open Go.Proofs.Ytbkcdnjpakicmaa.Log Go.Proofs.Ytbkcdnjpakicmaa.Disk
open Go.Proofs.Ytbkcdnjpakicmaa.Frame (frm frms frms_nil frms_cons frms_snoc frms_append frm_length frm_pos Parts AllF torn)

theorem cellsQ : (Try.prog).cellsOf 45 = 4 := by kernel_rfl
theorem cells1 : (Try.prog).cellsOf 38 = 1 := by kernel_rfl
theorem cells2 : (Try.prog).cellsOf 22 = 1 := by kernel_rfl
theorem cells3 : (Try.prog).cellsOf 3 = 1 := by kernel_rfl
set_option maxRecDepth 100000 in
/-- The struct that came in. -/
theorem open_q {H : Type} {enc : TypeId × Value → H} {W : World} {base : Nat} {sp : Nat → Bool} {held : Bool} {r : Reach} {b0 : Nat} {v : Value} {d : DataW H} {p : List MemPlace}
    (hv : Value.okWide Try.prog W r b0 45 v) (h : DataW.Trod enc Try.prog W base sp held 45 v d p) :
    ∃ (a0 : Option Addr) (n0 c0 : Nat) (ls : List (List UInt8)) (a1 : Option Addr) (n1 c1 : Nat) (b1 : List UInt8) (a2 : Option Addr) (n2 c2 : Nat) (b2 : List UInt8) (z : Int), v = .agg #[.slice a0 n0 c0, .slice a1 n1 c1, .slice a2 n2 c2, .int .i64 z] ∧
      RdS W W.heap.size a0 n0 ls ∧ RdB W W.heap.size a1 n1 b1 ∧ RdB W W.heap.size a2 n2 b2 ∧ (n1 ≤ c1 ∧ c1 ≤ maxLen) ∧ (n2 ≤ c2 ∧ c2 ≤ maxLen) ∧ -9223372036854775808 ≤ z ∧ z ≤ 9223372036854775807 := by
  obtain ⟨cs, rfl, hsz⟩ := okWide_struct Try.underlying45 hv
  rw [cellsQ] at hsz
  obtain ⟨fuel, hf0⟩ := h
  have hf : DataW.trod enc Try.prog W base sp held fuel 45 cs.toList = some (d, p) := hf0
  obtain ⟨_, _, g0⟩ := rd_field Try.underlying45 hf 0 38 0 1 rfl cells1
  obtain ⟨_, _, g1⟩ := rd_field Try.underlying45 hf 1 22 1 1 rfl cells2
  obtain ⟨_, _, g2⟩ := rd_field Try.underlying45 hf 2 22 2 1 rfl cells2
  obtain ⟨_, _, g3⟩ := rd_field Try.underlying45 hf 3 3 3 1 rfl cells3
  clear hf hf0
  obtain ⟨l⟩ := cs
  match l, hsz with
  | [v0, v1, v2, v3], _ =>
    obtain ⟨a0, n0, c0, b0, e0, r0, _⟩ := rd_rows g0
    obtain ⟨a1, n1, c1, b1, e1, r1, l1⟩ := rd_bytes g1
    obtain ⟨a2, n2, c2, b2, e2, r2, l2⟩ := rd_bytes g2
    obtain ⟨z, e3, hz⟩ := rd_int g3
    injection e0 with e0 _
    injection e1 with e1 _
    injection e2 with e2 _
    injection e3 with e3 _
    subst e0 e1 e2 e3
    exact ⟨a0, n0, c0, b0, a1, n1, c1, b1, a2, n2, c2, b2, z, rfl, r0, r1, r2, l1, l2, hz⟩
theorem after_one (b x : List UInt8) (n : Nat) : afterL b ([] ++ [(false, x)]) n = b ++ x.take n := by
  simp only [List.nil_append, afterL, units, doW]
  by_cases h : 0 < min n x.length
  · simp only [Bool.false_eq_true, if_false, if_pos h, ← List.take_take, List.take_length]
  · simp only [Bool.false_eq_true, if_false, if_neg h]
    rcases Nat.eq_zero_or_pos n with h1 | h1
    · simp [h1]
    · have : x = [] := List.eq_nil_of_length_eq_zero (by omega)
      simp [this]
/-- a crash, whatever is kept -/
theorem crash_any (keep : Int) (F : Nat → Prop) (g size : Nat) (lasts : List UInt8) (ws : List W) (w : World) (hD : DiskAt w F g size lasts ws) (hm : lasts.length + mass ws ≤ 1099511627776) (hl : ws.length ≤ 1099511627776) (h2 : keep ≤ 9223372036854775807) :
    Calls Try.prog 26 #[.pointer (some ⟨g, 0, none⟩), .int .i64 keep] w fun e w' => e = .returned (.tuple #[]) ∧ DiskOp w F g size (afterL lasts ws keep.toNat) [] w' := by
  by_cases h : keep < 0
  · rw [Int.toNat_of_nonpos (by omega)]
    exact crash_neg keep F g size lasts ws w hD hm hl h
  · obtain ⟨k, rfl⟩ := Int.eq_ofNat_of_zero_le (show 0 ≤ keep by omega)
    exact crash_nat k F g size lasts ws w hD hm hl (by omega)
theorem write_ok {size : Nat} {l : List (List UInt8)} {x : List UInt8} (hx : x.length ≤ 4096) (h : (frms l).length + (frm x).length ≤ size) : writeM size (frms l) [] x = (0, frms (l ++ [x]), []) := by
  unfold writeM
  have e : readL (frms l) [] = frms l := rfl
  rw [if_neg (by omega), e, if_pos h, frms_snoc]
set_option maxRecDepth 100000 in
set_option maxHeartbeats 4000000 in
theorem walk (a0 : Option Addr) (n0 c0 : Nat) (ls : List (List UInt8)) (a1 : Option Addr) (n1 c1 : Nat) (last : List UInt8) (a2 : Option Addr) (n2 c2 : Nat) (next : List UInt8) (keep : Int) (w : World)
    (hl0 : RdS w w.heap.size a0 n0 ls) (hb1 : RdB w w.heap.size a1 n1 last) (hb2 : RdB w w.heap.size a2 n2 next) (hc1 : n1 ≤ c1 ∧ c1 ≤ maxLen) (hc2 : n2 ≤ c2 ∧ c2 ≤ maxLen) (hz : -9223372036854775808 ≤ keep ∧ keep ≤ 9223372036854775807) :
    Calls Try.prog 7 #[.agg #[.slice a0 n0 c0, .slice a1 n1 c1, .slice a2 n2 c2, .int .i64 keep]] w fun e w' => e = .returned (.bool true) ∧ Below w.heap.size w w' := by
  obtain rfl := hl0.len
  obtain rfl := hb1.1
  obtain rfl := hb2.1
  have hz1 := hz.1
  have hz2 := hz.2
  have hw0 : Below w.heap.size w (w.alloc (.cells #[.slice a0 ls.length c0, .slice a1 last.length c1, .slice a2 next.length c2, .int .i64 keep] 45)) := (Below.refl _ _).alloc (Nat.le_refl _) _
  have k0 := Blk.new w 45 #[.slice a0 ls.length c0, .slice a1 last.length c1, .slice a2 next.length c2, .int .i64 keep]
  go_enter Try.func7, Try.ntmps7
  go_wp2_with fail
  refine (alive14 _).mono ?_
  rintro e w1 ⟨rfl, h1⟩
  have k1 := k0.below h1 k0.lt
  have h01 := hw0.trans (h1.mono hw0.size)
  have q0 : w1.cell? ⟨w.heap.size, 0, none⟩ = some (.slice a0 ls.length c0) := k1.cell 0
  have q1 : w1.cell? ⟨w.heap.size, 1, none⟩ = some (.slice a1 last.length c1) := k1.cell 1
  have q2 : w1.cell? ⟨w.heap.size, 2, none⟩ = some (.slice a2 next.length c2) := k1.cell 2
  have q3 : w1.cell? ⟨w.heap.size, 3, none⟩ = some (.int .i64 keep) := k1.cell 3
  go_wp2_with fail
  go_quiet (fail)
  rename_i nq
  have h01' := below_drewN h01 nq
  generalize w1.drewN nq = w1' at *
  clear q0 q1 q2 q3 k1 k0 h1 h01
  by_cases hgl : 20 < ls.length
  · have hd1 : decide ((20 : Int) < (ls.length : Int)) = true := decide_eq_true (by omega)
    go_wp2_with fail
    go_ret
    exact ⟨rfl, h01'⟩
  have hd1 : decide ((20 : Int) < (ls.length : Int)) = false := decide_eq_false (by omega)
  by_cases hg1 : 300 < last.length
  · have hd2 : decide ((300 : Int) < (last.length : Int)) = true := decide_eq_true (by omega)
    go_wp2_with fail
    go_ret
    exact ⟨rfl, h01'⟩
  have hd2 : decide ((300 : Int) < (last.length : Int)) = false := decide_eq_false (by omega)
  by_cases hg2 : 300 < next.length
  · have hd3 : decide ((300 : Int) < (next.length : Int)) = true := decide_eq_true (by omega)
    go_wp2_with fail
    go_ret
    exact ⟨rfl, h01'⟩
  have hd3 : decide ((300 : Int) < (next.length : Int)) = false := decide_eq_false (by omega)
  go_wp2_with fail
  refine (dnew_any 16384 _ (by omega) (by omega)).mono ?_
  rintro e w2 ⟨g, F1, rfl, hD1, hF1, h2⟩
  have L1 := DL.of_new h01' hD1 hF1 h2
  clear hD1 h2 h01' hF1
  go_wp2_with fail
  go_loopw [48] (fun i wr => ∃ (k : Nat) (F : Nat → Prop), k ≤ ls.length ∧ i = .int .i64 k ∧ DL w F g 16384 (frms (ls.take k)) [] wr ∧ ∀ x ∈ ls.take k, x.length ≤ 300) (fun i _ => ls.length - (intOf i).toNat)
  case atStart => exact ⟨0, F1, by omega, rfl, L1, by simp⟩
  case round =>
    clear L1
    obtain ⟨k, F, hk, rfl, L2, hsm⟩ := hrel
    have hbd := Frame.frms_bound _ hsm
    have htk : (ls.take k).length ≤ 20 := by rw [List.length_take]; omega
    have hfl : (frms (ls.take k)).length ≤ 6220 := by omega
    have HS := Lib.hid hsm
    clear hsm hbd htk
    have hm2 : (frms (ls.take k)).length + mass [] ≤ 500000000000 := by simp [mass]; omega
    by_cases hlt : k < ls.length
    · obtain ⟨a, D, z, d, rfl, _, hc, hr, hzd, hdm⟩ := (hl0.below L2.2.2).at_ hlt
      obtain ⟨x, hx⟩ : ∃ x, x = ls[k] := ⟨_, rfl⟩
      rw [← hx] at hr
      have hxl := hr.1
      have HX := Lib.hid hx
      clear hx
      by_cases h3 : 300 < z
      · have hd4 : decide ((300 : Int) < (z : Int)) = true := decide_eq_true (by omega)
        have HXL := Lib.hid hxl
        clear hxl
        go_wp2_with fail
        go_ret
        exact ⟨rfl, L2.2.2⟩
      have hd4 : decide ((300 : Int) < (z : Int)) = false := decide_eq_false (by omega)
      have hfx : (frm x).length ≤ 311 := by
        have := frm_length x
        have := Vint.enc_length x.length
        omega
      have hw : writeM 16384 (frms (ls.take k)) [] x = (0, frms (ls.take k ++ [x]), []) := write_ok (by omega) (by omega)
      rw [HX.out, ← take_snoc ls hlt, ← HX.out] at hw
      have HW := Lib.hid hw
      have HXL := Lib.hid hxl
      clear hxl hw
      go_wp2_with fail
      refine (lwrite_any _ _ _ _ x F g 16384 _ [] _ L2.1 hm2 (by simp) (by omega) hr L2.2.2.size hzd hdm).mono ?_
      rintro e w3 q3
      obtain ⟨rfl, h3⟩ := q3.at_ HW.out
      obtain ⟨F3, L3, _, _⟩ := L2.op h3
      clear q3 h3 L2
      go_wp2_with fail
      go_roundw
      case rel =>
        refine ⟨k + 1, F3, by omega, by go_num, L3, fun y hy => ?_⟩
        rw [take_snoc ls hlt, List.mem_append, List.mem_singleton] at hy
        rcases hy with hy | rfl
        · exact HS.out y hy
        · rw [← HX.out, ← HXL.out]; omega
      case measure => simp [intOf]; omega
    obtain rfl : k = ls.length := by omega
    rw [List.take_length] at L2 hfl hm2
    have hS : ∀ x ∈ ls, x.length ≤ 300 := by have := HS.out; rwa [List.take_length] at this
    have HS2 := Lib.hid hS
    clear hS HS
    have hfla : (frm last).length ≤ 311 := by
      have := frm_length last
      have := Vint.enc_length last.length
      omega
    have hfne : (frm next).length ≤ 311 := by
      have := frm_length next
      have := Vint.enc_length next.length
      omega
    have hpla := frm_pos last
    go_wp2_with fail
    refine (Frame.rput_ok _ _ _ last _ _ (hb1.below L2.2.2) L2.2.2.size (by omega)).mono ?_
    rintro e w3 ⟨A3, n3, c3, rfl, o3, h3⟩
    obtain rfl := o3.1
    have L3 := L2.below h3
    have hn3 : ((frm last).length : Int) ≤ ((16384 : Nat) : Int) - (readL (frms ls) []).length := by show ((frm last).length : Int) ≤ ((16384 : Nat) : Int) - (frms ls).length; omega
    go_wp2_with fail
    refine (append_any _ _ _ _ (frm last) F g 16384 _ [] _ L3.1 (by omega) (by simp) (by omega) o3.rd hn3).mono ?_
    rintro e w4 ⟨rfl, h4⟩
    obtain ⟨F4, L4, _, _⟩ := L3.op h4
    clear h4 L3 h3 o3 L2 hn3
    have hm4 : (frms ls).length + mass ([] ++ [(false, frm last)]) ≤ 1099511627776 := by simp [mass]; omega
    go_wp2_with fail
    refine (crash_any keep F4 g 16384 _ _ _ L4.1 hm4 (by simp) hz2).mono ?_
    rintro e w5 ⟨rfl, h5⟩
    obtain ⟨F5, L5, _, _⟩ := L4.op h5
    rw [after_one] at L5
    clear h5 L4 hm4
    have hCl : (frms ls ++ (frm last).take keep.toNat).length ≤ 6531 := by rw [List.length_append, List.length_take]; omega
    obtain ⟨C, hC⟩ : ∃ C, C = frms ls ++ (frm last).take keep.toNat := ⟨_, rfl⟩
    rw [← hC] at L5 hCl
    have HC := Lib.hid hC
    clear hC
    have hm5 : C.length + mass [] ≤ 500000000000 := by simp [mass]; omega
    go_wp2_with fail
    refine (lread_any F5 g 16384 _ _ _ L5.1 hm5 (by simp)).mono ?_
    rintro e w6 ⟨G, R, A6, c6, hp, rfl, bo6, h6⟩
    have hp : Parts C G R := hp
    have hrC : readL C [] = C := rfl
    rw [hrC]
    have L6 := L5.below h6
    have hF6 := L5.1.lt
    have hs56 := h6.size
    have HP := Lib.hid hp
    clear hrC hp h6 L5
    go_upto_region 23 with fail
    have hs6 : w.heap.size ≤ w6.heap.size := L6.2.2.size
    have hGl : G.length ≤ 6531 ∧ (frms G).length ≤ 6531 ∧ ∀ x ∈ G, x.length ≤ 6531 := by
      have := parts_len HP.out
      exact ⟨by omega, by omega, fun x hx => by have := this.2.2 x hx; omega⟩
    have hg1 := hGl.1
    have hg2' := hGl.2.1
    have HGX := Lib.hid hGl.2.2
    clear hGl
    have hk : keep ≤ 0 ∨ (0 < keep ∧ keep < ((frm last).length : Int)) ∨ ((frm last).length : Int) ≤ keep := by omega
    obtain ⟨el, el1, el2⟩ := (hl0.below L6.2.2).els
    have hb6 := hb1.below L6.2.2
    have hbm : Below w.heap.size w6 (w6.alloc (.cells #[] 22)) := (Below.refl _ _).alloc hs6 _
    rcases hk with hk | hk | hk
    case' inl =>
      have hC1 : C = frms ls ++ [] := by rw [HC.out, Int.toNat_of_nonpos hk]; rfl
      have hG := (HP.out.same ⟨hC1, fun x hx => by have := HS2.out x hx; omega, 3, rfl⟩).1
      have e1 : decide ((frms G).length < C.length) = false := decide_eq_false (by rw [hG, hC1, List.append_nil]; omega)
      rw [e1]
      have d1 : decide (((frm last).length : Int) ≤ keep) = false := decide_eq_false (by omega)
      have d2 : decide ((0 : Int) < keep) = false := decide_eq_false (by omega)
      have HG := Lib.hid hG
      clear hG e1 hC1
      go_wp2_with (at_builtin; refine wpList_appR rfl (.tmp 90) (.tmp 91) rfl rfl (RowS.made w6 w.heap.size w6.heap.size (Nat.le_refl _)) rfl (el2.alloc hs6 _) (el1.below hbm) rfl (by omega) (by simp) hs6 ?_)
      intro A7 c7 wv o7 b7
      have hwant := o7.cast HG.out.symm
      have hbv : Below w6.heap.size w6 wv := ((Below.refl _ _).alloc (Nat.le_refl _) _).trans b7
      go_wp2_with fail
    case' inr.inl =>
      have hlt : ((frm last).take keep.toNat).length < (frm last).length := by rw [List.length_take]; omega
      have hpos : 0 < ((frm last).take keep.toNat).length := by rw [List.length_take]; omega
      obtain ⟨y, hy⟩ := torn (x := last) (r := (frm last).take keep.toNat) (z := (frm last).drop keep.toNat) (by omega) (m := []) (by rw [List.take_append_drop, List.append_nil]) hlt
      have hG := (HP.out.same ⟨HC.out, fun x hx => by have := HS2.out x hx; omega, y, hy⟩).1
      have e1 : decide ((frms G).length < C.length) = true := decide_eq_true (by rw [hG, HC.out, List.length_append]; omega)
      rw [e1]
      have d1 : decide (((frm last).length : Int) ≤ keep) = false := decide_eq_false (by omega)
      have d2 : decide ((0 : Int) < keep) = true := decide_eq_true (by omega)
      have HG := Lib.hid hG
      clear hG e1 hlt hpos hy
      go_wp2_with (at_builtin; refine wpList_appR rfl (.tmp 90) (.tmp 91) rfl rfl (RowS.made w6 w.heap.size w6.heap.size (Nat.le_refl _)) rfl (el2.alloc hs6 _) (el1.below hbm) rfl (by omega) (by simp) hs6 ?_)
      intro A7 c7 wv o7 b7
      have hwant := o7.cast HG.out.symm
      have hbv : Below w6.heap.size w6 wv := ((Below.refl _ _).alloc (Nat.le_refl _) _).trans b7
      go_wp2_with fail
    case' inr.inr =>
      have hC1 : C = frms (ls ++ [last]) ++ [] := by
        rw [HC.out, List.append_nil, frms_snoc, List.take_of_length_le (by omega)]
      have hG := (HP.out.same ⟨hC1, fun x hx => by
        rw [List.mem_append, List.mem_singleton] at hx
        rcases hx with hx | rfl
        · have := HS2.out x hx; omega
        · omega, 3, rfl⟩).1
      have e1 : decide ((frms G).length < C.length) = false := decide_eq_false (by rw [hG, hC1, List.append_nil]; omega)
      rw [e1]
      have d1 : decide (((frm last).length : Int) ≤ keep) = true := decide_eq_true (by omega)
      have d2 : decide ((0 : Int) < keep) = true := decide_eq_true (by omega)
      have HG := Lib.hid hG
      clear hG e1 hC1
      go_wp2_with (at_builtin; refine wpList_appR rfl (.tmp 90) (.tmp 91) rfl rfl (RowS.made w6 w.heap.size w6.heap.size (Nat.le_refl _)) rfl (el2.alloc hs6 _) (el1.below hbm) rfl (by omega) (by simp) hs6 ?_)
      intro A7 c7 w7 o7 b7
      have hb67 : Below w6.heap.size w6 w7 := ((Below.refl _ _).alloc (Nat.le_refl _) _).trans b7
      have hb7 := hb6.below (hb67.mono hs6)
      have o7' := o7.below ((Below.refl _ _).alloc (Nat.le_refl _) (.cells #[.slice a1 last.length c1] 22)) (Nat.le_trans hs6 hb67.size)
      go_wp2_with (at_builtin; refine wpList_appR rfl (.tmp 94) (.tmp 96) rfl rfl o7' (es := [(a1, last.length, c1)]) (ms := [last]) rfl (by exact Rd.made _ _ _ _) (ElS.one (hb7.alloc (Nat.le_trans hs6 hb67.size) _) hc1.1 hc1.2) rfl (by omega) (by have := hb67.size; simp; omega) hs6 ?_)
      intro A8 c8 wv o8 b8
      have hwant := o8.cast HG.out.symm
      have hbv : Below w6.heap.size w6 wv := (hb67.alloc hb67.size _).trans b8
      go_wp2_with fail
    all_goals
      have L7 := L6.below hbv
      have hr7 := bo6.rd.below hbv
      have hsv := hbv.size
      refine (Frame.rsame_eq _ _ _ _ _ _ _ _ _ _ hr7 hwant.rd (by omega) (fun x hx => by have := HGX.out x hx; omega)).mono ?_
      rintro e w9 ⟨rfl, m9, rfl⟩
      have L9 := L7.below (below_drewN (Below.refl _ _) m9)
      have hwant9 := hwant.below (below_drewN (Below.refl _ _) m9) (by omega)
      have hz9 : wv.heap.size = (wv.drewN m9).heap.size := rfl
      have HW9 := Lib.hid hwant9
      generalize wv.drewN m9 = w9 at *
      clear hwant hwant9 hr7 L7
      go_wp2_with fail
      refine (lmend_any F5 g 16384 _ _ _ L9.1 hm5 (by simp) (by omega) (by show C.length ≤ _; omega)).mono ?_
      rintro e w10 ⟨G', R', hp', q10⟩
      have hp' : Parts C G' R' := hp'
      obtain ⟨rfl, rfl⟩ := HP.out.same hp'
      obtain ⟨rfl, h10⟩ := q10.at_ (mend_all HP.out)
      obtain ⟨F10, L10, o10, gr10⟩ := L9.op h10
      have hw10 := HW9.out.only o10 L9.2.1 (by omega) (fun k hk hf => by have := HW9.out.lt k hk; have := hF6 k hf; omega)
      have hm10 : (frms G).length + mass [] ≤ 500000000000 := by simp [mass]; omega
      have hwn : writeM 16384 (frms G) [] next = (0, frms (G ++ [next]), []) := write_ok (by omega) (by omega)
      have hgd : GoodL 16384 (G ++ [next]) := ⟨fun x hx => by
        rw [List.mem_append, List.mem_singleton] at hx
        rcases hx with hx | rfl
        · exact HP.out.2.1 x hx
        · omega, by rw [frms_snoc, List.length_append]; omega⟩
      have HWN := Lib.hid hwn
      have HGD := Lib.hid hgd
      have hb10 := hb2.below L10.2.2
      have hs9 : w9.heap.size ≤ w10.heap.size := o10.size
      clear hwn hgd q10 h10 hp' o10 L9
      go_wp2_with fail
      refine (lwrite_any _ _ _ _ next F10 g 16384 _ [] _ L10.1 hm10 (by simp) (by omega) hb10 L10.2.2.size hc2.1 hc2.2).mono ?_
      rintro e w11 q11
      obtain ⟨rfl, h11⟩ := q11.at_ HWN.out
      obtain ⟨F11, L11, o11, gr11⟩ := L10.op h11
      have hw11 := hw10.only o11 L10.2.1 (by omega) (fun k hk hf => by
        have := HW9.out.lt k hk
        rcases gr10 k hf with h | h
        · have := hF6 k h; omega
        · omega)
      have hs11 : w10.heap.size ≤ w11.heap.size := o11.size
      have hm11 : (frms (G ++ [next])).length + mass [] ≤ 500000000000 := by have := HGD.out.2; simp only [mass]; omega
      clear hw10 q11 h11 o11 gr11 gr10 L10 hb10
      go_wp2_with fail
      refine (lread_any F11 g 16384 _ _ _ L11.1 hm11 (by simp)).mono ?_
      rintro e w12 ⟨l', r', A12, c12, hp', rfl, bo12, h12⟩
      obtain ⟨rfl, rfl⟩ := HGD.out.parts.same hp'
      have L12 := L11.below h12
      have hw12 := hw11.below h12 (by omega)
      have hr12 := bo12.rd
      have hd12 : decide ((frms (G ++ [next])).length < (readL (frms (G ++ [next])) []).length) = false := decide_eq_false (by show ¬ _ < (frms (G ++ [next])).length; omega)
      rw [hd12]
      have hs12 := h12.size
      have hb12 := hb2.below L12.2.2
      have hw12' := hw12.below ((Below.refl _ _).alloc (Nat.le_refl _) (.cells #[.slice a2 next.length c2] 22)) (by omega)
      obtain ⟨N, hN⟩ : ∃ N, N = G ++ [next] := ⟨_, rfl⟩
      have hNl : N.length = G.length + 1 := by rw [hN]; simp
      rw [← hN] at hr12 bo12 ⊢
      have HN := Lib.hid hN
      have HNL := Lib.hid hNl
      clear hd12 hp' h12 L11 hw11 hw12 hN hNl
      go_wp2_with (at_builtin; refine wpList_appRg (by rfl) (.tmp 122) (.tmp 124) rfl rfl hw12' (es := [(a2, next.length, c2)]) (ms := [next]) rfl (by exact Rd.made _ _ _ _) (ElS.one (hb12.alloc L12.2.2.size _) hc2.1 hc2.2) rfl (by omega) (by simp; omega) (by omega) ?_)
      intro A13 c13 w13 o13 b13 g13
      have bo13 := Bods.only (bo12.below ((Below.refl _ _).alloc (Nat.le_refl _) (.cells #[.slice a2 next.length c2] 22)) (Nat.le_refl _)) (only_row g13) (fun k hk => by have := HW9.out.lt k hk; omega)
      have hr13 := bo13.rd
      have L13 := L12.2.2.trans ((((Below.refl _ _).alloc (Nat.le_refl _) (.cells #[.slice a2 next.length c2] 22)).mono (by omega)).trans (b13.mono (by omega)))
      have o13' := o13.cast HN.out.symm
      clear bo12 bo13 hr12 L12 hw12' g13 o13
      go_wp2_with fail
      refine (Frame.rsame_eq _ _ _ _ _ _ _ _ _ _ hr13 o13'.rd (by have := HNL.out; omega) (fun x hx => by
        rw [HN.out, List.mem_append, List.mem_singleton] at hx
        rcases hx with hx | rfl
        · have := HGX.out x hx; omega
        · omega)).mono ?_
      rintro e w14 ⟨rfl, m14, rfl⟩
      go_wp2_with fail
      go_ret
      exact ⟨rfl, below_drewN L13 _⟩
set_option maxRecDepth 100000 in
theorem lifted (os : Os) (started : os.Started) (H : Type) (enc : TypeId × Value → H) :
    ReturnsInHanded {} Try.checked os 7 .any (Rows.logCrashesSpec.pre6 enc Try.prog Try.f7 Rows.logCrashesRow.domain false) (Rows.logCrashesSpec.post enc Try.prog Try.f7 false true false false) := by
  refine returnsInHanded_of_change (C := Try.checked) own started (by kernel_rfl) Try.func7
    (ChangeSpec.witness6 (enc := enc) (C := Try.checked) false ⟨#[], #[.agg #[.slice none 0 0, .slice none 0 0, .slice none 0 0, .int .i64 0]], []⟩ 8 (by kernel_rfl) (by kernel_rfl) (by kernel_rfl) (by kernel_rfl)) ?_
  intro W base args ds gs before hval0 hW hcnd _
  have hval : ∀ (j : Nat) t v, Try.f7.params[j]? = some t → args[j]? = some v → Value.okWide Try.prog W .any base t v := hval0
  have hW' := hW
  obtain ⟨p, q, hA0, hV, rfl, hfz, hnd⟩ := hW
  have hA : DataW.TrodAll enc Try.prog W 0 (fun _ => true) true Try.f7.params.toList args.toList ds p := hA0
  rw [Try.params7] at hA hval
  obtain ⟨v0, vs0, d0, ds0, p0, q0, hargs, rfl, rfl, h0, r0⟩ := trodAll_cons hA
  obtain ⟨rfl, rfl, rfl⟩ := trodAll_nil r0
  obtain rfl : args = #[v0] := by cases args; simp_all
  obtain ⟨rfl, rfl⟩ := trodVars_none hV
  have lt0 : ∀ x ∈ p0, x.block < W.heap.size := by obtain ⟨m, hm⟩ := h0; exact DataW.trod_lt m _ _ _ hm
  have k0 := h0
  obtain ⟨a0, n0, c0, s0, a1, n1, c1, s1, a2, n2, c2, s2, z, rfl, rs, rt, ru, lt, lu, hz⟩ := open_q (hval 0 45 v0 rfl rfl) h0
  clear hA0 hval0
  refine (walk a0 n0 c0 s0 a1 n1 c1 s1 a2 n2 c2 s2 z W rs rt ru lt lu hz).mono fun e W' ⟨he, bel⟩ => ?_
  subst he
  exact ⟨_, rfl, _, _, _, [], _, [], hW', trodAll_mk1 (shut_bool Try.underlying4 _), (trodAll_cons_mk (Below.trod laidOut (by kernel_rfl) (of_decide_eq_true (by kernel_rfl)) k0 bel lt0) trodAll_mk0), rfl, bel.frame _, fun h => by cases h⟩

theorem proved : Rows.LogCrashesSaid :=
  OpenClaim.holds_of_wide 7 Try.f7 rfl rfl rfl rfl rfl rfl rfl ⟨rfl, rfl, rfl, rfl, rfl⟩ rfl rfl rfl rfl rfl (by kernel_rfl) Try.func7 (by kernel_rfl)
    (of_decide_eq_true (by kernel_rfl)) (by unfold Func.isWrapper; first | (rw [if_pos (by decide +kernel)]; kernel_rfl) | (rw [if_neg (by decide +kernel)]; exact ⟨rfl, rfl⟩))
    (fun os started H enc _ => lifted os started H enc)
#print axioms proved
end Go.Proofs.Ytbkcdnjpakicmaa.LogCrashes

/- The walks of tally: Add. -/
import Derived.Test.YtocoohpekpkmkaaFrameRead
import Derived.Test.YtocoohpekpkmkaaTallyWalks
import Derived.Test.YtocoohpekpkmkaaWf
/- The walk of package frame's Get. -/
namespace Go.Proofs.Ytocoohpekpkmkaa
set_option linter.unusedVariables false
set_option linter.unusedSimpArgs false
open Go.RowKit
/-- A region that must not panic: what holds behind a panic is no matter. -/
def NoPanic (Q : Exit → Act → World → Prop) : Exit → Act → World → Prop
  | .panic _, _, _ => False
  | e, a, w => Q e a w
theorem NoPanic.ok {Q : Exit → Act → World → Prop} {a : Act} {w : World} (h : Q .normal a w) : NoPanic Q .normal a w := h
theorem wp_nopanic {P : Program} {c : Code} {Q : Exit → Act → World → Prop} {a : Act} {w : World} (h : c.wp P (NoPanic Q) a w) : c.wp P Q a w :=
  Code.wp_mono (fun e a w h => by cases e <;> first | exact h | exact False.elim h) h
namespace Frame
/-- What Get leaves. -/
def GetF (w : World) (bs : List UInt8) (e : Ending) (w' : World) : Prop :=
  Below w.heap.size w w' ∧ match dec bs with
    | .ok (x, r) => ∃ A1 c1 A2 c2, e = .returned (.tuple #[.slice A1 x.length c1, .slice A2 r.length c2, .int .i64 0]) ∧ OwnB w' w.heap.size A1 x.length c1 x ∧ OwnB w' w.heap.size A2 r.length c2 r ∧ ∀ g, A1.map (·.block) = some g → A2.map (·.block) ≠ some g
    | .error y => e = .returned (.tuple #[.slice none 0 0, .slice none 0 0, .int .i64 (y : Nat)])
set_option maxRecDepth 100000 in
set_option maxHeartbeats 400000 in
theorem get_any (A : Option Addr) (n c : Nat) (bs : List UInt8) (B : Nat) (w : World) (hb : RdB w B A n bs) (hB : B ≤ w.heap.size) (hl : n ≤ 140737488355000) (hc : n ≤ c) (hm : c ≤ maxLen) :
    Calls Try.prog 63 #[.slice A n c] w (GetF w bs) := by
  obtain rfl := hb.1
  have hb0 := hb.alloc hB (.cells #[.int .i64 0] 33)
  have k0 := Blk.new w 33 #[.int .i64 0]
  have hbw : Below w.heap.size w (w.alloc (.cells #[.int .i64 0] 33)) := (Below.refl _ _).alloc (Nat.le_refl _) _
  have hBw : B ≤ (w.alloc (.cells #[.int .i64 0] 33)).heap.size := by simp; omega
  rcases hd : dec bs with y | ⟨x, r⟩
  · have HD := Lib.hid hd
    clear hd
    go_enter_defers Try.func63, Try.ntmps63
    go_wp2_with fail
    refine (read_any _ _ _ bs B _ hb0 hBw hl hc hm).mono ?_
    rintro e w1 ⟨hb1, he⟩
    rw [HD.out] at he
    simp only at he
    subst he
    have k1 := k0.below hb1 k0.lt
    have hb2 := hbw.trans (hb1.mono hbw.size)
    go_wp2_with fail
    refine leaves_cons (f := 104) (args := #[.pointer (some ⟨w.heap.size, 0, none⟩)]) (by simp) (by simp [go_sem]) ?_
    refine (caught_panic _ _ _ _ _ (k1.cell 0) (k1.free 0)).mono ?_
    rintro e u' w'' ⟨rfl, rfl, rfl⟩
    have k2 := (k1.alloc (.cells #[.int .i64 (y : Nat)] 194)).set_ 0 (.int .i64 (y : Nat))
    have c2 := k2.cell 0
    have hb3 : Below w.heap.size w ((w1.alloc (.cells #[.int .i64 (y : Nat)] 194)).setCell ⟨w.heap.size, 0, none⟩ (.int .i64 (y : Nat))) := (hb2.alloc hb2.size _).setCell (Nat.le_refl _) _
    refine ⟨.tuple #[.slice none 0 0, .slice none 0 0, .int .i64 (y : Nat)], by simp [results, Try.results63, go_sem, c2], hb3, ?_⟩
    rw [HD.out]
  · have HD := Lib.hid hd
    obtain ⟨hfx, hxl⟩ := dec_ok hd
    have hfl : (frm x).length + r.length = bs.length := by rw [hfx, List.length_append]
    have hpos : 0 < (frm x).length := by rw [frm_length]; omega
    have hdr : bs.drop (frm x).length = r := by rw [hfx, List.drop_left]
    obtain ⟨a, rfl, hab, _⟩ := hb.at_ (k := 0) (by omega)
    obtain ⟨m, hmm⟩ : ∃ m, m = (frm x).length := ⟨_, rfl⟩
    rw [← hmm] at hfl hpos hdr
    have HM := Lib.hid hmm
    have HR := Lib.hid hdr
    clear hd hfx hmm hdr
    go_enter_defers Try.func63, Try.ntmps63
    go_wp2_with fail
    refine (read_any _ _ _ bs B _ hb0 hBw hl hc hm).mono ?_
    rintro e w1 ⟨hb1, he⟩
    rw [HD.out] at he
    simp only at he
    obtain ⟨A1, c1, rfl, hx1⟩ := he
    rw [← HM.out]
    have k1 := k0.below hb1 k0.lt
    have hb2 := hbw.trans (hb1.mono hbw.size)
    have hr1 := (hb0.below (hb1.mono hBw)).drop m
    rw [HR.out] at hr1
    have hrn : bs.length - m = r.length := by omega
    rw [hrn] at hr1
    have hr2 : RdB w1.drew B (if c = m then some a else some (a.add m)) r.length r := by
      split
      · rename_i h
        have : r = [] := List.eq_nil_of_length_eq_zero (by omega)
        rw [this]
        exact RdB.nil _ _ _
      · exact hr1
    have hx2 : RdB w1.drew B A1 x.length x := hx1
    obtain ⟨A2, hA2⟩ : ∃ A2, A2 = (if c = m then some a else some (a.add m)) := ⟨_, rfl⟩
    rw [← hA2] at hr2
    have hA3 := hA2.symm
    clear hA2 hr1 hx1
    have le1 : m ≤ bs.length := by omega
    have hB1 : B ≤ w1.drew.heap.size := Nat.le_trans hBw hb1.size
    go_upto_region 3 with fail
    refine wp_nopanic ?_
    go_region_with (first
      | (go_at_call_of 106 (Value.slice A1 x.length c1); refine (clone_any _ _ _ _ _ _ hx2 hB1 (by omega)).mono ?_; rintro e w3 ⟨A3, n3, c3, rfl, o3, b3⟩; have hr3 := hr2.below (b3.mono hB1); have hB3 := Nat.le_trans hB1 b3.size; have k3 := k1.drew.below b3 k1.lt; obtain rfl := o3.1)
      | (go_at_call 106; refine (clone_any _ _ _ _ _ _ hr3 hB3 (by omega)).mono ?_; rintro e w4 ⟨A4, n4, c4, rfl, o4, b4⟩; have k4 := k3.below b4 k3.lt; have f4 := k4.free 0; have q4 := k4.cell 0; have o3b := o3.below b4 (Nat.le_refl _); obtain rfl := o4.1))
    refine NoPanic.ok ?_
    go_wp2_with fail
    refine leaves_cons (f := 104) (args := #[.pointer (some ⟨w.heap.size, 0, none⟩)]) (by simp) (by simp [go_sem]) ?_
    refine (caught_none _ _).mono ?_
    rintro e u' w'' ⟨rfl, rfl, rfl⟩
    have k5 := k4.set_ 0 (.int .i64 0)
    have c5 := k5.cell 0
    have hs1 : w.heap.size < w1.heap.size := k1.lt
    have hs3 : w1.heap.size ≤ w3.heap.size := b3.size
    have ne3 : A3.map (·.block) ≠ some w.heap.size := fun e => by
      have := (o3b.lt _ e).1
      simp at this
      omega
    have ne4 : A4.map (·.block) ≠ some w.heap.size := fun e => by
      have := (o4.lt _ e).1
      omega
    have hb4 : Below w.heap.size w w4 := (hb2.drew.trans (b3.mono hb2.size)).trans (b4.mono (by have := hb2.size; omega))
    refine ⟨.tuple #[.slice A3 x.length c3, .slice A4 r.length c4, .int .i64 0], by simp [results, Try.results63, go_sem, c5], hb4.setCell (Nat.le_refl _) _, ?_⟩
    rw [HD.out]
    refine ⟨A3, c3, A4, c4, rfl, (o3b.setFar ne3 _).mono ?_, (o4.setFar ne4 _).mono ?_, fun g hg hg2 => ?_⟩
    · show w.heap.size ≤ w1.heap.size; omega
    · omega
    · have l1 := (o3.lt _ hg).2
      have l2 := (o4.lt _ hg2).1
      omega
end Frame
end Go.Proofs.Ytocoohpekpkmkaa

/- '==' between two tallies. -/
namespace Go.Proofs.Ytocoohpekpkmkaa
set_option linter.unusedVariables false
set_option linter.unusedSimpArgs false
open Go.RowKit
open Tally
theorem right_wf {l : List Int} (h : rightB l = true) : Wf l := fun x hx => by
  obtain ⟨i, hi, rfl⟩ := List.getElem_of_mem hx
  have := right_at h i
  rw [List.getD_eq_getElem?_getD, List.getElem?_eq_getElem hi] at this
  unfold top at this
  simp only [Option.getD_some] at this
  exact wf_of (by omega) (by omega)
theorem split8 (l : List Int) (hl : l.length = 16) : l.map (Lit.int .i64) = (l.take 8).map (Lit.int .i64) ++ (l.drop 8).map (Lit.int .i64) := by rw [← List.map_append, List.take_append_drop]
/-- A type of two arrays of eight ints. -/
def TwoT (T : TypeId) : Prop := (∃ f0 f1 : Field, (Try.prog).underlying T = some (.struct #[f0, f1]) ∧ f0.type = 22 ∧ f0.offset = 0 ∧ f1.type = 22 ∧ f1.offset = 8 ∧ f0.name ≠ "_" ∧ f1.name ≠ "_") ∧ (Try.prog).cellsOf T = 16 ∧ (Try.prog).keyTypeAt 4 T = true ∧ (Try.prog).eqGuardType (Try.prog).depth T = false
theorem twoT : TwoT 80 := ⟨⟨_, _, Try.underlying80, rfl, rfl, rfl, rfl, by decide, by decide⟩, by kernel_rfl, by kernel_rfl, by kernel_rfl⟩
theorem twoR : TwoT 73 := ⟨⟨_, _, Try.underlying73, rfl, rfl, rfl, rfl, by decide, by decide⟩, by kernel_rfl, by kernel_rfl, by kernel_rfl⟩
theorem keyLits_tc {T : TypeId} (hT : TwoT T) (l : List Int) (hl : l.length = 16) (hw : Wf l) : (Try.prog).keyLits 3 T (tc l).toList = some (l.map (Lit.int .i64)) := by
  obtain ⟨⟨f0, f1, hu, t0, o0, t1, o1, n0, n1⟩, hc, _, _⟩ := hT
  have h0 := keyLits_arr 0 (l.take 8) (by simp; omega) (fun x hx => hw x (List.mem_of_mem_take hx))
  have h1 := keyLits_arr 0 (l.drop 8) (by simp; omega) (fun x hx => hw x (List.mem_of_mem_drop hx))
  have e0 : (((tc l).toList.drop 0).take 8) = (l.take 8).map (Value.int .i64) := by simp [tc]
  have e1 : (((tc l).toList.drop 8).take 8) = (l.drop 8).map (Value.int .i64) := by
    simp only [tc]
    rw [← List.map_drop, List.take_of_length_le (by simp; omega)]
  unfold Program.keyLits
  have hcs : (tc l).toList.length = 16 := by rw [Array.length_toList, tc_size, hl]
  simp only [hu, hcs, hc]
  rw [if_pos ⟨trivial, by simp [n0, n1]⟩]
  simp only [List.mapM_cons, List.mapM_nil, t0, t1, o0, o1, cellsA, e0, e1, h0, h1]
  rw [split8 l hl]
  simp
theorem eq_run {T : TypeId} (hT : TwoT T) (w : World) (a b : List Int) (ha : a.length = 16) (hb : b.length = 16) (wa : Wf a) (wb : Wf b) :
    (binOp .eql T (.agg (tc a)) (.agg (tc b))).run Try.prog w = .ok (.bool (decide (a = b))) w := by
  have hk := hT.2.2.1
  have hfm : ∀ l : List Int, l.length = 16 → (Value.agg (tc l)).formed Try.prog T = true := fun l hl => by
    obtain ⟨⟨f0, f1, hu, _⟩, hc, _⟩ := hT
    simp [Value.formed, hu, hc, tc_size, hl]
  obtain ⟨r, h1, h2⟩ := run_equalIn_deep (P := Try.prog) 9996 4 T hk w 3 3 (.agg (tc a)) (.agg (tc b)) _ _ (hfm a ha) (hfm b hb) (keyLits_tc hT a ha wa) (keyLits_tc hT b hb wb)
  rw [run_eql_struct, h1]
  have : r = decide (a = b) := by
    rw [Bool.eq_iff_iff, h2, decide_eq_true_eq]
    constructor
    · intro h
      exact (List.map_inj_right (fun x y h => by injection h)).1 h
    · intro h; rw [h]
  rw [this]
  rfl
section
variable {ops : Array Oper} {rest : List Oper} {d : Option Tmp} {ty : TypeId} {pos : String} {aft : Array Edge} {gd : Option (Nat × Bool)} {x y : Operand} {T z : TypeId} {A B : List Int}
theorem exec_eq {a : Act} (hT : TwoT T) (ha : A.length = 16) (hb : B.length = 16) (wa : Wf A) (wb : Wf B) (hx : a.eval x = .agg (tc A)) (hy : a.eval y = .agg (tc B)) (w : World) : (execOp a.eval ⟨d, .binOp .eql T x y z, ty, pos, aft, gd⟩).run Try.prog w = .ok (.value (.bool (decide (A = B)))) w := by
  unfold execOp
  simp only [hx, hy, Sem.run_bind, run_eqGuard_agg w .eql T x y (tc A) (tc B) hT.2.2.2, Result.andThen_ok, eq_run hT w A B ha hb wa wb, Sem.run_pure]
theorem quiet_eq {a : Act} {Q : Act → Prop} {C : World → Prop} (hT : TwoT T) (ha : A.length = 16) (hb : B.length = 16) (wa : Wf A) (wb : Wf B)
    (h : wpQuiet Try.prog ops C Q rest (a.put d (.bool (decide (A = B))))) (hx : a.eval x = .agg (tc A)) (hy : a.eval y = .agg (tc B)) (hw : Region.wanted ⟨d, .binOp .eql T x y z, ty, pos, aft, gd⟩ (yielded ops a.tmps) = true) : wpQuiet Try.prog ops C Q (⟨d, .binOp .eql T x y z, ty, pos, aft, gd⟩ :: rest) a := by
  unfold wpQuiet
  rw [if_pos hw]
  refine ⟨.bool (decide (A = B)), fun w hC => ?_, h⟩
  unfold Oper.quietAt
  rw [exec_eq hT ha hb wa wb hx hy w]
  exact ⟨rfl, rfl⟩
theorem wpList_eq {a : Act} {w : World} {Q : Exit → Act → World → Prop} (hT : TwoT T) (ha : A.length = 16) (hb : B.length = 16) (wa : Wf A) (wb : Wf B)
    (h : wpList Try.prog ops Q rest (a.put d (.bool (decide (A = B)))) w) (hx : a.eval x = .agg (tc A)) (hy : a.eval y = .agg (tc B)) (hw : Region.wanted ⟨d, .binOp .eql T x y z, ty, pos, aft, gd⟩ (yielded ops a.tmps) = true) : wpList Try.prog ops Q (⟨d, .binOp .eql T x y z, ty, pos, aft, gd⟩ :: rest) a w := by
  refine wpList_step fun K hK => ?_
  rw [if_pos hw]
  unfold Oper.wp
  rw [exec_eq hT ha hb wa wb hx hy w]
  exact hK _ _ h
theorem ne_run {T : TypeId} (hT : TwoT T) (w : World) (a b : List Int) (ha : a.length = 16) (hb : b.length = 16) (wa : Wf a) (wb : Wf b) :
    (binOp .neq T (.agg (tc a)) (.agg (tc b))).run Try.prog w = .ok (.bool (!decide (a = b))) w := by
  have h := eq_run hT w a b ha hb wa wb
  rw [run_eql_struct] at h
  rw [run_neq_struct]
  revert h
  generalize (Op.equalIn 10000 T (.agg (tc a)) (.agg (tc b))).run Try.prog w = r
  intro h
  cases r with
  | halt x w' => simp [Result.andThen] at h
  | ok b' w' =>
    simp only [Result.andThen_ok] at h ⊢
    injection h with h1 h2
    injection h1 with h1
    rw [h1, h2]
theorem quiet_ne {a : Act} {Q : Act → Prop} {C : World → Prop} (hT : TwoT T) (ha : A.length = 16) (hb : B.length = 16) (wa : Wf A) (wb : Wf B)
    (h : wpQuiet Try.prog ops C Q rest (a.put d (.bool (!decide (A = B))))) (hx : a.eval x = .agg (tc A)) (hy : a.eval y = .agg (tc B)) (hw : Region.wanted ⟨d, .binOp .neq T x y z, ty, pos, aft, gd⟩ (yielded ops a.tmps) = true) : wpQuiet Try.prog ops C Q (⟨d, .binOp .neq T x y z, ty, pos, aft, gd⟩ :: rest) a := by
  unfold wpQuiet
  rw [if_pos hw]
  refine ⟨.bool (!decide (A = B)), fun w hC => ?_, h⟩
  unfold Oper.quietAt execOp
  simp only [hx, hy, Sem.run_bind, run_eqGuard_agg w .neq T x y (tc A) (tc B) hT.2.2.2, Result.andThen_ok, ne_run hT w A B ha hb wa wb, Sem.run_pure]
  exact ⟨rfl, rfl⟩
end
end Go.Proofs.Ytocoohpekpkmkaa

namespace Go.Proofs.Ytocoohpekpkmkaa
set_option linter.unusedVariables false
set_option linter.unusedSimpArgs false
open Go.RowKit
open Tally
def AddEnd (w : World) (l : List Int) (node n : Int) (e : Ending) (w' : World) : Prop := e = .returned (.tuple #[.agg (tc (addL l node n).1), .int .i64 (addL l node n).2]) ∧ Below w.heap.size w w'
set_option maxHeartbeats 2000000 in
theorem add_any (l : List Int) (node n : Int) (w : World) (hl : l.length = 16) :
    Calls Try.prog 82 #[.agg (tc l), .int .i64 node, .int .i64 n] w (AddEnd w l node n) := by
  have hs : (tc l).size = 16 := by rw [tc_size, hl]
  have HS := Lib.hid hs
  have HL := Lib.hid hl
  clear hl hs
  by_cases hr : rightB l = true
  case neg =>
    have hr2 : rightB l = false := by simpa using hr
    have HA := Lib.hid (add_bad (l := l) (node := node) (n := n) (.inl hr2))
    have HR := Lib.hid hr2
    clear hr hr2
    go_enter Try.func82, Try.ntmps82
    go_upto_region 1 with fail
    refine nameW ?_
    intro wv hwv
    obtain ⟨g, hg⟩ : ∃ g, g = w.heap.size := ⟨_, rfl⟩
    rw [← hg]
    have k0 : Blk wv g 80 (tc l) := by rw [hwv, hg]; exact (Blk.new w _ _).alloc _
    have k1 : Blk wv (g + 1) 80 (tc zero) := by
      have h := Blk.new (w.alloc (.cells (tc l) 80)) 80 (tc zero)
      rw [zero_tc] at h
      rw [zero_tc, hwv, hg]
      simpa using h
    have hb : Below w.heap.size w wv := by rw [hwv]; exact ((Below.refl _ _).alloc (Nat.le_refl _) _).alloc (by simp) _
    have hgw : w.heap.size ≤ g := by omega
    clear hwv hg
    go_wp2_with ((with_reducible refine wpList_ld rowT k0 HS.out ?_ ?_); rotate_left; (rfl))
    refine (right_any l wv HL.out).mono ?_
    rintro e w1 ⟨rfl, h1⟩
    have k0a := k0.below h1 k0.lt
    have k1a := k1.below h1 k1.lt
    have b1 := hb.trans (h1.mono hb.size)
    clear k0 k1 hb h1
    rw [HR.out]
    go_wp2_with ((with_reducible refine wpList_st rowT k1a zero_size zero_size (tc_one zero) ?_ ?_ ?_); rotate_left; (rfl); (rfl); intro w2 k2 g2 z2)
    have b2 := b1.grown g2 b1.size (fun q hq => by injection hq; omega)
    exact bodyPost_ret (v := .tuple #[.agg (tc zero), .int .i64 2]) (results_blk2 rfl rowT k2 zero_size rfl rfl) rfl ⟨by rw [HA.out], b2⟩
  have HR := Lib.hid hr
  clear hr
  by_cases hn : inB node 0 7 = true
  case neg =>
    have hn2 : inB node 0 7 = false := by simpa using hn
    have HA := Lib.hid (add_bad (l := l) (node := node) (n := n) (.inr (.inl hn2)))
    have hw := within_any node 0 7
    rw [hn2] at hw
    have HW := Lib.hid hw
    clear hn hn2 hw
    go_enter Try.func82, Try.ntmps82
    go_upto_region 1 with fail
    refine nameW ?_
    intro wv hwv
    obtain ⟨g, hg⟩ : ∃ g, g = w.heap.size := ⟨_, rfl⟩
    rw [← hg]
    have k0 : Blk wv g 80 (tc l) := by rw [hwv, hg]; exact (Blk.new w _ _).alloc _
    have k1 : Blk wv (g + 1) 80 (tc zero) := by
      have h := Blk.new (w.alloc (.cells (tc l) 80)) 80 (tc zero)
      rw [zero_tc] at h
      rw [zero_tc, hwv, hg]
      simpa using h
    have hb : Below w.heap.size w wv := by rw [hwv]; exact ((Below.refl _ _).alloc (Nat.le_refl _) _).alloc (by simp) _
    have hgw : w.heap.size ≤ g := by omega
    clear hwv hg
    go_wp2_with ((with_reducible refine wpList_ld rowT k0 HS.out ?_ ?_); rotate_left; (rfl))
    refine (right_any l wv HL.out).mono ?_
    rintro e w1 ⟨rfl, h1⟩
    have k0a := k0.below h1 k0.lt
    have k1a := k1.below h1 k1.lt
    have b1 := hb.trans (h1.mono hb.size)
    clear k0 k1 hb h1
    rw [HR.out]
    go_wp2_with fail
    refine (HW.out w1 (by omega)).mono ?_
    rintro e w' ⟨rfl, rfl⟩
    go_wp2_with ((with_reducible refine wpList_st rowT k1a zero_size zero_size (tc_one zero) ?_ ?_ ?_); rotate_left; (rfl); (rfl); intro w2 k2 g2 z2)
    have b2 := b1.grown g2 b1.size (fun q hq => by injection hq; omega)
    exact bodyPost_ret (v := .tuple #[.agg (tc zero), .int .i64 2]) (results_blk2 rfl rowT k2 zero_size rfl rfl) rfl ⟨by rw [HA.out], b2⟩
  have hnb := (inB_iff _ _ _).1 hn
  have HN := Lib.hid hn
  have hw := within_any node 0 7
  rw [hn] at hw
  have HW := Lib.hid hw
  clear hn hw
  by_cases hm : inB n (-top) top = true
  case neg =>
    have hm2 : inB n (-top) top = false := by simpa using hm
    have HA := Lib.hid (add_bad (l := l) (node := node) (n := n) (.inr (.inr hm2)))
    have hw2 := within_any n (-top) top
    rw [hm2] at hw2
    have HW2 := Lib.hid hw2
    clear hm hm2 hw2
    go_enter Try.func82, Try.ntmps82
    go_upto_region 1 with fail
    refine nameW ?_
    intro wv hwv
    obtain ⟨g, hg⟩ : ∃ g, g = w.heap.size := ⟨_, rfl⟩
    rw [← hg]
    have k0 : Blk wv g 80 (tc l) := by rw [hwv, hg]; exact (Blk.new w _ _).alloc _
    have k1 : Blk wv (g + 1) 80 (tc zero) := by
      have h := Blk.new (w.alloc (.cells (tc l) 80)) 80 (tc zero)
      rw [zero_tc] at h
      rw [zero_tc, hwv, hg]
      simpa using h
    have hb : Below w.heap.size w wv := by rw [hwv]; exact ((Below.refl _ _).alloc (Nat.le_refl _) _).alloc (by simp) _
    have hgw : w.heap.size ≤ g := by omega
    clear hwv hg
    go_wp2_with ((with_reducible refine wpList_ld rowT k0 HS.out ?_ ?_); rotate_left; (rfl))
    refine (right_any l wv HL.out).mono ?_
    rintro e w1 ⟨rfl, h1⟩
    have k0a := k0.below h1 k0.lt
    have k1a := k1.below h1 k1.lt
    have b1 := hb.trans (h1.mono hb.size)
    clear k0 k1 hb h1
    rw [HR.out]
    go_wp2_with fail
    refine (HW.out w1 (by omega)).mono ?_
    rintro e w' ⟨rfl, rfl⟩
    go_wp2_with fail
    refine (HW2.out w1 (by decide)).mono ?_
    rintro e w' ⟨rfl, rfl⟩
    go_wp2_with ((with_reducible refine wpList_st rowT k1a zero_size zero_size (tc_one zero) ?_ ?_ ?_); rotate_left; (rfl); (rfl); intro w2 k2 g2 z2)
    have b2 := b1.grown g2 b1.size (fun q hq => by injection hq; omega)
    exact bodyPost_ret (v := .tuple #[.agg (tc zero), .int .i64 2]) (results_blk2 rfl rowT k2 zero_size rfl rfl) rfl ⟨by rw [HA.out], b2⟩
  have hmb := (inB_iff _ _ _).1 hm
  have HM := Lib.hid hm
  have hw2 := within_any n (-top) top
  rw [hm] at hw2
  have HW2 := Lib.hid hw2
  clear hm hw2
  obtain ⟨k, rfl⟩ := Int.eq_ofNat_of_zero_le hnb.1
  have hk7 : k < 8 := by omega
  by_cases hneg : n < 0
  · obtain ⟨p, rfl⟩ : ∃ p : Int, n = -p := ⟨-n, by omega⟩
    have hp : 1 ≤ p ∧ p ≤ 1099511627776 := by unfold top at hmb; omega
    have hsl : slot (k : Int) (-p) = 8 + k := by unfold slot; split <;> omega
    have ham : amt (-p) = p := by unfold amt; split <;> omega
    have hok := add_ok (l := l) HR.out HN.out HM.out
    have hfu := add_full (l := l) HR.out HN.out HM.out
    rw [hsl, ham] at hok hfu
    unfold top at hok hfu
    clear hsl ham
    by_cases hov : 1099511627776 - p < l.getD (8 + k) 0
    · have HA := Lib.hid (hfu hov)
      clear hok hfu hmb hnb hneg
      go_enter Try.func82, Try.ntmps82
      go_upto_region 1 with fail
      refine nameW ?_
      intro wv hwv
      obtain ⟨g, hg⟩ : ∃ g, g = w.heap.size := ⟨_, rfl⟩
      rw [← hg]
      have k0 : Blk wv g 80 (tc l) := by rw [hwv, hg]; exact (Blk.new w _ _).alloc _
      have k1 : Blk wv (g + 1) 80 (tc zero) := by
        have h := Blk.new (w.alloc (.cells (tc l) 80)) 80 (tc zero)
        rw [zero_tc] at h
        rw [zero_tc, hwv, hg]
        simpa using h
      have hb : Below w.heap.size w wv := by rw [hwv]; exact ((Below.refl _ _).alloc (Nat.le_refl _) _).alloc (by simp) _
      have hgw : w.heap.size ≤ g := by omega
      clear hwv hg
      go_wp2_with ((with_reducible refine wpList_ld rowT k0 HS.out ?_ ?_); rotate_left; (rfl))
      refine (right_any l wv HL.out).mono ?_
      rintro e w1 ⟨rfl, h1⟩
      have k0a := k0.below h1 k0.lt
      have k1a := k1.below h1 k1.lt
      have b1 := hb.trans (h1.mono hb.size)
      clear k0 k1 hb h1
      rw [HR.out]
      go_wp2_with fail
      refine (HW.out w1 (by omega)).mono ?_
      rintro e w' ⟨rfl, rfl⟩
      go_wp2_with fail
      refine (HW2.out w1 (by decide)).mono ?_
      rintro e w' ⟨rfl, rfl⟩
      have c1 := k0a.tcell (i := 8 + k) (by rw [HL.out]; omega)
      have c2 := k0a.free (8 + k)
      have hov2 : decide (1099511627776 - p < l.getD (8 + k) 0) = true := decide_eq_true (by omega)
      generalize l.getD (8 + k) 0 = x at *
      go_wp2_with ((with_reducible refine wpList_st rowT k1a zero_size zero_size (tc_one zero) ?_ ?_ ?_); rotate_left; (rfl); (rfl); intro w2 k2 g2 z2)
      have b2 := b1.grown g2 b1.size (fun q hq => by injection hq; omega)
      exact bodyPost_ret (v := .tuple #[.agg (tc zero), .int .i64 7]) (results_blk2 rfl rowT k2 zero_size rfl rfl) rfl ⟨by rw [HA.out], b2⟩
    · have HA := Lib.hid (hok hov)
      clear hok hfu hmb hnb hneg
      go_enter Try.func82, Try.ntmps82
      go_upto_region 1 with fail
      refine nameW ?_
      intro wv hwv
      obtain ⟨g, hg⟩ : ∃ g, g = w.heap.size := ⟨_, rfl⟩
      rw [← hg]
      have k0 : Blk wv g 80 (tc l) := by rw [hwv, hg]; exact (Blk.new w _ _).alloc _
      have k1 : Blk wv (g + 1) 80 (tc zero) := by
        have h := Blk.new (w.alloc (.cells (tc l) 80)) 80 (tc zero)
        rw [zero_tc] at h
        rw [zero_tc, hwv, hg]
        simpa using h
      have hb : Below w.heap.size w wv := by rw [hwv]; exact ((Below.refl _ _).alloc (Nat.le_refl _) _).alloc (by simp) _
      have hgw : w.heap.size ≤ g := by omega
      clear hwv hg
      go_wp2_with ((with_reducible refine wpList_ld rowT k0 HS.out ?_ ?_); rotate_left; (rfl))
      refine (right_any l wv HL.out).mono ?_
      rintro e w1 ⟨rfl, h1⟩
      have k0a := k0.below h1 k0.lt
      have k1a := k1.below h1 k1.lt
      have b1 := hb.trans (h1.mono hb.size)
      clear k0 k1 hb h1
      rw [HR.out]
      go_wp2_with fail
      refine (HW.out w1 (by omega)).mono ?_
      rintro e w' ⟨rfl, rfl⟩
      go_wp2_with fail
      refine (HW2.out w1 (by decide)).mono ?_
      rintro e w' ⟨rfl, rfl⟩
      have c1 := k0a.tcell (i := 8 + k) (by rw [HL.out]; omega)
      have c2 := k0a.free (8 + k)
      have hov2 : decide (1099511627776 - p < l.getD (8 + k) 0) = false := decide_eq_false (by omega)
      have hxb := right_at HR.out (8 + k)
      unfold top at hxb
      obtain ⟨x, hx⟩ : ∃ x, l.getD (8 + k) 0 = x := ⟨_, rfl⟩
      rw [hx] at c1 hov2 hov hxb HA
      clear hx
      have k0b : Blk (w1.setCell ⟨g, 8 + k, none⟩ (.int .i64 (x + p))) g 80 (tc (l.set (8 + k) (x + p))) := by
        have h := k0a.set_ (8 + k) (.int .i64 (x + p))
        rwa [tc_set] at h
      have k1b : Blk (w1.setCell ⟨g, 8 + k, none⟩ (.int .i64 (x + p))) (g + 1) 80 (tc zero) := k1a.far (p := ⟨g, 8 + k, none⟩) (by simp) _
      have HS2 : Hid ((tc (l.set (8 + k) (x + p))).size = 16) := by
        have : (tc (l.set (8 + k) (x + p))).size = 16 := by rw [tc_size, List.length_set, HL.out]
        exact Lib.hid this
      have b1b : Below w.heap.size w (w1.setCell ⟨g, 8 + k, none⟩ (.int .i64 (x + p))) := b1.setCell hgw _
      have hone := tc_one (l.set (8 + k) (x + p))
      have HONE := Lib.hid hone
      clear hone k0a k1a b1
      generalize l.set (8 + k) (x + p) = m at *
      go_wp2_with (first
        | ((with_reducible refine wpList_ld rowT k0b HS2.out ?_ ?_); rotate_left; (rfl))
        | ((with_reducible refine wpList_st rowT k1b HS2.out zero_size HONE.out ?_ ?_ ?_); rotate_left; (rfl); (rfl); intro w2 k2 g2 z2))
      have b2 := b1b.grown g2 b1b.size (fun q hq => by injection hq; omega)
      exact bodyPost_ret (v := .tuple #[.agg (tc m), .int .i64 0]) (results_blk2 rfl rowT k2 HS2.out rfl rfl) rfl ⟨by rw [HA.out], b2⟩
  · have hp : 0 ≤ n ∧ n ≤ 1099511627776 := by unfold top at hmb; omega
    have hsl : slot (k : Int) (n) = k := by unfold slot; split <;> omega
    have ham : amt (n) = n := by unfold amt; split <;> omega
    have hok := add_ok (l := l) HR.out HN.out HM.out
    have hfu := add_full (l := l) HR.out HN.out HM.out
    rw [hsl, ham] at hok hfu
    unfold top at hok hfu
    clear hsl ham
    by_cases hov : 1099511627776 - n < l.getD (k) 0
    · have HA := Lib.hid (hfu hov)
      clear hok hfu hmb hnb hneg
      go_enter Try.func82, Try.ntmps82
      go_upto_region 1 with fail
      refine nameW ?_
      intro wv hwv
      obtain ⟨g, hg⟩ : ∃ g, g = w.heap.size := ⟨_, rfl⟩
      rw [← hg]
      have k0 : Blk wv g 80 (tc l) := by rw [hwv, hg]; exact (Blk.new w _ _).alloc _
      have k1 : Blk wv (g + 1) 80 (tc zero) := by
        have h := Blk.new (w.alloc (.cells (tc l) 80)) 80 (tc zero)
        rw [zero_tc] at h
        rw [zero_tc, hwv, hg]
        simpa using h
      have hb : Below w.heap.size w wv := by rw [hwv]; exact ((Below.refl _ _).alloc (Nat.le_refl _) _).alloc (by simp) _
      have hgw : w.heap.size ≤ g := by omega
      clear hwv hg
      go_wp2_with ((with_reducible refine wpList_ld rowT k0 HS.out ?_ ?_); rotate_left; (rfl))
      refine (right_any l wv HL.out).mono ?_
      rintro e w1 ⟨rfl, h1⟩
      have k0a := k0.below h1 k0.lt
      have k1a := k1.below h1 k1.lt
      have b1 := hb.trans (h1.mono hb.size)
      clear k0 k1 hb h1
      rw [HR.out]
      go_wp2_with fail
      refine (HW.out w1 (by omega)).mono ?_
      rintro e w' ⟨rfl, rfl⟩
      go_wp2_with fail
      refine (HW2.out w1 (by decide)).mono ?_
      rintro e w' ⟨rfl, rfl⟩
      have c1 := k0a.tcell (i := k) (by rw [HL.out]; omega)
      have c2 := k0a.free (k)
      have hov2 : decide (1099511627776 - n < l.getD (k) 0) = true := decide_eq_true (by omega)
      generalize l.getD (k) 0 = x at *
      go_wp2_with ((with_reducible refine wpList_st rowT k1a zero_size zero_size (tc_one zero) ?_ ?_ ?_); rotate_left; (rfl); (rfl); intro w2 k2 g2 z2)
      have b2 := b1.grown g2 b1.size (fun q hq => by injection hq; omega)
      exact bodyPost_ret (v := .tuple #[.agg (tc zero), .int .i64 7]) (results_blk2 rfl rowT k2 zero_size rfl rfl) rfl ⟨by rw [HA.out], b2⟩
    · have HA := Lib.hid (hok hov)
      clear hok hfu hmb hnb hneg
      go_enter Try.func82, Try.ntmps82
      go_upto_region 1 with fail
      refine nameW ?_
      intro wv hwv
      obtain ⟨g, hg⟩ : ∃ g, g = w.heap.size := ⟨_, rfl⟩
      rw [← hg]
      have k0 : Blk wv g 80 (tc l) := by rw [hwv, hg]; exact (Blk.new w _ _).alloc _
      have k1 : Blk wv (g + 1) 80 (tc zero) := by
        have h := Blk.new (w.alloc (.cells (tc l) 80)) 80 (tc zero)
        rw [zero_tc] at h
        rw [zero_tc, hwv, hg]
        simpa using h
      have hb : Below w.heap.size w wv := by rw [hwv]; exact ((Below.refl _ _).alloc (Nat.le_refl _) _).alloc (by simp) _
      have hgw : w.heap.size ≤ g := by omega
      clear hwv hg
      go_wp2_with ((with_reducible refine wpList_ld rowT k0 HS.out ?_ ?_); rotate_left; (rfl))
      refine (right_any l wv HL.out).mono ?_
      rintro e w1 ⟨rfl, h1⟩
      have k0a := k0.below h1 k0.lt
      have k1a := k1.below h1 k1.lt
      have b1 := hb.trans (h1.mono hb.size)
      clear k0 k1 hb h1
      rw [HR.out]
      go_wp2_with fail
      refine (HW.out w1 (by omega)).mono ?_
      rintro e w' ⟨rfl, rfl⟩
      go_wp2_with fail
      refine (HW2.out w1 (by decide)).mono ?_
      rintro e w' ⟨rfl, rfl⟩
      have c1 := k0a.tcell (i := k) (by rw [HL.out]; omega)
      have c2 := k0a.free (k)
      have hov2 : decide (1099511627776 - n < l.getD (k) 0) = false := decide_eq_false (by omega)
      have hxb := right_at HR.out (k)
      unfold top at hxb
      obtain ⟨x, hx⟩ : ∃ x, l.getD (k) 0 = x := ⟨_, rfl⟩
      rw [hx] at c1 hov2 hov hxb HA
      clear hx
      have k0b : Blk (w1.setCell ⟨g, k, none⟩ (.int .i64 (x + n))) g 80 (tc (l.set (k) (x + n))) := by
        have h := k0a.set_ (k) (.int .i64 (x + n))
        rwa [tc_set] at h
      have k1b : Blk (w1.setCell ⟨g, k, none⟩ (.int .i64 (x + n))) (g + 1) 80 (tc zero) := k1a.far (p := ⟨g, k, none⟩) (by simp) _
      have HS2 : Hid ((tc (l.set (k) (x + n))).size = 16) := by
        have : (tc (l.set (k) (x + n))).size = 16 := by rw [tc_size, List.length_set, HL.out]
        exact Lib.hid this
      have b1b : Below w.heap.size w (w1.setCell ⟨g, k, none⟩ (.int .i64 (x + n))) := b1.setCell hgw _
      have hone := tc_one (l.set (k) (x + n))
      have HONE := Lib.hid hone
      clear hone k0a k1a b1
      generalize l.set (k) (x + n) = m at *
      go_wp2_with (first
        | ((with_reducible refine wpList_ld rowT k0b HS2.out ?_ ?_); rotate_left; (rfl))
        | ((with_reducible refine wpList_st rowT k1b HS2.out zero_size HONE.out ?_ ?_ ?_); rotate_left; (rfl); (rfl); intro w2 k2 g2 z2))
      have b2 := b1b.grown g2 b1b.size (fun q hq => by injection hq; omega)
      exact bodyPost_ret (v := .tuple #[.agg (tc m), .int .i64 0]) (results_blk2 rfl rowT k2 HS2.out rfl rfl) rfl ⟨by rw [HA.out], b2⟩
end Go.Proofs.Ytocoohpekpkmkaa

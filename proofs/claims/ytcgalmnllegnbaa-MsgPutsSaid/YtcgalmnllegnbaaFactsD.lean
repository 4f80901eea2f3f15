/- Regions by facts, where an operation may panic: what is deferred is known there. -/
import Derived.Test.YtcgalmnllegnbaaDotSame
import Derived.DeepKeys
import Derived.Test.YtcgalmnllegnbaaMsgWalks
import Derived.Test.YtcgalmnllegnbaaEvRight
import Derived.Test.YtcgalmnllegnbaaFacts
import Derived.Test.YtcgalmnllegnbaaMsgMath
import Derived.Test.YtcgalmnllegnbaaVintMath
import Derived.Test.YtcgalmnllegnbaaVintPut
import Derived.RegionTactic
import Derived.LoopN
/- '==' between two sets' numbers. -/
namespace Go.Proofs.Ytcgalmnllegnbaa
set_option linter.unusedVariables false
set_option linter.unusedSimpArgs false
set_option maxRecDepth 100000
open Go.RowKit
open Dot
/-- Each number is one of an int64. -/
def Wf (l : List Int) : Prop := ∀ x ∈ l, (Lit.int .i64 x).wf = true
theorem wf_of {x : Int} (h1 : -9223372036854775808 ≤ x) (h2 : x ≤ 9223372036854775807) : (Lit.int .i64 x).wf = true := by
  have hmin : IntKind.i64.min = -9223372036854775808 := rfl
  have hmax : IntKind.i64.max = 9223372036854775807 := rfl
  simp only [Lit.wf, Bool.and_eq_true, decide_eq_true_eq]
  omega
set_option maxRecDepth 100000 in
theorem mapM_ints (d : Nat) (l : List Int) (hw : Wf l) : ((List.range l.length).mapM fun i => (Try.prog).keyLits (d + 1) 3 (((l.map (Value.int .i64)).drop (i * 1)).take 1)) = some (l.map fun x => [Lit.int .i64 x]) := by
  induction l with
  | nil => rfl
  | cons x r ih =>
    rw [List.length_cons, List.range_succ_eq_map, List.mapM_cons]
    have h0 : (Try.prog).keyLits (d + 1) 3 ((((x :: r).map (Value.int .i64)).drop (0 * 1)).take 1) = some [Lit.int .i64 x] := by
      have := hw x (by simp)
      simp [Program.keyLits, Try.underlying3, this]
    rw [h0]
    have hm : ((List.range r.length).map Nat.succ).mapM (fun i => (Try.prog).keyLits (d + 1) 3 ((((x :: r).map (Value.int .i64)).drop (i * 1)).take 1)) = some (r.map fun x => [Lit.int .i64 x]) := by
      rw [List.mapM_map]
      have := ih (fun y hy => hw y (by simp [hy]))
      rw [← this]
      congr 1
    simp only [Option.pure_def, Option.bind_eq_bind, Option.bind_some]
    rw [hm]
    rfl
theorem cellsI : (Try.prog).cellsOf 3 = 1 := by kernel_rfl
theorem cellsA : (Try.prog).cellsOf 22 = 8 := by kernel_rfl
theorem keyLits_arr (d : Nat) (l : List Int) (hl : l.length = 8) (hw : Wf l) : (Try.prog).keyLits (d + 2) 22 (l.map (Value.int .i64)) = some (l.map (Lit.int .i64)) := by
  have h := mapM_ints d l hw
  rw [hl] at h
  unfold Program.keyLits
  simp only [Try.underlying22, cellsA, cellsI, List.length_map, hl, if_true]
  rw [h]
  simp only [Option.map_some, Option.some.injEq]
  clear h hl hw
  induction l with
  | nil => rfl
  | cons x r ih => rw [List.map_cons, List.flatten_cons, ih]; rfl
theorem eq_run8 (w : World) (a b : List Int) (ha : a.length = 8) (hb : b.length = 8) (wa : Wf a) (wb : Wf b) :
    (binOp .eql 22 (.agg (uI a)) (.agg (uI b))).run Try.prog w = .ok (.bool (decide (a = b))) w := by
  have hk : (Try.prog).keyTypeAt 4 22 = true := by kernel_rfl
  have hfm : ∀ l : List Int, l.length = 8 → (Value.agg (uI l)).formed Try.prog 22 = true := fun l hl => by
    simp [Value.formed, Try.underlying22, cellsA, uI, hl]
  have hl : ∀ l : List Int, l.length = 8 → Wf l → (Try.prog).keyLits 3 22 (uI l).toList = some (l.map (Lit.int .i64)) := fun l hl hw => by
    have := keyLits_arr 1 l hl hw
    simpa [uI] using this
  obtain ⟨r, h1, h2⟩ := run_equalIn_deep (P := Try.prog) 9996 4 22 hk w 3 3 (.agg (uI a)) (.agg (uI b)) _ _ (hfm a ha) (hfm b hb) (hl a ha wa) (hl b hb wb)
  rw [run_eql_struct, h1]
  have : r = decide (a = b) := by
    rw [Bool.eq_iff_iff, h2, decide_eq_true_eq]
    constructor
    · intro h
      exact (List.map_inj_right (fun x y h => by injection h)).1 h
    · intro h; rw [h]
  rw [this]
  rfl
section
variable {ops : Array Oper} {rest : List Oper} {d : Option Tmp} {ty : TypeId} {pos : String} {aft : Array Edge} {x y : Operand} {z : TypeId} {A B : List Int}
theorem exec_eq8 {a : Act} (ha : A.length = 8) (hb : B.length = 8) (wa : Wf A) (wb : Wf B) (hx : a.eval x = .agg (uI A)) (hy : a.eval y = .agg (uI B)) (w : World) : (execOp a.eval ⟨d, .binOp .eql 22 x y z, ty, pos, aft, none⟩).run Try.prog w = .ok (.value (.bool (decide (A = B)))) w := by
  unfold execOp
  simp only [hx, hy, Sem.run_bind, run_eqGuard_agg w .eql 22 x y (uI A) (uI B) (show (Try.prog).eqGuardType (Try.prog).depth 22 = false by kernel_rfl), Result.andThen_ok, eq_run8 w A B ha hb wa wb, Sem.run_pure]
theorem wpList_eq8 {a : Act} {w : World} {Q : Exit → Act → World → Prop} (ha : A.length = 8) (hb : B.length = 8) (wa : Wf A) (wb : Wf B)
    (h : wpList Try.prog ops Q rest (a.put d (.bool (decide (A = B)))) w) (hx : a.eval x = .agg (uI A)) (hy : a.eval y = .agg (uI B)) : wpList Try.prog ops Q (⟨d, .binOp .eql 22 x y z, ty, pos, aft, none⟩ :: rest) a w :=
  wpList_plain rfl fun K hK => by
    unfold Oper.wp
    rw [exec_eq8 ha hb wa wb hx hy w]
    exact hK _ _ h
end
end Go.Proofs.Ytcgalmnllegnbaa

/- The walks of msg's has, of what it asks, of members and Right (printed by wip/gen/msgright.py). -/
namespace Go.Proofs.Ytcgalmnllegnbaa
set_option linter.unusedVariables false
set_option linter.unusedSimpArgs false
set_option maxRecDepth 100000
open Go.RowKit
open Dot Evt
/-- the parts that a kind has -/
def pv (s n q v : Bool) : Value := .agg #[.bool s, .bool n, .bool q, .bool v]
def hasV (k : Int) : Value := pv (decide (k ≠ 5)) (decide (k = 2 ∨ k = 3)) (decide (k = 4)) (decide (k = 5))
theorem rowPt : RowT Try.prog 73 4 := ⟨_, Try.underlying73, rfl, by kernel_rfl⟩
theorem rowKs : RowT Try.prog 115 24 := ⟨_, Try.underlying115, rfl, by kernel_rfl⟩
/-- what each kind has, as it lies there -/
abbrev KS : Array Value := #[.bool false, .bool false, .bool false, .bool false, .bool true, .bool false, .bool false, .bool false, .bool true, .bool true, .bool false, .bool false, .bool true, .bool true, .bool false, .bool false, .bool true, .bool false, .bool true, .bool false, .bool false, .bool false, .bool false, .bool true]
theorem ks_size : KS.size = 24 := rfl
theorem ks_one : KS.all (·.oneCell') = true := by kernel_rfl
theorem pt_one (s n q v : Bool) : (#[Value.bool s, .bool n, .bool q, .bool v]).all (·.oneCell') = true := by simp [Value.oneCell']
theorem rng4 {w : World} {g o : Nat} {T : TypeId} {cs : Array Value} {a b c d : Value} (k : Blk w g T cs) (h0 : cs[o]? = some a) (h1 : cs[o + 1]? = some b) (h2 : cs[o + 2]? = some c) (h3 : cs[o + 3]? = some d) : w.rangeAt g o (#[a, b, c, d]).toList := fun j v hv => by
  rw [k.cell]
  match j, hv with
  | 0, hv => rw [Nat.add_zero, h0]; exact hv
  | 1, hv => rw [h1]; exact hv
  | 2, hv => rw [h2]; exact hv
  | 3, hv => rw [h3]; exact hv
theorem has1_any (w : World) : Calls Try.prog 33 #[.int .i64 1] w fun e w' => e = .returned (hasV 1) ∧ Below w.heap.size w w' := by
  go_enter Try.func33, Try.ntmps33
  go_upto_region 1 with fail
  refine nameW ?_
  intro W hW
  obtain ⟨G, hG⟩ : ∃ G, G = w.heap.size := ⟨_, rfl⟩
  rw [← hG]
  have k0 : Blk W G 73 #[.bool false, .bool false, .bool false, .bool false] := by rw [hW, hG]; exact Blk.new w _ _
  have gb : Below w.heap.size w W := by rw [hW]; exact (Below.refl _ _).alloc (Nat.le_refl _) _
  have hGl : w.heap.size ≤ G := by omega
  clear hW hG
  go_upto_region 2 with ((with_reducible refine wpList_st (cs := KS) rowKs (Blk.new _ _ _) ks_size ?_ ks_one ?_ ?_ ?_); (rfl); rotate_left; (rfl); (rfl); intro w6 k6 g6 z6)
  have gn : Below W.heap.size W w6 := new_below g6
  have k0 := k0.below gn k0.lt
  have gb := gb.trans (gn.mono gb.size)
  obtain ⟨H, hH⟩ : ∃ H, H = W.heap.size := ⟨_, rfl⟩
  rw [← hH] at k6 ⊢
  clear g6 z6 gn hH
  have r4 := rng4 (o := 4) k6 rfl rfl rfl rfl
  go_wp2_with first
    | ((with_reducible refine wpList_ldr rowPt r4 rfl ?_ ?_); rotate_left; (rfl))
    | ((with_reducible refine wpList_st (cs := #[.bool true, .bool false, .bool false, .bool false]) rowPt k0 rfl rfl (pt_one _ _ _ _) ?_ ?_ ?_); rotate_left; (rfl); (rfl); intro w7 k7 g7 z7)
  exact bodyPost_ret (v := .agg #[.bool true, .bool false, .bool false, .bool false]) (results_blk rfl rowPt k7 rfl rfl) rfl ⟨rfl, gb.grown g7 gb.size (fun q hq => by injection hq with hq; omega)⟩
theorem has2_any (w : World) : Calls Try.prog 33 #[.int .i64 2] w fun e w' => e = .returned (hasV 2) ∧ Below w.heap.size w w' := by
  go_enter Try.func33, Try.ntmps33
  go_upto_region 1 with fail
  refine nameW ?_
  intro W hW
  obtain ⟨G, hG⟩ : ∃ G, G = w.heap.size := ⟨_, rfl⟩
  rw [← hG]
  have k0 : Blk W G 73 #[.bool false, .bool false, .bool false, .bool false] := by rw [hW, hG]; exact Blk.new w _ _
  have gb : Below w.heap.size w W := by rw [hW]; exact (Below.refl _ _).alloc (Nat.le_refl _) _
  have hGl : w.heap.size ≤ G := by omega
  clear hW hG
  go_upto_region 2 with ((with_reducible refine wpList_st (cs := KS) rowKs (Blk.new _ _ _) ks_size ?_ ks_one ?_ ?_ ?_); (rfl); rotate_left; (rfl); (rfl); intro w6 k6 g6 z6)
  have gn : Below W.heap.size W w6 := new_below g6
  have k0 := k0.below gn k0.lt
  have gb := gb.trans (gn.mono gb.size)
  obtain ⟨H, hH⟩ : ∃ H, H = W.heap.size := ⟨_, rfl⟩
  rw [← hH] at k6 ⊢
  clear g6 z6 gn hH
  have r4 := rng4 (o := 8) k6 rfl rfl rfl rfl
  go_wp2_with first
    | ((with_reducible refine wpList_ldr rowPt r4 rfl ?_ ?_); rotate_left; (rfl))
    | ((with_reducible refine wpList_st (cs := #[.bool true, .bool true, .bool false, .bool false]) rowPt k0 rfl rfl (pt_one _ _ _ _) ?_ ?_ ?_); rotate_left; (rfl); (rfl); intro w7 k7 g7 z7)
  exact bodyPost_ret (v := .agg #[.bool true, .bool true, .bool false, .bool false]) (results_blk rfl rowPt k7 rfl rfl) rfl ⟨rfl, gb.grown g7 gb.size (fun q hq => by injection hq with hq; omega)⟩
theorem has3_any (w : World) : Calls Try.prog 33 #[.int .i64 3] w fun e w' => e = .returned (hasV 3) ∧ Below w.heap.size w w' := by
  go_enter Try.func33, Try.ntmps33
  go_upto_region 1 with fail
  refine nameW ?_
  intro W hW
  obtain ⟨G, hG⟩ : ∃ G, G = w.heap.size := ⟨_, rfl⟩
  rw [← hG]
  have k0 : Blk W G 73 #[.bool false, .bool false, .bool false, .bool false] := by rw [hW, hG]; exact Blk.new w _ _
  have gb : Below w.heap.size w W := by rw [hW]; exact (Below.refl _ _).alloc (Nat.le_refl _) _
  have hGl : w.heap.size ≤ G := by omega
  clear hW hG
  go_upto_region 2 with ((with_reducible refine wpList_st (cs := KS) rowKs (Blk.new _ _ _) ks_size ?_ ks_one ?_ ?_ ?_); (rfl); rotate_left; (rfl); (rfl); intro w6 k6 g6 z6)
  have gn : Below W.heap.size W w6 := new_below g6
  have k0 := k0.below gn k0.lt
  have gb := gb.trans (gn.mono gb.size)
  obtain ⟨H, hH⟩ : ∃ H, H = W.heap.size := ⟨_, rfl⟩
  rw [← hH] at k6 ⊢
  clear g6 z6 gn hH
  have r4 := rng4 (o := 12) k6 rfl rfl rfl rfl
  go_wp2_with first
    | ((with_reducible refine wpList_ldr rowPt r4 rfl ?_ ?_); rotate_left; (rfl))
    | ((with_reducible refine wpList_st (cs := #[.bool true, .bool true, .bool false, .bool false]) rowPt k0 rfl rfl (pt_one _ _ _ _) ?_ ?_ ?_); rotate_left; (rfl); (rfl); intro w7 k7 g7 z7)
  exact bodyPost_ret (v := .agg #[.bool true, .bool true, .bool false, .bool false]) (results_blk rfl rowPt k7 rfl rfl) rfl ⟨rfl, gb.grown g7 gb.size (fun q hq => by injection hq with hq; omega)⟩
theorem has4_any (w : World) : Calls Try.prog 33 #[.int .i64 4] w fun e w' => e = .returned (hasV 4) ∧ Below w.heap.size w w' := by
  go_enter Try.func33, Try.ntmps33
  go_upto_region 1 with fail
  refine nameW ?_
  intro W hW
  obtain ⟨G, hG⟩ : ∃ G, G = w.heap.size := ⟨_, rfl⟩
  rw [← hG]
  have k0 : Blk W G 73 #[.bool false, .bool false, .bool false, .bool false] := by rw [hW, hG]; exact Blk.new w _ _
  have gb : Below w.heap.size w W := by rw [hW]; exact (Below.refl _ _).alloc (Nat.le_refl _) _
  have hGl : w.heap.size ≤ G := by omega
  clear hW hG
  go_upto_region 2 with ((with_reducible refine wpList_st (cs := KS) rowKs (Blk.new _ _ _) ks_size ?_ ks_one ?_ ?_ ?_); (rfl); rotate_left; (rfl); (rfl); intro w6 k6 g6 z6)
  have gn : Below W.heap.size W w6 := new_below g6
  have k0 := k0.below gn k0.lt
  have gb := gb.trans (gn.mono gb.size)
  obtain ⟨H, hH⟩ : ∃ H, H = W.heap.size := ⟨_, rfl⟩
  rw [← hH] at k6 ⊢
  clear g6 z6 gn hH
  have r4 := rng4 (o := 16) k6 rfl rfl rfl rfl
  go_wp2_with first
    | ((with_reducible refine wpList_ldr rowPt r4 rfl ?_ ?_); rotate_left; (rfl))
    | ((with_reducible refine wpList_st (cs := #[.bool true, .bool false, .bool true, .bool false]) rowPt k0 rfl rfl (pt_one _ _ _ _) ?_ ?_ ?_); rotate_left; (rfl); (rfl); intro w7 k7 g7 z7)
  exact bodyPost_ret (v := .agg #[.bool true, .bool false, .bool true, .bool false]) (results_blk rfl rowPt k7 rfl rfl) rfl ⟨rfl, gb.grown g7 gb.size (fun q hq => by injection hq with hq; omega)⟩
theorem has5_any (w : World) : Calls Try.prog 33 #[.int .i64 5] w fun e w' => e = .returned (hasV 5) ∧ Below w.heap.size w w' := by
  go_enter Try.func33, Try.ntmps33
  go_upto_region 1 with fail
  refine nameW ?_
  intro W hW
  obtain ⟨G, hG⟩ : ∃ G, G = w.heap.size := ⟨_, rfl⟩
  rw [← hG]
  have k0 : Blk W G 73 #[.bool false, .bool false, .bool false, .bool false] := by rw [hW, hG]; exact Blk.new w _ _
  have gb : Below w.heap.size w W := by rw [hW]; exact (Below.refl _ _).alloc (Nat.le_refl _) _
  have hGl : w.heap.size ≤ G := by omega
  clear hW hG
  go_upto_region 2 with ((with_reducible refine wpList_st (cs := KS) rowKs (Blk.new _ _ _) ks_size ?_ ks_one ?_ ?_ ?_); (rfl); rotate_left; (rfl); (rfl); intro w6 k6 g6 z6)
  have gn : Below W.heap.size W w6 := new_below g6
  have k0 := k0.below gn k0.lt
  have gb := gb.trans (gn.mono gb.size)
  obtain ⟨H, hH⟩ : ∃ H, H = W.heap.size := ⟨_, rfl⟩
  rw [← hH] at k6 ⊢
  clear g6 z6 gn hH
  have r4 := rng4 (o := 20) k6 rfl rfl rfl rfl
  go_wp2_with first
    | ((with_reducible refine wpList_ldr rowPt r4 rfl ?_ ?_); rotate_left; (rfl))
    | ((with_reducible refine wpList_st (cs := #[.bool false, .bool false, .bool false, .bool true]) rowPt k0 rfl rfl (pt_one _ _ _ _) ?_ ?_ ?_); rotate_left; (rfl); (rfl); intro w7 k7 g7 z7)
  exact bodyPost_ret (v := .agg #[.bool false, .bool false, .bool false, .bool true]) (results_blk rfl rowPt k7 rfl rfl) rfl ⟨rfl, gb.grown g7 gb.size (fun q hq => by injection hq with hq; omega)⟩
theorem has17_any (k : Int) (w : World) (hk : 1 ≤ k ∧ k ≤ 5) : Calls Try.prog 33 #[.int .i64 k] w fun e w' => e = .returned (hasV k) ∧ Below w.heap.size w w' := by
  obtain rfl | rfl | rfl | rfl | rfl : k = 1 ∨ k = 2 ∨ k = 3 ∨ k = 4 ∨ k = 5 := by omega
  · exact has1_any w
  · exact has2_any w
  · exact has3_any w
  · exact has4_any w
  · exact has5_any w
end Go.Proofs.Ytcgalmnllegnbaa

/- The walks of what msg asks of its parts, of members and Right (printed by wip/gen/msgright.py). -/
namespace Go.Proofs.Ytcgalmnllegnbaa
set_option linter.unusedVariables false
set_option linter.unusedSimpArgs false
set_option maxRecDepth 100000
open Go.RowKit
open Dot Evt
theorem askSeq_any (s n q v : Bool) (x : MgV) (w : World) : Calls Try.prog 46 #[pv s n q v, .agg x.cs] w fun e w' => e = .returned (.bool (inB x.m.seq 0 (if q then 1 else if s then 1099511627776 else 0))) ∧ Below w.heap.size w w' := by
  obtain ⟨⟨kd, fr, tt, sq, nd, u, more, ev, mem⟩, A1, n1, c1, xs, A2, n2, c2, A3, n3, c3⟩ := x
  unfold MgV.cs mgc
  simp only
  generalize u.getD 0 0 = u0, u.getD 1 0 = u1, u.getD 2 0 = u2, u.getD 3 0 = u3, u.getD 4 0 = u4, u.getD 5 0 = u5, u.getD 6 0 = u6, u.getD 7 0 = u7
  unfold pv
  have hb : Below w.heap.size w ((w.alloc (.cells #[.bool s, .bool n, .bool q, .bool v] 73)).alloc (.cells #[.int .i64 kd, .int .i64 fr, .int .i64 tt, .int .i64 sq, .int .i64 nd, .int .i64 u0, .int .i64 u1, .int .i64 u2, .int .i64 u3, .int .i64 u4, .int .i64 u5, .int .i64 u6, .int .i64 u7, .slice A1 n1 c1, .slice A2 n2 c2, .slice A3 n3 c3] 27)) := ((Below.refl _ _).alloc (Nat.le_refl _) _).alloc (by simp) _
  cases q
  case true =>
    cases s
    all_goals (
      go_enter Try.func46, Try.ntmps46
      go_wp2_with fail
      refine (mwithin_any _ _ _ _).mono ?_
      rintro e w1 ⟨rfl, rfl⟩
      go_wp2_with fail
      go_ret
      exact ⟨rfl, hb⟩)
  case false =>
    cases s
    all_goals (
      go_enter Try.func46, Try.ntmps46
      go_wp2_with fail
      refine (mwithin_any _ _ _ _).mono ?_
      rintro e w1 ⟨rfl, rfl⟩
      go_wp2_with fail
      go_ret
      exact ⟨rfl, hb⟩)
theorem askNode_any (s n q v : Bool) (x : MgV) (w : World) : Calls Try.prog 47 #[pv s n q v, .agg x.cs] w fun e w' => e = .returned (.bool ((n && Ms.nodeB x.m.node) || decide (x.m.node = 0))) ∧ Below w.heap.size w w' := by
  obtain ⟨⟨kd, fr, tt, sq, nd, u, more, ev, mem⟩, A1, n1, c1, xs, A2, n2, c2, A3, n3, c3⟩ := x
  unfold MgV.cs mgc
  simp only
  generalize u.getD 0 0 = u0, u.getD 1 0 = u1, u.getD 2 0 = u2, u.getD 3 0 = u3, u.getD 4 0 = u4, u.getD 5 0 = u5, u.getD 6 0 = u6, u.getD 7 0 = u7
  unfold pv
  have hb : Below w.heap.size w ((w.alloc (.cells #[.bool s, .bool n, .bool q, .bool v] 73)).alloc (.cells #[.int .i64 kd, .int .i64 fr, .int .i64 tt, .int .i64 sq, .int .i64 nd, .int .i64 u0, .int .i64 u1, .int .i64 u2, .int .i64 u3, .int .i64 u4, .int .i64 u5, .int .i64 u6, .int .i64 u7, .slice A1 n1 c1, .slice A2 n2 c2, .slice A3 n3 c3] 27)) := ((Below.refl _ _).alloc (Nat.le_refl _) _).alloc (by simp) _
  have hn := mnode_any nd
  generalize Ms.nodeB nd = R at *
  have hz : ((nd : Int) == 0) = decide (nd = 0) := rfl
  generalize hdz : decide (nd = 0) = Z at *
  cases n
  case true =>
    cases R
    all_goals (
      go_enter Try.func47, Try.ntmps47
      go_wp2_with fail
      refine (hn _).mono ?_
      rintro e w1 ⟨rfl, rfl⟩
      go_wp2_with fail
      go_ret
      exact ⟨rfl, hb⟩)
  case false =>
    go_enter Try.func47, Try.ntmps47
    go_wp2_with fail
    go_ret
    exact ⟨rfl, hb⟩
/-- the cells of a message's value -/
theorem mgv_at (x : MgV) : x.cs[0]? = some (.int .i64 x.m.kind) ∧ x.cs[1]? = some (.int .i64 x.m.frm) ∧ x.cs[2]? = some (.int .i64 x.m.to) ∧ x.cs[3]? = some (.int .i64 x.m.seq) ∧ x.cs[4]? = some (.int .i64 x.m.node) ∧ x.cs[13]? = some (.slice x.A1 x.n1 x.c1) ∧ x.cs[14]? = some (.slice x.A2 x.n2 x.c2) ∧ x.cs[15]? = some (.slice x.A3 x.n3 x.c3) := ⟨rfl, rfl, rfl, rfl, rfl, rfl, rfl, rfl⟩
theorem mgv_u (x : MgV) (hu : x.m.u.length = 8) {w : World} {g : Nat} {T : TypeId} (k : Blk w g T x.cs) : w.rangeAt g 5 (x.m.u.map (Value.int .i64)) := fun j v hv => by
  rw [k.cell]
  obtain ⟨⟨kd, fr, tt, sq, nd, u, more, ev, mem⟩, A1, n1, c1, xs, A2, n2, c2, A3, n3, c3⟩ := x
  simp only at hu hv
  match u, hu with
  | [u0, u1, u2, u3, u4, u5, u6, u7], _ =>
    match j, hv with
    | 0, hv => exact hv
    | 1, hv => exact hv
    | 2, hv => exact hv
    | 3, hv => exact hv
    | 4, hv => exact hv
    | 5, hv => exact hv
    | 6, hv => exact hv
    | 7, hv => exact hv
theorem seen_any (x : MgV) (hu : x.m.u.length = 8) (w : World) : Calls Try.prog 36 #[.agg x.cs] w fun e w' => e = .returned (.agg (uc x.m.u (.slice x.A1 x.n1 x.c1))) ∧ Below w.heap.size w w' := by
  obtain ⟨⟨kd, fr, tt, sq, nd, u, more, ev, mem⟩, A1, n1, c1, xs, A2, n2, c2, A3, n3, c3⟩ := x
  simp only at hu
  match u, hu with
  | [u0, u1, u2, u3, u4, u5, u6, u7], _ =>
    unfold MgV.cs mgc uc
    simp only [List.getD_cons_zero, List.getD_cons_succ, List.map_cons, List.map_nil, List.cons_append, List.nil_append]
    go_enter Try.func36, Try.ntmps36
    go_upto_region 1 with fail
    refine nameW ?_
    intro W hW
    obtain ⟨G, hG⟩ : ∃ G, G = w.heap.size := ⟨_, rfl⟩
    rw [← hG]
    have kb : Blk W G 27 #[.int .i64 kd, .int .i64 fr, .int .i64 tt, .int .i64 sq, .int .i64 nd, .int .i64 u0, .int .i64 u1, .int .i64 u2, .int .i64 u3, .int .i64 u4, .int .i64 u5, .int .i64 u6, .int .i64 u7, .slice A1 n1 c1, .slice A2 n2 c2, .slice A3 n3 c3] := by rw [hW, hG]; exact (Blk.new w _ _).alloc _
    have kz : Blk W (G + 1) 79 #[.int .i64 0, .int .i64 0, .int .i64 0, .int .i64 0, .int .i64 0, .int .i64 0, .int .i64 0, .int .i64 0, .slice none 0 0] := by
      have h := Blk.new (w.alloc (.cells #[.int .i64 kd, .int .i64 fr, .int .i64 tt, .int .i64 sq, .int .i64 nd, .int .i64 u0, .int .i64 u1, .int .i64 u2, .int .i64 u3, .int .i64 u4, .int .i64 u5, .int .i64 u6, .int .i64 u7, .slice A1 n1 c1, .slice A2 n2 c2, .slice A3 n3 c3] 27)) 79 #[.int .i64 0, .int .i64 0, .int .i64 0, .int .i64 0, .int .i64 0, .int .i64 0, .int .i64 0, .int .i64 0, .slice none 0 0]
      rw [hW, hG]
      simpa using h
    have gb : Below w.heap.size w W := by rw [hW]; exact ((Below.refl _ _).alloc (Nat.le_refl _) _).alloc (by simp) _
    have hGl : w.heap.size ≤ G + 1 := by omega
    have r5 : W.rangeAt G 5 (([u0, u1, u2, u3, u4, u5, u6, u7] : List Int).map (Value.int .i64)) := fun j v hv => by
      rw [kb.cell]
      match j, hv with
      | 0, hv => exact hv
      | 1, hv => exact hv
      | 2, hv => exact hv
      | 3, hv => exact hv
      | 4, hv => exact hv
      | 5, hv => exact hv
      | 6, hv => exact hv
      | 7, hv => exact hv
    have k13 : W.cell? ⟨G, 13, none⟩ = some (.slice A1 n1 c1) := kb.cell 13
    clear hW hG kb
    go_wp2_with first
      | ((with_reducible refine wpList_ldm row8 r5 rfl ?_ ?_); rotate_left; (rfl))
      | ((with_reducible refine wpList_st (cs := #[.int .i64 u0, .int .i64 u1, .int .i64 u2, .int .i64 u3, .int .i64 u4, .int .i64 u5, .int .i64 u6, .int .i64 u7, .slice A1 n1 c1]) rowS kz rfl rfl ?_ ?_ ?_ ?_); (exact uc_one (U := [u0, u1, u2, u3, u4, u5, u6, u7]) (s := .slice A1 n1 c1) rfl); rotate_left; (rfl); (rfl); intro w7 k7 g7 z7)
    exact bodyPost_ret (v := .agg #[.int .i64 u0, .int .i64 u1, .int .i64 u2, .int .i64 u3, .int .i64 u4, .int .i64 u5, .int .i64 u6, .int .i64 u7, .slice A1 n1 c1]) (results_blk rfl rowS k7 rfl rfl) rfl ⟨rfl, gb.grown g7 gb.size (fun q hq => by injection hq with hq; omega)⟩
def zeros8 : List Int := [0, 0, 0, 0, 0, 0, 0, 0]
set_option maxHeartbeats 1000000 in
theorem askSeen_any (s n q v : Bool) (x : MgV) (hu : x.m.u.length = 8) (wu : Wf x.m.u) (w : World) (hr : RdD w w.heap.size x.A1 x.n1 x.m.more) :
    Calls Try.prog 48 #[pv s n q v, .agg x.cs] w fun e w' => e = .returned (.bool (if q then rightB x.m.u x.m.more else Ms.noSeen x.m)) ∧ Below w.heap.size w w' := by
  have hs := seen_any x hu
  have HS := Lib.hid hs
  have HR := Lib.hid fun (w' : World) (h : RdD w' w'.heap.size x.A1 x.n1 x.m.more) => right_any x.m.u hu x.A1 x.n1 x.c1 x.m.more w' h
  have HRD := Lib.hid fun (w' : World) (h : Below w.heap.size w w') => (hr.below h).more h.size
  have HN := Lib.hid hr.1
  have H13 := Lib.hid (mgv_at x).2.2.2.2.2.1
  have HU := Lib.hid fun (w' : World) (g : Nat) (h : Blk w' g 27 x.cs) => mgv_u x hu h
  have HUL := Lib.hid hu
  have HUM := Lib.hid (show (x.m.u.map (Value.int .i64)).length = 8 by rw [List.length_map, hu])
  have WU := Lib.hid wu
  have SZ := Lib.hid x.size
  have ONE := Lib.hid x.one
  have WZ := Lib.hid (show Wf zeros8 from fun y hy => by simp [zeros8] at hy; subst hy; exact wf_of (by omega) (by omega))
  have NS := Lib.hid (show Ms.noSeen x.m = (decide (x.m.u = zeros8) && decide (x.m.more = [])) from rfl)
  clear hs hr hu wu
  unfold pv
  generalize hC : x.cs = C at *
  clear hC
  cases q
  case true =>
    go_enter Try.func48, Try.ntmps48
    go_upto_region 1 with fail
    refine nameW ?_
    intro W hW
    obtain ⟨G, hG⟩ : ∃ G, G = w.heap.size := ⟨_, rfl⟩
    rw [← hG]
    have kb : Blk W (G + 1) 27 C := by
      have h := Blk.new (w.alloc (.cells #[.bool s, .bool n, .bool true, .bool v] 73)) 27 C
      rw [hW, hG]
      simpa using h
    have kp : W.cell? ⟨G, 2, none⟩ = some (.bool true) := by rw [hW, hG]; exact ((Blk.new w 73 #[.bool s, .bool n, .bool true, .bool v]).alloc _).cell 2
    have gb : Below w.heap.size w W := by rw [hW]; exact ((Below.refl _ _).alloc (Nat.le_refl _) _).alloc (by simp) _
    clear hW hG
    go_wp2_with ((with_reducible refine wpList_ld rowMg kb SZ.out ?_ ?_); rotate_left; (rfl))
    refine (HS.out _).mono ?_
    rintro e w1 ⟨rfl, b1⟩
    have gb1 := gb.trans (b1.mono gb.size)
    clear kb kp gb b1
    go_wp2_with fail
    refine (HR.out _ (HRD.out _ gb1)).mono ?_
    rintro e w2 ⟨rfl, b2⟩
    have gb2 := gb1.trans (b2.mono gb1.size)
    go_wp2_with fail
    go_ret
    exact ⟨rfl, gb2⟩
  case false =>
    go_enter Try.func48, Try.ntmps48
    go_upto_region 1 with fail
    refine nameW ?_
    intro W hW
    obtain ⟨G, hG⟩ : ∃ G, G = w.heap.size := ⟨_, rfl⟩
    rw [← hG]
    have kb : Blk W (G + 1) 27 C := by
      have h := Blk.new (w.alloc (.cells #[.bool s, .bool n, .bool false, .bool v] 73)) 27 C
      rw [hW, hG]
      simpa using h
    have kp : W.cell? ⟨G, 2, none⟩ = some (.bool false) := by rw [hW, hG]; exact ((Blk.new w 73 #[.bool s, .bool n, .bool false, .bool v]).alloc _).cell 2
    have gb : Below w.heap.size w W := by rw [hW]; exact ((Below.refl _ _).alloc (Nat.le_refl _) _).alloc (by simp) _
    have r5 := HU.out _ _ kb
    have k13 : W.cell? ⟨G + 1, 13, none⟩ = some (.slice x.A1 x.n1 x.c1) := (kb.cell 13).trans H13.out
    have hnm : x.n1 = x.m.more.length := HN.out
    clear hW hG kb
    by_cases hz : x.m.u = zeros8
    · by_cases hm : x.n1 = 0
      · have hres : Ms.noSeen x.m = true := by rw [NS.out, decide_eq_true hz, decide_eq_true (List.eq_nil_of_length_eq_zero (by omega))]; rfl
        have HRS := Lib.hid hres
        have hd : decide (x.m.u = zeros8) = true := decide_eq_true hz
        clear hres hz hnm
        go_upto_region 3 with fail
        go_wp2_with first
          | ((with_reducible refine wpList_ldm row8 r5 HUM.out ?_ ?_); rotate_left; (rfl); rw [show (x.m.u.map (Value.int .i64)).toArray = uI x.m.u from rfl])
          | ((with_reducible refine wpList_eq8 (A := x.m.u) (B := zeros8) HUL.out rfl WU.out WZ.out ?_ ?_ ?_); rotate_left; (rfl); (rfl); rw [hd])
        go_ret
        rw [HRS.out]
        exact ⟨rfl, gb⟩
      · have hres : Ms.noSeen x.m = false := by rw [NS.out, decide_eq_true hz, decide_eq_false (fun e => hm (by rw [hnm, e]; rfl))]; rfl
        have hq0 : ((x.n1 : Int) == 0) = false := by rw [beq_eq_false_iff_ne]; omega
        have HRS := Lib.hid hres
        have hd : decide (x.m.u = zeros8) = true := decide_eq_true hz
        clear hres hz hnm
        go_upto_region 3 with fail
        go_wp2_with first
          | ((with_reducible refine wpList_ldm row8 r5 HUM.out ?_ ?_); rotate_left; (rfl); rw [show (x.m.u.map (Value.int .i64)).toArray = uI x.m.u from rfl])
          | ((with_reducible refine wpList_eq8 (A := x.m.u) (B := zeros8) HUL.out rfl WU.out WZ.out ?_ ?_ ?_); rotate_left; (rfl); (rfl); rw [hd])
        go_ret
        rw [HRS.out]
        exact ⟨rfl, gb⟩
    · have hres : Ms.noSeen x.m = false := by rw [NS.out, decide_eq_false hz]; rfl
      have HRS := Lib.hid hres
      have hd : decide (x.m.u = zeros8) = false := decide_eq_false hz
      clear hres hz hnm
      go_upto_region 3 with fail
      go_wp2_with first
        | ((with_reducible refine wpList_ldm row8 r5 HUM.out ?_ ?_); rotate_left; (rfl); rw [show (x.m.u.map (Value.int .i64)).toArray = uI x.m.u from rfl])
        | ((with_reducible refine wpList_eq8 (A := x.m.u) (B := zeros8) HUL.out rfl WU.out WZ.out ?_ ?_ ?_); rotate_left; (rfl); (rfl); rw [hd])
      go_ret
      rw [HRS.out]
      exact ⟨rfl, gb⟩
end Go.Proofs.Ytcgalmnllegnbaa

/- The walks of msg's members and of what it asks of events (printed by wip/gen/msgright.py). -/
namespace Go.Proofs.Ytcgalmnllegnbaa
set_option linter.unusedVariables false
set_option linter.unusedSimpArgs false
set_option maxRecDepth 100000
open Go.RowKit
open Dot Evt
open Ms (Mem)
theorem members_bad {l : List Mem} {i : Nat} (h : i < l.length) (hb : Ms.memAt l i = false) : Ms.membersB l = false := by
  rw [Bool.eq_false_iff]
  intro h2
  have := (Ms.members_iff l).1 h2 i h
  rw [hb] at this
  cases this
theorem lastM_succ {l : List Mem} {k : Nat} (h : k < l.length) : Ms.lastM l (k + 1) = (l[k]).1 := by
  unfold Ms.lastM
  rw [if_neg (by omega), Nat.add_sub_cancel, List.getD_eq_getElem?_getD, List.getElem?_eq_getElem h]
  rfl
theorem memAt_eq {l : List Mem} {k : Nat} (h : k < l.length) : Ms.memAt l k = (Ms.nodeB (l[k]).1 && decide (Ms.lastM l k < (l[k]).1) && inB (l[k]).2.1 1 4 && inB (l[k]).2.2 0 1099511627776) := by
  unfold Ms.memAt
  rw [List.getD_eq_getElem?_getD, List.getElem?_eq_getElem h]
  rfl
set_option maxHeartbeats 1000000 in
theorem members_any (A : Option Addr) (n c : Nat) (l : List Mem) (w : World) (hl : RdMb w w.heap.size A n l) (hn : n ≤ maxLen) :
    Calls Try.prog 45 #[.slice A n c] w fun e w' => e = .returned (.bool (Ms.membersB l)) ∧ Below w.heap.size w w' := by
  obtain ⟨R, hR⟩ : ∃ R, R = Ms.membersB l := ⟨_, rfl⟩
  rw [← hR]
  have HR := Lib.hid hR
  have HN := Lib.hid hl.1
  have HRK := Lib.hid fun (w' : World) (hb : Below w.heap.size w w') => hl.below hb
  unfold maxLen at hn
  clear hR hl
  go_enter Try.func45, Try.ntmps45
  go_wp2_with fail
  go_loopw [3, 8] (fun la i wr => ∃ k : Nat, k ≤ n ∧ i = .int .i64 k ∧ la = .int .i64 (Ms.lastM l k) ∧ (∀ j, j < k → Ms.memAt l j = true) ∧ Below w.heap.size w wr) (fun _ i _ => n - (intOf i).toNat)
  case atStart => exact ⟨0, by omega, rfl, rfl, fun j hj => by omega, Below.refl _ _⟩
  case round =>
    obtain ⟨k, hk, rfl, rfl, hall, gb⟩ := hrel
    have HA := Lib.hid hall
    clear hall
    by_cases hlt : k < n
    · have hkl : k < l.length := by rw [← HN.out]; exact hlt
      obtain ⟨ad, hA, q5, q0, q1, q2⟩ := (HRK.out wr gb).2 k _ (List.getElem?_eq_getElem hkl)
      have hme := memAt_eq hkl
      have hls := lastM_succ hkl
      have HB := Lib.hid fun (h : Ms.memAt l k = false) => members_bad hkl h
      have hk0 : (0 : Int) ≤ (k : Int) := by omega
      have hkn : (k : Int) < (n : Int) := by omega
      generalize l[k] = d at *
      obtain ⟨x, y, z⟩ := d
      simp only at q0 q1 q2 hme hls
      generalize Ms.lastM l k = la at *
      subst hA
      have hc1 := fun w => mnode_any x w
      have hc3 := fun w => mwithin_any y 1 4 w
      have hc4 := fun w => mwithin_any z 0 1099511627776 w
      have gb1 : ∀ o : Obj, Below w.heap.size w (wr.alloc o) := fun o => gb.alloc gb.size o
      have HG := Lib.hid gb1
      have HLS := Lib.hid hls
      clear hls gb1
      cases h1 : Ms.nodeB x
      case false =>
        rw [h1] at hme hc1
        have hr : R = false := by rw [HR.out]; exact HB.out hme
        subst hr
        have H1 := Lib.hid hc1
        clear hc1 hc3 hc4 hme h1 gb HR
        go_wp2_with fail
        refine (H1.out _).mono ?_
        rintro e w1 ⟨rfl, rfl⟩
        go_wp2_with fail
        go_ret
        exact ⟨rfl, HG.out _⟩
      case true =>
        by_cases h2 : x ≤ la
        · have hr : R = false := by rw [HR.out]; exact HB.out (by rw [hme, h1, decide_eq_false (by omega)]; rfl)
          subst hr
          rw [h1] at hc1
          have H1 := Lib.hid hc1
          have hd : decide (x ≤ la) = true := decide_eq_true h2
          clear hc1 hc3 hc4 hme h1 gb HR
          go_wp2_with fail
          refine (H1.out _).mono ?_
          rintro e w1 ⟨rfl, rfl⟩
          go_wp2_with fail
          go_ret
          exact ⟨rfl, HG.out _⟩
        · have hd : decide (x ≤ la) = false := decide_eq_false h2
          have hme : Ms.memAt l k = (inB y 1 4 && inB z 0 1099511627776) := by rw [hme, h1, decide_eq_true (by omega)]; rfl
          rw [h1] at hc1
          have H1 := Lib.hid hc1
          cases h3 : inB y 1 4
          case false =>
            rw [h3] at hme hc3
            have hr : R = false := by rw [HR.out]; exact HB.out hme
            subst hr
            have H3 := Lib.hid hc3
            clear hc1 hc3 hc4 hme h1 h3 gb HR
            go_wp2_with fail
            refine (H1.out _).mono ?_
            rintro e w1 ⟨rfl, rfl⟩
            go_wp2_with fail
            refine (H3.out _).mono ?_
            rintro e w1 ⟨rfl, rfl⟩
            go_wp2_with fail
            go_ret
            exact ⟨rfl, HG.out _⟩
          case true =>
            rw [h3] at hme hc3
            have H3 := Lib.hid hc3
            cases h4 : inB z 0 1099511627776
            case false =>
              rw [h4] at hme hc4
              have hr : R = false := by rw [HR.out]; exact HB.out hme
              subst hr
              have H4 := Lib.hid hc4
              clear hc1 hc3 hc4 hme h1 h3 h4 gb HR
              go_wp2_with fail
              refine (H1.out _).mono ?_
              rintro e w1 ⟨rfl, rfl⟩
              go_wp2_with fail
              refine (H3.out _).mono ?_
              rintro e w1 ⟨rfl, rfl⟩
              go_wp2_with fail
              refine (H4.out _).mono ?_
              rintro e w1 ⟨rfl, rfl⟩
              go_wp2_with fail
              go_ret
              exact ⟨rfl, HG.out _⟩
            case true =>
              rw [h4] at hme hc4
              have H4 := Lib.hid hc4
              have HM := Lib.hid hme
              clear hc1 hc3 hc4 hme h1 h3 h4 gb
              go_wp2_with fail
              refine (H1.out _).mono ?_
              rintro e w1 ⟨rfl, rfl⟩
              go_wp2_with fail
              refine (H3.out _).mono ?_
              rintro e w1 ⟨rfl, rfl⟩
              go_wp2_with fail
              refine (H4.out _).mono ?_
              rintro e w1 ⟨rfl, rfl⟩
              go_wp2_with fail
              go_roundw
              case rel => exact ⟨k + 1, by omega, by go_num, by rw [HLS.out], fun j hj => by
                by_cases e : j = k
                · rw [e]; exact HM.out
                · exact HA.out j (by omega), HG.out _⟩
              case measure => simp [intOf]; omega
    · have hr : R = true := by
        rw [HR.out, Ms.members_iff]
        intro i hi
        exact HA.out i (by have := HN.out; omega)
      subst hr
      have hkd : decide ((k : Int) < (n : Int)) = false := decide_eq_false (by omega)
      go_wp2_with fail
      go_ret
      exact ⟨rfl, gb⟩
theorem all_offE {xs : List EvV} {k : Nat} (h : k < xs.length) (hb : rightE (xs[k]).e = false) : (xs.map (·.e)).all rightE = false := by
  rw [Bool.eq_false_iff]
  intro h2
  have := List.all_eq_true.1 h2 (xs[k]).e (List.mem_map.2 ⟨_, List.getElem_mem h, rfl⟩)
  rw [hb] at this
  cases this
set_option maxHeartbeats 1000000 in
theorem askEv_any (s n q v : Bool) (x : MgV) (w : World) (hr : RowEv w w.heap.size x.A2 x.n2 x.xs) (hes : x.m.ev = x.xs.map (·.e)) (hn : x.n2 ≤ 10000000000000) :
    Calls Try.prog 49 #[pv s n q v, .agg x.cs] w fun e w' => e = .returned (.bool (if v then x.m.ev.all rightE && decide (x.m.ev.length ≤ 768) else decide (x.m.ev = []))) ∧ Below w.heap.size w w' := by
  obtain ⟨R, hR⟩ : ∃ R, R = (if v then x.m.ev.all rightE && decide (x.m.ev.length ≤ 768) else decide (x.m.ev = [])) := ⟨_, rfl⟩
  rw [← hR]
  have HRK := Lib.hid fun (w' : World) (h : Below w.heap.size w w') => hr.below h
  have HN := Lib.hid hr.1
  have H14 := Lib.hid (mgv_at x).2.2.2.2.2.2.1
  have SZ := Lib.hid x.size
  have hl : x.m.ev.length = x.n2 := by rw [hes, List.length_map, hr.1]
  rw [hes] at hR hl
  clear hr hes
  unfold pv
  generalize hC : x.cs = C at *
  clear hC
  cases v
  case false =>
    have hz : R = decide ((x.n2 : Int) = 0) := by
      rw [hR, if_neg (by decide)]
      congr 1
      rw [eq_iff_iff]
      constructor
      · intro e; rw [e] at hl; simp at hl; omega
      · intro e; exact List.eq_nil_of_length_eq_zero (by omega)
    have HZ := Lib.hid hz
    clear hz hR
    go_enter Try.func49, Try.ntmps49
    go_upto_region 1 with fail
    refine nameW ?_
    intro W hW
    obtain ⟨G, hG⟩ : ∃ G, G = w.heap.size := ⟨_, rfl⟩
    rw [← hG]
    have kb : Blk W (G + 1) 27 C := by
      have h := Blk.new (w.alloc (.cells #[.bool s, .bool n, .bool q, .bool false] 73)) 27 C
      rw [hW, hG]
      simpa using h
    have kp : W.cell? ⟨G, 3, none⟩ = some (.bool false) := by rw [hW, hG]; exact ((Blk.new w 73 #[.bool s, .bool n, .bool q, .bool false]).alloc _).cell 3
    have gb : Below w.heap.size w W := by rw [hW]; exact ((Below.refl _ _).alloc (Nat.le_refl _) _).alloc (by simp) _
    have k14 : W.cell? ⟨G + 1, 14, none⟩ = some (.slice x.A2 x.n2 x.c2) := (kb.cell 14).trans H14.out
    clear hW hG kb
    go_wp2_with fail
    go_ret
    rw [HZ.out]
    exact ⟨rfl, gb⟩
  case true =>
    rw [if_pos rfl, hl] at hR
    have HR := Lib.hid hR
    clear hR
    go_enter Try.func49, Try.ntmps49
    go_upto_region 1 with fail
    refine nameW ?_
    intro W hW
    obtain ⟨G, hG⟩ : ∃ G, G = w.heap.size := ⟨_, rfl⟩
    rw [← hG]
    have kb : Blk W (G + 1) 27 C := by
      have h := Blk.new (w.alloc (.cells #[.bool s, .bool n, .bool q, .bool true] 73)) 27 C
      rw [hW, hG]
      simpa using h
    have kp : W.cell? ⟨G, 3, none⟩ = some (.bool true) := by rw [hW, hG]; exact ((Blk.new w 73 #[.bool s, .bool n, .bool q, .bool true]).alloc _).cell 3
    have gb : Below w.heap.size w W := by rw [hW]; exact ((Below.refl _ _).alloc (Nat.le_refl _) _).alloc (by simp) _
    have k14 : W.cell? ⟨G + 1, 14, none⟩ = some (.slice x.A2 x.n2 x.c2) := (kb.cell 14).trans H14.out
    have hGW : G + 1 < W.heap.size := kb.lt
    clear hW hG kb
    go_wp2_with fail
    go_loopw [17] (fun i wr => ∃ k : Nat, k ≤ x.n2 ∧ i = .int .i64 k ∧ (∀ j (h : j < x.xs.length), j < k → rightE (x.xs[j]).e = true) ∧ Below w.heap.size w wr ∧ Below W.heap.size W wr) (fun i _ => x.n2 - (intOf i).toNat)
    case atStart => exact ⟨0, by omega, rfl, fun j _ hj => by omega, gb, Below.refl _ _⟩
    case round =>
      clear gb
      obtain ⟨k, hk, rfl, hall, gb, gW⟩ := hrel
      have HA := Lib.hid hall
      clear hall
      by_cases hlt : k < x.n2
      · have hkl : k < x.xs.length := by rw [← HN.out]; exact hlt
        obtain ⟨hok, ad, hA, hab, hcell⟩ := (HRK.out wr gb).2 k _ (List.getElem?_eq_getElem hkl)
        have HOFF := Lib.hid fun h => all_offE hkl h
        have HAK := Lib.hid fun (h : rightE (x.xs[k]).e = true) (j : Nat) (hj : j < x.xs.length) (hjk : j < k + 1) => (by
          by_cases e : j = k
          · subst e; exact h
          · exact HA.out j hj (by omega) : rightE (x.xs[j]).e = true)
        have hright := fun (w' : World) (h : RdD w' w'.heap.size (x.xs[k]).A (x.xs[k]).m (x.xs[k]).e.l) => eright_any (x.xs[k]).e hok.1 (x.xs[k]).A (x.xs[k]).m (x.xs[k]).c w' h
        generalize x.xs[k] = y at *
        rw [hA] at *
        obtain ⟨cs, hcs⟩ : ∃ cs, cs = y.cs := ⟨_, rfl⟩
        have hec : ec y.e (.slice y.A y.m y.c) = cs := hcs.symm
        rw [← hcs] at hcell
        rw [hec] at hright
        have HSZ := Lib.hid (show cs.size = 14 by rw [hcs]; rfl)
        have H1C := Lib.hid (show cs.all (·.oneCell') = true by rw [hcs]; exact y.one)
        have HC := Lib.hid hcell
        have HRT := Lib.hid hright
        have HOK := Lib.hid fun (w' : World) (h : Below wr.heap.size wr w') => ((hok.2.1.below (h.mono gb.size)).more (show w.heap.size ≤ w'.heap.size by have := h.size; have := gb.size; omega))
        have hk0 : (0 : Int) ≤ (k : Int) := by omega
        have hkm : (k : Int) < (x.n2 : Int) := by omega
        clear hcs hec hcell hok hright
        go_upto_region 5 with fail
        go_upto_region 6 with first
          | ((with_reducible refine wpList_lda rowE HC.out HSZ.out ?_ ?_); rotate_left; (rfl))
          | ((with_reducible refine wpList_st rowE (Blk.new _ _ _) HSZ.out ?_ H1C.out ?_ ?_ ?_); (rfl); rotate_left; (rfl); (rfl); intro w6 k6 g6 z6)
        have bA : Below wr.heap.size wr w6 := new_below g6
        have gb6 := gb.trans (bA.mono gb.size)
        have gW6 := gW.trans (bA.mono gW.size)
        have rd6 := HOK.out w6 bA
        obtain ⟨gr, hgr2⟩ : ∃ gr, gr = wr.heap.size := ⟨_, rfl⟩
        rw [← hgr2] at k6 ⊢
        clear hgr2 g6 z6 bA gb gW
        cases hx : rightE y.e
        case false =>
          have hr : R = false := by rw [HR.out, HOFF.out hx]; rfl
          subst hr
          have hrt := HRT.out w6 rd6
          rw [hx] at hrt
          have HRT2 := Lib.hid hrt
          clear hx hrt HRT
          go_wp2_with ((with_reducible refine wpList_ld rowE k6 HSZ.out ?_ ?_); rotate_left; (rfl))
          refine HRT2.out.mono ?_
          rintro e w7 ⟨rfl, b7⟩
          have gb7 := gb6.trans (b7.mono gb6.size)
          go_wp2_with fail
          go_ret
          exact ⟨rfl, gb7⟩
        case true =>
          have hrt := HRT.out w6 rd6
          rw [hx] at hrt
          have HRT2 := Lib.hid hrt
          have HX := Lib.hid hx
          clear hx hrt HRT
          go_wp2_with ((with_reducible refine wpList_ld rowE k6 HSZ.out ?_ ?_); rotate_left; (rfl))
          refine HRT2.out.mono ?_
          rintro e w7 ⟨rfl, b7⟩
          have gb7 := gb6.trans (b7.mono gb6.size)
          have gW7 := gW6.trans (b7.mono gW6.size)
          go_wp2_with fail
          go_roundw
          case rel => exact ⟨k + 1, by omega, by go_num, HAK.out HX.out, gb7, gW7⟩
          case measure => simp [intOf]; omega
      · have hkd : decide ((k : Int) < (x.n2 : Int)) = false := decide_eq_false (by omega)
        have k14b : wr.cell? ⟨G + 1, 14, none⟩ = some (.slice x.A2 x.n2 x.c2) := (gW.cell hGW).trans k14
        have hr : R = decide ((x.n2 : Int) ≤ 768) := by
          rw [HR.out]
          have h1 : (x.xs.map (·.e)).all rightE = true := by
            rw [List.all_eq_true]
            intro e he
            obtain ⟨y, hy, rfl⟩ := List.mem_map.1 he
            obtain ⟨i, hi, rfl⟩ := List.getElem_of_mem hy
            exact HA.out i hi (by have := HN.out; omega)
          rw [h1, Bool.true_and]
          congr 1
          rw [eq_iff_iff]
          omega
        have HRR := Lib.hid hr
        clear hr
        go_wp2_with fail
        go_ret
        rw [HRR.out]
        exact ⟨rfl, gb⟩
end Go.Proofs.Ytcgalmnllegnbaa

/- The walk of msg.Right (printed by wip/gen/msgright3.py). -/
namespace Go.Proofs.Ytcgalmnllegnbaa
set_option linter.unusedVariables false
set_option linter.unusedSimpArgs false
set_option maxRecDepth 100000
open Go.RowKit
open Dot Evt
open Ms (Mem)
/-- what is asked of a message -/
def asksM (m : Ms.Msg) : Nat → Bool
  | 0 => inB m.seq 0 (Ms.mostS m.kind)
  | 1 => Ms.askNode m
  | 2 => Ms.askSeen m
  | _ => Ms.askEv m
theorem ask0_any (x : MgV) (w : World) : Calls Try.prog 46 #[hasV x.m.kind, .agg x.cs] w fun e w' => e = .returned (.bool (asksM x.m 0)) ∧ Below w.heap.size w w' := by
  have h := askSeq_any (decide (x.m.kind ≠ 5)) (decide (x.m.kind = 2 ∨ x.m.kind = 3)) (decide (x.m.kind = 4)) (decide (x.m.kind = 5)) x w
  have e : inB x.m.seq 0 (if decide (x.m.kind = 4) = true then 1 else if decide (x.m.kind ≠ 5) = true then 1099511627776 else 0) = asksM x.m 0 := by
    show _ = inB x.m.seq 0 (Ms.mostS x.m.kind)
    congr 1
    unfold Ms.mostS Ms.top
    by_cases h4 : x.m.kind = 4
    · rw [if_pos (decide_eq_true h4), if_neg (by omega), if_pos h4]
    · rw [if_neg (by rw [decide_eq_false h4]; decide)]
      by_cases h5 : x.m.kind = 5
      · rw [if_neg (by rw [decide_eq_false (by omega)]; decide), if_pos h5]
      · rw [if_pos (decide_eq_true h5), if_neg h5, if_neg h4]
  rw [e] at h
  exact h
theorem ask1_any (x : MgV) (w : World) : Calls Try.prog 47 #[hasV x.m.kind, .agg x.cs] w fun e w' => e = .returned (.bool (asksM x.m 1)) ∧ Below w.heap.size w w' := by
  have h := askNode_any (decide (x.m.kind ≠ 5)) (decide (x.m.kind = 2 ∨ x.m.kind = 3)) (decide (x.m.kind = 4)) (decide (x.m.kind = 5)) x w
  have e : ((decide (x.m.kind = 2 ∨ x.m.kind = 3) && Ms.nodeB x.m.node) || decide (x.m.node = 0)) = asksM x.m 1 := by
    show _ = Ms.askNode x.m
    unfold Ms.askNode
    by_cases h4 : x.m.kind = 2 ∨ x.m.kind = 3
    · rw [if_pos h4, decide_eq_true h4, Bool.true_and]
      by_cases hz : x.m.node = 0
      · rw [decide_eq_true hz, Bool.or_true, eq_comm, Ms.nodeB_iff]
        omega
      · rw [decide_eq_false hz, Bool.or_false]
    · rw [if_neg h4, decide_eq_false h4, Bool.false_and, Bool.false_or]
  rw [e] at h
  exact h
theorem ask2_any (x : MgV) (hu : x.m.u.length = 8) (wu : Wf x.m.u) (w : World) (hr : RdD w w.heap.size x.A1 x.n1 x.m.more) : Calls Try.prog 48 #[hasV x.m.kind, .agg x.cs] w fun e w' => e = .returned (.bool (asksM x.m 2)) ∧ Below w.heap.size w w' := by
  have h := askSeen_any (decide (x.m.kind ≠ 5)) (decide (x.m.kind = 2 ∨ x.m.kind = 3)) (decide (x.m.kind = 4)) (decide (x.m.kind = 5)) x hu wu w hr
  have e : (if decide (x.m.kind = 4) = true then rightB x.m.u x.m.more else Ms.noSeen x.m) = asksM x.m 2 := by
    show _ = Ms.askSeen x.m
    unfold Ms.askSeen
    by_cases h4 : x.m.kind = 4
    · rw [if_pos (decide_eq_true h4), if_pos h4]
    · rw [if_neg (by rw [decide_eq_false h4]; decide), if_neg h4]
  rw [e] at h
  exact h
theorem ask3_any (x : MgV) (w : World) (hr : RowEv w w.heap.size x.A2 x.n2 x.xs) (hes : x.m.ev = x.xs.map (·.e)) (hn : x.n2 ≤ 10000000000000) : Calls Try.prog 49 #[hasV x.m.kind, .agg x.cs] w fun e w' => e = .returned (.bool (asksM x.m 3)) ∧ Below w.heap.size w w' := by
  have h := askEv_any (decide (x.m.kind ≠ 5)) (decide (x.m.kind = 2 ∨ x.m.kind = 3)) (decide (x.m.kind = 4)) (decide (x.m.kind = 5)) x w hr hes hn
  have e : (if decide (x.m.kind = 5) = true then x.m.ev.all rightE && decide (x.m.ev.length ≤ 768) else decide (x.m.ev = [])) = asksM x.m 3 := by
    show _ = Ms.askEv x.m
    unfold Ms.askEv
    by_cases h4 : x.m.kind = 5
    · rw [if_pos (decide_eq_true h4), if_pos h4]
    · rw [if_neg (by rw [decide_eq_false h4]; decide), if_neg h4]
  rw [e] at h
  exact h
theorem right_asks (m : Ms.Msg) : Ms.rightM m = (Ms.headB m && (asksM m 0 && asksM m 1 && asksM m 2 && asksM m 3)) := by
  unfold Ms.rightM
  show (Ms.headB m && asksM m 0 && asksM m 1 && asksM m 2 && asksM m 3) = _
  simp only [Bool.and_assoc]
theorem asks_off (m : Ms.Msg) {k : Nat} (hk : k < 4) (h : asksM m k = false) : Ms.rightM m = false := by
  rw [right_asks]
  obtain rfl | rfl | rfl | rfl : k = 0 ∨ k = 1 ∨ k = 2 ∨ k = 3 := by omega
  all_goals (rw [h]; simp)
theorem head_off {m : Ms.Msg} (h : Ms.headB m = false) : Ms.rightM m = false := by rw [right_asks, h]; rfl
theorem run_ask0 (w : World) : (Instr.index 92 (.agg #[.func (.func 46) #[] #[], .func (.func 47) #[] #[], .func (.func 48) #[] #[], .func (.func 49) #[] #[]]) (.int .i64 0)).run Try.prog w = .ok (.func (.func 46) #[] #[]) w := by kernel_rfl
theorem run_ask1 (w : World) : (Instr.index 92 (.agg #[.func (.func 46) #[] #[], .func (.func 47) #[] #[], .func (.func 48) #[] #[], .func (.func 49) #[] #[]]) (.int .i64 1)).run Try.prog w = .ok (.func (.func 47) #[] #[]) w := by kernel_rfl
theorem run_ask2 (w : World) : (Instr.index 92 (.agg #[.func (.func 46) #[] #[], .func (.func 47) #[] #[], .func (.func 48) #[] #[], .func (.func 49) #[] #[]]) (.int .i64 2)).run Try.prog w = .ok (.func (.func 48) #[] #[]) w := by kernel_rfl
theorem run_ask3 (w : World) : (Instr.index 92 (.agg #[.func (.func 46) #[] #[], .func (.func 47) #[] #[], .func (.func 48) #[] #[], .func (.func 49) #[] #[]]) (.int .i64 3)).run Try.prog w = .ok (.func (.func 49) #[] #[]) w := by kernel_rfl
/-- a message that is read, its numbers those of an int64, its rows not too long -/
structure MgIn (w : World) (x : MgV) : Prop where
  ok : MgOk w w.heap.size x
  wu : Wf x.m.u
  b2 : x.n2 ≤ 10000000000000
  b3 : x.n3 ≤ maxLen
theorem MgIn.below {w w' : World} {x : MgV} (h : MgIn w x) (hb : Below w.heap.size w w') : MgIn w' x := ⟨(h.ok.below hb).mono hb.size, h.wu, h.b2, h.b3⟩
set_option maxHeartbeats 2000000 in
theorem mright_any (x : MgV) (w : World) (h : MgIn w x) : Calls Try.prog 14 #[.agg x.cs] w fun e w' => e = .returned (.bool (Ms.rightM x.m)) ∧ Below w.heap.size w w' := by
  obtain ⟨R, hR⟩ : ∃ R, R = Ms.rightM x.m := ⟨_, rfl⟩
  rw [← hR]
  have HR := Lib.hid hR
  have HIN := Lib.hid h
  have HAT := Lib.hid (mgv_at x)
  have SZ := Lib.hid x.size
  have h1 := fun w => mwithin_any x.m.kind 1 5 w
  have h2 := fun w => mnode_any x.m.frm w
  have h3 := fun w => mnode_any x.m.to w
  have h5 := fun (w' : World) (hb : Below w.heap.size w w') => members_any x.A3 x.n3 x.c3 x.m.mem w' (h.below hb).ok.mem h.b3
  have hh : Ms.headB x.m = (inB x.m.kind 1 5 && Ms.nodeB x.m.frm && Ms.nodeB x.m.to && !decide (x.m.frm = x.m.to) && Ms.membersB x.m.mem) := rfl
  have HH := Lib.hid fun (hk : inB x.m.kind 1 5 = true) (w' : World) => has17_any x.m.kind w' ((inB_iff _ _ _).1 hk)
  have HA0 := Lib.hid fun (w' : World) => ask0_any x w'
  have HA1 := Lib.hid fun (w' : World) => ask1_any x w'
  have HA2 := Lib.hid fun (w' : World) (hb : Below w.heap.size w w') => ask2_any x h.ok.u h.wu w' (h.below hb).ok.more
  have HA3 := Lib.hid fun (w' : World) (hb : Below w.heap.size w w') => ask3_any x w' (h.below hb).ok.ev h.ok.es h.b2
  clear h hR
  generalize hC : x.cs = C at *
  clear hC
  have b1 := HAT.out
  go_enter Try.func14, Try.ntmps14
  go_upto_region 1 with fail
  refine nameW ?_
  intro W hW
  obtain ⟨g, hg⟩ : ∃ g, g = w.heap.size := ⟨_, rfl⟩
  rw [← hg]
  have kb : Blk W g 27 C := by rw [hW, hg]; exact Blk.new w _ _
  have gb : Below w.heap.size w W := by rw [hW]; exact (Below.refl _ _).alloc (Nat.le_refl _) _
  have t0 : W.cell? ⟨g, 0, none⟩ = some (.int .i64 x.m.kind) := (kb.cell 0).trans b1.1
  have t1 : W.cell? ⟨g, 1, none⟩ = some (.int .i64 x.m.frm) := (kb.cell 1).trans b1.2.1
  have t2 : W.cell? ⟨g, 2, none⟩ = some (.int .i64 x.m.to) := (kb.cell 2).trans b1.2.2.1
  have t15 : W.cell? ⟨g, 15, none⟩ = some (.slice x.A3 x.n3 x.c3) := (kb.cell 15).trans b1.2.2.2.2.2.2.2
  have hgW : g < W.heap.size := kb.lt
  have H5 := Lib.hid (h5 W gb)
  clear hW hg b1 h5
  cases c1 : inB x.m.kind 1 5
  case false =>
    have hr : R = false := by rw [HR.out]; exact head_off (by rw [hh, c1]; rfl)
    subst hr
    rw [c1] at h1
    have H1 := Lib.hid h1
    clear h1 h2 h3 hh c1 kb HH
    go_wp2_with fail
    refine (H1.out _).mono ?_
    rintro e w1 ⟨rfl, rfl⟩
    go_wp2_with fail
    go_ret
    exact ⟨rfl, gb⟩
  rw [c1] at h1 hh
  have H1 := Lib.hid h1
  have HHK := Lib.hid (HH.out c1)
  clear h1 c1 HH
  cases c2 : Ms.nodeB x.m.frm
  case false =>
    have hr : R = false := by rw [HR.out]; exact head_off (by rw [hh, c2]; rfl)
    subst hr
    rw [c2] at h2
    have H2 := Lib.hid h2
    clear h2 h3 hh c2 kb
    go_wp2_with fail
    refine (H1.out _).mono ?_
    rintro e w1 ⟨rfl, rfl⟩
    go_wp2_with fail
    refine (H2.out _).mono ?_
    rintro e w1 ⟨rfl, rfl⟩
    go_wp2_with fail
    go_ret
    exact ⟨rfl, gb⟩
  rw [c2] at h2 hh
  have H2 := Lib.hid h2
  clear h2 c2
  cases c3 : Ms.nodeB x.m.to
  case false =>
    have hr : R = false := by rw [HR.out]; exact head_off (by rw [hh, c3]; rfl)
    subst hr
    rw [c3] at h3
    have H3 := Lib.hid h3
    clear h3 hh c3 kb
    go_wp2_with fail
    refine (H1.out _).mono ?_
    rintro e w1 ⟨rfl, rfl⟩
    go_wp2_with fail
    refine (H2.out _).mono ?_
    rintro e w1 ⟨rfl, rfl⟩
    go_wp2_with fail
    refine (H3.out _).mono ?_
    rintro e w1 ⟨rfl, rfl⟩
    go_wp2_with fail
    go_ret
    exact ⟨rfl, gb⟩
  rw [c3] at h3 hh
  have H3 := Lib.hid h3
  clear h3 c3
  by_cases c4 : x.m.frm = x.m.to
  · have hr : R = false := by rw [HR.out]; exact head_off (by rw [hh, decide_eq_true c4]; rfl)
    subst hr
    have hq : ((x.m.frm : Int) == x.m.to) = true := by rw [c4]; simp
    clear hh c4 kb
    go_wp2_with fail
    refine (H1.out _).mono ?_
    rintro e w1 ⟨rfl, rfl⟩
    go_wp2_with fail
    refine (H2.out _).mono ?_
    rintro e w1 ⟨rfl, rfl⟩
    go_wp2_with fail
    refine (H3.out _).mono ?_
    rintro e w1 ⟨rfl, rfl⟩
    go_wp2_with fail
    go_ret
    exact ⟨rfl, gb⟩
  have hq : ((x.m.frm : Int) == x.m.to) = false := by rw [beq_eq_false_iff_ne]; exact c4
  rw [decide_eq_false c4] at hh
  clear c4
  have h5 := H5.out
  cases c5 : Ms.membersB x.m.mem
  case false =>
    have hr : R = false := by rw [HR.out]; exact head_off (by rw [hh, c5]; rfl)
    subst hr
    rw [c5] at h5
    have H5b := Lib.hid h5
    clear h5 hh c5 kb H5
    go_wp2_with fail
    refine (H1.out _).mono ?_
    rintro e w1 ⟨rfl, rfl⟩
    go_wp2_with fail
    refine (H2.out _).mono ?_
    rintro e w1 ⟨rfl, rfl⟩
    go_wp2_with fail
    refine (H3.out _).mono ?_
    rintro e w1 ⟨rfl, rfl⟩
    go_wp2_with fail
    refine H5b.out.mono ?_
    rintro e w2 ⟨rfl, b2⟩
    have gb := gb.trans (b2.mono gb.size)
    go_wp2_with fail
    go_ret
    exact ⟨rfl, gb⟩
  rw [c5] at h5 hh
  have H5b := Lib.hid h5
  have HHD := Lib.hid (show Ms.headB x.m = true from hh)
  clear h5 hh c5 H5
  go_wp2_with fail
  refine (H1.out _).mono ?_
  rintro e w1 ⟨rfl, rfl⟩
  go_wp2_with fail
  refine (H2.out _).mono ?_
  rintro e w1 ⟨rfl, rfl⟩
  go_wp2_with fail
  refine (H3.out _).mono ?_
  rintro e w1 ⟨rfl, rfl⟩
  go_wp2_with fail
  refine H5b.out.mono ?_
  rintro e w2 ⟨rfl, b2⟩
  have gb := gb.trans (b2.mono gb.size)
  have kb := kb.below b2 kb.lt
  clear t0 t1 t2 t15 hgW b2 H1 H2 H3 H5b
  go_wp2_with fail
  go_loopw [35] (fun i wr => ∃ k : Nat, k ≤ 4 ∧ i = .int .i64 k ∧ (∀ j, j < k → asksM x.m j = true) ∧ Below w.heap.size w wr ∧ Blk wr g 27 C) (fun i _ => 4 - (intOf i).toNat)
  case atStart => exact ⟨0, by omega, rfl, fun j hj => by omega, gb, kb⟩
  case round =>
    clear gb kb
    obtain ⟨k, hk, rfl, hall, gb, kb⟩ := hrel
    have HA := Lib.hid hall
    clear hall
    have t0 : wr.cell? ⟨g, 0, none⟩ = some (.int .i64 x.m.kind) := (kb.cell 0).trans HAT.out.1
    have hgW : g < wr.heap.size := kb.lt
    by_cases hlt : k < 4
    · obtain rfl | rfl | rfl | rfl : k = 0 ∨ k = 1 ∨ k = 2 ∨ k = 3 := by omega
      · have HOFF := Lib.hid fun (h : asksM x.m 0 = false) => asks_off x.m (k := 0) (by omega) h
        go_upto_region 6 with ((with_reducible refine wpList_ix (run_ask0 _) ?_ ?_ ?_); rotate_left; (rfl); (rfl))
        refine wp_region_tailF 6 5 (fun L v w => v 1 = .pointer (some ⟨g, 0, none⟩) ∧ v 4 = .func (.func 46) #[] #[] ∧ Below wr.heap.size wr w ∧ (L 0 = true → v 38 = .func (.func 46) #[] #[]) ∧ (L 1 = true → v 39 = .pointer (some ⟨g, 0, none⟩)) ∧ (L 2 = true → v 40 = .int .i64 x.m.kind) ∧ (L 3 = true → v 41 = hasV x.m.kind) ∧ (L 4 = true → v 42 = .agg C)) [38, 39, 40, 41, 42] (by kernel_rfl) (by kernel_rfl) (by kernel_rfl) (by kernel_rfl) (by kernel_rfl) (by kernel_rfl) ?h0 ?hst ?hend
        case h0 =>
          intro L h0
          have h0 : ∀ i, i < 5 → L i = false := h0
          exact ⟨rfl, rfl, (Below.refl _ _).drew, offF h0 (i := 0) (by decide), offF h0 (i := 1) (by decide), offF h0 (i := 2) (by decide), offF h0 (i := 3) (by decide), offF h0 (i := 4) (by decide)⟩
        case hst =>
          show FactSteps _ _ _ _ [0, 1, 2, 3, 4]
          refine @FactSteps.cons _ _ _ _ 0 _ [] _ rfl (by kernel_rfl) ?s0 ?_
          rotate_left
          refine @FactSteps.cons _ _ _ _ 1 _ [] _ rfl (by kernel_rfl) ?s1 ?_
          rotate_left
          refine @FactSteps.cons _ _ _ _ 2 _ [1] _ rfl (by kernel_rfl) ?s2 ?_
          rotate_left
          refine @FactSteps.cons _ _ _ _ 3 _ [2] _ rfl (by kernel_rfl) ?s3 ?_
          rotate_left
          refine @FactSteps.cons _ _ _ _ 4 _ [] _ rfl (by kernel_rfl) ?s4 ?_
          rotate_left
          exact FactSteps.nil
          case s0 =>
            rintro L a v w hv hg hL hd hcl ⟨e1, e4, hb, f0, f1, f2, f3, f4⟩ K hK
            refine step_do rfl ?_
            clear hv
            go_simp
            exact hK.out _ _ ⟨e1, e4, hb, fun _ => rfl, f1, f2, f3, f4⟩
          case s1 =>
            rintro L a v w hv hg hL hd hcl ⟨e1, e4, hb, f0, f1, f2, f3, f4⟩ K hK
            refine step_do rfl ?_
            clear hv
            go_simp
            exact hK.out _ _ ⟨e1, e4, hb, f0, fun _ => rfl, f2, f3, f4⟩
          case s2 =>
            rintro L a v w hv hg hL hd hcl ⟨e1, e4, hb, f0, f1, f2, f3, f4⟩ K hK
            have g1 := f1 (hd 1 (by decide))
            have hc := (hb.cell (p := ⟨g, 0, none⟩) hgW).trans t0
            refine step_do rfl ?_
            clear hv
            go_simp
            exact hK.out _ _ ⟨e1, e4, hb, f0, f1, fun _ => rfl, f3, f4⟩
          case s3 =>
            rintro L a v w hv hg hL hd hcl ⟨e1, e4, hb, f0, f1, f2, f3, f4⟩ K hK
            have h2 := f2 (hd 2 (by decide))
            refine step_do rfl ?_
            clear hv
            go_simp
            refine (HHK.out w).mono ?_
            rintro e wy ⟨rfl, bb⟩
            exact hK.out _ _ ⟨e1, e4, (hb.trans (bb.mono hb.size)), f0, f1, f2, fun _ => rfl, f4⟩
          case s4 =>
            rintro L a v w hv hg hL hd hcl ⟨e1, e4, hb, f0, f1, f2, f3, f4⟩ K hK
            refine step_do rfl ?_
            refine wp_ld rowMg (.tmp 1) rfl ((hv 1).trans e1) (kb.below hb kb.lt) SZ.out ?_
            exact hK.out _ _ ⟨e1, e4, hb, f0, f1, f2, f3, fun _ => rfl⟩
        case hend =>
        rintro L v wx hall ⟨e1, e4, hb, f0, f1, f2, f3, f4⟩
        have hL : ∀ i, i < 5 → L i = true := hall
        have f0 := f0 (hL 0 (by decide))
        have f1 := f1 (hL 1 (by decide))
        have f2 := f2 (hL 2 (by decide))
        have f3 := f3 (hL 3 (by decide))
        have f4 := f4 (hL 4 (by decide))
        simp only [finA, List.foldl_cons, List.foldl_nil, Act.put, List.setIfInBounds_toArray, List.set_cons_succ, List.set_cons_zero, f0, f1, f2, f4, f3]
        have HC := Lib.hid (HA0.out wx)
        have gbx := gb.trans (hb.mono gb.size)
        have kbx := kb.below hb kb.lt
        clear e1 e4 f0 f1 f2 f3 f4 hL hall
        clear kb gb t0 hgW
        show wpList _ _ _ [_, _] _ _
        have hcv := HC.out
        cases ca : asksM x.m 0
        case false =>
          have hr : R = false := by rw [HR.out]; exact HOFF.out ca
          subst hr
          rw [ca] at hcv
          have HCV := Lib.hid hcv
          clear hcv ca HC
          go_wp2_with fail
          refine HCV.out.mono ?_
          rintro e w3 ⟨rfl, b3⟩
          have gb := gbx.trans (b3.mono gbx.size)
          go_wp2_with fail
          go_ret
          exact ⟨rfl, gb⟩
        case true =>
          rw [ca] at hcv
          have HCV := Lib.hid hcv
          have HCA := Lib.hid ca
          clear hcv ca HC
          go_wp2_with fail
          refine HCV.out.mono ?_
          rintro e w3 ⟨rfl, b3⟩
          have gb := gbx.trans (b3.mono gbx.size)
          have kb := kbx.below b3 kbx.lt
          go_wp2_with fail
          go_roundw
          case rel => exact ⟨1, by omega, by go_num, fun j hj => by
            by_cases e : j = 0
            · rw [e]; exact HCA.out
            · exact HA.out j (by omega), gb, kb⟩
          case measure => simp [intOf]
      · have HOFF := Lib.hid fun (h : asksM x.m 1 = false) => asks_off x.m (k := 1) (by omega) h
        go_upto_region 6 with ((with_reducible refine wpList_ix (run_ask1 _) ?_ ?_ ?_); rotate_left; (rfl); (rfl))
        refine wp_region_tailF 6 5 (fun L v w => v 1 = .pointer (some ⟨g, 0, none⟩) ∧ v 4 = .func (.func 47) #[] #[] ∧ Below wr.heap.size wr w ∧ (L 0 = true → v 38 = .func (.func 47) #[] #[]) ∧ (L 1 = true → v 39 = .pointer (some ⟨g, 0, none⟩)) ∧ (L 2 = true → v 40 = .int .i64 x.m.kind) ∧ (L 3 = true → v 41 = hasV x.m.kind) ∧ (L 4 = true → v 42 = .agg C)) [38, 39, 40, 41, 42] (by kernel_rfl) (by kernel_rfl) (by kernel_rfl) (by kernel_rfl) (by kernel_rfl) (by kernel_rfl) ?h0 ?hst ?hend
        case h0 =>
          intro L h0
          have h0 : ∀ i, i < 5 → L i = false := h0
          exact ⟨rfl, rfl, (Below.refl _ _).drew, offF h0 (i := 0) (by decide), offF h0 (i := 1) (by decide), offF h0 (i := 2) (by decide), offF h0 (i := 3) (by decide), offF h0 (i := 4) (by decide)⟩
        case hst =>
          show FactSteps _ _ _ _ [0, 1, 2, 3, 4]
          refine @FactSteps.cons _ _ _ _ 0 _ [] _ rfl (by kernel_rfl) ?s0 ?_
          rotate_left
          refine @FactSteps.cons _ _ _ _ 1 _ [] _ rfl (by kernel_rfl) ?s1 ?_
          rotate_left
          refine @FactSteps.cons _ _ _ _ 2 _ [1] _ rfl (by kernel_rfl) ?s2 ?_
          rotate_left
          refine @FactSteps.cons _ _ _ _ 3 _ [2] _ rfl (by kernel_rfl) ?s3 ?_
          rotate_left
          refine @FactSteps.cons _ _ _ _ 4 _ [] _ rfl (by kernel_rfl) ?s4 ?_
          rotate_left
          exact FactSteps.nil
          case s0 =>
            rintro L a v w hv hg hL hd hcl ⟨e1, e4, hb, f0, f1, f2, f3, f4⟩ K hK
            refine step_do rfl ?_
            clear hv
            go_simp
            exact hK.out _ _ ⟨e1, e4, hb, fun _ => rfl, f1, f2, f3, f4⟩
          case s1 =>
            rintro L a v w hv hg hL hd hcl ⟨e1, e4, hb, f0, f1, f2, f3, f4⟩ K hK
            refine step_do rfl ?_
            clear hv
            go_simp
            exact hK.out _ _ ⟨e1, e4, hb, f0, fun _ => rfl, f2, f3, f4⟩
          case s2 =>
            rintro L a v w hv hg hL hd hcl ⟨e1, e4, hb, f0, f1, f2, f3, f4⟩ K hK
            have g1 := f1 (hd 1 (by decide))
            have hc := (hb.cell (p := ⟨g, 0, none⟩) hgW).trans t0
            refine step_do rfl ?_
            clear hv
            go_simp
            exact hK.out _ _ ⟨e1, e4, hb, f0, f1, fun _ => rfl, f3, f4⟩
          case s3 =>
            rintro L a v w hv hg hL hd hcl ⟨e1, e4, hb, f0, f1, f2, f3, f4⟩ K hK
            have h2 := f2 (hd 2 (by decide))
            refine step_do rfl ?_
            clear hv
            go_simp
            refine (HHK.out w).mono ?_
            rintro e wy ⟨rfl, bb⟩
            exact hK.out _ _ ⟨e1, e4, (hb.trans (bb.mono hb.size)), f0, f1, f2, fun _ => rfl, f4⟩
          case s4 =>
            rintro L a v w hv hg hL hd hcl ⟨e1, e4, hb, f0, f1, f2, f3, f4⟩ K hK
            refine step_do rfl ?_
            refine wp_ld rowMg (.tmp 1) rfl ((hv 1).trans e1) (kb.below hb kb.lt) SZ.out ?_
            exact hK.out _ _ ⟨e1, e4, hb, f0, f1, f2, f3, fun _ => rfl⟩
        case hend =>
        rintro L v wx hall ⟨e1, e4, hb, f0, f1, f2, f3, f4⟩
        have hL : ∀ i, i < 5 → L i = true := hall
        have f0 := f0 (hL 0 (by decide))
        have f1 := f1 (hL 1 (by decide))
        have f2 := f2 (hL 2 (by decide))
        have f3 := f3 (hL 3 (by decide))
        have f4 := f4 (hL 4 (by decide))
        simp only [finA, List.foldl_cons, List.foldl_nil, Act.put, List.setIfInBounds_toArray, List.set_cons_succ, List.set_cons_zero, f0, f1, f2, f4, f3]
        have HC := Lib.hid (HA1.out wx)
        have gbx := gb.trans (hb.mono gb.size)
        have kbx := kb.below hb kb.lt
        clear e1 e4 f0 f1 f2 f3 f4 hL hall
        clear kb gb t0 hgW
        show wpList _ _ _ [_, _] _ _
        have hcv := HC.out
        cases ca : asksM x.m 1
        case false =>
          have hr : R = false := by rw [HR.out]; exact HOFF.out ca
          subst hr
          rw [ca] at hcv
          have HCV := Lib.hid hcv
          clear hcv ca HC
          go_wp2_with fail
          refine HCV.out.mono ?_
          rintro e w3 ⟨rfl, b3⟩
          have gb := gbx.trans (b3.mono gbx.size)
          go_wp2_with fail
          go_ret
          exact ⟨rfl, gb⟩
        case true =>
          rw [ca] at hcv
          have HCV := Lib.hid hcv
          have HCA := Lib.hid ca
          clear hcv ca HC
          go_wp2_with fail
          refine HCV.out.mono ?_
          rintro e w3 ⟨rfl, b3⟩
          have gb := gbx.trans (b3.mono gbx.size)
          have kb := kbx.below b3 kbx.lt
          go_wp2_with fail
          go_roundw
          case rel => exact ⟨2, by omega, by go_num, fun j hj => by
            by_cases e : j = 1
            · rw [e]; exact HCA.out
            · exact HA.out j (by omega), gb, kb⟩
          case measure => simp [intOf]
      · have HOFF := Lib.hid fun (h : asksM x.m 2 = false) => asks_off x.m (k := 2) (by omega) h
        go_upto_region 6 with ((with_reducible refine wpList_ix (run_ask2 _) ?_ ?_ ?_); rotate_left; (rfl); (rfl))
        refine wp_region_tailF 6 5 (fun L v w => v 1 = .pointer (some ⟨g, 0, none⟩) ∧ v 4 = .func (.func 48) #[] #[] ∧ Below wr.heap.size wr w ∧ (L 0 = true → v 38 = .func (.func 48) #[] #[]) ∧ (L 1 = true → v 39 = .pointer (some ⟨g, 0, none⟩)) ∧ (L 2 = true → v 40 = .int .i64 x.m.kind) ∧ (L 3 = true → v 41 = hasV x.m.kind) ∧ (L 4 = true → v 42 = .agg C)) [38, 39, 40, 41, 42] (by kernel_rfl) (by kernel_rfl) (by kernel_rfl) (by kernel_rfl) (by kernel_rfl) (by kernel_rfl) ?h0 ?hst ?hend
        case h0 =>
          intro L h0
          have h0 : ∀ i, i < 5 → L i = false := h0
          exact ⟨rfl, rfl, (Below.refl _ _).drew, offF h0 (i := 0) (by decide), offF h0 (i := 1) (by decide), offF h0 (i := 2) (by decide), offF h0 (i := 3) (by decide), offF h0 (i := 4) (by decide)⟩
        case hst =>
          show FactSteps _ _ _ _ [0, 1, 2, 3, 4]
          refine @FactSteps.cons _ _ _ _ 0 _ [] _ rfl (by kernel_rfl) ?s0 ?_
          rotate_left
          refine @FactSteps.cons _ _ _ _ 1 _ [] _ rfl (by kernel_rfl) ?s1 ?_
          rotate_left
          refine @FactSteps.cons _ _ _ _ 2 _ [1] _ rfl (by kernel_rfl) ?s2 ?_
          rotate_left
          refine @FactSteps.cons _ _ _ _ 3 _ [2] _ rfl (by kernel_rfl) ?s3 ?_
          rotate_left
          refine @FactSteps.cons _ _ _ _ 4 _ [] _ rfl (by kernel_rfl) ?s4 ?_
          rotate_left
          exact FactSteps.nil
          case s0 =>
            rintro L a v w hv hg hL hd hcl ⟨e1, e4, hb, f0, f1, f2, f3, f4⟩ K hK
            refine step_do rfl ?_
            clear hv
            go_simp
            exact hK.out _ _ ⟨e1, e4, hb, fun _ => rfl, f1, f2, f3, f4⟩
          case s1 =>
            rintro L a v w hv hg hL hd hcl ⟨e1, e4, hb, f0, f1, f2, f3, f4⟩ K hK
            refine step_do rfl ?_
            clear hv
            go_simp
            exact hK.out _ _ ⟨e1, e4, hb, f0, fun _ => rfl, f2, f3, f4⟩
          case s2 =>
            rintro L a v w hv hg hL hd hcl ⟨e1, e4, hb, f0, f1, f2, f3, f4⟩ K hK
            have g1 := f1 (hd 1 (by decide))
            have hc := (hb.cell (p := ⟨g, 0, none⟩) hgW).trans t0
            refine step_do rfl ?_
            clear hv
            go_simp
            exact hK.out _ _ ⟨e1, e4, hb, f0, f1, fun _ => rfl, f3, f4⟩
          case s3 =>
            rintro L a v w hv hg hL hd hcl ⟨e1, e4, hb, f0, f1, f2, f3, f4⟩ K hK
            have h2 := f2 (hd 2 (by decide))
            refine step_do rfl ?_
            clear hv
            go_simp
            refine (HHK.out w).mono ?_
            rintro e wy ⟨rfl, bb⟩
            exact hK.out _ _ ⟨e1, e4, (hb.trans (bb.mono hb.size)), f0, f1, f2, fun _ => rfl, f4⟩
          case s4 =>
            rintro L a v w hv hg hL hd hcl ⟨e1, e4, hb, f0, f1, f2, f3, f4⟩ K hK
            refine step_do rfl ?_
            refine wp_ld rowMg (.tmp 1) rfl ((hv 1).trans e1) (kb.below hb kb.lt) SZ.out ?_
            exact hK.out _ _ ⟨e1, e4, hb, f0, f1, f2, f3, fun _ => rfl⟩
        case hend =>
        rintro L v wx hall ⟨e1, e4, hb, f0, f1, f2, f3, f4⟩
        have hL : ∀ i, i < 5 → L i = true := hall
        have f0 := f0 (hL 0 (by decide))
        have f1 := f1 (hL 1 (by decide))
        have f2 := f2 (hL 2 (by decide))
        have f3 := f3 (hL 3 (by decide))
        have f4 := f4 (hL 4 (by decide))
        simp only [finA, List.foldl_cons, List.foldl_nil, Act.put, List.setIfInBounds_toArray, List.set_cons_succ, List.set_cons_zero, f0, f1, f2, f4, f3]
        have HC := Lib.hid (HA2.out wx (gb.trans (hb.mono gb.size)))
        have gbx := gb.trans (hb.mono gb.size)
        have kbx := kb.below hb kb.lt
        clear e1 e4 f0 f1 f2 f3 f4 hL hall
        clear kb gb t0 hgW
        show wpList _ _ _ [_, _] _ _
        have hcv := HC.out
        cases ca : asksM x.m 2
        case false =>
          have hr : R = false := by rw [HR.out]; exact HOFF.out ca
          subst hr
          rw [ca] at hcv
          have HCV := Lib.hid hcv
          clear hcv ca HC
          go_wp2_with fail
          refine HCV.out.mono ?_
          rintro e w3 ⟨rfl, b3⟩
          have gb := gbx.trans (b3.mono gbx.size)
          go_wp2_with fail
          go_ret
          exact ⟨rfl, gb⟩
        case true =>
          rw [ca] at hcv
          have HCV := Lib.hid hcv
          have HCA := Lib.hid ca
          clear hcv ca HC
          go_wp2_with fail
          refine HCV.out.mono ?_
          rintro e w3 ⟨rfl, b3⟩
          have gb := gbx.trans (b3.mono gbx.size)
          have kb := kbx.below b3 kbx.lt
          go_wp2_with fail
          go_roundw
          case rel => exact ⟨3, by omega, by go_num, fun j hj => by
            by_cases e : j = 2
            · rw [e]; exact HCA.out
            · exact HA.out j (by omega), gb, kb⟩
          case measure => simp [intOf]
      · have HOFF := Lib.hid fun (h : asksM x.m 3 = false) => asks_off x.m (k := 3) (by omega) h
        go_upto_region 6 with ((with_reducible refine wpList_ix (run_ask3 _) ?_ ?_ ?_); rotate_left; (rfl); (rfl))
        refine wp_region_tailF 6 5 (fun L v w => v 1 = .pointer (some ⟨g, 0, none⟩) ∧ v 4 = .func (.func 49) #[] #[] ∧ Below wr.heap.size wr w ∧ (L 0 = true → v 38 = .func (.func 49) #[] #[]) ∧ (L 1 = true → v 39 = .pointer (some ⟨g, 0, none⟩)) ∧ (L 2 = true → v 40 = .int .i64 x.m.kind) ∧ (L 3 = true → v 41 = hasV x.m.kind) ∧ (L 4 = true → v 42 = .agg C)) [38, 39, 40, 41, 42] (by kernel_rfl) (by kernel_rfl) (by kernel_rfl) (by kernel_rfl) (by kernel_rfl) (by kernel_rfl) ?h0 ?hst ?hend
        case h0 =>
          intro L h0
          have h0 : ∀ i, i < 5 → L i = false := h0
          exact ⟨rfl, rfl, (Below.refl _ _).drew, offF h0 (i := 0) (by decide), offF h0 (i := 1) (by decide), offF h0 (i := 2) (by decide), offF h0 (i := 3) (by decide), offF h0 (i := 4) (by decide)⟩
        case hst =>
          show FactSteps _ _ _ _ [0, 1, 2, 3, 4]
          refine @FactSteps.cons _ _ _ _ 0 _ [] _ rfl (by kernel_rfl) ?s0 ?_
          rotate_left
          refine @FactSteps.cons _ _ _ _ 1 _ [] _ rfl (by kernel_rfl) ?s1 ?_
          rotate_left
          refine @FactSteps.cons _ _ _ _ 2 _ [1] _ rfl (by kernel_rfl) ?s2 ?_
          rotate_left
          refine @FactSteps.cons _ _ _ _ 3 _ [2] _ rfl (by kernel_rfl) ?s3 ?_
          rotate_left
          refine @FactSteps.cons _ _ _ _ 4 _ [] _ rfl (by kernel_rfl) ?s4 ?_
          rotate_left
          exact FactSteps.nil
          case s0 =>
            rintro L a v w hv hg hL hd hcl ⟨e1, e4, hb, f0, f1, f2, f3, f4⟩ K hK
            refine step_do rfl ?_
            clear hv
            go_simp
            exact hK.out _ _ ⟨e1, e4, hb, fun _ => rfl, f1, f2, f3, f4⟩
          case s1 =>
            rintro L a v w hv hg hL hd hcl ⟨e1, e4, hb, f0, f1, f2, f3, f4⟩ K hK
            refine step_do rfl ?_
            clear hv
            go_simp
            exact hK.out _ _ ⟨e1, e4, hb, f0, fun _ => rfl, f2, f3, f4⟩
          case s2 =>
            rintro L a v w hv hg hL hd hcl ⟨e1, e4, hb, f0, f1, f2, f3, f4⟩ K hK
            have g1 := f1 (hd 1 (by decide))
            have hc := (hb.cell (p := ⟨g, 0, none⟩) hgW).trans t0
            refine step_do rfl ?_
            clear hv
            go_simp
            exact hK.out _ _ ⟨e1, e4, hb, f0, f1, fun _ => rfl, f3, f4⟩
          case s3 =>
            rintro L a v w hv hg hL hd hcl ⟨e1, e4, hb, f0, f1, f2, f3, f4⟩ K hK
            have h2 := f2 (hd 2 (by decide))
            refine step_do rfl ?_
            clear hv
            go_simp
            refine (HHK.out w).mono ?_
            rintro e wy ⟨rfl, bb⟩
            exact hK.out _ _ ⟨e1, e4, (hb.trans (bb.mono hb.size)), f0, f1, f2, fun _ => rfl, f4⟩
          case s4 =>
            rintro L a v w hv hg hL hd hcl ⟨e1, e4, hb, f0, f1, f2, f3, f4⟩ K hK
            refine step_do rfl ?_
            refine wp_ld rowMg (.tmp 1) rfl ((hv 1).trans e1) (kb.below hb kb.lt) SZ.out ?_
            exact hK.out _ _ ⟨e1, e4, hb, f0, f1, f2, f3, fun _ => rfl⟩
        case hend =>
        rintro L v wx hall ⟨e1, e4, hb, f0, f1, f2, f3, f4⟩
        have hL : ∀ i, i < 5 → L i = true := hall
        have f0 := f0 (hL 0 (by decide))
        have f1 := f1 (hL 1 (by decide))
        have f2 := f2 (hL 2 (by decide))
        have f3 := f3 (hL 3 (by decide))
        have f4 := f4 (hL 4 (by decide))
        simp only [finA, List.foldl_cons, List.foldl_nil, Act.put, List.setIfInBounds_toArray, List.set_cons_succ, List.set_cons_zero, f0, f1, f2, f4, f3]
        have HC := Lib.hid (HA3.out wx (gb.trans (hb.mono gb.size)))
        have gbx := gb.trans (hb.mono gb.size)
        have kbx := kb.below hb kb.lt
        clear e1 e4 f0 f1 f2 f3 f4 hL hall
        clear kb gb t0 hgW
        show wpList _ _ _ [_, _] _ _
        have hcv := HC.out
        cases ca : asksM x.m 3
        case false =>
          have hr : R = false := by rw [HR.out]; exact HOFF.out ca
          subst hr
          rw [ca] at hcv
          have HCV := Lib.hid hcv
          clear hcv ca HC
          go_wp2_with fail
          refine HCV.out.mono ?_
          rintro e w3 ⟨rfl, b3⟩
          have gb := gbx.trans (b3.mono gbx.size)
          go_wp2_with fail
          go_ret
          exact ⟨rfl, gb⟩
        case true =>
          rw [ca] at hcv
          have HCV := Lib.hid hcv
          have HCA := Lib.hid ca
          clear hcv ca HC
          go_wp2_with fail
          refine HCV.out.mono ?_
          rintro e w3 ⟨rfl, b3⟩
          have gb := gbx.trans (b3.mono gbx.size)
          have kb := kbx.below b3 kbx.lt
          go_wp2_with fail
          go_roundw
          case rel => exact ⟨4, by omega, by go_num, fun j hj => by
            by_cases e : j = 3
            · rw [e]; exact HCA.out
            · exact HA.out j (by omega), gb, kb⟩
          case measure => simp [intOf]
    · obtain rfl : k = 4 := by omega
      have hr : R = true := by rw [HR.out, right_asks, HHD.out, HA.out 0 (by omega), HA.out 1 (by omega), HA.out 2 (by omega), HA.out 3 (by omega)]; rfl
      subst hr
      go_wp2_with fail
      go_ret
      exact ⟨rfl, gb⟩
end Go.Proofs.Ytcgalmnllegnbaa

/- A message's head, put and read: plain. -/
namespace Go.Proofs.Ytcgalmnllegnbaa.Ms
set_option linter.unusedVariables false
set_option linter.unusedSimpArgs false
set_option maxRecDepth 100000
open Dot
open Evt (Ev inB inB_iff)
/-- numbers as they are put -/
def nb (ns : List Int) : List UInt8 := ns.flatMap fun z => Vint.enc z.toNat
theorem nb_cons (z : Int) (l : List Int) : nb (z :: l) = Vint.enc z.toNat ++ nb l := rfl
theorem nb_app (a b : List Int) : nb (a ++ b) = nb a ++ nb b := by unfold nb; rw [List.flatMap_append]
theorem dec_nb {z : Int} (h : 0 ≤ z ∧ z ≤ top) (r : List UInt8) : Vint.dec (Vint.enc z.toNat ++ r) = .ok (z.toNat, r) := Vint.dec_enc (by unfold Vint.top; unfold top at h; omega) r
theorem intM_ne {l : List UInt8} {e : Nat} (h : e ≠ 0) : Vint.intM l e = (0, l, e) := by unfold Vint.intM; rw [if_neg h]
theorem intM_bad {l : List UInt8} {x : Nat} (h : Vint.dec l = .error x) : Vint.intM l 0 = (0, l, x) := by simp [Vint.intM, h]
/-- a number read by a reader that keeps its error: what is left of the reading stays what it was -/
theorem intRel {α : Type} {G : Except Nat α} {F : Nat → List UInt8 → Except Nat α} {r rz : List UInt8} {e z ez : Nat}
    (h : (e = 0 ∧ G = (match Vint.dec r with | .error y => .error y | .ok (z, r') => F z r')) ∨ (e ≠ 0 ∧ G = .error e)) (hI : Vint.intM r e = (z, rz, ez)) :
    (ez = 0 ∧ G = F z rz) ∨ (ez ≠ 0 ∧ G = .error ez) := by
  by_cases he : e = 0
  · subst he
    have hG := (h.resolve_right (fun x => x.1 rfl)).2
    cases hd : Vint.dec r with
    | error y =>
      rw [intM_bad hd] at hI
      injection hI with i1 i2
      injection i2 with i2 i3
      subst i1 i2 i3
      have := Vint.dec_err hd
      exact .inr ⟨by omega, by rw [hG, hd]⟩
    | ok q =>
      obtain ⟨z', r'⟩ := q
      rw [Vint.intM_ok hd] at hI
      injection hI with i1 i2
      injection i2 with i2 i3
      subst i1 i2 i3
      exact .inl ⟨rfl, by rw [hG, hd]⟩
  · rw [intM_ne he] at hI
    injection hI with i1 i2
    injection i2 with i2 i3
    subst i1 i2 i3
    exact .inr (h.resolve_left (fun x => he x.1))
/-- three numbers -/
def tripE (bs : List UInt8) : Except Nat (Mem × List UInt8) :=
  match Vint.dec bs with
  | .error y => .error y
  | .ok (a, r) => match Vint.dec r with
    | .error y => .error y
    | .ok (c, r') => match Vint.dec r' with
      | .error y => .error y
      | .ok (d, r'') => .ok (((a : Nat), (c : Nat), (d : Nat)), r'')
def tripsE : Nat → List Mem → List UInt8 → Except Nat (List Mem × List UInt8)
  | 0, l, bs => .ok (l, bs)
  | k + 1, l, bs => match tripE bs with
    | .error y => .error y
    | .ok (v, r) => tripsE k (l ++ [v]) r
/-- what is left of reading a head, from each of its places on -/
def nodeE (m : Msg) (r : List UInt8) : Except Nat (Msg × List UInt8) :=
  if m.kind = 2 ∨ m.kind = 3 then (match Vint.dec r with | .error y => .error y | .ok (z, r') => .ok ({ m with node := (z : Nat) }, r')) else .ok (m, r)
def seqE (m : Msg) (r : List UInt8) : Except Nat (Msg × List UInt8) :=
  if m.kind ≠ 5 then (match Vint.dec r with | .error y => .error y | .ok (z, r') => nodeE { m with seq := (z : Nat) } r') else nodeE m r
def memE (m : Msg) (j : Nat) (r : List UInt8) : Except Nat (Msg × List UInt8) :=
  match tripsE j m.mem r with
  | .error y => .error y
  | .ok (l, r') => seqE { m with mem := l } r'
def cntE (m : Msg) (r : List UInt8) : Except Nat (Msg × List UInt8) :=
  match Vint.dec r with
  | .error y => .error y
  | .ok (n, r') => if n ≤ 8 then memE m n r' else .error 6
def toE (m : Msg) (r : List UInt8) : Except Nat (Msg × List UInt8) :=
  match Vint.dec r with
  | .error y => .error y
  | .ok (z, r') => cntE { m with «to» := (z : Nat) } r'
def frmE (m : Msg) (r : List UInt8) : Except Nat (Msg × List UInt8) :=
  match Vint.dec r with
  | .error y => .error y
  | .ok (z, r') => toE { m with frm := (z : Nat) } r'
def zero : Msg := ⟨0, 0, 0, 0, 0, [0, 0, 0, 0, 0, 0, 0, 0], [], [], []⟩
def headE (r : List UInt8) : Except Nat (Msg × List UInt8) :=
  match Vint.dec r with
  | .error y => .error y
  | .ok (k, r') => if 1 ≤ k ∧ k ≤ 5 then frmE { zero with kind := (k : Nat) } r' else .error 4
/-- a message's head alone -/
def headOf (m : Msg) : Msg := { zero with kind := m.kind, frm := m.frm, «to» := m.to, seq := m.seq, node := m.node, mem := m.mem }
def Small3 (l : List Mem) : Prop := ∀ v ∈ l, (0 ≤ v.1 ∧ v.1 ≤ top) ∧ (0 ≤ v.2.1 ∧ v.2.1 ≤ top) ∧ 0 ≤ v.2.2 ∧ v.2.2 ≤ top
theorem trips_back (S : List UInt8) : ∀ (l acc : List Mem), Small3 l → tripsE l.length acc (nb (l.flatMap fun x => [x.1, x.2.1, x.2.2]) ++ S) = .ok (acc ++ l, S) := by
  intro l
  induction l with
  | nil => intro acc _; rw [List.append_nil]; rfl
  | cons v l ih =>
    intro acc hv
    obtain ⟨h1, h2, h3⟩ := hv v (List.mem_cons_self ..)
    have hn : nb ((v :: l).flatMap fun x => [x.1, x.2.1, x.2.2]) ++ S = Vint.enc v.1.toNat ++ (Vint.enc v.2.1.toNat ++ (Vint.enc v.2.2.toNat ++ (nb (l.flatMap fun x => [x.1, x.2.1, x.2.2]) ++ S))) := by
      rw [List.flatMap_cons, nb_app, nb_cons, nb_cons, nb_cons, show nb [] = [] from rfl, List.append_nil]
      simp only [List.append_assoc]
    rw [hn, List.length_cons]
    unfold tripsE
    have hve : tripE (Vint.enc v.1.toNat ++ (Vint.enc v.2.1.toNat ++ (Vint.enc v.2.2.toNat ++ (nb (l.flatMap fun x => [x.1, x.2.1, x.2.2]) ++ S)))) = .ok (v, nb (l.flatMap fun x => [x.1, x.2.1, x.2.2]) ++ S) := by
      unfold tripE
      rw [dec_nb h1]
      simp only
      rw [dec_nb h2]
      simp only
      rw [dec_nb h3]
      simp only
      rw [Int.toNat_of_nonneg h1.1, Int.toNat_of_nonneg h2.1, Int.toNat_of_nonneg h3.1]
    rw [hve]
    simp only
    rw [ih (acc ++ [v]) (fun x hx => hv x (List.mem_cons_of_mem _ hx)), List.append_assoc]
    rfl
theorem members_small {l : List Mem} (h : membersB l = true) : Small3 l := fun v hv => by
  obtain ⟨i, hi, rfl⟩ := List.getElem_of_mem hv
  have h1 := (memAt_iff l i).1 ((members_iff l).1 h i hi)
  rw [List.getD_eq_getElem?_getD, List.getElem?_eq_getElem hi, Option.getD_some] at h1
  unfold top at *
  omega
theorem right_head {m : Msg} (h : rightM m = true) : (1 ≤ m.kind ∧ m.kind ≤ 5) ∧ (0 ≤ m.frm ∧ m.frm ≤ 7) ∧ (0 ≤ m.to ∧ m.to ≤ 7) ∧ membersB m.mem = true ∧ (0 ≤ m.seq ∧ m.seq ≤ top) ∧ (0 ≤ m.node ∧ m.node ≤ 7) ∧ (m.kind = 5 → m.seq = 0) ∧ (¬ (m.kind = 2 ∨ m.kind = 3) → m.node = 0) := by
  obtain ⟨h1, h2, h3, _, _⟩ := (right_iff m).1 h
  unfold headB at h1
  simp only [Bool.and_eq_true, inB_iff, nodeB_iff] at h1
  obtain ⟨⟨⟨⟨a, b⟩, c⟩, _⟩, d⟩ := h1
  have hseq : m.seq ≤ top ∧ (m.kind = 5 → m.seq = 0) := by
    unfold mostS at h2
    split at h2
    · exact ⟨by unfold top; omega, fun _ => by omega⟩
    · rename_i hk
      split at h2
      · exact ⟨by unfold top; omega, fun hk2 => absurd hk2 hk⟩
      · exact ⟨h2.2, fun hk2 => absurd hk2 hk⟩
  have hnode : (0 ≤ m.node ∧ m.node ≤ 7) ∧ (¬ (m.kind = 2 ∨ m.kind = 3) → m.node = 0) := by
    unfold askNode at h3
    split at h3
    · rename_i hk
      exact ⟨(nodeB_iff _).1 h3, fun hk2 => absurd hk hk2⟩
    · have := of_decide_eq_true h3
      exact ⟨by omega, fun _ => this⟩
  exact ⟨a, b, c, d, ⟨h2.1, hseq.1⟩, hnode.1, hseq.2, hnode.2⟩
/-- a head that was put is read as it was -/
theorem head_back {m : Msg} (h : rightM m = true) (S : List UInt8) : headE (nb (headN m) ++ S) = .ok (headOf m, S) := by
  obtain ⟨hk, hf, ht, hm, hs, hn, hs5, hn0⟩ := right_head h
  have hl8 := members_len hm
  have htop : top = 1099511627776 := rfl
  have hnb : nb (headN m) ++ S = Vint.enc m.kind.toNat ++ (Vint.enc m.frm.toNat ++ (Vint.enc m.to.toNat ++ (Vint.enc m.mem.length ++ (nb (m.mem.flatMap fun x => [x.1, x.2.1, x.2.2]) ++ (nb (if m.kind ≠ 5 then [m.seq] else []) ++ (nb (if m.kind = 2 ∨ m.kind = 3 then [m.node] else []) ++ S)))))) := by
    unfold headN
    have e1 : nb [((m.mem.length : Nat) : Int)] = Vint.enc m.mem.length := by rw [nb_cons, show nb [] = [] from rfl, List.append_nil, Int.toNat_natCast]
    rw [nb_app, nb_app, nb_app, nb_cons, nb_cons, nb_cons, e1]
    simp only [List.append_assoc]
  rw [hnb]
  unfold headE
  rw [dec_nb (by omega)]
  simp only
  rw [if_pos (by omega), Int.toNat_of_nonneg (by omega)]
  unfold frmE
  rw [dec_nb (by omega)]
  simp only
  unfold toE
  rw [dec_nb (by omega)]
  simp only
  unfold cntE
  rw [Vint.dec_enc (by unfold Vint.top; omega)]
  simp only
  rw [if_pos hl8]
  unfold memE
  simp only [show zero.mem = [] from rfl]
  rw [trips_back _ m.mem [] (members_small hm)]
  simp only [List.nil_append]
  rw [Int.toNat_of_nonneg hf.1, Int.toNat_of_nonneg ht.1]
  unfold seqE
  by_cases k5 : m.kind = 5
  · rw [if_neg (by simp [k5]), if_neg (by simp [k5])]
    unfold nodeE
    rw [if_neg (by simp only; omega), if_neg (by omega)]
    have e5 := hs5 k5
    have e0 := hn0 (by omega)
    show Except.ok (_, _) = _
    unfold headOf
    rw [e5, e0]
    rfl
  · rw [if_pos (by simpa using k5), if_pos k5, nb_cons, show nb [] = [] from rfl, List.append_nil, dec_nb (by omega)]
    simp only
    rw [Int.toNat_of_nonneg hs.1]
    unfold nodeE
    by_cases k2 : m.kind = 2 ∨ m.kind = 3
    · rw [if_pos (by simpa using k2), if_pos k2, nb_cons, show nb [] = [] from rfl, List.append_nil, dec_nb (by omega)]
      simp only
      rw [Int.toNat_of_nonneg hn.1]
      rfl
    · rw [if_neg (by simpa using k2), if_neg k2]
      have e0 := hn0 k2
      unfold headOf
      rw [e0]
      rfl
theorem intM_ne0 {l : List UInt8} {x : Nat} (h : Vint.dec l = .error x) : x ≠ 0 := by have := Vint.dec_err h; omega
/-- three numbers by a reader that keeps its error -/
theorem tripE_int (r : List UInt8) : tripE r =
    (let x := Vint.intM r 0
     let y := Vint.intM x.2.1 x.2.2
     let z := Vint.intM y.2.1 y.2.2
     if z.2.2 ≠ 0 then .error z.2.2 else .ok (((x.1 : Nat), (y.1 : Nat), (z.1 : Nat)), z.2.1)) := by
  unfold tripE
  cases hd : Vint.dec r with
  | error e => simp [intM_bad hd, intM_ne (intM_ne0 hd), intM_ne0 hd]
  | ok q =>
    obtain ⟨a, r1⟩ := q
    simp only [Vint.intM_ok hd]
    cases hd2 : Vint.dec r1 with
    | error e => simp [intM_bad hd2, intM_ne (intM_ne0 hd2), intM_ne0 hd2]
    | ok q2 =>
      obtain ⟨c, r2⟩ := q2
      simp only [Vint.intM_ok hd2]
      cases hd3 : Vint.dec r2 with
      | error e => simp [intM_bad hd3, intM_ne0 hd3]
      | ok q3 =>
        obtain ⟨d, r3⟩ := q3
        simp [Vint.intM_ok hd3]
theorem memE_end (m : Msg) (r : List UInt8) : memE m 0 r = seqE m r := rfl
theorem memE_err {m : Msg} {j : Nat} {r : List UInt8} {y : Nat} (h : tripE r = .error y) : memE m (j + 1) r = .error y := by
  unfold memE tripsE
  rw [h]
theorem memE_on {m : Msg} {j : Nat} {r r' : List UInt8} {v : Mem} (h : tripE r = .ok (v, r')) : memE m (j + 1) r = memE { m with mem := m.mem ++ [v] } j r' := by
  unfold memE
  conv => lhs; unfold tripsE
  rw [h]
section
variable {G : Except Nat (Msg × List UInt8)} {m : Msg} {r ra rd rf : List UInt8} {a d f ea ed ef j : Nat}
/-- a member that is read, the error kept -/
theorem memRel (hC : G = memE m (j + 1) r) (h1 : Vint.intM r 0 = (a, ra, ea)) (h2 : Vint.intM ra ea = (d, rd, ed)) (h3 : Vint.intM rd ed = (f, rf, ef)) :
    (ef = 0 ∧ G = memE { m with mem := m.mem ++ [(((a : Int), (d : Int), (f : Int)) : Mem)] } j rf) ∨ (ef ≠ 0 ∧ G = .error ef) := by
  have hs := tripE_int r
  simp only [h1, h2, h3] at hs
  by_cases he : ef = 0
  · subst he
    simp only [ne_eq, not_true_eq_false, if_false] at hs
    exact .inl ⟨rfl, by rw [hC, memE_on hs]⟩
  · rw [if_pos he] at hs
    exact .inr ⟨he, by rw [hC, memE_err hs]⟩
/-- how many members there are, the error kept; more than eight: error 6 -/
theorem cntRel {e z ez : Nat} {rz : List UInt8} (h : (e = 0 ∧ G = cntE m r) ∨ (e ≠ 0 ∧ G = .error e)) (hI : Vint.intM r e = (z, rz, ez)) :
    (ez = 0 ∧ G = (if z ≤ 8 then memE m z rz else .error 6)) ∨ (ez ≠ 0 ∧ G = .error ez) := intRel (F := fun n r' => if n ≤ 8 then memE m n r' else .error 6) h hI
theorem frmRel {e z ez : Nat} {rz : List UInt8} (h : (e = 0 ∧ G = frmE m r) ∨ (e ≠ 0 ∧ G = .error e)) (hI : Vint.intM r e = (z, rz, ez)) :
    (ez = 0 ∧ G = toE { m with frm := (z : Nat) } rz) ∨ (ez ≠ 0 ∧ G = .error ez) := intRel (F := fun z r' => toE { m with frm := (z : Nat) } r') h hI
theorem toRel {e z ez : Nat} {rz : List UInt8} (h : (e = 0 ∧ G = toE m r) ∨ (e ≠ 0 ∧ G = .error e)) (hI : Vint.intM r e = (z, rz, ez)) :
    (ez = 0 ∧ G = cntE { m with «to» := (z : Nat) } rz) ∨ (ez ≠ 0 ∧ G = .error ez) := intRel (F := fun z r' => cntE { m with «to» := (z : Nat) } r') h hI
theorem seqRel {e z ez : Nat} {rz : List UInt8} (hk : m.kind ≠ 5) (h : (e = 0 ∧ G = seqE m r) ∨ (e ≠ 0 ∧ G = .error e)) (hI : Vint.intM r e = (z, rz, ez)) :
    (ez = 0 ∧ G = nodeE { m with seq := (z : Nat) } rz) ∨ (ez ≠ 0 ∧ G = .error ez) := by
  refine intRel (F := fun z r' => nodeE { m with seq := (z : Nat) } r') ?_ hI
  rcases h with ⟨h1, h2⟩ | h
  · exact .inl ⟨h1, by rw [h2]; unfold seqE; rw [if_pos hk]⟩
  · exact .inr h
theorem nodeRel {e z ez : Nat} {rz : List UInt8} (hk : m.kind = 2 ∨ m.kind = 3) (h : (e = 0 ∧ G = nodeE m r) ∨ (e ≠ 0 ∧ G = .error e)) (hI : Vint.intM r e = (z, rz, ez)) :
    (ez = 0 ∧ G = .ok ({ m with node := (z : Nat) }, rz)) ∨ (ez ≠ 0 ∧ G = .error ez) := by
  refine intRel (F := fun z r' => .ok ({ m with node := (z : Nat) }, r')) ?_ hI
  rcases h with ⟨h1, h2⟩ | h
  · exact .inl ⟨h1, by rw [h2]; unfold nodeE; rw [if_pos hk]⟩
  · exact .inr h
theorem seq_skip (hk : m.kind = 5) : seqE m r = .ok (m, r) := by
  unfold seqE nodeE
  rw [if_neg (by simpa using hk), if_neg (by omega)]
theorem node_skip (hk : ¬ (m.kind = 2 ∨ m.kind = 3)) : nodeE m r = .ok (m, r) := by unfold nodeE; rw [if_neg hk]
/-- the kind, the error kept; one that is none: error 4 -/
theorem kindRel {z ez : Nat} {rz : List UInt8} (hI : Vint.intM r 0 = (z, rz, ez)) :
    (ez = 0 ∧ headE r = (if 1 ≤ z ∧ z ≤ 5 then frmE { zero with kind := (z : Nat) } rz else .error 4)) ∨ (ez ≠ 0 ∧ headE r = .error ez) :=
  intRel (G := headE r) (F := fun k r' => if 1 ≤ k ∧ k ≤ 5 then frmE { zero with kind := (k : Nat) } r' else .error 4) (.inl ⟨rfl, rfl⟩) hI
end
end Go.Proofs.Ytcgalmnllegnbaa.Ms

/- The walks of event's writer.number, writer.fail, caught. -/
namespace Go.Proofs.Ytcgalmnllegnbaa
set_option linter.unusedVariables false
set_option linter.unusedSimpArgs false
set_option maxRecDepth 100000
open Go.RowKit
open Dot Evt
theorem grown_refl0 (w : World) (row : Option Nat) : w.grownBy w row := ⟨rfl, rfl, rfl, Nat.le_refl _, fun _ _ _ => rfl⟩
/-- a fault, as a panic's value -/
abbrev eflt (x : Int) : Value := .iface 151 (.agg #[.int .i64 x])
theorem eframe15 (a f : Value) : (#[a] ++ (Array.replicate 14 undef).setIfInBounds 4 f : Array Value) = #[a, undef, undef, undef, undef, f, undef, undef, undef, undef, undef, undef, undef, undef, undef] := by kernel_rfl
theorem eassert_flt (x : Int) (w : World) : (Instr.typeAssert (eflt x) 20 151 true).run Try.prog w = .ok (.tuple #[.agg #[.int .i64 x], .bool true]) w := by kernel_rfl
theorem ecaught_panic (g : Nat) (x : Int) (older : List PanicEntry) (v : Value) (w : World) (h0 : w.cell? ⟨g, 0, none⟩ = some v) (hf : w.frozen? ⟨g, 0, none⟩ = false) :
    CallsD Try.prog 75 #[.pointer (some ⟨g, 0, none⟩)] (.panicking ({ v := eflt x, recovered := false } :: older)) w fun e u' w' =>
      e = .returned (.tuple #[]) ∧ u' = .panicking ({ v := eflt x, recovered := true } :: older) ∧ w' = (w.alloc (.cells #[.int .i64 x] 151)).setCell ⟨g, 0, none⟩ (.int .i64 x) := by
  have ta := eassert_flt x
  have lt0 := World.block_lt_of_cell? w _ h0
  refine callsD_of_wpS Try.func75 rfl fun c₀ cs hu => ?_
  apply wpS_seq
  apply wpS_region
  simp [wpOpsS, go_sem, recoverD, hu, Try.ntmps75, Exit.thenS]
  refine wpS_of_wp ?_
  rw [eframe15]
  go_wp2_with fail
  simp [bodyPostS, results, Try.results75]
theorem ecaught_none (g : Nat) (w : World) :
    CallsD Try.prog 75 #[.pointer (some ⟨g, 0, none⟩)] .returning w fun e u' w' => e = .returned (.tuple #[]) ∧ u' = .returning ∧ w' = w := by
  refine callsD_of_wpS Try.func75 rfl fun c₀ cs hu => ?_
  apply wpS_seq
  apply wpS_region
  simp [wpOpsS, go_sem, recoverD, hu, Try.ntmps75, Exit.thenS]
  refine wpS_of_wp ?_
  rw [eframe15]
  go_wp2_with fail
  cases c₀
  simp_all [bodyPostS, results, Try.results75]
theorem wfail_any (g : Nat) (x : Int) (w : World) :
    Calls Try.prog 106 #[.pointer (some ⟨g, 0, none⟩), .int .i64 x] w fun e w' => e = .panicked [{ v := eflt x, recovered := false }] ∧ w = w' := by
  go_enter Try.func106, Try.ntmps106
  go_wp2_with fail
  exact ⟨rfl, rfl, rfl⟩
/-- a writer in memory: the bytes behind one another, of the call's own -/
def WrS (w : World) (g : Nat) (bs : List UInt8) : Prop := ∃ A n c, Blk w g 123 #[.slice A n c] ∧ OwnB w (g + 1) A n c bs
theorem WrS.lt {w : World} {g : Nat} {bs : List UInt8} (h : WrS w g bs) : g < w.heap.size := by obtain ⟨A, n, c, h, _⟩ := h; exact h.lt
theorem WrS.alloc {w : World} {g : Nat} {bs : List UInt8} (h : WrS w g bs) (o : Obj) : WrS (w.alloc o) g bs := by
  obtain ⟨A, n, c, h, h2⟩ := h
  exact ⟨A, n, c, h.alloc o, h2.alloc o⟩
theorem WrS.below {w w' : World} {g : Nat} {bs : List UInt8} (h : WrS w g bs) (hb : Below w.heap.size w w') : WrS w' g bs := by
  obtain ⟨A, n, c, h, h2⟩ := h
  exact ⟨A, n, c, h.below hb h.lt, h2.below hb (Nat.le_refl _)⟩
/-- a number's bytes are put -/
theorem wnum_any (g : Nat) (p : Addr) (bs : List UInt8) (x : Nat) (w : World) (h : WrS w g bs) (hp : w.cell? p = some (.int .i64 x)) (hx : x ≤ 1099511627776) (hl : bs.length ≤ 140737488355000) :
    Calls Try.prog 76 #[.pointer (some ⟨g, 0, none⟩), .pointer (some p)] w fun e w' => e = .returned (.tuple #[]) ∧ WrS w' g (bs ++ Vint.enc x) ∧ w.grownBy w' (some g) := by
  obtain ⟨A, n, c, hb, ho⟩ := h
  have c0 : w.cell? ⟨g, 0, none⟩ = some (.slice A n c) := hb.cell 0
  have hpl : p.block < w.heap.size := World.block_lt_of_cell? w _ hp
  have HO := Lib.hid ho
  have HB := Lib.hid hb
  have HL := Lib.hid (show n ≤ 140737488355000 by rw [ho.1]; exact hl)
  have hgl := hb.lt
  have hcal := put_ok A n c bs x w.heap.size w.drew ho.rd (Nat.le_refl _) HL.out hx
  have HC := Lib.hid hcal
  clear hb ho hl hcal
  go_enter Try.func76, Try.ntmps76
  go_wp2_with fail
  go_region_with (go_at_call 34; refine HC.out.mono ?_; rintro e w1 ⟨A1, n1, c1, rfl, ho1, b1⟩; have kb1 : Blk w1 g 123 #[.slice A n c] := HB.out.drew.below b1 HB.out.lt; have c1' : w1.cell? ⟨g, 0, none⟩ = some (.slice A n c) := kb1.cell 0; have f1 := kb1.free 0)
  all_goals (
    go_wp2_with fail
    go_end0
    refine ⟨rfl, ⟨A1, n1, c1, kb1.set_ 0 _, ?_⟩, ?_⟩
    · refine (ho1.mono (by show g + 1 ≤ w.heap.size; omega)).setFar ?_ _
      rcases A1 with _ | a
      · simp
      · have := (ho1.lt a.block rfl).1
        have h2 : w.drew.heap.size = w.heap.size := rfl
        simp
        omega
    · have hg := only_below (grown_refl0 w.drew (some g)) b1
      have hg2 : w.grownBy w1 (some g) := ⟨hg.os, hg.tape, hg.output, hg.size, hg.block⟩
      exact only_set hg2 _)
end Go.Proofs.Ytcgalmnllegnbaa

/- The walk of event's policy over a writer. -/
namespace Go.Proofs.Ytcgalmnllegnbaa
set_option linter.unusedVariables false
set_option linter.unusedSimpArgs false
set_option maxRecDepth 100000
open Go.RowKit
open Dot Evt
/-- the writer's method number, as a value -/
abbrev wnumV (g : Nat) : Value := .func (.method "murmur/event.number") #[.iface 121 (.pointer (some ⟨g, 0, none⟩))] #[]
def encN (l : List Nat) : List UInt8 := l.flatMap Vint.enc
theorem encN_nil : encN [] = [] := rfl
theorem encN_cons (x : Nat) (l : List Nat) : encN (x :: l) = Vint.enc x ++ encN l := by simp [encN]
theorem encN_app (k l : List Nat) : encN (k ++ l) = encN k ++ encN l := by simp [encN]
theorem encF_len (f : Nat) : ∀ x, (Vint.encF f x).length ≤ f + 1 := by
  induction f with
  | zero => intro x; simp [Vint.encF]
  | succ f ih =>
    intro x
    unfold Vint.encF
    split
    · simp
    · simp only [List.length_cons]
      have := ih (x / 128)
      omega
theorem enc_len6 (x : Nat) : (Vint.enc x).length ≤ 6 := encF_len 5 x
set_option maxRecDepth 100000 in
set_option maxHeartbeats 1000000 in
theorem polw_any (b g : Nat) (bs : List UInt8) (v0 v1 v2 v3 v4 v5 v13 : Value) (x0 x1 x2 x3 x4 x5 x6 : Nat) (w : World) (h : WrS w g bs) (hb : Blk w b 50 #[v0, v1, v2, v3, v4, v5, .int .i64 x0, .int .i64 x1, .int .i64 x2, .int .i64 x3, .int .i64 x4, .int .i64 x5, .int .i64 x6, v13]) (hne : b ≠ g)
    (h0 : x0 ≤ 1099511627776) (h1 : x1 ≤ 1099511627776) (h2 : x2 ≤ 1099511627776) (h3 : x3 ≤ 1099511627776) (h4 : x4 ≤ 1099511627776) (h5 : x5 ≤ 1099511627776) (h6 : x6 ≤ 1099511627776) (hl : bs.length ≤ 140737488354000) :
    Calls Try.prog 117 #[.pointer (some ⟨b, 6, none⟩), wnumV g] w fun e w' => e = .returned (.tuple #[]) ∧ WrS w' g (bs ++ encN [x0, x1, x2, x3, x4, x5, x6]) ∧ w.grownBy w' (some g) := by
  have H0 := Lib.hid h0
  have H1 := Lib.hid h1
  have H2 := Lib.hid h2
  have H3 := Lib.hid h3
  have H4 := Lib.hid h4
  have H5 := Lib.hid h5
  have H6 := Lib.hid h6
  have HL := Lib.hid hl
  have HNE := Lib.hid (show (some g : Option Nat) ≠ some b by simp; omega)
  have hbl := hb.lt
  have hm : ∀ w, (method 246 121 (.pointer (some ⟨g, 0, none⟩)) "murmur/event.number").run Try.prog w = .ok (76, .pointer (some ⟨g, 0, none⟩)) w := fun w => by kernel_rfl
  clear h0 h1 h2 h3 h4 h5 h6 hl hne
  have hix0 : ∀ w, (Instr.index 169 (.agg #[.pointer (some ⟨b, 6, none⟩), .pointer (some ⟨b, 7, none⟩), .pointer (some ⟨b, 8, none⟩), .pointer (some ⟨b, 9, none⟩), .pointer (some ⟨b, 10, none⟩), .pointer (some ⟨b, 11, none⟩), .pointer (some ⟨b, 12, none⟩)]) (.int .i64 0)).run Try.prog w = .ok (.pointer (some ⟨b, 6, none⟩)) w := fun w => by kernel_rfl
  have hix1 : ∀ w, (Instr.index 169 (.agg #[.pointer (some ⟨b, 6, none⟩), .pointer (some ⟨b, 7, none⟩), .pointer (some ⟨b, 8, none⟩), .pointer (some ⟨b, 9, none⟩), .pointer (some ⟨b, 10, none⟩), .pointer (some ⟨b, 11, none⟩), .pointer (some ⟨b, 12, none⟩)]) (.int .i64 1)).run Try.prog w = .ok (.pointer (some ⟨b, 7, none⟩)) w := fun w => by kernel_rfl
  have hix2 : ∀ w, (Instr.index 169 (.agg #[.pointer (some ⟨b, 6, none⟩), .pointer (some ⟨b, 7, none⟩), .pointer (some ⟨b, 8, none⟩), .pointer (some ⟨b, 9, none⟩), .pointer (some ⟨b, 10, none⟩), .pointer (some ⟨b, 11, none⟩), .pointer (some ⟨b, 12, none⟩)]) (.int .i64 2)).run Try.prog w = .ok (.pointer (some ⟨b, 8, none⟩)) w := fun w => by kernel_rfl
  have hix3 : ∀ w, (Instr.index 169 (.agg #[.pointer (some ⟨b, 6, none⟩), .pointer (some ⟨b, 7, none⟩), .pointer (some ⟨b, 8, none⟩), .pointer (some ⟨b, 9, none⟩), .pointer (some ⟨b, 10, none⟩), .pointer (some ⟨b, 11, none⟩), .pointer (some ⟨b, 12, none⟩)]) (.int .i64 3)).run Try.prog w = .ok (.pointer (some ⟨b, 9, none⟩)) w := fun w => by kernel_rfl
  have hix4 : ∀ w, (Instr.index 169 (.agg #[.pointer (some ⟨b, 6, none⟩), .pointer (some ⟨b, 7, none⟩), .pointer (some ⟨b, 8, none⟩), .pointer (some ⟨b, 9, none⟩), .pointer (some ⟨b, 10, none⟩), .pointer (some ⟨b, 11, none⟩), .pointer (some ⟨b, 12, none⟩)]) (.int .i64 4)).run Try.prog w = .ok (.pointer (some ⟨b, 10, none⟩)) w := fun w => by kernel_rfl
  have hix5 : ∀ w, (Instr.index 169 (.agg #[.pointer (some ⟨b, 6, none⟩), .pointer (some ⟨b, 7, none⟩), .pointer (some ⟨b, 8, none⟩), .pointer (some ⟨b, 9, none⟩), .pointer (some ⟨b, 10, none⟩), .pointer (some ⟨b, 11, none⟩), .pointer (some ⟨b, 12, none⟩)]) (.int .i64 5)).run Try.prog w = .ok (.pointer (some ⟨b, 11, none⟩)) w := fun w => by kernel_rfl
  have hix6 : ∀ w, (Instr.index 169 (.agg #[.pointer (some ⟨b, 6, none⟩), .pointer (some ⟨b, 7, none⟩), .pointer (some ⟨b, 8, none⟩), .pointer (some ⟨b, 9, none⟩), .pointer (some ⟨b, 10, none⟩), .pointer (some ⟨b, 11, none⟩), .pointer (some ⟨b, 12, none⟩)]) (.int .i64 6)).run Try.prog w = .ok (.pointer (some ⟨b, 12, none⟩)) w := fun w => by kernel_rfl
  go_enter Try.func117, Try.ntmps117
  go_wp2_with fail
  go_region
  go_wp2_with fail
  have hw0 : WrS w.drew g bs := h
  have hb0 : Blk w.drew b 50 #[v0, v1, v2, v3, v4, v5, .int .i64 x0, .int .i64 x1, .int .i64 x2, .int .i64 x3, .int .i64 x4, .int .i64 x5, .int .i64 x6, v13] := hb
  have g0 : w.grownBy w.drew (some g) := ⟨rfl, rfl, rfl, Nat.le_refl _, fun _ _ _ => rfl⟩
  clear h hb
  refine wp_loop_rounds 8 ?_
  rw [rounds_succ]
  go_wp2_with fail
  refine (wnum_any g ⟨b, 6, none⟩ (bs) x0 _ hw0 (hb0.cell 6) H0.out ?_).mono ?_
  · have := HL.out
    (try simp only [List.length_append]); omega
  rintro e w1 ⟨rfl, hw1, gg⟩
  have hb1 := hb0.grown gg HNE.out
  have g1 := g0.trans gg
  clear hw0 hb0 g0 gg
  go_wp2_with fail
  rw [rounds_succ]
  go_wp2_with fail
  refine (wnum_any g ⟨b, 7, none⟩ (bs ++ Vint.enc x0) x1 _ hw1 (hb1.cell 7) H1.out ?_).mono ?_
  · have := HL.out
    have := enc_len6 x0; (try simp only [List.length_append]); omega
  rintro e w2 ⟨rfl, hw2, gg⟩
  have hb2 := hb1.grown gg HNE.out
  have g2 := g1.trans gg
  clear hw1 hb1 g1 gg
  go_wp2_with fail
  rw [rounds_succ]
  go_wp2_with fail
  refine (wnum_any g ⟨b, 8, none⟩ (bs ++ Vint.enc x0 ++ Vint.enc x1) x2 _ hw2 (hb2.cell 8) H2.out ?_).mono ?_
  · have := HL.out
    have := enc_len6 x0; have := enc_len6 x1; (try simp only [List.length_append]); omega
  rintro e w3 ⟨rfl, hw3, gg⟩
  have hb3 := hb2.grown gg HNE.out
  have g3 := g2.trans gg
  clear hw2 hb2 g2 gg
  go_wp2_with fail
  rw [rounds_succ]
  go_wp2_with fail
  refine (wnum_any g ⟨b, 9, none⟩ (bs ++ Vint.enc x0 ++ Vint.enc x1 ++ Vint.enc x2) x3 _ hw3 (hb3.cell 9) H3.out ?_).mono ?_
  · have := HL.out
    have := enc_len6 x0; have := enc_len6 x1; have := enc_len6 x2; (try simp only [List.length_append]); omega
  rintro e w4 ⟨rfl, hw4, gg⟩
  have hb4 := hb3.grown gg HNE.out
  have g4 := g3.trans gg
  clear hw3 hb3 g3 gg
  go_wp2_with fail
  rw [rounds_succ]
  go_wp2_with fail
  refine (wnum_any g ⟨b, 10, none⟩ (bs ++ Vint.enc x0 ++ Vint.enc x1 ++ Vint.enc x2 ++ Vint.enc x3) x4 _ hw4 (hb4.cell 10) H4.out ?_).mono ?_
  · have := HL.out
    have := enc_len6 x0; have := enc_len6 x1; have := enc_len6 x2; have := enc_len6 x3; (try simp only [List.length_append]); omega
  rintro e w5 ⟨rfl, hw5, gg⟩
  have hb5 := hb4.grown gg HNE.out
  have g5 := g4.trans gg
  clear hw4 hb4 g4 gg
  go_wp2_with fail
  rw [rounds_succ]
  go_wp2_with fail
  refine (wnum_any g ⟨b, 11, none⟩ (bs ++ Vint.enc x0 ++ Vint.enc x1 ++ Vint.enc x2 ++ Vint.enc x3 ++ Vint.enc x4) x5 _ hw5 (hb5.cell 11) H5.out ?_).mono ?_
  · have := HL.out
    have := enc_len6 x0; have := enc_len6 x1; have := enc_len6 x2; have := enc_len6 x3; have := enc_len6 x4; (try simp only [List.length_append]); omega
  rintro e w6 ⟨rfl, hw6, gg⟩
  have hb6 := hb5.grown gg HNE.out
  have g6 := g5.trans gg
  clear hw5 hb5 g5 gg
  go_wp2_with fail
  rw [rounds_succ]
  go_wp2_with fail
  refine (wnum_any g ⟨b, 12, none⟩ (bs ++ Vint.enc x0 ++ Vint.enc x1 ++ Vint.enc x2 ++ Vint.enc x3 ++ Vint.enc x4 ++ Vint.enc x5) x6 _ hw6 (hb6.cell 12) H6.out ?_).mono ?_
  · have := HL.out
    have := enc_len6 x0; have := enc_len6 x1; have := enc_len6 x2; have := enc_len6 x3; have := enc_len6 x4; have := enc_len6 x5; (try simp only [List.length_append]); omega
  rintro e w7 ⟨rfl, hw7, gg⟩
  have hb7 := hb6.grown gg HNE.out
  have g7 := g6.trans gg
  clear hw6 hb6 g6 gg
  go_wp2_with fail
  rw [rounds_succ]
  go_wp2_with fail
  go_end0
  refine ⟨rfl, ?_, g7⟩
  have e : bs ++ encN [x0, x1, x2, x3, x4, x5, x6] = bs ++ Vint.enc x0 ++ Vint.enc x1 ++ Vint.enc x2 ++ Vint.enc x3 ++ Vint.enc x4 ++ Vint.enc x5 ++ Vint.enc x6 := by simp [encN]
  rw [e]
  exact hw7
end Go.Proofs.Ytcgalmnllegnbaa

/- The walk of event's through over a writer. -/
namespace Go.Proofs.Ytcgalmnllegnbaa
set_option linter.unusedVariables false
set_option linter.unusedSimpArgs false
set_option maxRecDepth 100000
open Go.RowKit
open Dot Evt
/-- dots' numbers -/
def dotN (l : List Dt) : List Nat := l.flatMap fun d => [d.1.toNat, d.2.toNat]
theorem dotN_snoc (l : List Dt) (d : Dt) : dotN (l ++ [d]) = dotN l ++ [d.1.toNat, d.2.toNat] := by simp [dotN]
theorem encN_len (l : List Nat) : (encN l).length ≤ 6 * l.length := by
  induction l with
  | nil => simp [encN]
  | cons a l ih =>
    rw [encN_cons, List.length_append, List.length_cons]
    have := enc_len6 a
    omega
theorem dotN_len (l : List Dt) : (dotN l).length = 2 * l.length := by
  induction l with
  | nil => rfl
  | cons a l ih => simp [dotN] at ih ⊢; omega
set_option maxRecDepth 100000 in
set_option maxHeartbeats 2000000 in
theorem thrw_any (b g : Nat) (bs : List UInt8) (n q t k wk v p0 p1 p2 p3 p4 p5 p6 : Nat) (A : Option Addr) (m c : Nat) (l : List Dt) (w : World) (h : WrS w g bs)
    (hb : Blk w b 50 #[.int .i64 n, .int .i64 q, .int .i64 t, .int .i64 k, .int .i64 wk, .int .i64 v, .int .i64 p0, .int .i64 p1, .int .i64 p2, .int .i64 p3, .int .i64 p4, .int .i64 p5, .int .i64 p6, .slice A m c]) (hne : b ≠ g)
    (h0 : n ≤ 1099511627776) (h1 : q ≤ 1099511627776) (h2 : t ≤ 1099511627776) (h3 : 1 ≤ k ∧ k ≤ 3) (h4 : wk ≤ 1099511627776) (h5 : v ≤ 1099511627776)
    (hp0 : p0 ≤ 1099511627776) (hp1 : p1 ≤ 1099511627776) (hp2 : p2 ≤ 1099511627776) (hp3 : p3 ≤ 1099511627776) (hp4 : p4 ≤ 1099511627776) (hp5 : p5 ≤ 1099511627776) (hp6 : p6 ≤ 1099511627776)
    (hr : RdD w g A m l) (hm96 : m ≤ 96) (hd : ∀ d ∈ l, (0 ≤ d.1 ∧ d.1 ≤ 1099511627776) ∧ 0 ≤ d.2 ∧ d.2 ≤ 1099511627776) (hl : bs.length ≤ 140737488350000) :
    Calls Try.prog 93 #[.pointer (some ⟨b, 0, none⟩), .iface 121 (.pointer (some ⟨g, 0, none⟩))] w fun e w' => e = .returned (.tuple #[]) ∧
      WrS w' g (bs ++ encN ([n, q, t, k, wk] ++ (if k = 1 then [v] else (if k = 2 then [p0, p1, p2, p3, p4, p5, p6] else []) ++ [m] ++ dotN l))) ∧ w.grownBy w' (some g) := by
  obtain ⟨L, hL⟩ : ∃ L, L = ([n, q, t, k, wk] ++ (if k = 1 then [v] else (if k = 2 then [p0, p1, p2, p3, p4, p5, p6] else []) ++ [m] ++ dotN l)) := ⟨_, rfl⟩
  rw [← hL]
  have HLE := Lib.hid hL
  clear hL
  have H0 := Lib.hid h0
  have H1 := Lib.hid h1
  have H2 := Lib.hid h2
  have H3 := Lib.hid h3
  have H4 := Lib.hid h4
  have H5 := Lib.hid h5
  have HP0 := Lib.hid hp0
  have HP1 := Lib.hid hp1
  have HP2 := Lib.hid hp2
  have HP3 := Lib.hid hp3
  have HP4 := Lib.hid hp4
  have HP5 := Lib.hid hp5
  have HP6 := Lib.hid hp6
  have HL := Lib.hid hl
  have HD := Lib.hid hd
  have H96 := Lib.hid hm96
  have HM := Lib.hid hr.1
  have HRD := Lib.hid hr
  have HBG := Lib.hid hne
  have HNE := Lib.hid (show (some g : Option Nat) ≠ some b by simp; omega)
  have hbl := hb.lt
  have HGL := Lib.hid h.lt
  have hm : ∀ w, (method 246 121 (.pointer (some ⟨g, 0, none⟩)) "murmur/event.number").run Try.prog w = .ok (76, .pointer (some ⟨g, 0, none⟩)) w := fun w => by kernel_rfl
  have hmf : ∀ (fn : Fn) (first cap : Array Value) (w : World), (Instr.makeFunc fn first cap).run Try.prog w = .ok (.func fn first cap) w := fun _ _ _ _ => rfl
  clear h0 h1 h2 h3 h4 h5 hp0 hp1 hp2 hp3 hp4 hp5 hp6 hl hne hd hm96 hr
  have hix0 : ∀ w, (Instr.index 160 (.agg #[.pointer (some ⟨b, 0, none⟩), .pointer (some ⟨b, 1, none⟩), .pointer (some ⟨b, 2, none⟩), .pointer (some ⟨b, 3, none⟩)]) (.int .i64 0)).run Try.prog w = .ok (.pointer (some ⟨b, 0, none⟩)) w := fun w => by kernel_rfl
  have hix1 : ∀ w, (Instr.index 160 (.agg #[.pointer (some ⟨b, 0, none⟩), .pointer (some ⟨b, 1, none⟩), .pointer (some ⟨b, 2, none⟩), .pointer (some ⟨b, 3, none⟩)]) (.int .i64 1)).run Try.prog w = .ok (.pointer (some ⟨b, 1, none⟩)) w := fun w => by kernel_rfl
  have hix2 : ∀ w, (Instr.index 160 (.agg #[.pointer (some ⟨b, 0, none⟩), .pointer (some ⟨b, 1, none⟩), .pointer (some ⟨b, 2, none⟩), .pointer (some ⟨b, 3, none⟩)]) (.int .i64 2)).run Try.prog w = .ok (.pointer (some ⟨b, 2, none⟩)) w := fun w => by kernel_rfl
  have hix3 : ∀ w, (Instr.index 160 (.agg #[.pointer (some ⟨b, 0, none⟩), .pointer (some ⟨b, 1, none⟩), .pointer (some ⟨b, 2, none⟩), .pointer (some ⟨b, 3, none⟩)]) (.int .i64 3)).run Try.prog w = .ok (.pointer (some ⟨b, 3, none⟩)) w := fun w => by kernel_rfl
  go_enter Try.func93, Try.ntmps93
  go_wp2_with fail
  go_region
  go_wp2_with fail
  have hw0 : WrS w.drew g bs := h
  have hb0 : Blk w.drew b 50 #[.int .i64 n, .int .i64 q, .int .i64 t, .int .i64 k, .int .i64 wk, .int .i64 v, .int .i64 p0, .int .i64 p1, .int .i64 p2, .int .i64 p3, .int .i64 p4, .int .i64 p5, .int .i64 p6, .slice A m c] := hb
  have g0 : w.grownBy w.drew (some g) := ⟨rfl, rfl, rfl, Nat.le_refl _, fun _ _ _ => rfl⟩
  clear h hb
  refine wp_loop_rounds 5 ?_
  rw [rounds_succ]
  go_wp2_with fail
  refine (wnum_any g ⟨b, 0, none⟩ (bs) n _ hw0 (hb0.cell 0) H0.out ?_).mono ?_
  · have := HL.out
    (try simp only [List.length_append]); omega
  rintro e w1 ⟨rfl, hw1, gg⟩
  have hb1 := hb0.grown gg HNE.out
  have g1 := g0.trans gg
  clear hw0 hb0 g0 gg
  go_wp2_with fail
  rw [rounds_succ]
  go_wp2_with fail
  refine (wnum_any g ⟨b, 1, none⟩ (bs ++ Vint.enc n) q _ hw1 (hb1.cell 1) H1.out ?_).mono ?_
  · have := HL.out
    have := enc_len6 n; (try simp only [List.length_append]); omega
  rintro e w2 ⟨rfl, hw2, gg⟩
  have hb2 := hb1.grown gg HNE.out
  have g2 := g1.trans gg
  clear hw1 hb1 g1 gg
  go_wp2_with fail
  rw [rounds_succ]
  go_wp2_with fail
  refine (wnum_any g ⟨b, 2, none⟩ (bs ++ Vint.enc n ++ Vint.enc q) t _ hw2 (hb2.cell 2) H2.out ?_).mono ?_
  · have := HL.out
    have := enc_len6 n; have := enc_len6 q; (try simp only [List.length_append]); omega
  rintro e w3 ⟨rfl, hw3, gg⟩
  have hb3 := hb2.grown gg HNE.out
  have g3 := g2.trans gg
  clear hw2 hb2 g2 gg
  go_wp2_with fail
  rw [rounds_succ]
  go_wp2_with fail
  refine (wnum_any g ⟨b, 3, none⟩ (bs ++ Vint.enc n ++ Vint.enc q ++ Vint.enc t) k _ hw3 (hb3.cell 3) (by have := H3.out; omega) ?_).mono ?_
  · have := HL.out
    have := enc_len6 n; have := enc_len6 q; have := enc_len6 t; (try simp only [List.length_append]); omega
  rintro e w4 ⟨rfl, hw4, gg⟩
  have hb4 := hb3.grown gg HNE.out
  have g4 := g3.trans gg
  clear hw3 hb3 g3 gg
  go_wp2_with fail
  rw [rounds_succ]
  have ck : w4.cell? ⟨b, 3, none⟩ = some (.int .i64 k) := hb4.cell 3
  go_wp2_with fail
  refine (within_any _ _ _ _).mono ?_
  rintro e w4' ⟨rfl, rfl⟩
  rw [show inB (k : Int) 1 3 = true from (inB_iff _ _ _).2 (by have := H3.out; omega)]
  go_wp2_with fail
  refine (wnum_any g ⟨b, 4, none⟩ (bs ++ Vint.enc n ++ Vint.enc q ++ Vint.enc t ++ Vint.enc k) wk _ hw4 (hb4.cell 4) H4.out ?_).mono ?_
  · have := HL.out
    have := enc_len6 n; have := enc_len6 q; have := enc_len6 t; have := enc_len6 k; (try simp only [List.length_append]); omega
  rintro e w5 ⟨rfl, hw5, gg⟩
  have hb5 := hb4.grown gg HNE.out
  have g5 := g4.trans gg
  clear hw4 hb4 g4 gg
  have ck : w5.cell? ⟨b, 3, none⟩ = some (.int .i64 k) := hb5.cell 3
  by_cases hk1 : k = 1
  · have hq1 : ((k : Int) == 1) = true := by rw [beq_iff_eq]; omega
    go_wp2_with fail
    refine (wnum_any g ⟨b, 5, none⟩ (bs ++ Vint.enc n ++ Vint.enc q ++ Vint.enc t ++ Vint.enc k ++ Vint.enc wk) v _ hw5 (hb5.cell 5) H5.out ?_).mono ?_
    · have := HL.out
      have := enc_len6 n; have := enc_len6 q; have := enc_len6 t; have := enc_len6 k; have := enc_len6 wk; (try simp only [List.length_append]); omega
    rintro e w6 ⟨rfl, hw6, gg⟩
    have hb6 := hb5.grown gg HNE.out
    have g6 := g5.trans gg
    clear hw5 hb5 g5 gg
    go_wp2_with fail
    (try simp only [Exit.inBlock, Exit.then])
    refine bodyPost_ret (results_none rfl _ _ _) rfl ?_
    refine ⟨rfl, ?_, g6⟩
    rw [HLE.out, if_pos hk1]
    have e : bs ++ encN ([n, q, t, k, wk] ++ [v]) = bs ++ Vint.enc n ++ Vint.enc q ++ Vint.enc t ++ Vint.enc k ++ Vint.enc wk ++ Vint.enc v := by simp [encN]
    rw [e]
    exact hw6
  have hq1 : ((k : Int) == 1) = false := by rw [beq_eq_false_iff_ne]; omega
  by_cases hk2 : k = 2
  · have hq2 : ((k : Int) == 2) = true := by rw [beq_iff_eq]; omega
    go_wp2_with fail
    refine (polw_any b g _ _ _ _ _ _ _ _ p0 p1 p2 p3 p4 p5 p6 _ hw5 hb5 HBG.out HP0.out HP1.out HP2.out HP3.out HP4.out HP5.out HP6.out ?_).mono ?_
    · have := HL.out
      have := enc_len6 n; have := enc_len6 q; have := enc_len6 t; have := enc_len6 k; have := enc_len6 wk; (try simp only [List.length_append]); omega
    rintro e w6 ⟨rfl, hw6, gg⟩
    have hb6 := hb5.grown gg HNE.out
    have g6 := g5.trans gg
    clear hw5 hb5 g5 gg
    obtain ⟨us, has⟩ : ∃ us, us = bs ++ Vint.enc n ++ Vint.enc q ++ Vint.enc t ++ Vint.enc k ++ Vint.enc wk ++ encN [p0, p1, p2, p3, p4, p5, p6] := ⟨_, rfl⟩
    rw [← has] at hw6
    have HAS := Lib.hid (show us = bs ++ encN ([n, q, t, k, wk] ++ [p0, p1, p2, p3, p4, p5, p6]) by rw [has]; simp [encN])
    have HLA := Lib.hid (show us.length ≤ 140737488352000 by
      rw [HAS.out, List.length_append]
      have := encN_len ([n, q, t, k, wk] ++ [p0, p1, p2, p3, p4, p5, p6])
      have := HL.out
      simp at *
      omega)
    clear has
    have cs : w6.cell? ⟨b, 13, none⟩ = some (.slice A m c) := hb6.cell 13
    go_upto_region 15 with fail
    refine nameW ?_
    intro wa hwa
    obtain ⟨r, hr⟩ : ∃ r, r = w6.heap.size := ⟨_, rfl⟩
    rw [← hr]
    have ka : Blk wa r 3 #[.int .i64 m] := by rw [hwa, hr]; exact Blk.new _ _ _
    have hwA : WrS wa g us := by rw [hwa]; exact hw6.alloc _
    have hbA : Blk wa b 50 #[.int .i64 n, .int .i64 q, .int .i64 t, .int .i64 k, .int .i64 wk, .int .i64 v, .int .i64 p0, .int .i64 p1, .int .i64 p2, .int .i64 p3, .int .i64 p4, .int .i64 p5, .int .i64 p6, .slice A m c] := by rw [hwa]; exact hb6.alloc _
    have gA : w.grownBy wa (some g) := by rw [hwa]; exact only_alloc g6 _
    have hgr : g ≠ r := by have := hw6.lt; omega
    have HNR := Lib.hid (show (some g : Option Nat) ≠ some r by simp; omega)
    clear hwa hr hw6 hb6 g6 cs hgr ck
    go_wp2_with fail
    refine (wnum_any g ⟨r, 0, none⟩ us m _ hwA (ka.cell 0) (by have := H96.out; omega) (by have := HLA.out; omega)).mono ?_
    rintro e wc ⟨rfl, hwC, gg⟩
    have kc := ka.grown gg HNR.out
    have hbC := hbA.grown gg HNE.out
    have gC := gA.trans gg
    have cr : wc.cell? ⟨r, 0, none⟩ = some (.int .i64 m) := kc.cell 0
    have cs : wc.cell? ⟨b, 13, none⟩ = some (.slice A m c) := hbC.cell 13
    have hmd : decide ((96 : Int) < (m : Int)) = false := decide_eq_false (by have := H96.out; omega)
    clear hwA hbA gA gg ka
    go_wp2_with fail
    go_region
    go_wp2_with fail
    go_loopw [93] (fun i wr => ∃ j : Nat, j ≤ m ∧ i = .int .i64 j ∧ WrS wr g (us ++ Vint.enc m ++ encN (dotN (l.take j))) ∧ Blk wr b 50 #[.int .i64 n, .int .i64 q, .int .i64 t, .int .i64 k, .int .i64 wk, .int .i64 v, .int .i64 p0, .int .i64 p1, .int .i64 p2, .int .i64 p3, .int .i64 p4, .int .i64 p5, .int .i64 p6, .slice A m c] ∧ w.grownBy wr (some g)) (fun i _ => m - (intOf i).toNat)
    case atStart =>
      have hwD : WrS wc.drew g (us ++ Vint.enc m) := hwC
      exact ⟨0, by omega, rfl, by simpa [dotN, encN] using hwD, hbC, only_drew gC⟩
    case round =>
      clear hwC hbC gC kc cr cs
      obtain ⟨j, hj, rfl, hwJ, hbJ, gJ⟩ := hrel
      have cs : wr.cell? ⟨b, 13, none⟩ = some (.slice A m c) := hbJ.cell 13
      by_cases hlt : j < m
      · have hjl : j < l.length := by rw [← HM.out]; exact hlt
        obtain ⟨ad, hA, hdt⟩ := HRD.out.2 j _ (List.getElem?_eq_getElem hjl)
        subst hA
        have hdd := HD.out _ (List.getElem_mem hjl)
        have hsn : l.take (j + 1) = l.take j ++ [l[j]] := take_snoc l hjl
        generalize l[j] = d at *
        obtain ⟨x, y⟩ := d
        obtain ⟨q5, q0, q1⟩ := hdt.below (only_Below gJ (Nat.le_refl _) (by have := HGL.out; omega))
        simp only at q0 q1 hdd
        obtain ⟨⟨hx0, hx1⟩, hy0, hy1⟩ := hdd
        obtain ⟨x, rfl⟩ := Int.eq_ofNat_of_zero_le hx0
        obtain ⟨y, rfl⟩ := Int.eq_ofNat_of_zero_le hy0
        have HSN := Lib.hid hsn
        have HX := Lib.hid hx1
        have HY := Lib.hid hy1
        have hj0 : (0 : Int) ≤ (j : Int) := by omega
        have hjm : (j : Int) < (m : Int) := by omega
        clear hsn hx0 hx1 hy0 hy1 hdt
        have hlj : (us ++ Vint.enc m ++ encN (dotN (l.take j))).length ≤ 140737488354000 := by
          have h1 := HLA.out
          have h2 := enc_len6 m
          have h3 := encN_len (dotN (l.take j))
          rw [dotN_len, List.length_take] at h3
          have h4 := H96.out
          simp only [List.length_append]
          omega
        have HLJ := Lib.hid hlj
        clear hlj
        go_wp2_with fail
        refine (wnum_any g (ad.add (j * 2)) _ x _ hwJ q0 (by have := HX.out; omega) (by have := HLJ.out; omega)).mono ?_
        rintro e wx ⟨rfl, hwX, gg⟩
        have hbX := hbJ.grown gg HNE.out
        have gX := gJ.trans gg
        have q1' : wx.cell? ⟨(ad.add (j * 2)).block, (ad.add (j * 2)).off + 1, none⟩ = some (.int .i64 y) := ((only_Below gg (Nat.le_refl g) (by have := hwJ.lt; omega)).cell (p := ⟨(ad.add (j * 2)).block, (ad.add (j * 2)).off + 1, none⟩) q5).trans q1
        have cs : wx.cell? ⟨b, 13, none⟩ = some (.slice (some ad) m c) := hbX.cell 13
        clear hwJ hbJ gJ gg q0 q1
        go_wp2_with fail
        refine (wnum_any g ⟨(ad.add (j * 2)).block, (ad.add (j * 2)).off + 1, none⟩ _ y _ hwX q1' (by have := HY.out; omega) (by have := HLJ.out; have := enc_len6 x; simp only [List.length_append] at *; omega)).mono ?_
        rintro e wy ⟨rfl, hwY, gg⟩
        have hbY := hbX.grown gg HNE.out
        have gY := gX.trans gg
        clear hwX hbX gX gg q1'
        go_wp2_with fail
        go_roundw
        case rel => exact ⟨j + 1, by omega, num_succ j (by have := H96.out; omega), by rw [HSN.out, dotN_snoc, encN_app]; simpa [encN] using hwY, hbY, gY⟩
        case measure => exact meas_succ j m hlt (by have := H96.out; omega)
      · have hje : l.take j = l := List.take_of_length_le (by rw [← HM.out]; omega)
        have HJE := Lib.hid hje
        clear hje
        go_wp2_with fail
        go_end0
        refine ⟨rfl, ?_, gJ⟩
        rw [HJE.out] at hwJ
        rw [HLE.out, if_neg hk1, if_pos hk2]
        have e : bs ++ encN ([n, q, t, k, wk] ++ ([p0, p1, p2, p3, p4, p5, p6] ++ [m] ++ dotN l)) = us ++ Vint.enc m ++ encN (dotN l) := by rw [HAS.out]; simp [encN]
        rw [e]
        exact hwJ
  have hq2 : ((k : Int) == 2) = false := by rw [beq_eq_false_iff_ne]; omega
  have w6e : w5 = w5 := rfl
  obtain ⟨us, has⟩ : ∃ us, us = bs ++ Vint.enc n ++ Vint.enc q ++ Vint.enc t ++ Vint.enc k ++ Vint.enc wk := ⟨_, rfl⟩
  rw [← has] at hw5
  have HAS := Lib.hid (show us = bs ++ encN ([n, q, t, k, wk] ++ []) by rw [has]; simp [encN])
  have HLA := Lib.hid (show us.length ≤ 140737488352000 by
    rw [HAS.out, List.length_append]
    have := encN_len ([n, q, t, k, wk] ++ [])
    have := HL.out
    simp at *
    omega)
  clear has w6e
  have cs : w5.cell? ⟨b, 13, none⟩ = some (.slice A m c) := hb5.cell 13
  go_upto_region 15 with fail
  refine nameW ?_
  intro wa hwa
  obtain ⟨r, hr⟩ : ∃ r, r = w5.heap.size := ⟨_, rfl⟩
  rw [← hr]
  have ka : Blk wa r 3 #[.int .i64 m] := by rw [hwa, hr]; exact Blk.new _ _ _
  have hwA : WrS wa g us := by rw [hwa]; exact hw5.alloc _
  have hbA : Blk wa b 50 #[.int .i64 n, .int .i64 q, .int .i64 t, .int .i64 k, .int .i64 wk, .int .i64 v, .int .i64 p0, .int .i64 p1, .int .i64 p2, .int .i64 p3, .int .i64 p4, .int .i64 p5, .int .i64 p6, .slice A m c] := by rw [hwa]; exact hb5.alloc _
  have gA : w.grownBy wa (some g) := by rw [hwa]; exact only_alloc g5 _
  have hgr : g ≠ r := by have := hw5.lt; omega
  have HNR := Lib.hid (show (some g : Option Nat) ≠ some r by simp; omega)
  clear hwa hr hw5 hb5 g5 cs hgr ck
  go_wp2_with fail
  refine (wnum_any g ⟨r, 0, none⟩ us m _ hwA (ka.cell 0) (by have := H96.out; omega) (by have := HLA.out; omega)).mono ?_
  rintro e wc ⟨rfl, hwC, gg⟩
  have kc := ka.grown gg HNR.out
  have hbC := hbA.grown gg HNE.out
  have gC := gA.trans gg
  have cr : wc.cell? ⟨r, 0, none⟩ = some (.int .i64 m) := kc.cell 0
  have cs : wc.cell? ⟨b, 13, none⟩ = some (.slice A m c) := hbC.cell 13
  have hmd : decide ((96 : Int) < (m : Int)) = false := decide_eq_false (by have := H96.out; omega)
  clear hwA hbA gA gg ka
  go_wp2_with fail
  go_region
  go_wp2_with fail
  go_loopw [93] (fun i wr => ∃ j : Nat, j ≤ m ∧ i = .int .i64 j ∧ WrS wr g (us ++ Vint.enc m ++ encN (dotN (l.take j))) ∧ Blk wr b 50 #[.int .i64 n, .int .i64 q, .int .i64 t, .int .i64 k, .int .i64 wk, .int .i64 v, .int .i64 p0, .int .i64 p1, .int .i64 p2, .int .i64 p3, .int .i64 p4, .int .i64 p5, .int .i64 p6, .slice A m c] ∧ w.grownBy wr (some g)) (fun i _ => m - (intOf i).toNat)
  case atStart =>
    have hwD : WrS wc.drew g (us ++ Vint.enc m) := hwC
    exact ⟨0, by omega, rfl, by simpa [dotN, encN] using hwD, hbC, only_drew gC⟩
  case round =>
    clear hwC hbC gC kc cr cs
    obtain ⟨j, hj, rfl, hwJ, hbJ, gJ⟩ := hrel
    have cs : wr.cell? ⟨b, 13, none⟩ = some (.slice A m c) := hbJ.cell 13
    by_cases hlt : j < m
    · have hjl : j < l.length := by rw [← HM.out]; exact hlt
      obtain ⟨ad, hA, hdt⟩ := HRD.out.2 j _ (List.getElem?_eq_getElem hjl)
      subst hA
      have hdd := HD.out _ (List.getElem_mem hjl)
      have hsn : l.take (j + 1) = l.take j ++ [l[j]] := take_snoc l hjl
      generalize l[j] = d at *
      obtain ⟨x, y⟩ := d
      obtain ⟨q5, q0, q1⟩ := hdt.below (only_Below gJ (Nat.le_refl _) (by have := HGL.out; omega))
      simp only at q0 q1 hdd
      obtain ⟨⟨hx0, hx1⟩, hy0, hy1⟩ := hdd
      obtain ⟨x, rfl⟩ := Int.eq_ofNat_of_zero_le hx0
      obtain ⟨y, rfl⟩ := Int.eq_ofNat_of_zero_le hy0
      have HSN := Lib.hid hsn
      have HX := Lib.hid hx1
      have HY := Lib.hid hy1
      have hj0 : (0 : Int) ≤ (j : Int) := by omega
      have hjm : (j : Int) < (m : Int) := by omega
      clear hsn hx0 hx1 hy0 hy1 hdt
      have hlj : (us ++ Vint.enc m ++ encN (dotN (l.take j))).length ≤ 140737488354000 := by
        have h1 := HLA.out
        have h2 := enc_len6 m
        have h3 := encN_len (dotN (l.take j))
        rw [dotN_len, List.length_take] at h3
        have h4 := H96.out
        simp only [List.length_append]
        omega
      have HLJ := Lib.hid hlj
      clear hlj
      go_wp2_with fail
      refine (wnum_any g (ad.add (j * 2)) _ x _ hwJ q0 (by have := HX.out; omega) (by have := HLJ.out; omega)).mono ?_
      rintro e wx ⟨rfl, hwX, gg⟩
      have hbX := hbJ.grown gg HNE.out
      have gX := gJ.trans gg
      have q1' : wx.cell? ⟨(ad.add (j * 2)).block, (ad.add (j * 2)).off + 1, none⟩ = some (.int .i64 y) := ((only_Below gg (Nat.le_refl g) (by have := hwJ.lt; omega)).cell (p := ⟨(ad.add (j * 2)).block, (ad.add (j * 2)).off + 1, none⟩) q5).trans q1
      have cs : wx.cell? ⟨b, 13, none⟩ = some (.slice (some ad) m c) := hbX.cell 13
      clear hwJ hbJ gJ gg q0 q1
      go_wp2_with fail
      refine (wnum_any g ⟨(ad.add (j * 2)).block, (ad.add (j * 2)).off + 1, none⟩ _ y _ hwX q1' (by have := HY.out; omega) (by have := HLJ.out; have := enc_len6 x; simp only [List.length_append] at *; omega)).mono ?_
      rintro e wy ⟨rfl, hwY, gg⟩
      have hbY := hbX.grown gg HNE.out
      have gY := gX.trans gg
      clear hwX hbX gX gg q1'
      go_wp2_with fail
      go_roundw
      case rel => exact ⟨j + 1, by omega, num_succ j (by have := H96.out; omega), by rw [HSN.out, dotN_snoc, encN_app]; simpa [encN] using hwY, hbY, gY⟩
      case measure => exact meas_succ j m hlt (by have := H96.out; omega)
    · have hje : l.take j = l := List.take_of_length_le (by rw [← HM.out]; omega)
      have HJE := Lib.hid hje
      clear hje
      go_wp2_with fail
      go_end0
      refine ⟨rfl, ?_, gJ⟩
      rw [HJE.out] at hwJ
      rw [HLE.out, if_neg hk1, if_neg hk2]
      have e : bs ++ encN ([n, q, t, k, wk] ++ ([] ++ [m] ++ dotN l)) = us ++ Vint.enc m ++ encN (dotN l) := by rw [HAS.out]; simp [encN]
      rw [e]
      exact hwJ
end Go.Proofs.Ytcgalmnllegnbaa

namespace Go.Proofs.Ytcgalmnllegnbaa
set_option linter.unusedVariables false
set_option linter.unusedSimpArgs false
set_option maxRecDepth 100000
open Go.RowKit
/-- behind a panic what is deferred is what was -/
def QD (D : List Deferred) (Q : Exit → Act → World → Prop) : Exit → Act → World → Prop
  | .panic c, b, w => b.defers = D → Q (.panic c) b w
  | e, b, w => Q e b w
theorem letsOut_D {D : List Deferred} {Q : Exit → Act → World → Prop} (h : LetsOut (QD D Q)) : LetsOut Q := h
theorem wpD {P : Program} {o : Oper} {b : Act} {w : World} {K : Act → World → Prop} {Q : Exit → Act → World → Prop} {D : List Deferred} {c : Prop} [Decidable c] {E : Prop} (hb : b.defers = D)
    (h : if c then Oper.wp P o b w K (QD D Q) else E) : if c then Oper.wp P o b w K Q else E := by
  split
  · rename_i hc
    rw [if_pos hc] at h
    unfold Oper.wp at *
    generalize (execOp b.eval o).run P w = r at *
    cases r with
    | ok n w' =>
      cases n <;> simp only [Oper.upon] at h ⊢ <;>
        first
          | exact h
          | exact Calls.mono h (fun e w'' he => by cases e <;> first | exact he | exact he hb)
    | halt x w' => cases x <;> simp only [Oper.upon] at h ⊢ <;> first | exact h | exact h hb
  · rename_i hc
    rw [if_neg hc] at h
    exact h
/-- A drawn region whose last operations, from number n0 on, wait for all that stands ahead of them: facts up to there, then the text's order. -/
theorem wp_region_tailD {P : Program} {ops : Array Oper} {Q : Exit → Act → World → Prop} (F n0 : Nat) (J : (Nat → Bool) → (Nat → Value) → World → Prop) (ds : List Nat) {id : Nat} {a : Act} {w : World} (hm : P.follows .mixedOrders = true)
    (htop : ((List.range ops.size).all fun i => ((ops[i]?).map fun o => (waits .any o).all fun d => decide (d < i)).getD true) = true)
    (hds : ((ops.toList.take n0).filterMap (fun o : Oper => o.dst)) = ds) (hin : (ds.all fun d => decide (d < a.tmps.size)) = true)
    (hn : decide (n0 < ops.size) = true) (hr : ((List.range ops.size).all fun t => decide (t < n0) || (List.range t).all fun d => (reach ops F t).contains d) = true)
    (h0 : ∀ L : Nat → Bool, (∀ i, i < n0 → L i = false) → J L (fun s => a.eval (.tmp s)) w.drew) (hst : FactSteps P ops (QD a.defers Q) J (List.range n0))
    (hend : ∀ (L : Nat → Bool) (v : Nat → Value) w', (∀ i, i < n0 → L i = true) → J L v w' → wpList P ops Q (ops.toList.drop n0) (finA a v ds) w') : (Code.region id ops true).wp P Q a w := by
  have hn : n0 < ops.size := of_decide_eq_true hn
  have hdst : ∀ (i : Nat) (o : Oper) (k : Nat), i < n0 → ops[i]? = some o → o.dst = some k → k ∈ ds := fun i o k hi ho hk => by
    rw [← hds, List.mem_filterMap]
    refine ⟨o, ?_, hk⟩
    rw [← Array.getElem?_toList] at ho
    have : (ops.toList.take n0)[i]? = some o := by rw [List.getElem?_take, if_pos hi]; exact ho
    exact List.mem_of_getElem? this
  have hlt : ∀ k, k ∈ ds → k < a.tmps.size := fun k hk => of_decide_eq_true (List.all_eq_true.1 hin k hk)
  have hbef : ∀ t, n0 ≤ t → t < ops.size → ∀ d, d < t → d ∈ reach ops F t := fun t h1 h2 d hd => by
    have h3 := List.all_eq_true.1 hr t (List.mem_range.2 h2)
    rw [Bool.or_eq_true] at h3
    rcases h3 with h3 | h3
    · have := of_decide_eq_true h3; omega
    · have h4 := List.all_eq_true.1 h3 d (List.mem_range.2 hd)
      simpa using h4
  refine wp_region_inv (I := fun L b w' => (∀ i o, ops[i]? = some o → L i = true → ∀ d ∈ waits .any o, L d = true) ∧ ((∀ t, n0 ≤ t → t < ops.size → L t = false) → Frm ops a b L ∧ J L (fun s => b.eval (.tmp s)) w') ∧
    (∀ j, n0 ≤ j → j < ops.size → L j = true → (∀ t, j < t → t < ops.size → L t = false) → wpList P ops Q (ops.toList.drop (j + 1)) b w')) hm htop ?_ ?_ ?_
  · intro L hL
    refine ⟨fun i o ho h => ?_, fun _ => ⟨⟨rfl, rfl, fun _ _ => rfl, fun i o ho h => ?_⟩, h0 L fun i hi => hL i (by omega)⟩, fun j h1 h2 h3 => ?_⟩
    · rw [hL i (Array.getElem?_eq_some_iff.1 ho).1] at h; cases h
    · rw [hL i (Array.getElem?_eq_some_iff.1 ho).1] at h; cases h
    · rw [hL j h2] at h3; cases h3
  · refine ⟨fun i hi o L b w' ho hL hdep ⟨hcl, hF, hT⟩ => ?_⟩
    have hin' := List.mem_range.1 hi
    have hcl' : ∀ i' o', ops[i']? = some o' → upd L i i' = true → ∀ d ∈ waits .any o', upd L i d = true := by
      intro i' o' ho' hl d hdw
      unfold upd at hl ⊢
      by_cases e : i' = i
      · subst e
        rw [ho] at ho'
        injection ho' with ho'
        subst ho'
        rw [hdep d hdw]
        split <;> rfl
      · rw [if_neg e] at hl
        rw [hcl i' o' ho' hl d hdw]
        split <;> rfl
    have hoff : ∀ t, n0 ≤ t → i < t → t < ops.size → L t = false := fun t h1 h2 h3 => by
      cases h : L t with
      | false => rfl
      | true =>
        have := reach_on hcl F t i (hbef t h1 h3 i h2) h
        rw [hL] at this
        cases this
    by_cases hc : i < n0
    · have hall : ∀ t, n0 ≤ t → t < ops.size → L t = false := fun t h1 h2 => hoff t h1 (by omega) h2
      obtain ⟨hF, hJ⟩ := hF hall
      refine wpOp_step ho fun K hK => ?_
      refine wpD hF.defers (hst.out i (List.mem_range.2 hc) o L b (fun s => b.eval (.tmp s)) w' ho (fun _ => rfl) hL hdep hcl hJ K fun x w'' h => hK _ _ ⟨hcl', fun _ => ⟨⟨?_, ?_, ?_, hcl'⟩, ?_⟩, fun j h1 h2 h3 => ?_⟩)
      · rw [put_defers]; exact hF.defers
      · rw [put_size]; exact hF.size
      · intro s hs
        have hs' : ∀ i' o', ops[i']? = some o' → o'.dst = some s → L i' = false := fun i' o' h1 h2 => by
          have := hs i' o' h1 h2
          unfold upd at this
          split at this
          · cases this
          · exact this
        have hne : o.dst ≠ some s := fun e => by
          have := hs i o ho e
          unfold upd at this
          rw [if_pos rfl] at this
          cases this
        cases hd : o.dst with
        | none => exact hF.old s hs'
        | some k =>
          rw [put_slot, if_neg (fun e => hne (by rw [hd, e.1])), hF.old s hs']
      · have he := put_eval b o.dst x (fun k hk => by rw [hF.size]; exact hlt k (hdst i o k hc ho hk)) _ (fun _ => rfl)
        have : (fun s => (b.put o.dst x).eval (.tmp s)) = upv (fun s => b.eval (.tmp s)) o.dst x := funext he
        rw [this]
        exact h
      · unfold upd at h3
        rw [if_neg (by omega), hall j h1 h2] at h3
        cases h3
    · -- the tail
      have hbl : ∀ d, d < i → L d = true := fun d hd => by
        have hm := hbef i (by omega) hin' d hd
        have hup := reach_on (L := upd L i) hcl' F i d hm (by unfold upd; rw [if_pos rfl])
        unfold upd at hup
        rwa [if_neg (by omega)] at hup
      have hlist : wpList P ops Q (ops.toList.drop i) b w' := by
        by_cases e : i = n0
        · subst e
          obtain ⟨hF, hJ⟩ := hF fun t h1 h2 => by
            rcases Nat.lt_or_ge i t with h | h
            · exact hoff t h1 h h2
            · obtain rfl : t = i := by omega
              exact hL
          have hb : b = finA a (fun s => b.eval (.tmp s)) ds := by
            have h1 : b.tmps = (finA a (fun s => b.eval (.tmp s)) ds).tmps := by
              apply Array.ext_getElem?
              intro s
              rw [finA_get]
              by_cases hs : s ∈ ds
              · have hsl := hlt s hs
                rw [if_pos ⟨hs, hsl⟩]
                show b.tmps[s]? = some (b.tmps.getD s undef)
                rw [Array.getD_eq_getD_getElem?, Array.getElem?_eq_getElem (by rw [hF.size]; exact hsl)]
                rfl
              · rw [if_neg (fun h => hs h.1)]
                refine hF.old s fun i' o' ho' hd => ?_
                rcases Nat.lt_or_ge i' i with h | h
                · exact absurd (hdst i' o' s h ho' hd) hs
                · rcases Nat.lt_or_ge i i' with h' | h'
                  · exact hoff i' (by omega) h' (Array.getElem?_eq_some_iff.1 ho').1
                  · obtain rfl : i' = i := by omega
                    exact hL
            have h2 : b.defers = (finA a (fun s => b.eval (.tmp s)) ds).defers := by rw [finA_defers]; exact hF.defers
            cases b
            generalize finA a _ ds = c at *
            cases c
            simp only at h1 h2
            rw [h1, h2]
          rw [hb]
          exact hend L _ w' (fun d hd => hbl d hd) hJ
        · have := hT (i - 1) (by omega) (by omega) (hbl _ (by omega)) fun t h1 h2 => by
            rcases Nat.lt_or_ge i t with h | h
            · exact hoff t (by omega) h h2
            · obtain rfl : t = i := by omega
              exact hL
          rwa [show i - 1 + 1 = i by omega] at this
      have hdr : ops.toList.drop i = o :: ops.toList.drop (i + 1) := by
        rw [← Array.getElem?_toList] at ho
        obtain ⟨h1, h2⟩ := List.getElem?_eq_some_iff.1 ho
        rw [List.drop_eq_getElem_cons h1, h2]
      rw [hdr] at hlist
      have hwp : wpOp P ops Q i (wpList P ops Q (ops.toList.drop (i + 1))) b w' := by
        unfold wpOp
        rw [ho]
        exact hlist
      refine wpOp_mono (fun b' w'' h => ⟨hcl', fun hall => ?_, fun j h1 h2 h3 h4 => ?_⟩) hwp
      · have := hall i (by omega) hin'
        unfold upd at this
        rw [if_pos rfl] at this
        cases this
      · obtain rfl : j = i := by
          rcases Nat.lt_trichotomy j i with h | h | h
          · have := h4 i h hin'
            unfold upd at this
            rw [if_pos rfl] at this
            cases this
          · exact h
          · unfold upd at h3
            rw [if_neg (by omega), hoff j h1 h h2] at h3
            cases h3
        exact h
  · rintro L b w' hall ⟨_, _, hT⟩
    have := hT (ops.size - 1) (by omega) (by omega) (hall _ (by omega)) fun t h1 h2 => by omega
    rw [show ops.size - 1 + 1 = ops.toList.length by simp; omega, List.drop_length] at this
    exact this
/-- an operation whose guard was passed over itself -/
theorem step_skipU {P : Program} {ops : Array Oper} {Q : Exit → Act → World → Prop} {o : Oper} {a : Act} {w : World} {K : Act → World → Prop} {j s : Nat} {b' : Bool} (hg : o.guard = some (j, b')) (hj : ((ops[j]?).bind fun o : Oper => o.dst) = some s) (hv : a.eval (.tmp s) = undef) (h : K (a.put o.dst undef) w) :
    if Region.wanted o (yielded ops a.tmps) = true then Oper.wp P o a w K Q else K (a.put o.dst undef) w := by
  have hy : yielded ops a.tmps j = none := by
    have h1 : a.tmps.getD s undef = undef := hv
    unfold yielded
    rw [hj, Option.bind_some]
    rw [Array.getD_eq_getD_getElem?] at h1
    cases h2 : a.tmps[s]? with
    | none => rfl
    | some x =>
      rw [h2] at h1
      simp only [Option.getD_some] at h1
      subst h1
      rfl
  have hw : Region.wanted o (yielded ops a.tmps) = false := by
    unfold Region.wanted
    rw [hg]
    simp only [hy]
    rfl
  rw [hw]
  exact h
end Go.Proofs.Ytcgalmnllegnbaa

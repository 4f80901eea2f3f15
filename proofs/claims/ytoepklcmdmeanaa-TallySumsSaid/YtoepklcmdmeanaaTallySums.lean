/- TallySums: what nodes counted, each in a copy of its own, joined now and then, is counted all together in the join of all: the whole statement, without a condition. -/
import Derived.Test.YtoepklcmdmeanaaTallyOwn
import Derived.Test.YtoepklcmdmeanaaHeldC
import Derived.Test.YtoepklcmdmeanaaTallyAlive
import Derived.Test.YtoepklcmdmeanaaTallyOpen
import Derived.Deep.RegionHeld3
namespace Go.Proofs.Ytoepklcmdmeanaa.TallySums
open Go.ChangeShapes Go.WideShapes Go.ChangeAt Go.RowKit Go.Deep
set_option linter.unusedVariables false
set_option linter.unusedSimpArgs false
open Tally

/-- One count: a node, how much (or with whom), whether it is a meeting. -/
structure Cnt where
  node : Int
  n : Int
  meet : Bool
def CntAt (w : World) (B : Nat) (ad : Addr) (o : Cnt) : Prop := ad.block < B ∧ w.cell? ad = some (.int .i64 o.node) ∧ w.cell? ⟨ad.block, ad.off + 1, none⟩ = some (.int .i64 o.n) ∧ w.cell? ⟨ad.block, ad.off + 2, none⟩ = some (.bool o.meet) ∧
  (-9223372036854775808 ≤ o.node ∧ o.node ≤ 9223372036854775807) ∧ -9223372036854775808 ≤ o.n ∧ o.n ≤ 9223372036854775807
def CntsAt (w : World) (B : Nat) (a : Option Addr) (n : Nat) (l : List Cnt) : Prop := n = l.length ∧ ∀ i o, l[i]? = some o → ∃ ad, a = some ad ∧ CntAt w B (ad.add (i * 3)) o
theorem CntsAt.below {w w' : World} {B n : Nat} {a : Option Addr} {l : List Cnt} (h : CntsAt w B a n l) (hb : Below B w w') : CntsAt w' B a n l := ⟨h.1, fun i o ho => by
  obtain ⟨ad, e, h0, h1, h2, h3, h4⟩ := h.2 i o ho
  exact ⟨ad, e, h0, (hb.cell h0).trans h1, (hb.cell (p := ⟨(ad.add (i * 3)).block, (ad.add (i * 3)).off + 1, none⟩) h0).trans h2, (hb.cell (p := ⟨(ad.add (i * 3)).block, (ad.add (i * 3)).off + 2, none⟩) h0).trans h3, h4⟩⟩
theorem list_of {α : Type} {P : Nat → α → Prop} (n : Nat) (h : ∀ i, i < n → ∃ x, P i x) : ∃ l : List α, l.length = n ∧ ∀ j x, l[j]? = some x → P j x := by
  induction n with
  | zero => exact ⟨[], rfl, fun j x h => by simp at h⟩
  | succ n ih =>
    obtain ⟨l, h1, h2⟩ := ih (fun i hi => h i (by omega))
    obtain ⟨x, hx⟩ := h n (by omega)
    refine ⟨l ++ [x], by simp [h1], fun j y hy => ?_⟩
    by_cases hj : j < n
    · rw [List.getElem?_append_left (by omega)] at hy
      exact h2 j y hy
    · rw [List.getElem?_append_right (by omega)] at hy
      have h0 : j - l.length = 0 := by
        rcases Nat.eq_zero_or_pos (j - l.length) with h | h
        · exact h
        · rw [List.getElem?_eq_none (by simp; omega)] at hy
          cases hy
      rw [h0] at hy
      simp at hy
      subst hy
      have hjn : j < n + 1 := by omega
      obtain rfl : j = n := by omega
      exact hx
theorem addNZ (a : Addr) (n : Nat) (hn : n ≠ 0) : a.add n = ⟨a.block, a.off + n, none⟩ := by unfold Addr.add; rw [if_neg hn]
theorem cellsI : (Try.prog).cellsOf 3 = 1 := by kernel_rfl
theorem cellsB : (Try.prog).cellsOf 4 = 1 := by kernel_rfl
theorem cellsC : (Try.prog).cellsOf 40 = 3 := by kernel_rfl
set_option maxRecDepth 100000 in
theorem open_cnts {H : Type} {enc : TypeId × Value → H} {W : World} {base : Nat} {sp : Nat → Bool} {held : Bool} {r : Reach} {b0 : Nat} {v : Value} {d : DataW H} {p : List MemPlace}
    (hv : Value.okWide Try.prog W r b0 37 v) (h : DataW.Trod enc Try.prog W base sp held 37 v d p) :
    ∃ (a : Option Addr) (n c : Nat) (l : List Cnt), v = .slice a n c ∧ CntsAt W W.heap.size a n l ∧ n ≤ c ∧ c ≤ maxLen := by
  obtain ⟨a0, len0, cap0, rfl⟩ := okWide_slice Try.underlying37 hv
  obtain ⟨fuel, hf⟩ := h
  obtain ⟨a, n, c, h1, h2, h3, h4⟩ := rd_slice Try.underlying37 cellsC hf
  simp [Value.cells] at h1
  obtain ⟨rfl, rfl, rfl⟩ := h1
  obtain ⟨l, q1, q2⟩ := list_of (α := Cnt) (P := fun i o => ∃ ad, a0 = some ad ∧ CntAt W W.heap.size (ad.add (i * 3)) o) len0 (fun i hi => by
    obtain ⟨ad, cs, fu, x', ha, hl, hc, ht⟩ := h4 i hi
    obtain ⟨_, _, g0⟩ := rd_field Try.underlying40 ht 0 3 0 1 rfl cellsI
    obtain ⟨_, _, g1⟩ := rd_field Try.underlying40 ht 1 3 1 1 rfl cellsI
    obtain ⟨_, _, g2⟩ := rd_field Try.underlying40 ht 2 4 2 1 rfl cellsB
    match cs, hl with
    | [v0, v1, v2], _ =>
      obtain ⟨k, hk, hk1⟩ := rd_int g0
      obtain ⟨m, hm, hm1⟩ := rd_int g1
      obtain ⟨b, hb, _⟩ := DataW.trod_bool Try.underlying4 g2
      injection hk with hk _
      injection hm with hm _
      injection hb with hb _
      subst hk hm hb
      have e0 := hc 0 (by omega)
      have e1 := hc 1 (by omega)
      have e2 := hc 2 (by omega)
      rw [addNZ _ 1 (by omega)] at e1
      rw [addNZ _ 2 (by omega)] at e2
      have e0' : W.cell? (ad.add (i * 3)) = some (.int .i64 k) := e0
      exact ⟨⟨k, m, b⟩, ad, ha, World.block_lt_of_cell? W _ e0', e0', e1, e2, hk1, hm1⟩)
  exact ⟨_, _, _, l, rfl, ⟨q1.symm, q2⟩, h2, h3⟩
theorem node_of (z : Int) : ∃ a : Nat, a < 8 ∧ (IntKind.u64.wrap z).tmod 8 = (a : Int) := by
  have h0 : 0 ≤ IntKind.u64.wrap z := by rw [IntKind.wrap_u64]; exact Int.emod_nonneg _ (by decide)
  have h := Int.emod_nonneg (IntKind.u64.wrap z) (show (8 : Int) ≠ 0 by decide)
  have h' := Int.emod_lt_of_pos (IntKind.u64.wrap z) (show (0 : Int) < 8 by decide)
  exact ⟨(IntKind.u64.wrap z % 8).toNat, by omega, by rw [Int.tmod_eq_emod_of_nonneg h0]; omega⟩
set_option maxRecDepth 100000 in
set_option maxHeartbeats 4000000 in
theorem walk (a : Option Addr) (n c : Nat) (l : List Cnt) (w : World) (hl : CntsAt w w.heap.size a n l) (hn : n ≤ c) (hc : c ≤ maxLen) :
    Calls Try.prog 4 #[.slice a n c] w fun e w' => e = .returned (.bool true) ∧ Below w.heap.size w w' := by
  unfold maxLen at hc
  have HL := Lib.hid hl.1
  by_cases hbig : 300 < n
  · have hd : decide ((300 : Int) < (n : Int)) = true := decide_eq_true (by omega)
    go_enter Try.func4, Try.ntmps4
    go_wp2_with fail
    refine (alive28 _).mono ?_
    rintro e w1 ⟨rfl, h1⟩
    go_wp2_with fail
    go_ret
    exact ⟨rfl, h1⟩
  have hd : decide ((300 : Int) < (n : Int)) = false := decide_eq_false (by omega)
  have hz8 := zval8
  go_enter Try.func4, Try.ntmps4
  go_wp2_with fail
  refine (alive28 _).mono ?_
  rintro e w1 ⟨rfl, h1⟩
  go_wp2_with fail
  obtain ⟨gB, hgB⟩ : ∃ gB, gB = w1.heap.size := ⟨_, rfl⟩
  have o0 := zero8 w1
  have hb0 := h1.alloc h1.size (.cells z128 38)
  have hgw : w.heap.size ≤ gB := by rw [hgB]; exact h1.size
  rw [← hgB] at o0 ⊢
  generalize w1.alloc (.cells z128 38) = w2 at *
  clear hgB hz8 h1
  go_loopw [4, 21] (fun s i wr => ∃ (k : Nat) (os : List (List Int)) (T : List Int), k ≤ n ∧ i = .int .i64 k ∧ s = .int .i64 (sumTo T 8) ∧ Cop os T ∧ Upto T ((k : Int) * 999999) ∧ (-((k : Int) * 999999) ≤ sumTo T 8 ∧ sumTo T 8 ≤ (k : Int) * 999999) ∧ Own8 wr gB os ∧ Below w.heap.size w wr) (fun _ i _ => n - (intOf i).toNat)
  case atStart => exact ⟨0, _, _, by omega, rfl, rfl, Cop.start, fun i hi => by rw [zero_at i hi]; omega, by decide, o0, hb0⟩
  case round =>
    clear o0 hb0
    obtain ⟨k, os, T, hk, rfl, rfl, hcop, hup, hsum, hown, hbel⟩ := hrel
    have HC := Lib.hid hcop
    have HU := Lib.hid hup
    clear hcop hup
    by_cases hlt : k < n
    · have hkl : k < l.length := by rw [← HL.out]; exact hlt
      obtain ⟨ad, rfl, q5, q0, q1, q2, hnd, hN⟩ := (hl.below hbel).2 k _ (List.getElem?_eq_getElem hkl)
      generalize l[k] = o at *
      obtain ⟨nd, N, mt⟩ := o
      simp only at q0 q1 q2 hnd hN
      obtain ⟨x, hx, ex⟩ := node_of nd
      obtain ⟨y, hy, ey⟩ := node_of N
      have hx0 : (0 : Int) ≤ (x : Int) := by omega
      have hx8 : (x : Int) < 8 := by omega
      have hy0 : (0 : Int) ≤ (y : Int) := by omega
      have hy8 : (y : Int) < 8 := by omega
      obtain ⟨gc, hgc⟩ : ∃ gc, gc = wr.heap.size := ⟨_, rfl⟩
      obtain ⟨wv, hwv⟩ : ∃ wv, wv = wr.alloc (.cells #[.int .i64 nd, .int .i64 N, .bool mt] 40) := ⟨_, rfl⟩
      have hbv : Below wr.heap.size wr wv := by rw [hwv]; exact (Below.refl _ _).alloc (Nat.le_refl _) _
      have K0 : Blk wv gc 40 #[.int .i64 nd, .int .i64 N, .bool mt] := by rw [hwv, hgc]; exact Blk.new wr _ _
      have hov := hown.below hbv
      have hbw := hbel.trans (hbv.mono hbel.size)
      have hlt1 := HC.out.len x hx
      have hlt2 := HC.out.len y hy
      have HWV := Lib.hid hwv
      have HGC := Lib.hid hgc
      have hBc : gB < gc := by rw [hgc]; exact hown.2.2.lt
      clear hwv hgc hbv hown
      go_upto_region 9 with fail
      cases mt
      case true =>
        go_upto_region 10 with fail
        rw [← HWV.out, ← HGC.out]
        have t0 : wv.cell? ⟨gc, 0, none⟩ = some (.int .i64 nd) := K0.cell 0
        have t1 : wv.cell? ⟨gc, 1, none⟩ = some (.int .i64 N) := K0.cell 1
        have t2 : wv.cell? ⟨gc, 2, none⟩ = some (.bool true) := K0.cell 2
        go_upto_region 12 with fail
        obtain ⟨L1, hL1⟩ : ∃ L1, L1 = (os.getD x []).map (Value.int .i64) := ⟨_, rfl⟩
        obtain ⟨L2, hL2⟩ : ∃ L2, L2 = (os.getD y []).map (Value.int .i64) := ⟨_, rfl⟩
        have r1 := hov.range hx
        have r2 := hov.range hy
        have r3 := hov.there hx
        rw [← hL1] at r1
        rw [← hL2] at r2
        have hu := Try.underlying26
        have l1 : L1.length = 16 := by rw [hL1, List.length_map, hlt1]
        have l2 : L2.length = 16 := by rw [hL2, List.length_map, hlt2]
        have s1 : (Try.prog.info? 26).map (·.size) = some L1.length := by rw [size26, l1]
        have s2 : (Try.prog.info? 26).map (·.size) = some L2.length := by rw [size26, l2]
        have e1 : L1.toArray = tc (os.getD x []) := by rw [hL1]; rfl
        have e2 : L2.toArray = tc (os.getD y []) := by rw [hL2]; rfl
        have E1 := Lib.hid e1
        have E2 := Lib.hid e2
        have S1 := Lib.hid s1
        have S2 := Lib.hid s2
        have HS : wv.rangeAt gB (x * 16) L1 ∧ wv.rangeAt gB (y * 16) L2 ∧ wv.cell? ⟨gc, 1, none⟩ = some (.int .i64 N) := ⟨r1, r2, t1⟩
        have H := Lib.hid HS
        have hJ := join_len hlt1 hlt2
        obtain ⟨J, hJe⟩ : ∃ J, J = joinL (os.getD x []) (os.getD y []) := ⟨_, rfl⟩
        rw [← hJe] at hJ
        have HJ := Lib.hid hJe
        clear e1 e2 hL1 hL2 HS s1 s2 hJe
        refine wp_region_C (fun w' => w'.rangeAt gB (x * 16) L1 ∧ w'.rangeAt gB (y * 16) L2 ∧ w'.cell? ⟨gc, 1, none⟩ = some (.int .i64 N)) 11 (by kernel_rfl) ?_
        refine wpAnyC_pure (i := 0) (v := ?rv181) rfl (by kernel_rfl) (by kernel_rfl) (by kernel_rfl) (fun _ _ _ h => h) (by decide) (Or.inl ⟨by rfl, ?ry181⟩) (fun _ => H.out) ?_
        case ry181 => ((intro w; go_simp); (try with_reducible rfl))
        simp only [Act.put, List.getElem_toArray, List.getElem_cons_zero, List.getElem_cons_succ, List.setIfInBounds_toArray, List.set_cons_succ, List.set_cons_zero]
        refine wpAnyC_pure (i := 1) (v := ?rv184) rfl (by kernel_rfl) (by kernel_rfl) (by kernel_rfl) (fun _ _ _ h => h) (by decide) (Or.inl ⟨by rfl, ?ry184⟩) (fun _ => H.out) ?_
        case ry184 => ((intro w; go_simp); (try with_reducible rfl))
        simp only [Act.put, List.getElem_toArray, List.getElem_cons_zero, List.getElem_cons_succ, List.setIfInBounds_toArray, List.set_cons_succ, List.set_cons_zero]
        refine wpAnyC_pure (i := 2) (v := ?rv187) rfl (by kernel_rfl) (by kernel_rfl) (by kernel_rfl) (fun _ _ _ h => h) (by decide) (Or.inl ⟨by rfl, ?ry187⟩) (fun _ => H.out) ?_
        case ry187 => ((intro w; go_simp); (try with_reducible rfl))
        simp only [Act.put, List.getElem_toArray, List.getElem_cons_zero, List.getElem_cons_succ, List.setIfInBounds_toArray, List.set_cons_succ, List.set_cons_zero]
        refine wpAnyC_take (i := 3) (v := .agg L1.toArray) rfl (by kernel_rfl) (by kernel_rfl) (by kernel_rfl) (fun _ _ _ h => h) (by decide) (by kernel_rfl) (by kernel_rfl) (yieldsIf_load_mid (by rfl) 26 (.tmp 34) rfl gB (x * 16) rfl L1 _ (fun _ h => h.1) hu rfl S1.out) H.out ?_
        simp only [Act.put, List.getElem_toArray, List.getElem_cons_zero, List.getElem_cons_succ, List.setIfInBounds_toArray, List.set_cons_succ, List.set_cons_zero]
        refine wpAnyC_pure (i := 4) (v := ?rv192) rfl (by kernel_rfl) (by kernel_rfl) (by kernel_rfl) (fun _ _ _ h => h) (by decide) (Or.inl ⟨by rfl, ?ry192⟩) (fun _ => H.out) ?_
        case ry192 => ((intro w; go_simp); (try with_reducible rfl))
        simp only [Act.put, List.getElem_toArray, List.getElem_cons_zero, List.getElem_cons_succ, List.setIfInBounds_toArray, List.set_cons_succ, List.set_cons_zero]
        refine wpAnyC_takeP [5, 6, 7, 8, 9, 10, 11] (i := 5) (v := .int .i64 N) rfl (by kernel_rfl) (by kernel_rfl) (by kernel_rfl) (fun _ _ _ h => h) (by decide) (by decide) (by decide) (by kernel_rfl) (by kernel_rfl) (Or.inl ⟨by rfl, ?ryN⟩) H.out ?_
        case ryN =>
          intro w9 hw9
          have hw8 := hw9.2.2
          clear hw9
          go_simp
          try with_reducible rfl
        simp only [Act.put, List.getElem_toArray, List.getElem_cons_zero, List.getElem_cons_succ, List.setIfInBounds_toArray, List.set_cons_succ, List.set_cons_zero]
        have eyw : IntKind.i64.wrap (y : Int) = (y : Int) := IntWalk.i64_in _ (by omega)
        refine wpAnyC_pure (i := 6) (v := ?rv204) rfl (by kernel_rfl) (by kernel_rfl) (by kernel_rfl) (fun _ _ _ h => h) (by decide) (Or.inl ⟨by rfl, ?ry204⟩) (fun _ => H.out) ?_
        case ry204 => ((intro w; go_simp); (try with_reducible rfl))
        simp only [Act.put, List.getElem_toArray, List.getElem_cons_zero, List.getElem_cons_succ, List.setIfInBounds_toArray, List.set_cons_succ, List.set_cons_zero]
        refine wpAnyC_pure (i := 7) (v := ?rv207) rfl (by kernel_rfl) (by kernel_rfl) (by kernel_rfl) (fun _ _ _ h => h) (by decide) (Or.inl ⟨by rfl, ?ry207⟩) (fun _ => H.out) ?_
        case ry207 => ((intro w; go_simp); (try with_reducible rfl))
        simp only [Act.put, List.getElem_toArray, List.getElem_cons_zero, List.getElem_cons_succ, List.setIfInBounds_toArray, List.set_cons_succ, List.set_cons_zero]
        refine wpAnyC_pure (i := 8) (v := ?rv210) rfl (by kernel_rfl) (by kernel_rfl) (by kernel_rfl) (fun _ _ _ h => h) (by decide) (Or.inl ⟨by rfl, ?ry210⟩) (fun _ => H.out) ?_
        case ry210 => ((intro w; go_simp); (try with_reducible rfl))
        simp only [Act.put, List.getElem_toArray, List.getElem_cons_zero, List.getElem_cons_succ, List.setIfInBounds_toArray, List.set_cons_succ, List.set_cons_zero]
        refine wpAnyC_pure (i := 9) (v := ?rv213) rfl (by kernel_rfl) (by kernel_rfl) (by kernel_rfl) (fun _ _ _ h => h) (by decide) (Or.inl ⟨by rfl, ?ry213⟩) (fun _ => H.out) ?_
        case ry213 => ((intro w; go_simp); (try with_reducible rfl))
        simp only [Act.put, List.getElem_toArray, List.getElem_cons_zero, List.getElem_cons_succ, List.setIfInBounds_toArray, List.set_cons_succ, List.set_cons_zero]
        clear eyw
        refine wpAnyC_take (i := 10) (v := .agg L2.toArray) rfl (by kernel_rfl) (by kernel_rfl) (by kernel_rfl) (fun _ _ _ h => h) (by decide) (by kernel_rfl) (by kernel_rfl) (yieldsIf_load_mid (by rfl) 26 (.tmp 41) rfl gB (y * 16) rfl L2 _ (fun _ h => h.2.1) hu rfl S2.out) H.out ?_
        simp only [Act.put, List.getElem_toArray, List.getElem_cons_zero, List.getElem_cons_succ, List.setIfInBounds_toArray, List.set_cons_succ, List.set_cons_zero]
        refine wpAnyC_ready (rs := [11]) (by kernel_rfl) (by simp) ?_
        refine AllReadyC.cons rfl (by kernel_rfl) (fun K hK => ?_) .nil
        go_simp
        rw [E1.out, E2.out]
        refine (join_any _ _ _ hlt1 hlt2).mono ?_
        rintro e w5 ⟨rfl, hb5⟩
        rw [← HJ.out]
        refine hK.out _ _ ?_
        refine wpAnyC_ready (rs := [12]) (by kernel_rfl) (by simp) ?_
        refine AllReadyC.cons rfl (by kernel_rfl) (fun K hK => ?_) .nil
        go_simp
        refine hK.out _ _ ?_
        refine wpAnyC_ready (rs := [13]) (by kernel_rfl) (by simp) ?_
        refine AllReadyC.cons rfl (by kernel_rfl) (fun K hK => ?_) .nil
        rw [if_pos (by rfl)]
        have hb6 : Below wv.heap.size wv w5 := (below_drewN (Below.refl _ wv) 1).trans hb5
        have ho5 := hov.below hb6
        refine wp_store_mid 26 _ _ rfl gB (x * 16) (tc J) rfl rfl (by rw [tc_size, hJ]; exact ho5.there hx) (by rw [size26, tc_size, hJ]) (tc_one J) ?_
        refine hK.out _ _ ?_
        refine wpAnyC_done (by kernel_rfl) ?_ _
        simp only [Act.put, List.getElem_toArray, List.getElem_cons_zero, List.getElem_cons_succ, List.setIfInBounds_toArray, List.set_cons_succ, List.set_cons_zero]
        have hb7 := hbw.trans (hb6.mono hbw.size)
        have ho7 := ho5.store hx hJ
        have hb8 := setCells_below hb7 (o := x * 16) (vs := (tc J).toList) (g := gB) hgw
        have hc7 := HC.out.join hx hy
        rw [← HJ.out] at hc7
        have HC7 := Lib.hid hc7
        clear hc7 hb5 hb6 hb7 ho5
        change Own8 (w5.setCells gB (x * 16) (tc J).toList) gB (os.set x J) at ho7
        generalize w5.setCells gB (x * 16) (tc J).toList = w8 at *
        go_wp2_with fail
        go_roundw
        case rel => exact ⟨k + 1, _, T, by omega, by go_num, rfl, HC7.out, fun i hi => by have := HU.out i hi; push_cast; omega, by push_cast; omega, ho7, hb8⟩
        case measure => simp [intOf]; omega
      case false =>
        go_upto_region 10 with fail
        rw [← HWV.out, ← HGC.out]
        have t0 : wv.cell? ⟨gc, 0, none⟩ = some (.int .i64 nd) := K0.cell 0
        have t1 : wv.cell? ⟨gc, 1, none⟩ = some (.int .i64 N) := K0.cell 1
        have t2 : wv.cell? ⟨gc, 2, none⟩ = some (.bool false) := K0.cell 2
        have hM1 : -999999 ≤ N.tmod 1000000 ∧ N.tmod 1000000 ≤ 999999 := by
          have h1 := Int.tmod_lt_of_pos N (show (0 : Int) < 1000000 by decide)
          have h2 := Int.lt_tmod_of_pos N (show (0 : Int) < 1000000 by decide)
          omega
        obtain ⟨M, hM⟩ : ∃ M, N.tmod 1000000 = M := ⟨_, rfl⟩
        rw [hM] at hM1
        have hw2 : IntKind.i64.wrap M = M := IntWalk.i64_in _ (by omega)
        have hw3 : IntKind.i64.wrap (sumTo T 8 + M) = sumTo T 8 + M := IntWalk.i64_in _ (by omega)
        obtain ⟨hadd, hrt⟩ := HC.out.take_ok HU.out (by omega) hx hM1
        obtain ⟨Lx, hLx⟩ : ∃ Lx, Lx = os.getD x [] := ⟨_, rfl⟩
        have r1 := hov.range hx
        have r3 := hov.there hx
        have hC7 := HC.out.add hx hrt
        have hU7 := HU.out.add HC.out.t hx hM1
        have hS7 := add_sum HC.out.t hx M
        rw [← hLx] at hadd hrt r1 hlt1 hC7
        obtain ⟨Y, hY⟩ : ∃ Y, Y = Lx.set (slot x M) (Lx.getD (slot x M) 0 + amt M) := ⟨_, rfl⟩
        have hYl : Y.length = 16 := by rw [hY, List.length_set, hlt1]
        rw [← hY] at hadd hrt hC7
        obtain ⟨T', hT'⟩ : ∃ T', T' = T.set (slot x M) (T.getD (slot x M) 0 + amt M) := ⟨_, rfl⟩
        rw [← hT'] at hC7 hU7 hS7
        have HA := Lib.hid hadd
        have HC7 := Lib.hid hC7
        have HU7 := Lib.hid hU7
        have HS7 := Lib.hid hS7
        have l1 : (Lx.map (Value.int .i64)).length = 16 := by rw [List.length_map, hlt1]
        have L1 := Lib.hid l1
        have SY := Lib.hid (show (tc Y).size = 16 by rw [tc_size, hYl])
        have HLx := Lib.hid hlt1
        have HYl := Lib.hid hYl
        clear l1 hadd hrt hC7 hU7 hS7 hY hT' hLx hlt1 hYl
        go_upto_region 14 with fail
        go_wp2_with ((with_reducible refine wpList_ldm rowT26 r1 L1.out ?_ ?_); rotate_left; (rfl))
        refine (add_any Lx x M wv HLx.out).mono ?_
        unfold AddEnd
        rw [HA.out]
        rintro e w5 ⟨rfl, hb5⟩
        have ho5 := hov.below hb5
        have hb6 := hbw.trans (hb5.mono hbw.size)
        have hg5 : gB < w5.heap.size := ho5.2.2.lt
        clear r1 r3
        go_upto_region 15 with ((with_reducible refine wpList_st rowT26 (Blk.new _ _ _) SY.out ?_ (tc_one Y) ?_ ?_ ?_); (rfl); rotate_left; (rfl); (rfl); intro w6 k6 g6 z6)
        have bA : Below w5.heap.size w5 w6 := (((Below.refl _ _).alloc (Nat.le_refl _) _).grown g6 (by simp) (fun q hq => by injection hq with hq; omega))
        have hb7 := hb6.trans (bA.mono hb6.size)
        have ho7 := ho5.below bA
        have r7 := ho7.there hx
        obtain ⟨g9, hg9⟩ : ∃ g9, g9 = w5.heap.size := ⟨_, rfl⟩
        rw [← hg9] at k6 ⊢
        clear hg9 g6 z6 hb5 hb6 ho5
        go_upto_region 17 with fail
        go_upto_region 18 with first | ((with_reducible refine wpList_ld rowT26 k6 SY.out ?_ ?_); rotate_left; (rfl)) | ((with_reducible refine wpList_stm rowT26 r7 SY.out (tc_one Y) ?_ ?_ ?_); rotate_left; (rfl); (rfl))
        have ho8 := ho7.store hx HYl.out
        have hb8 := setCells_below hb7 (o := x * 16) (vs := (tc Y).toList) (g := gB) hgw
        change Own8 (w6.setCells gB (x * 16) (tc Y).toList) gB (os.set x Y) at ho8
        generalize w6.setCells gB (x * 16) (tc Y).toList = w8 at *
        clear k6 r7 ho7 hb7 bA
        go_wp2_with fail
        go_roundw
        case rel => exact ⟨k + 1, _, T', by omega, by go_num, by rw [HS7.out], HC7.out, fun i hi => by have := HU7.out i hi; push_cast; omega, by rw [HS7.out]; push_cast; omega, ho8, hb8⟩
        case measure => simp [intOf]; omega
    · have hkn : k = n := by omega
      have hzs : ∀ w : World, (zeroValue 26).run Try.prog w = .ok (.agg (tc zero)) w := fun w => by kernel_rfl
      have SZ := Lib.hid (show (tc zero).size = 16 from rfl)
      have hJV := joinTo_value HC.out
      have HJV := Lib.hid hJV
      clear hJV
      go_upto_region 20 with fail
      go_upto_region 21 with ((with_reducible refine wpList_st rowT26 (Blk.new _ _ _) SZ.out ?_ (tc_one zero) ?_ ?_ ?_); (rfl); rotate_left; (rfl); (rfl); intro w6 k6 g6 z6)
      have bA : Below wr.heap.size wr w6 := (((Below.refl _ _).alloc (Nat.le_refl _) _).grown g6 (by simp) (fun q hq => by injection hq with hq; omega))
      have hb7 := hbel.trans (bA.mono hbel.size)
      have ho7 := hown.below bA
      obtain ⟨gt, hgt⟩ : ∃ gt, gt = wr.heap.size := ⟨_, rfl⟩
      rw [← hgt] at k6 ⊢
      have hgw2 : w.heap.size ≤ gt := by rw [hgt]; exact hbel.size
      have hS8 := Lib.hid ho7.size
      have kO := ho7.2.2
      have hri := fun (w : World) (k : Nat) (hk : k < 8) => run_index8 w os ho7.1 ho7.2.1 k hk
      have HRI := Lib.hid hri
      have hr16 := fun (k : Nat) (hk : k < 8) => ho7.row_len hk
      have HR16 := Lib.hid hr16
      change Blk w6 gt 26 (tc (joinTo os 0)) at k6
      have hj0 : (joinTo os 0).length = 16 := rfl
      clear bA hgt g6 z6 hown hbel hri hr16
      go_wp2_with ((with_reducible refine wpList_ld rowT38 kO hS8.out ?_ ?_); rotate_left; (rfl))
      clear ho7 kO
      go_loopw [68] (fun i wr => ∃ k : Nat, k ≤ 8 ∧ i = .int .i64 k ∧ (joinTo os k).length = 16 ∧ Blk wr gt 26 (tc (joinTo os k)) ∧ Below w.heap.size w wr) (fun i _ => 8 - (intOf i).toNat)
      case atStart => exact ⟨0, by omega, rfl, hj0, k6, hb7⟩
      case round =>
        clear hb7 k6 hj0
        obtain ⟨j, hj, rfl, hjl, kj, hbj⟩ := hrel
        have HJL := Lib.hid hjl
        clear hjl
        by_cases hlt8 : j < 8
        · have hix := fun w => HRI.out w j hlt8
          have hr16 := HR16.out j hlt8
          have hjs : joinTo os (j + 1) = joinL (joinTo os j) (os.getD j []) := rfl
          obtain ⟨R, hR⟩ : ∃ R, R = os.getD j [] := ⟨_, rfl⟩
          obtain ⟨JT, hJT⟩ : ∃ JT, JT = joinTo os j := ⟨_, rfl⟩
          have hJTl := HJL.out
          rw [← hR] at hix hr16 hjs
          rw [← hJT] at hjs kj hJTl
          have SJ := Lib.hid (show (tc JT).size = 16 by rw [tc_size, hJTl])
          have SR := Lib.hid (show (tc R).size = 16 by rw [tc_size, hr16])
          have hjd : decide ((j : Int) < 8) = true := decide_eq_true (by omega)
          have hJ16 := join_len hJTl hr16
          rw [← hjs] at hJ16
          have SN := Lib.hid (show (tc (joinTo os (j + 1))).size = 16 by rw [tc_size, hJ16])
          have HJT := Lib.hid hJTl
          have HR := Lib.hid hr16
          have HJS := Lib.hid hjs
          have HJ16 := Lib.hid hJ16
          have hgj : gt < wr.heap.size := kj.lt
          clear hR hJT hJTl hr16 hjs hJ16 HJL
          go_upto_region 23 with fail
          go_upto_region 24 with ((with_reducible refine wpList_st rowT26 (Blk.new _ _ _) SR.out ?_ (tc_one R) ?_ ?_ ?_); (rfl); rotate_left; (rfl); (rfl); intro w7 k7 g7 z7)
          have bA : Below wr.heap.size wr w7 := (((Below.refl _ _).alloc (Nat.le_refl _) _).grown g7 (by simp) (fun q hq => by injection hq with hq; omega))
          have hb7 := hbj.trans (bA.mono hbj.size)
          have kj7 := kj.below bA hgj
          obtain ⟨gr, hgr⟩ : ∃ gr, gr = wr.heap.size := ⟨_, rfl⟩
          rw [← hgr] at k7 ⊢
          clear hgr g7 z7 bA kj hbj
          go_wp2_with first | ((with_reducible refine wpList_ld rowT26 k7 SR.out ?_ ?_); rotate_left; (rfl)) | ((with_reducible refine wpList_ld rowT26 kj7 SJ.out ?_ ?_); rotate_left; (rfl))
          refine (join_any JT R w7 HJT.out HR.out).mono ?_
          rintro e w9 ⟨rfl, hb9⟩
          rw [← HJS.out]
          have hbA := hb7.trans (hb9.mono hb7.size)
          have kj9 := kj7.below hb9 kj7.lt
          clear k7 kj7 hb9 hb7
          go_upto_region 25 with ((with_reducible refine wpList_st rowT26 kj9 SN.out SJ.out (tc_one (joinTo os (j + 1))) ?_ ?_ ?_); rotate_left; (rfl); (rfl); intro wA kA gA zA)
          have hbB := hbA.grown gA hbA.size (fun q hq => by injection hq; omega)
          clear gA zA hbA kj9
          go_wp2_with fail
          go_roundw
          case rel => exact ⟨j + 1, by omega, by go_num, HJ16.out, kA, hbB⟩
          case measure => simp [intOf]; omega
        · have h8 : j = 8 := by omega
          subst h8
          have hjd : decide ((8 : Int) < 8) = false := by decide
          have SJ := Lib.hid (show (tc (joinTo os 8)).size = 16 by rw [tc_size, HJL.out])
          go_wp2_with ((with_reducible refine wpList_ld rowT26 kj SJ.out ?_ ?_); rotate_left; (rfl))
          refine (value_any _ wr HJL.out).mono ?_
          rw [HJV.out]
          rintro e w9 ⟨rfl, hb9⟩
          have hbA := hbj.trans (hb9.mono hbj.size)
          clear kj hb9 hbj
          go_wp2_with fail
          go_ret
          exact ⟨rfl, hbA⟩
set_option maxRecDepth 100000 in
theorem lifted (os : Os) (started : os.Started) (H : Type) (enc : TypeId × Value → H) :
    ReturnsInHanded {} Try.checked os 4 .any (Rows.tallySumsSpec.pre6 enc Try.prog Try.f4 Rows.tallySumsRow.domain false) (Rows.tallySumsSpec.post enc Try.prog Try.f4 false true false false) := by
  refine returnsInHanded_of_change (C := Try.checked) own started (by kernel_rfl) Try.func4
    (ChangeSpec.witness6 (enc := enc) (C := Try.checked) false ⟨#[], #[.slice none 0 0], []⟩ 8 (by kernel_rfl) (by kernel_rfl) (by kernel_rfl) (by kernel_rfl)) ?_
  intro W base args ds gs before hval0 hW hcnd _
  have hval : ∀ (j : Nat) t v, Try.f4.params[j]? = some t → args[j]? = some v → Value.okWide Try.prog W .any base t v := hval0
  have hW' := hW
  obtain ⟨p, q, hA0, hV, rfl, hfz, hnd⟩ := hW
  have hA : DataW.TrodAll enc Try.prog W 0 (fun _ => true) true Try.f4.params.toList args.toList ds p := hA0
  rw [Try.params4] at hA hval
  obtain ⟨v0, vs0, d0, ds0, p0, q0, hargs, rfl, rfl, h0, r0⟩ := trodAll_cons hA
  obtain ⟨rfl, rfl, rfl⟩ := trodAll_nil r0
  obtain rfl : args = #[v0] := by cases args; simp_all
  obtain ⟨rfl, rfl⟩ := trodVars_none hV
  have lt0 : ∀ x ∈ p0, x.block < W.heap.size := by obtain ⟨m, hm⟩ := h0; exact DataW.trod_lt m _ _ _ hm
  have k0 := h0
  obtain ⟨a, n, c, l, rfl, hl, hn, hc⟩ := open_cnts (hval 0 37 v0 rfl rfl) h0
  clear hA0 hval0
  refine (walk a n c l W hl hn hc).mono fun e W' ⟨he, bel⟩ => ?_
  subst he
  exact ⟨_, rfl, _, _, _, [], _, [], hW', trodAll_mk1 (shut_bool Try.underlying4 _), (trodAll_cons_mk (Below.trod laidOut (by kernel_rfl) (of_decide_eq_true (by kernel_rfl)) k0 bel lt0) trodAll_mk0), rfl, bel.frame _, fun h => by cases h⟩

theorem proved : Rows.TallySumsSaid :=
  OpenClaim.holds_of_wide 4 Try.f4 rfl rfl rfl rfl rfl rfl rfl ⟨rfl, rfl, rfl, rfl, rfl⟩ rfl rfl rfl rfl rfl (by kernel_rfl) Try.func4 (by kernel_rfl)
    (of_decide_eq_true (by kernel_rfl)) (by unfold Func.isWrapper; first | (rw [if_pos (by decide +kernel)]; kernel_rfl) | (rw [if_neg (by decide +kernel)]; exact ⟨rfl, rfl⟩))
    (fun os started H enc _ => lifted os started H enc)
#print axioms proved
end Go.Proofs.Ytoepklcmdmeanaa.TallySums

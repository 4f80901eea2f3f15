/- Steps of a log that came in: how they read; great. -/
import Derived.Test.YtbkcdnjpakicmaaLogMath
import Derived.Test.YtbkcdnjpakicmaaSized
import Derived.Test.YtbkcdnjpakicmaaFrameRGet
namespace Go.Proofs.Ytbkcdnjpakicmaa
open Go.ChangeShapes Go.WideShapes Go.ChangeAt Go.RowKit Go.Deep
open Disk
namespace Log
/-- A step: its kind, its number, its bytes, its records. -/
structure Op14 where
  kind : Int
  num : Int
  bs : List UInt8
  ls : List (List UInt8)
/-- The cells of a step. -/
def OpCells (W : World) (B : Nat) (cs : List Value) (o : Op14) : Prop := ∃ A m c A2 m2 c2, cs = [.int .i64 o.kind, .int .i64 o.num, .slice A m c, .slice A2 m2 c2] ∧ RdB W B A m o.bs ∧ (m ≤ c ∧ c ≤ maxLen) ∧ m ≤ 140737488351232 ∧ RdS W B A2 m2 o.ls ∧ m2 ≤ 5864062014634 ∧
  (-9223372036854775808 ≤ o.kind ∧ o.kind ≤ 9223372036854775807) ∧ -9223372036854775808 ≤ o.num ∧ o.num ≤ 9223372036854775807
def OpsAt (W : World) (B : Nat) (a : Option Addr) (n : Nat) (l : List Op14) : Prop := n = l.length ∧ ∀ i o, l[i]? = some o → ∃ ad cs, a = some ad ∧ cs.length = 4 ∧ (∀ j, j < 4 → W.cell? ((ad.add (i * 4)).add j) = cs[j]?) ∧ ad.block < B ∧ OpCells W B cs o
section
variable {H : Type} {enc : TypeId × Value → H} {W : World} {base : Nat} {sp : Nat → Bool} {held : Bool} {fuel : Nat} {cs : List Value} {x : DataW H × List MemPlace}
theorem cellsI : (Try.prog).cellsOf 3 = 1 := by kernel_rfl
theorem cellsBs : (Try.prog).cellsOf 22 = 1 := by kernel_rfl
theorem cellsLs : (Try.prog).cellsOf 38 = 1 := by kernel_rfl
theorem cellsOp : (Try.prog).cellsOf 64 = 4 := by kernel_rfl
theorem bytesOf24 : (Try.prog).bytesOf 22 = 24 := by kernel_rfl
theorem rd_op (hf : DataW.trod enc Try.prog W base sp held fuel 64 cs = some x) (hs : Sz 64 x.1) : ∃ o : Op14, OpCells W W.heap.size cs o := by
  have hlen := rd_len Try.underlying64 cellsOp hf
  obtain ⟨_, _, g0⟩ := rd_field Try.underlying64 hf 0 3 0 1 rfl cellsI
  obtain ⟨_, _, g1⟩ := rd_field Try.underlying64 hf 1 3 1 1 rfl cellsI
  obtain ⟨_, _, g2, z2⟩ := rdz_field Try.underlying64 hf hs 2 22 2 1 rfl cellsBs
  obtain ⟨_, _, g3, z3⟩ := rdz_field Try.underlying64 hf hs 3 38 3 1 rfl cellsLs
  match cs, hlen with
  | [v0, v1, v2, v3], _ =>
    obtain ⟨k, hk, hk1⟩ := rd_int g0
    obtain ⟨m, hm, hm1⟩ := rd_int g1
    obtain ⟨a, l, c, bs, hb, hb1, hb2, hb3, hb4⟩ := rdz_bytes g2 z2
    obtain ⟨a2, l2, c2, ls, hl, hl1, _, _⟩ := rd_rows g3
    obtain ⟨a3, l3, c3, e1, _, _, e4, _⟩ := rdz_slice Try.underlying38 cellsBs g3 z3
    rw [bytesOf24] at e4
    injection hk with hk _
    injection hm with hm _
    injection hb with hb _
    injection hl with hl _
    injection e1 with e1 _
    subst hk hm hb hl
    injection e1 with _ e1 _
    subst e1
    have hr : reachBytes = 140737488351232 := rfl
    exact ⟨⟨k, m, bs, ls⟩, a, l, c, a2, l2, c2, rfl, hb1, ⟨hb2, hb3⟩, by omega, hl1, by omega, hk1, hm1⟩
theorem rd_ops (hf : DataW.trod enc Try.prog W base sp held fuel 58 cs = some x) (hs : Sz 58 x.1) : ∃ (a : Option Addr) (n c : Nat) (l : List Op14), cs = [.slice a n c] ∧ OpsAt W W.heap.size a n l ∧ n ≤ c ∧ c ≤ maxLen := by
  obtain ⟨a, n, c, h1, h2, h3, _, h4⟩ := rdz_slice Try.underlying58 cellsOp hf hs
  obtain ⟨l, q1, q2⟩ := list_of (α := Op14) (P := fun i o => ∃ ad cs, a = some ad ∧ cs.length = 4 ∧ (∀ j, j < 4 → W.cell? ((ad.add (i * 4)).add j) = cs[j]?) ∧ ad.block < W.heap.size ∧ OpCells W W.heap.size cs o) n (fun i hi => by
    obtain ⟨ad, cs', f', x', e1, e2, e3, e4, e5⟩ := h4 i hi
    obtain ⟨o, ho⟩ := rd_op e4 e5
    refine ⟨o, ad, cs', e1, e2, e3, ?_, ho⟩
    have e6 := e3 0 (by omega)
    rw [List.getElem?_eq_getElem (by omega)] at e6
    have := World.block_lt_of_cell? W _ e6
    rwa [block_add, block_add] at this)
  exact ⟨a, n, c, l, h1, ⟨q1.symm, q2⟩, h2, h3⟩
end
theorem OpCells.below {w w' : World} {B : Nat} {cs : List Value} {o : Op14} (h : OpCells w B cs o) (hb : Below B w w') : OpCells w' B cs o := by
  obtain ⟨A, m, c, A2, m2, c2, h1, h2, h3, h4, h5, h6⟩ := h
  exact ⟨A, m, c, A2, m2, c2, h1, h2.below hb, h3, h4, h5.below hb, h6⟩
theorem OpsAt.below {w w' : World} {B : Nat} {a : Option Addr} {n : Nat} {l : List Op14} (h : OpsAt w B a n l) (hb : Below B w w') : OpsAt w' B a n l := by
  refine ⟨h.1, fun i o ho => ?_⟩
  obtain ⟨ad, cs, h1, h2, h3, h4, h5⟩ := h.2 i o ho
  exact ⟨ad, cs, h1, h2, fun j hj => by rw [← h3 j hj]; exact hb.cell (by rw [block_add, block_add]; exact h4), h4, h5.below hb⟩
/-- The cells of the i-th step, as the walk asks for them. -/
theorem OpsAt.at_ {w : World} {B : Nat} {a : Option Addr} {n : Nat} {l : List Op14} (h : OpsAt w B a n l) {i : Nat} {o : Op14} (ho : l[i]? = some o) : ∃ ad A m c A2 m2 c2, a = some ad ∧ w.cell? (ad.add (i * 4)) = some (.int .i64 o.kind) ∧ w.cell? ⟨(ad.add (i * 4)).block, (ad.add (i * 4)).off + 1, none⟩ = some (.int .i64 o.num) ∧
    w.cell? ⟨(ad.add (i * 4)).block, (ad.add (i * 4)).off + 2, none⟩ = some (.slice A m c) ∧ w.cell? ⟨(ad.add (i * 4)).block, (ad.add (i * 4)).off + 3, none⟩ = some (.slice A2 m2 c2) ∧ RdB w B A m o.bs ∧ (m ≤ c ∧ c ≤ maxLen) ∧ m ≤ 140737488351232 ∧ RdS w B A2 m2 o.ls ∧ m2 ≤ 5864062014634 ∧
    (-9223372036854775808 ≤ o.kind ∧ o.kind ≤ 9223372036854775807) ∧ -9223372036854775808 ≤ o.num ∧ o.num ≤ 9223372036854775807 := by
  obtain ⟨ad, cs, h1, h2, h3, h4, A, m, c, A2, m2, c2, rfl, h5⟩ := h.2 i o ho
  have e := fun j (hj : j < 4) => h3 j hj
  have e0 := e 0 (by omega)
  have e1 := e 1 (by omega)
  have e2 := e 2 (by omega)
  have e3 := e 3 (by omega)
  rw [Frame.addNZ _ 1 (by omega)] at e1
  rw [Frame.addNZ _ 2 (by omega)] at e2
  rw [Frame.addNZ _ 3 (by omega)] at e3
  exact ⟨ad, A, m, c, A2, m2, c2, h1, e0, e1, e2, e3, h5⟩
/-- What great leaves: where it says no, there are few steps and few records. -/
def GreatEnd (w : World) (l : List Op14) (e : Ending) (w' : World) : Prop := ∃ v, e = .returned (.bool v) ∧ Below w.heap.size w w' ∧ (v = false → l.length ≤ 100 ∧ ∀ o ∈ l, o.ls.length ≤ 20000)
set_option maxRecDepth 100000 in
set_option maxHeartbeats 1000000 in
theorem great_any (a : Option Addr) (n c B : Nat) (l : List Op14) (w : World) (hl : OpsAt w B a n l) (hB : B ≤ w.heap.size) (hn : n ≤ c) (hc : c ≤ maxLen) :
    Calls Try.prog 31 #[.slice a n c] w (GreatEnd w l) := by
  unfold maxLen at hc
  have HL := Lib.hid hl.1
  by_cases hbig : 100 < n
  · have hd : decide (100 < n) = true := decide_eq_true hbig
    have hd' : decide ((100 : Int) < (n : Int)) = true := decide_eq_true (by omega)
    go_enter Try.func31, Try.ntmps31
    go_wp2_with fail
    go_loopw [3, 10] (fun s i wr => ∃ (k : Nat) (z : Int), k ≤ n ∧ i = .int .i64 k ∧ s = .int .i64 z ∧ Below w.heap.size w wr) (fun _ i _ => n - (intOf i).toNat)
    case atStart => exact ⟨0, 0, by omega, rfl, rfl, Below.refl _ _⟩
    case round =>
      obtain ⟨k, z, hk, rfl, rfl, hbel⟩ := hrel
      by_cases hlt : k < n
      · have hkl : k < l.length := by rw [← HL.out]; exact hlt
        obtain ⟨ad, A, m, c', A2, m2, c2, rfl, q0, q1, q2, q3, _, _, _, r2, hm2, _⟩ := (hl.below (hbel.mono hB)).at_ (List.getElem?_eq_getElem hkl)
        generalize l[k] = o at q0 q1 r2
        have r2' := r2.below ((Below.refl B wr).alloc (Nat.le_trans hB hbel.size) (.cells #[.int .i64 o.kind, .int .i64 o.num, .slice A m c', .slice A2 m2 c2] 64))
        have hb2 := hbel.alloc hbel.size (.cells #[.int .i64 o.kind, .int .i64 o.num, .slice A m c', .slice A2 m2 c2] 64)
        have HR2 := Lib.hid r2'.len
        by_cases hm : 10000 < m
        all_goals
          go_wp2_with fail
          generalize wr.alloc (.cells #[.int .i64 o.kind, .int .i64 o.num, .slice A m c', .slice A2 m2 c2] 64) = wv at *
          go_loop [3, 23] (fun s j => ∃ (q : Nat) (z' : Int), q ≤ m2 ∧ j = .int .i64 q ∧ s = .int .i64 z') (fun _ j => m2 - (intOf j).toNat)
          case atStart => exact ⟨0, _, by omega, rfl, rfl⟩
          case round =>
            obtain ⟨q, z', hq, rfl, rfl⟩ := hrel
            by_cases hqt : q < m2
            · obtain ⟨a2, D, u, d, rfl, _, hcu, _, hud, hdm⟩ := r2'.at_ (k := q) (by rw [← HR2.out]; exact hqt)
              unfold maxLen at hdm
              by_cases hu : 10000 < u
              all_goals
                go_wp2_with fail
                go_round
                case rel => exact ⟨q + 1, _, by omega, by go_num, rfl⟩
                case measure => simp [intOf]; omega
            · go_wp2_with fail
              go_roundw
              case rel => exact ⟨k + 1, _, by omega, by go_num, rfl, hb2⟩
              case measure => simp [intOf]; omega
      · go_wp2_with fail
        go_ret
        exact ⟨true, rfl, hbel, fun h => by cases h⟩
  · have hd : decide (100 < n) = false := decide_eq_false hbig
    have hd' : decide ((100 : Int) < (n : Int)) = false := decide_eq_false (by omega)
    go_enter Try.func31, Try.ntmps31
    go_wp2_with fail
    go_loopw [3, 10] (fun s i wr => ∃ (k : Nat) (z : Nat), k ≤ n ∧ i = .int .i64 k ∧ s = .int .i64 z ∧ z ≤ k * 58646484208374634 ∧ (∀ o ∈ l.take k, o.ls.length ≤ z) ∧ Below w.heap.size w wr) (fun _ i _ => n - (intOf i).toNat)
    case atStart => exact ⟨0, 0, by omega, rfl, rfl, by omega, by simp, Below.refl _ _⟩
    case round =>
      obtain ⟨k, z, hk, rfl, rfl, hz, hol, hbel⟩ := hrel
      have HO := Lib.hid hol
      clear hol
      have hz2 : z ≤ 5864648420837463400 := by omega
      by_cases hlt : k < n
      · have hkl : k < l.length := by rw [← HL.out]; exact hlt
        obtain ⟨ad, A, m, c', A2, m2, c2, rfl, q0, q1, q2, q3, _, _, _, r2, hm2, _⟩ := (hl.below (hbel.mono hB)).at_ (List.getElem?_eq_getElem hkl)
        have hts := take_snoc l hkl
        have HTS := Lib.hid hts
        clear hts
        generalize l[k] = o at q0 q1 r2 HTS
        have r2' := r2.below ((Below.refl B wr).alloc (Nat.le_trans hB hbel.size) (.cells #[.int .i64 o.kind, .int .i64 o.num, .slice A m c', .slice A2 m2 c2] 64))
        have hb2 := hbel.alloc hbel.size (.cells #[.int .i64 o.kind, .int .i64 o.num, .slice A m c', .slice A2 m2 c2] 64)
        have HR2 := Lib.hid r2'.len
        by_cases hm : 10000 < m
        all_goals
          go_wp2_with fail
          generalize wr.alloc (.cells #[.int .i64 o.kind, .int .i64 o.num, .slice A m c', .slice A2 m2 c2] 64) = wv at *
          go_loop [3, 23] (fun s j => ∃ (q : Nat) (z' : Nat), q ≤ m2 ∧ j = .int .i64 q ∧ s = .int .i64 z' ∧ z + q ≤ z' ∧ z' ≤ z + 10000 + q * 10001) (fun _ j => m2 - (intOf j).toNat)
          case atStart =>
            first
              | exact ⟨0, z + 10000, by omega, rfl, by go_num, by omega, by omega⟩
              | exact ⟨0, z + m, by omega, rfl, by go_num, by omega, by omega⟩
          case round =>
            obtain ⟨q, z', hq, rfl, rfl, hz3, hz4⟩ := hrel
            by_cases hqt : q < m2
            · obtain ⟨a2, D, u, d, rfl, _, hcu, _, hud, hdm⟩ := r2'.at_ (k := q) (by rw [← HR2.out]; exact hqt)
              unfold maxLen at hdm
              by_cases hu : 10000 < u
              · go_wp2_with fail
                go_round
                case rel => exact ⟨q + 1, z' + 10001, by omega, by go_num, by go_num, by omega, by omega⟩
                case measure => simp [intOf]; omega
              · go_wp2_with fail
                go_round
                case rel => exact ⟨q + 1, z' + (1 + u), by omega, by go_num, by go_num, by omega, by omega⟩
                case measure => simp [intOf]; omega
            · go_wp2_with fail
              go_roundw
              case rel =>
                refine ⟨k + 1, z', by omega, by go_num, rfl, by omega, fun o' ho' => ?_, hb2⟩
                rw [HTS.out, List.mem_append, List.mem_singleton] at ho'
                rcases ho' with h | rfl
                · have := HO.out o' h; omega
                · rw [← HR2.out]; omega
              case measure => simp [intOf]; omega
      · have hfull : l.take k = l := List.take_of_length_le (by rw [← HL.out]; omega)
        rw [hfull] at HO
        have HF := Lib.hid HO.out
        clear HO hfull
        by_cases hzb : 20000 < z
        · have hd5 : decide ((20000 : Int) < (z : Int)) = true := decide_eq_true (by omega)
          go_wp2_with fail
          go_ret
          exact ⟨true, rfl, hbel, fun h => by cases h⟩
        · have hd5 : decide ((20000 : Int) < (z : Int)) = false := decide_eq_false (by omega)
          go_wp2_with fail
          go_ret
          exact ⟨false, rfl, hbel, fun _ => ⟨by rw [← HL.out]; omega, fun o ho => by have := HF.out o ho; omega⟩⟩
end Log
end Go.Proofs.Ytbkcdnjpakicmaa

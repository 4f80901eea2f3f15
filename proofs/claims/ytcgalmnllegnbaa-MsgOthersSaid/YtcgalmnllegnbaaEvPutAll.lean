/- The walk of event.PutAll. -/
import Derived.Test.YtcgalmnllegnbaaDotLess
import Derived.Test.YtcgalmnllegnbaaChecked
import Derived.Test.YtcgalmnllegnbaaMem
import Derived.Lib.SliceRun
import Derived.Test.YtcgalmnllegnbaaVintPut
import Derived.Test.YtcgalmnllegnbaaBytes
import Derived.Test.YtcgalmnllegnbaaStop
import Derived.Test.YtcgalmnllegnbaaVintMath
import Derived.WideLaws
import Derived.Test.YtcgalmnllegnbaaEvNum
import Derived.Test.YtcgalmnllegnbaaFoot
import Derived.Test.YtcgalmnllegnbaaEvMath
import Derived.Test.YtcgalmnllegnbaaEvPolW
import Derived.Test.YtcgalmnllegnbaaEvMem
import Derived.Test.YtcgalmnllegnbaaDotRow
import Derived.Test.YtcgalmnllegnbaaEvWput
import Derived.Test.YtcgalmnllegnbaaEvRight
import Derived.Test.YtcgalmnllegnbaaQuiet
import Derived.Test.YtcgalmnllegnbaaDotHas
/- The walk of the document's Join. -/
namespace Go.Proofs.Ytcgalmnllegnbaa
set_option linter.unusedVariables false
set_option linter.unusedSimpArgs false
set_option maxRecDepth 100000
open Go.RowKit
open Dot
end Go.Proofs.Ytcgalmnllegnbaa

/- Ints of the call's own, and ints that are read: the words on bytes, said of int (made by wip/gen/ints.py). -/
namespace Go.Proofs.Ytcgalmnllegnbaa
set_option linter.unusedVariables false
set_option linter.unusedSimpArgs false
set_option maxRecDepth 100000
open Go.RowKit

/-- an int as a cell's value -/
abbrev iv (z : Int) : Value := .int .i64 z
/-- bytes: from A on there are n of them, bs -/
def RdI (w : World) (B : Nat) (A : Option Addr) (n : Nat) (bs : List Int) : Prop := n = bs.length ∧ Rd w B A (bs.map iv)
section
variable {w w' : World} {B B' n : Nat} {A : Option Addr} {bs : List Int}
theorem RdI.at_ (h : RdI w B A n bs) {k : Nat} (hk : k < bs.length) : ∃ a, A = some a ∧ a.block < B ∧ w.cell? (a.add k) = some (iv bs[k]) := by
  have := Rd.at_ h.2 (k := k) (by simpa using hk)
  simpa using this
theorem RdI.nil (w : World) (B : Nat) (A : Option Addr) : RdI w B A 0 [] := ⟨rfl, Rd.nil w B A⟩
theorem RdI.below (h : RdI w B A n bs) (hb : Below B w w') : RdI w' B A n bs := ⟨h.1, h.2.below hb⟩
theorem RdI.alloc (h : RdI w B A n bs) (hB : B ≤ w.heap.size) (o : Obj) : RdI (w.alloc o) B A n bs := ⟨h.1, h.2.alloc hB o⟩
theorem RdI.size (h : RdI w B A n bs) : RdI w w.heap.size A n bs := ⟨h.1, h.2.size⟩
theorem RdI.more (h : RdI w B A n bs) (hB : B ≤ B') : RdI w B' A n bs := ⟨h.1, h.2.more hB⟩
theorem RdI.drop (h : RdI w B A n bs) (k : Nat) : RdI w B (A.map (·.add k)) (n - k) (bs.drop k) := by
  have := h.2.drop k
  exact ⟨by rw [h.1, List.length_drop], by rwa [← List.map_drop] at this⟩
theorem RdI.take (h : RdI w B A n bs) {k : Nat} (hk : k ≤ n) : RdI w B A k (bs.take k) := by
  have := h.2.take k
  exact ⟨by rw [List.length_take]; have := h.1; omega, by rwa [← List.map_take] at this⟩
theorem RdI.made (w : World) (bs : List Int) (cs : Array Value) (t : TypeId) (m : Nat × Nat) (h : cs.toList = bs.map iv) : RdI (w.alloc (.cells cs t m)) (w.heap.size + 1) (some ⟨w.heap.size, 0, none⟩) bs.length bs :=
  ⟨rfl, by rw [← h]; exact Rd.made w cs t m⟩
theorem iv_one (bs : List Int) : ∀ u ∈ bs.map iv, u.oneCell' = true := by
  intro u hu
  obtain ⟨c, _, rfl⟩ := List.mem_map.1 hu
  rfl
end
theorem infoI : (Try.prog.info? 3).map (fun i => (i.zero, i.size, i.bytes)) = some (some (.int .i64 0), 1, 8) := by kernel_rfl

/-- The slice (A, n, c) owns the bytes bs; its block is not below base. -/
def OwnI (w : World) (base : Nat) (A : Option Addr) (n c : Nat) (bs : List Int) : Prop := n = bs.length ∧ w.ownsRow base 3 1 (.slice A n c) n (bs.map iv)

section
variable {w w' : World} {base n c : Nat} {A : Option Addr} {bs : List Int}
theorem OwnI.rd (h : OwnI w base A n c bs) : RdI w w.heap.size A n bs := ⟨h.1, Rd.of_own h.2⟩
theorem OwnI.alloc (h : OwnI w base A n c bs) (o : Obj) : OwnI (w.alloc o) base A n c bs := ⟨h.1, h.2.alloc o⟩
theorem OwnI.nil (w : World) (base : Nat) : OwnI w base none 0 0 [] := ⟨rfl, World.ownsRow_nil w base _ 1⟩
theorem OwnI.made (w : World) (base : Nat) (bs : List Int) (cs : Array Value) (n : Nat) (h : cs.toList = bs.map iv) (hn : n = bs.length) (hb : base ≤ w.heap.size) (hm : n ≤ maxLen) :
    OwnI (w.alloc (.cells cs 3)) base (some ⟨w.heap.size, 0, none⟩) n n bs := by
  have hs : cs.size = bs.length := by rw [← Array.length_toList, h, List.length_map]
  refine ⟨hn, ?_, .inr ⟨w.heap.size, n, cs, rfl, hb, heap_alloc_new w _, Nat.le_refl _, hm, by omega, ?_⟩⟩
  · simp [hn]
  · rw [h, List.take_of_length_le (by simp; omega)]
theorem OwnI.mono {base' : Nat} (h : OwnI w base A n c bs) (hb : base' ≤ base) : OwnI w base' A n c bs := by
  refine ⟨h.1, h.2.1, ?_⟩
  rcases h.2.2 with h | ⟨g, cap, cur, h1, h2, h3⟩
  · exact .inl h
  · exact .inr ⟨g, cap, cur, h1, by omega, h3⟩
theorem OwnI.lt (h : OwnI w base A n c bs) : ∀ g, A.map (·.block) = some g → base ≤ g ∧ g < w.heap.size := fun g hg => h.2.lt g (by
  rcases A with _ | a
  · simp at hg
  · simpa [Value.ownBlock] using hg)
theorem OwnI.form (h : OwnI w base A n c bs) (hn : 0 < n) : ∃ g, A = some ⟨g, 0, none⟩ ∧ base ≤ g ∧ g < w.heap.size := by
  rcases h.2.2 with ⟨_, h0⟩ | ⟨g, cap, cur, hv, hb, hh, _⟩
  · omega
  · injection hv with hA
    subst hA
    exact ⟨g, rfl, hb, lt_of_block hh⟩
theorem OwnI.cell {g : Nat} (h : OwnI w base (some ⟨g, 0, none⟩) n c bs) {j : Nat} (hj : j < bs.length) : w.cell? ⟨g, j, none⟩ = some (iv bs[j]) := by
  rw [h.2.cellAt j (by rw [h.1]; omega)]
  simp [hj]
theorem OwnI.free {g : Nat} (h : OwnI w base (some ⟨g, 0, none⟩) n c bs) (j : Nat) : w.frozen? ⟨g, j, none⟩ = false := h.2.frozenAt j
theorem OwnI.set_ {g : Nat} (h : OwnI w base (some ⟨g, 0, none⟩) n c bs) (j : Nat) (x : Int) : OwnI (w.setCell ⟨g, j, none⟩ (iv x)) base (some ⟨g, 0, none⟩) n c (bs.set j x) := by
  refine ⟨by rw [List.length_set]; exact h.1, ?_⟩
  have := (h.2.stored j (iv x)).1
  rwa [← List.map_set] at this
theorem OwnI.setFar {p : Addr} (h : OwnI w base A n c bs) (hp : A.map (·.block) ≠ some p.block) (u : Value) : OwnI (w.setCell p u) base A n c bs :=
  ⟨h.1, ownsRow_setCell_other h.2 (by
    rcases A with _ | a
    · simp [Value.ownBlock]
    · simpa [Value.ownBlock] using hp) u⟩
theorem OwnI.drew (h : OwnI w base A n c bs) : OwnI w.drew base A n c bs := h
theorem OwnI.grown {row : Option Nat} (h : OwnI w base A n c bs) (hg : w.grownBy w' row) (hne : A.map (·.block) = none ∨ A.map (·.block) ≠ row) : OwnI w' base A n c bs :=
  ⟨h.1, h.2.kept hg (by
    rcases A with _ | a
    · exact .inl rfl
    · rcases hne with h | h
      · simp at h
      · exact .inr h)⟩
theorem OwnI.below {B : Nat} (h : OwnI w base A n c bs) (hb : Below B w w') (hB : w.heap.size ≤ B) : OwnI w' base A n c bs :=
  ⟨h.1, h.2.kept (row := none) ⟨hb.os, hb.tape, hb.output, hb.size, fun k hk _ => hb.block k (by omega)⟩ (by
    rcases h.2.2 with ⟨e, _⟩ | ⟨g, cap, cur, e, _⟩
    · rw [e]; exact .inl rfl
    · rw [e]; exact .inr (by simp [Value.ownBlock]))⟩
end

theorem wpList_appI {w : World} {ops : Array Oper} {rest : List Oper} {o : Oper} {a : Act} {Q : Exit → Act → World → Prop} (hgd : o.guard = none) (s x : Operand)
    (ho : o.op = .call { callee := .builtin .append, args := #[s, x], argTypes := #[75, 75] })
    {base : Nat} {A : Option Addr} {n c : Nat} {bs : List Int} (hs : a.eval s = .slice A n c) (hown : OwnI w base A n c bs)
    {B : Nat} {D : Option Addr} {m d : Nat} {news : List Int} (hx : a.eval x = .slice D m d) (hr : RdI w B D m news)
    (hbytes : n + m ≤ 17592186044416) (hbase : base ≤ w.heap.size)
    (h : ∀ A' c' w', OwnI w' base A' (n + m) c' (bs ++ news) → w.grownBy w' (A.map (·.block)) → Moved A' (A.map (·.block)) w.heap.size → Below base w w' →
      wpList Try.prog ops Q rest (a.put o.dst (.slice A' (n + m) c')) w') : wpList Try.prog ops Q (o :: rest) a w := by
  obtain ⟨i0, hi, hz0, hz1, hz2⟩ := info_parts infoI
  have hob : (Value.slice A n c).ownBlock = A.map (·.block) := by cases A <;> rfl
  refine wpList_app w hgd s x 75 ho base 3 i0 (.int .i64 0) 1 8 Try.underlying75 hi hz0 hz1 hz2 rfl (by decide) _ _ _ hs hown.2 B D m d (news.map iv) hx hr.2 (by simp [hr.1]) (iv_one _) (by unfold maxLen; omega) (by omega) hbase ?_
  intro A' c' w' h1 h2 h3
  rw [hob] at h2 h3
  exact h A' c' w' ⟨by simp [hown.1, hr.1], by simpa using h1⟩ h2 h3 ((Below.refl _ _).grown h2 hbase (fun g hg => (hown.lt g hg).1))
end Go.Proofs.Ytcgalmnllegnbaa

/- The walk of Put's closure. -/
namespace Go.Proofs.Ytcgalmnllegnbaa
set_option linter.unusedVariables false
set_option linter.unusedSimpArgs false
set_option maxRecDepth 100000
open Go.RowKit
open Dot
set_option maxHeartbeats 1000000 in
theorem put1_app (gs m c base : Nat) (n q : Int) (A : Option Addr) (M : List Int) (w : World)
    (hB : Blk w gs 75 #[.slice A m c]) (hO : OwnI w base A m c M) (hne : A.map (·.block) ≠ some gs) (hbase : base ≤ gs) (hml : m ≤ 100000) :
    Calls Try.prog 74 #[.agg #[.int .i64 n, .int .i64 q], .pointer (some ⟨gs, 0, none⟩)] w fun e w' => e = .returned (.tuple #[]) ∧ ∃ A' c', Blk w' gs 75 #[.slice A' (m + 2) c'] ∧ OwnI w' base A' (m + 2) c' (M ++ [n, q]) ∧ A'.map (·.block) ≠ some gs ∧ Below base w w' := by
  go_enter Try.func74, Try.ntmps74
  go_upto_region 1 with fail
  refine nameW ?_
  intro wv hwv
  obtain ⟨b, hb⟩ : ∃ b, b = w.heap.size := ⟨_, rfl⟩
  rw [← hb]
  have kb : Blk wv b 46 #[.int .i64 n, .int .i64 q] := by rw [hwv, hb]; exact Blk.new w _ _
  have hbs := hB.lt
  have gb : Below base w wv := by rw [hwv]; exact (Below.refl _ _).alloc (by omega) _
  have kg : Blk wv gs 75 #[.slice A m c] := by rw [hwv]; exact hB.alloc _
  have oO : OwnI wv base A m c M := by rw [hwv]; exact hO.alloc _
  have t0 : wv.cell? ⟨b, 0, none⟩ = some (.int .i64 n) := kb.cell 0
  have t1 : wv.cell? ⟨b, 1, none⟩ = some (.int .i64 q) := kb.cell 1
  have c8 : wv.cell? ⟨gs, 0, none⟩ = some (.slice A m c) := kg.cell 0
  have hgb : gs ≠ b := by omega
  have hwb : b < wv.heap.size := kb.lt
  have hbv : base ≤ wv.heap.size := by have := kg.lt; omega
  clear hwv hb
  go_wp2_with (at_builtin; refine wpList_appI rfl (.tmp 3) (.tmp 8) rfl rfl (oO.alloc _) (news := [n, q]) rfl ⟨rfl, Rd.made _ _ _ _⟩ ?h2 ?h3 ?h4)
  case h2 => omega
  case h3 => simp; omega
  intro A' c' w2 o2 g2 m2 b2
  have kg2 : Blk w2 gs 75 #[.slice A m c] := (kg.alloc (.cells #[.int .i64 n, .int .i64 q] 3)).grown g2 hne
  have hne2 : A'.map (·.block) ≠ some gs := by
    rcases m2 with h | h
    · rw [h]; exact hne
    · rw [h]
      intro e
      injection e with e
      have := kg.lt
      omega
  have c82 : w2.cell? ⟨gs, 0, none⟩ = some (.slice A m c) := kg2.cell 0
  have f82 := kg2.free 0
  have bw := ((gb.alloc hbv (.cells #[.int .i64 n, .int .i64 q] 3)).trans b2).setCell (p := ⟨gs, 0, none⟩) hbase (.slice A' (m + 2) c')
  have o3 := o2.setFar (p := ⟨gs, 0, none⟩) hne2 (.slice A' (m + 2) c')
  have k3 := kg2.set_ 0 (.slice A' (m + 2) c')
  have HO3 := Lib.hid o3
  have HB3 := Lib.hid bw
  have HK3 := Lib.hid k3
  clear g2 m2 b2 o2 o3 bw k3
  go_wp2_with fail
  go_end0
  exact ⟨rfl, A', c', HK3.out, HO3.out, hne2, HB3.out⟩
end Go.Proofs.Ytcgalmnllegnbaa

/- The walk of slices.Clone of a set's numbers. -/
namespace Go.Proofs.Ytcgalmnllegnbaa
set_option linter.unusedVariables false
set_option linter.unusedSimpArgs false
set_option maxRecDepth 100000
open Go.RowKit
open Dot
theorem own_empI {w : World} {g base : Nat} (h : Blk w g 3 #[]) (hb : base ≤ g) : OwnI w base (some ⟨g, 0, none⟩) 0 0 [] :=
  ⟨rfl, rfl, .inr ⟨g, 0, #[], rfl, hb, h, Nat.le_refl _, Nat.zero_le _, rfl, rfl⟩⟩
set_option maxRecDepth 100000 in
theorem cloneI_any (g : Nat) (U : List Int) (hU : U.length = 8) (w : World) (hr : RdI w w.heap.size (some ⟨g, 0, none⟩) 8 U) :
    Calls Try.prog 72 #[.slice (some ⟨g, 0, none⟩) 8 8] w fun e w' => ∃ A c, e = .returned (.slice A 8 c) ∧ OwnI w' w.heap.size A 8 c U ∧ Below w.heap.size w w' := by
  have qn := fun (w : World) (a : Option Addr) (n c n' c' : Nat) => Lib.run_eql_slice_nil (P := Try.prog) w 75 _ a n c n' c' Try.underlying75
  go_enter Try.func72, Try.ntmps72
  go_wp2_with (at_builtin; refine wpList_appI rfl (.tmp 5) (.tmp 6) rfl rfl (own_empI (base := w.heap.size) (Blk.new w _ _) (Nat.le_refl _)) (news := U) rfl ⟨hr.1, hr.2.alloc (Nat.le_refl _) _⟩ (by omega) (by simp) ?_)
  intro A' c' w2 o2 g2 m2 b2
  have bw := ((Below.refl w.heap.size w).alloc (Nat.le_refl _) (.cells #[] 3)).trans b2
  clear g2 m2 b2
  go_wp2_with fail
  go_ret
  exact ⟨A', c', rfl, o2, bw⟩
end Go.Proofs.Ytcgalmnllegnbaa

/- The walk of each with Put's closure. -/
namespace Go.Proofs.Ytcgalmnllegnbaa
set_option linter.unusedVariables false
set_option linter.unusedSimpArgs false
set_option maxRecDepth 100000
open Go.RowKit
open Dot
/-- dots' numbers, as they are put -/
def nums (l : List Dt) : List Int := l.flatMap fun d => [d.1, d.2]
theorem nums_snoc (l : List Dt) (d : Dt) : nums (l ++ [d]) = nums l ++ [d.1, d.2] := by unfold nums; rw [List.flatMap_append]; rfl
set_option maxHeartbeats 1000000 in
theorem each_put1 (gs n c m0 base : Nat) (A : Option Addr) (l : List Dt) (M : List Int) (w : World) (hl : RdD w base A n l) (hn : n ≤ 768) (hm0 : m0 ≤ 100) (hbase : base ≤ gs) (hb0 : base ≤ w.heap.size)
    (A0 : Option Addr) (c0 : Nat) (hB : Blk w gs 75 #[.slice A0 m0 c0]) (hO : OwnI w base A0 m0 c0 M) (hne : A0.map (·.block) ≠ some gs) :
    Calls Try.prog 73 #[.slice A n c, .func (.func 74) #[] #[.pointer (some ⟨gs, 0, none⟩)]] w fun e w' => e = .returned (.tuple #[]) ∧ ∃ A' c', Blk w' gs 75 #[.slice A' (m0 + 2 * n) c'] ∧ OwnI w' base A' (m0 + 2 * n) c' (M ++ nums l) ∧ A'.map (·.block) ≠ some gs ∧ Below base w w' := by
  have hen : ∀ (args : Array Value) (w : World), (callFunc 74 args).run Try.prog w = .ok (.enter 74 args) w := fun _ _ => rfl
  have HN := Lib.hid hl.1
  go_enter Try.func73, Try.ntmps73
  go_wp2_with fail
  go_loopw [8] (fun i wr => ∃ (k : Nat) (A' : Option Addr) (c' : Nat), k ≤ n ∧ i = .int .i64 k ∧ Blk wr gs 75 #[.slice A' (m0 + 2 * k) c'] ∧ OwnI wr base A' (m0 + 2 * k) c' (M ++ nums (l.take k)) ∧ A'.map (·.block) ≠ some gs ∧ Below base w wr) (fun i _ => n - (intOf i).toNat)
  case atStart => exact ⟨0, A0, c0, by omega, rfl, hB, by simpa [nums] using hO, hne, Below.refl _ _⟩
  case round =>
    clear hB hO hne
    obtain ⟨k, A1, c1, hk, rfl, hB, hO, hne, hb⟩ := hrel
    by_cases hlt : k < n
    · have hkl : k < l.length := by rw [← HN.out]; exact hlt
      obtain ⟨ad, rfl, hdt⟩ := (hl.below hb).2 k _ (List.getElem?_eq_getElem hkl)
      have htk : l.take (k + 1) = l.take k ++ [l[k]] := take_snoc l hkl
      have hsn := nums_snoc (l.take k) l[k]
      rw [← htk] at hsn
      generalize l[k] = d at *
      obtain ⟨x, q⟩ := d
      obtain ⟨q5, q0, q1⟩ := hdt
      simp only at q0 q1 hsn
      have HSN := Lib.hid hsn
      clear hsn htk
      obtain ⟨wn, hwn⟩ : ∃ wn, wn = wr.alloc (.cells #[.int .i64 x, .int .i64 q] 46) := ⟨_, rfl⟩
      obtain ⟨gd, hgd⟩ : ∃ gd, gd = wr.heap.size := ⟨_, rfl⟩
      have kn : Blk wn gd 46 #[.int .i64 x, .int .i64 q] := by rw [hwn, hgd]; exact Blk.new wr _ _
      have hB1 : Blk wn gs 75 #[.slice A1 (m0 + 2 * k) c1] := by rw [hwn]; exact hB.alloc _
      have hO1 : OwnI wn base A1 (m0 + 2 * k) c1 (M ++ nums (l.take k)) := by rw [hwn]; exact hO.alloc _
      have hb1 : Below base w wn := by rw [hwn]; exact hb.alloc (by have := hb.size; omega) _
      have HW := Lib.hid hwn
      have HGD := Lib.hid hgd
      clear hwn hgd
      go_upto_region 3 with fail
      rw [← HW.out, ← HGD.out]
      have t0 : wn.cell? ⟨gd, 0, none⟩ = some (.int .i64 x) := kn.cell 0
      have t1 : wn.cell? ⟨gd, 1, none⟩ = some (.int .i64 q) := kn.cell 1
      clear q0 q1 hB hO hb
      go_wp2_with fail
      refine (put1_app gs (m0 + 2 * k) c1 base x q A1 _ wn hB1 hO1 hne hbase (by omega)).mono ?_
      rintro e w5 ⟨rfl, A2, c2, k2, o2, hne2, b2⟩
      rw [List.append_assoc, ← HSN.out] at o2
      have hb2 := hb1.trans b2
      clear t0 t1 kn hB1 hO1 hb1 b2 hne
      go_wp2_with fail
      go_roundw
      case rel => exact ⟨k + 1, A2, c2, by omega, by go_num, k2, o2, hne2, hb2⟩
      case measure => simp [intOf]; omega
    · have hkn : k = n := by omega
      have hkd : decide ((k : Int) < (n : Int)) = false := decide_eq_false (by omega)
      subst hkn
      rw [HN.out, List.take_length, ← HN.out] at hO
      go_wp2_with fail
      go_end0
      exact ⟨rfl, A1, c1, hB, hO, hne, hb⟩
end Go.Proofs.Ytcgalmnllegnbaa

/- The walk of dotset's Put (region 3 printed by wip/gen/dotput.py). -/
namespace Go.Proofs.Ytcgalmnllegnbaa
set_option linter.unusedVariables false
set_option linter.unusedSimpArgs false
set_option maxRecDepth 100000
open Go.RowKit
open Dot
/-- numbers as bytes -/
def encs (ns : List Int) : List UInt8 := ns.flatMap fun z => Vint.enc z.toNat
theorem encs_len (ns : List Int) : (encs ns).length ≤ 6 * ns.length := by
  induction ns with
  | nil => simp [encs]
  | cons z r ih =>
    have := Vint.enc_length z.toNat
    simp only [encs, List.flatMap_cons, List.length_append, List.length_cons] at *
    omega
theorem encs_snoc (ns : List Int) {k : Nat} (h : k < ns.length) : encs (ns.take (k + 1)) = encs (ns.take k) ++ Vint.enc ns[k].toNat := by
  unfold encs
  rw [take_snoc ns h, List.flatMap_append]
  simp only [List.flatMap_cons, List.flatMap_nil, List.append_nil]
def putL (U : List Int) (l : List Dt) : List Int := U ++ [(l.length : Int)] ++ nums l
theorem nums_len (l : List Dt) : (nums l).length = 2 * l.length := by
  induction l with
  | nil => rfl
  | cons d l ih => show (([d.1, d.2] : List Int) ++ nums l).length = _; rw [List.length_append, ih]; simp; omega
theorem putL_bd {U : List Int} {l : List Dt} (h : rightB U l = true) : ∀ x ∈ putL U l, 0 ≤ x ∧ x ≤ 1099511627776 := by
  obtain ⟨h1, h2, h3⟩ := (right_iff U l).1 h
  intro x hx
  unfold putL at hx
  rcases List.mem_append.1 hx with hx | hx
  · rcases List.mem_append.1 hx with hx | hx
    · have := (numOk_iff x).1 (List.all_eq_true.1 h1 x hx)
      omega
    · simp at hx
      omega
  · unfold nums at hx
    obtain ⟨d, hd, hx⟩ := List.mem_flatMap.1 hx
    obtain ⟨i, hi, rfl⟩ := List.getElem_of_mem hd
    have h4 := h3 i hi
    unfold goodAt at h4
    rw [List.getD_eq_getElem?_getD, List.getElem?_eq_getElem hi] at h4
    simp only [Option.getD_some, Bool.and_eq_true] at h4
    have h5 := (may_iff _).1 h4.1.1
    simp at hx
    omega
theorem meet7 {a1 a2 a3 a4 a5 a6 a7 : Type} {F : a1 → a2 → a3 → a4 → a5 → a6 → a7 → Prop} {M : a1 → a2 → a3 → a4 → a5 → a6 → a7 → Prop} {G : Prop} (hmain : (∀ x1 x2 x3 x4 x5 x6 x7, F x1 x2 x3 x4 x5 x6 x7 → M x1 x2 x3 x4 x5 x6 x7) → G) (hkey : ∀ x1 x2 x3 x4 x5 x6 x7, F x1 x2 x3 x4 x5 x6 x7 → M x1 x2 x3 x4 x5 x6 x7) : G := hmain hkey
theorem step_appI {w : World} {ops : Array Oper} {o : Oper} {a : Act} {K : Act → World → Prop} {Q : Exit → Act → World → Prop} {E : Prop} (hgd : o.guard = none) (s x : Operand)
    (ho : o.op = .call { callee := .builtin .append, args := #[s, x], argTypes := #[75, 75] })
    {base : Nat} {A : Option Addr} {n c : Nat} {bs : List Int} (hs : a.eval s = .slice A n c) (hown : OwnI w base A n c bs)
    {B : Nat} {D : Option Addr} {m d : Nat} {news : List Int} (hx : a.eval x = .slice D m d) (hr : RdI w B D m news)
    (hbytes : n + m ≤ 17592186044416) (hbase : base ≤ w.heap.size)
    (h : ∀ A' c' w', OwnI w' base A' (n + m) c' (bs ++ news) → w.grownBy w' (A.map (·.block)) → Moved A' (A.map (·.block)) w.heap.size → Below base w w' →
      K (a.put o.dst (.slice A' (n + m) c')) w') :
    if Region.wanted o (yielded ops a.tmps) = true then Oper.wp Try.prog o a w K Q else E := by
  have hw : Region.wanted o (yielded ops a.tmps) = true := by simp [Region.wanted, hgd]
  rw [if_pos hw]
  obtain ⟨i0, hi, hz0, hz1, hz2⟩ := info_parts infoI
  have hob : (Value.slice A n c).ownBlock = A.map (·.block) := by cases A <;> rfl
  obtain ⟨v', w', hrun, h2, h3, h4⟩ := run_app (P := Try.prog) w base 75 o.type 3 i0 (.int .i64 0) 1 8 Try.underlying75 hi hz0 hz1 hz2 rfl (by decide) (.slice A n c) n _ hown.2 B D m d (news.map iv) hr.2 (by simp [hr.1]) (iv_one _) (by unfold maxLen; omega) (by omega) hbase
  unfold Oper.wp execOp
  simp only [ho, resolve, invoke, builtin, Sem.run_bind, Sem.run_pure, Result.andThen_ok, List.map_toArray, List.map_cons, List.map_nil, hs, hx, hrun]
  have hv : ∃ A' c', v' = .slice A' (n + m) c' ∧ v'.ownBlock = A'.map (·.block) := by
    rcases h2.2 with ⟨rfl, h0⟩ | ⟨g, cap, cur, rfl, _⟩
    · exact ⟨none, 0, by rw [h0], rfl⟩
    · exact ⟨_, _, rfl, rfl⟩
  obtain ⟨A', c', rfl, hb⟩ := hv
  rw [hb] at h4
  rw [hob] at h3 h4
  exact h _ _ _ ⟨by rw [List.length_append, hown.1, hr.1], by rw [List.map_append]; exact h2⟩ h3 h4 ((Below.refl _ _).grown h3 hbase (fun g hg => (hown.lt g hg).1))
set_option maxRecDepth 100000 in
set_option maxHeartbeats 2000000 in
theorem dput_any (s : SetV) (w : World) (hU : s.U.length = 8) (hr : RdD w w.heap.size s.A s.n s.l) :
    Calls Try.prog 35 #[.agg (uc s.U (.slice s.A s.n s.c))] w (GiveBE w (if rightB s.U s.l = true then encs (putL s.U s.l) else []) (if rightB s.U s.l = true then 0 else 2)) := by
  have hmf : ∀ (fn : Fn) (first cap : Array Value) (w : World), (Instr.makeFunc fn first cap).run Try.prog w = .ok (.func fn first cap) w := fun _ _ _ _ => rfl
  have HU := Lib.hid hU
  have HS := Lib.hid (uc_size hU (.slice s.A s.n s.c))
  have hra := fun w' (hb : Below w.heap.size w w') => right_any s.U hU s.A s.n s.c s.l w' ((hr.below hb).more hb.size)
  have HRA := Lib.hid hra
  clear hra
  have HN := Lib.hid hr.1
  obtain ⟨sc, hsc⟩ : ∃ sc, sc = uc s.U (.slice s.A s.n s.c) := ⟨_, rfl⟩
  rw [← hsc] at HS HRA ⊢
  have HSC := Lib.hid hsc
  clear hsc
  obtain ⟨BS, hBS⟩ : ∃ BS, BS = if rightB s.U s.l = true then encs (putL s.U s.l) else [] := ⟨_, rfl⟩
  obtain ⟨E, hE⟩ : ∃ E, E = if rightB s.U s.l = true then 0 else 2 := ⟨_, rfl⟩
  rw [← hBS, ← hE]
  have HBS := Lib.hid hBS
  have HE := Lib.hid hE
  clear hBS hE
  go_enter Try.func35, Try.ntmps35
  go_upto_region 1 with fail
  refine nameW ?_
  intro wv hwv
  obtain ⟨b, hb⟩ : ∃ b, b = w.heap.size := ⟨_, rfl⟩
  rw [← hb]
  have kb : Blk wv b 79 sc := by rw [hwv, hb]; exact Blk.new w _ _
  have gb : Below w.heap.size w wv := by rw [hwv]; exact (Below.refl _ _).alloc (Nat.le_refl _) _
  have hbw : w.heap.size ≤ b := by omega
  clear hwv hb
  go_wp2_with ((with_reducible refine wpList_ld rowS kb HS.out ?_ ?_); rotate_left; (rfl))
  refine (HRA.out _ gb).mono ?_
  rintro e w1 ⟨rfl, h1⟩
  replace gb := gb.trans (h1.mono gb.size)
  replace kb := kb.below h1 kb.lt
  clear h1 wv
  rename World => wv
  cases hright : rightB s.U s.l
  case false =>
    have hBS2 : BS = [] := by rw [HBS.out, hright]; rfl
    have hE2 : E = 2 := by rw [HE.out, hright]; rfl
    clear HRA HBS HE
    subst hBS2 hE2
    go_wp2_with fail
    go_ret2
    exact ⟨none, 0, 0, rfl, OwnB.nil _ _, gb⟩
  case true =>
  have hBS2 : BS = encs (putL s.U s.l) := by rw [HBS.out, hright]; rfl
  have hE2 : E = 0 := by rw [HE.out, hright]; rfl
  clear HBS HE
  have HBS := Lib.hid hBS2
  clear hBS2
  subst hE2
  have hbd := putL_bd hright
  have hbe := (right_iff _ _).1 hright
  have hn7 : s.n ≤ 768 := by rw [HN.out]; exact hbe.2.1
  have HBD := Lib.hid hbd
  clear hbd hbe hright HRA
  have hrv := hr.below gb
  have hr8 : ∀ w', Below wv.heap.size wv w' → RdI w' w'.heap.size (some ⟨b, 0, none⟩) 8 s.U := fun w' h => by
    refine ⟨by rw [HU.out], ?_⟩
    have k := kb.below h kb.lt
    rw [HSC.out] at k
    intro j u hu
    have hj : j < 8 := by
      have := (List.getElem?_eq_some_iff.1 hu).1
      rwa [List.length_map, HU.out] at this
    refine ⟨_, rfl, k.lt, ?_⟩
    rw [add_mk, Nat.zero_add, k.cell, uc_at HU.out _ hj]
    rw [List.getElem?_map, List.getElem?_eq_getElem (by rw [HU.out]; exact hj)] at hu
    rw [List.getD_eq_getElem?_getD, List.getElem?_eq_getElem (by rw [HU.out]; exact hj)]
    simpa using hu
  have HR8 := Lib.hid hr8
  have t8 : wv.cell? ⟨b, 8, none⟩ = some (.slice s.A s.n s.c) := (kb.cell 8).trans (by rw [HSC.out]; exact uc_last HU.out _)
  have hbv := kb.lt
  clear hr8 hr kb
  go_upto_region 3 with fail
  refine wp_region_held_drew (S := fun w' => Below wv.heap.size wv w') (by kernel_rfl) (Below.refl _ _).drew (fun hS => ?_)
  have gY := gb.drew
  generalize wv.drew = wd at *
  refine wpAnyH_take (i := 0) (v := ?rv150) rfl (by kernel_rfl) (by kernel_rfl) (by kernel_rfl) (fun _ _ _ h => h) (Or.inl ⟨by rfl, ?ry150⟩) hS ?_
  case ry150 => (intro wS hSw; clear hSw; go_simp; (try with_reducible rfl))
  simp only [Act.put, List.getElem_toArray, List.getElem_cons_zero, List.getElem_cons_succ, List.setIfInBounds_toArray, List.set_cons_succ, List.set_cons_zero]
  refine wpAnyH_take (i := 1) (v := ?rv153) rfl (by kernel_rfl) (by kernel_rfl) (by kernel_rfl) (fun _ _ _ h => h) (Or.inl ⟨by rfl, ?ry153⟩) hS ?_
  case ry153 => (intro wS hSw; clear hSw; go_simp; (try with_reducible rfl))
  simp only [Act.put, List.getElem_toArray, List.getElem_cons_zero, List.getElem_cons_succ, List.setIfInBounds_toArray, List.set_cons_succ, List.set_cons_zero]
  refine wpAnyH_take (i := 3) (v := ?rv156) rfl (by kernel_rfl) (by kernel_rfl) (by kernel_rfl) (fun _ _ _ h => h) (Or.inl ⟨by rfl, ?ry156⟩) hS ?_
  case ry156 => (intro wS hSw; clear hSw; go_simp; (try with_reducible rfl))
  simp only [Act.put, List.getElem_toArray, List.getElem_cons_zero, List.getElem_cons_succ, List.setIfInBounds_toArray, List.set_cons_succ, List.set_cons_zero]
  refine wpAnyH_take (i := 4) (v := ?rv159) rfl (by kernel_rfl) (by kernel_rfl) (by kernel_rfl) (fun _ _ _ h => h) (Or.inl ⟨by rfl, ?ry159⟩) hS ?_
  case ry159 => (intro wS hSw; have c8 := (hSw.cell (p := ⟨b, 8, none⟩) hbv).trans t8; clear hSw; go_simp; (try with_reducible rfl))
  simp only [Act.put, List.getElem_toArray, List.getElem_cons_zero, List.getElem_cons_succ, List.setIfInBounds_toArray, List.set_cons_succ, List.set_cons_zero]
  refine wpAnyH_take (i := 5) (v := ?rv162) rfl (by kernel_rfl) (by kernel_rfl) (by kernel_rfl) (fun _ _ _ h => h) (Or.inl ⟨by rfl, ?ry162⟩) hS ?_
  case ry162 => (intro wS hSw; clear hSw; go_simp; (try with_reducible rfl))
  simp only [Act.put, List.getElem_toArray, List.getElem_cons_zero, List.getElem_cons_succ, List.setIfInBounds_toArray, List.set_cons_succ, List.set_cons_zero]
  apply meet7 (F := fun (w' : World) (A3 : Option Addr) (c3 gx g8 : Nat) (A7 : Option Addr) (c7 : Nat) => Below wv.heap.size wv w' ∧ Below w.heap.size w w' ∧ OwnI w' wv.heap.size A7 9 c7 (s.U ++ [((s.n : Nat) : Int)]) ∧ Blk w' g8 75 #[.slice none 0 0] ∧ wv.heap.size ≤ g8)
  case hmain =>
    intro key
    refine wpAnyH_ready (rs := [2, 6, 8]) (by kernel_rfl) (by simp) ?_
    refine AllReadyH.cons rfl (fun K hK => ?aqx1d0n1_2) (AllReadyH.cons rfl (fun K hK => ?aqx1d0n1_6) (AllReadyH.cons rfl (fun K hK => ?aqx1d0n1_8) .nil))
    case aqx1d0n1_2 =>
      go_simp
      refine (cloneI_any b s.U HU.out wd (HR8.out _ hS)).mono ?_
      rintro e w2 ⟨A3, c3, rfl, oc, h3⟩
      replace gY := gY.trans (h3.mono gY.size)
      replace oc := oc.mono hS.size
      refine hK.out _ _ (hS.trans (h3.mono hS.size)) (fun hS => ?_)
      clear hK K h3
      refine wpAnyH_ready (rs := [6, 8]) (by kernel_rfl) (by simp) ?_
      refine AllReadyH.cons rfl (fun K hK => ?aq2x1d1n2_6) (AllReadyH.cons rfl (fun K hK => ?aq2x1d1n2_8) .nil)
      case aq2x1d1n2_6 =>
        go_simp
        refine hK.out _ _ (hS.alloc hS.size _) (fun hS => ?_)
        clear hK K
        replace gY := gY.alloc gY.size (.cells #[.int .i64 (s.n : Nat)] 3)
        have rn := (RdI.made w2 [((s.n : Nat) : Int)] #[.int .i64 (s.n : Nat)] 3 (0, 0) rfl).size
        replace oc := oc.alloc (.cells #[.int .i64 (s.n : Nat)] 3)
        generalize w2.alloc (.cells #[.int .i64 (s.n : Nat)] 3) = w6 at *
        generalize w2.heap.size = gx at *
        refine wpAnyH_ready (rs := [7, 8]) (by kernel_rfl) (by simp) ?_
        refine AllReadyH.cons rfl (fun K hK => ?aq2_6x1d2n3_7) (AllReadyH.cons rfl (fun K hK => ?aq2_6x1d2n3_8) .nil)
        case aq2_6x1d2n3_7 =>
          refine step_appI rfl (.tmp 13) (.tmp 17) rfl (by rfl) oc (by rfl) rn (by simp) hS.size ?_
          intro A7 c7 w7 oM g7 m7 b7
          replace gY := gY.trans (b7.mono gb.size)
          refine hK.out _ _ (hS.trans b7) (fun hS => ?_)
          clear hK K g7 m7 b7 oc rn
          refine wpAnyH_ready (rs := [8]) (by kernel_rfl) (by simp) ?_
          refine AllReadyH.cons rfl (fun K hK => ?_) .nil
          go_simp
          have hg8 := hS.size
          refine hK.out _ _ (hS.alloc hS.size _) (fun hS => ?_)
          clear hK K
          replace gY := gY.alloc gY.size (.cells #[.slice none 0 0] 75)
          have k8 := Blk.new w7 75 #[.slice none 0 0]
          replace oM := oM.alloc (.cells #[.slice none 0 0] 75)
          generalize w7.alloc (.cells #[.slice none 0 0] 75) = w8 at *
          generalize w7.heap.size = g8 at *
          exact key w8 A3 c3 gx g8 A7 c7 ⟨hS, gY, oM, k8, hg8⟩
        case aq2_6x1d2n3_8 =>
          go_simp
          have hg8 := hS.size
          refine hK.out _ _ (hS.alloc hS.size _) (fun hS => ?_)
          clear hK K
          replace gY := gY.alloc gY.size (.cells #[.slice none 0 0] 75)
          have k8 := Blk.new w6 75 #[.slice none 0 0]
          replace oc := oc.alloc (.cells #[.slice none 0 0] 75)
          replace rn := (rn.alloc (Nat.le_refl _) (.cells #[.slice none 0 0] 75)).size
          generalize w6.alloc (.cells #[.slice none 0 0] 75) = w8 at *
          generalize w6.heap.size = g8 at *
          refine wpAnyH_ready (rs := [7]) (by kernel_rfl) (by simp) ?_
          refine AllReadyH.cons rfl (fun K hK => ?_) .nil
          refine step_appI rfl (.tmp 13) (.tmp 17) rfl (by rfl) oc (by rfl) rn (by simp) hS.size ?_
          intro A7 c7 w7 oM g7 m7 b7
          replace k8 := k8.grown g7 (own_ne oc.2 k8 (by decide))
          replace gY := gY.trans (b7.mono gb.size)
          refine hK.out _ _ (hS.trans b7) (fun hS => ?_)
          clear hK K g7 m7 b7 oc rn
          exact key w7 A3 c3 gx g8 A7 c7 ⟨hS, gY, oM, k8, hg8⟩
      case aq2x1d1n2_8 =>
        go_simp
        have hg8 := hS.size
        refine hK.out _ _ (hS.alloc hS.size _) (fun hS => ?_)
        clear hK K
        replace gY := gY.alloc gY.size (.cells #[.slice none 0 0] 75)
        have k8 := Blk.new w2 75 #[.slice none 0 0]
        replace oc := oc.alloc (.cells #[.slice none 0 0] 75)
        generalize w2.alloc (.cells #[.slice none 0 0] 75) = w8 at *
        generalize w2.heap.size = g8 at *
        refine wpAnyH_ready (rs := [6]) (by kernel_rfl) (by simp) ?_
        refine AllReadyH.cons rfl (fun K hK => ?_) .nil
        go_simp
        refine hK.out _ _ (hS.alloc hS.size _) (fun hS => ?_)
        clear hK K
        replace gY := gY.alloc gY.size (.cells #[.int .i64 (s.n : Nat)] 3)
        have rn := (RdI.made w8 [((s.n : Nat) : Int)] #[.int .i64 (s.n : Nat)] 3 (0, 0) rfl).size
        replace oc := oc.alloc (.cells #[.int .i64 (s.n : Nat)] 3)
        replace k8 := k8.alloc (.cells #[.int .i64 (s.n : Nat)] 3)
        generalize w8.alloc (.cells #[.int .i64 (s.n : Nat)] 3) = w6 at *
        generalize w8.heap.size = gx at *
        refine wpAnyH_ready (rs := [7]) (by kernel_rfl) (by simp) ?_
        refine AllReadyH.cons rfl (fun K hK => ?_) .nil
        refine step_appI rfl (.tmp 13) (.tmp 17) rfl (by rfl) oc (by rfl) rn (by simp) hS.size ?_
        intro A7 c7 w7 oM g7 m7 b7
        replace k8 := k8.grown g7 (own_ne oc.2 k8 (by decide))
        replace gY := gY.trans (b7.mono gb.size)
        refine hK.out _ _ (hS.trans b7) (fun hS => ?_)
        clear hK K g7 m7 b7 oc rn
        exact key w7 A3 c3 gx g8 A7 c7 ⟨hS, gY, oM, k8, hg8⟩
    case aqx1d0n1_6 =>
      go_simp
      refine hK.out _ _ (hS.alloc hS.size _) (fun hS => ?_)
      clear hK K
      replace gY := gY.alloc gY.size (.cells #[.int .i64 (s.n : Nat)] 3)
      have rn := (RdI.made wd [((s.n : Nat) : Int)] #[.int .i64 (s.n : Nat)] 3 (0, 0) rfl).size
      generalize wd.alloc (.cells #[.int .i64 (s.n : Nat)] 3) = w6 at *
      generalize wd.heap.size = gx at *
      refine wpAnyH_ready (rs := [2, 8]) (by kernel_rfl) (by simp) ?_
      refine AllReadyH.cons rfl (fun K hK => ?aq6x1d1n4_2) (AllReadyH.cons rfl (fun K hK => ?aq6x1d1n4_8) .nil)
      case aq6x1d1n4_2 =>
        go_simp
        refine (cloneI_any b s.U HU.out w6 (HR8.out _ hS)).mono ?_
        rintro e w2 ⟨A3, c3, rfl, oc, h3⟩
        replace gY := gY.trans (h3.mono gY.size)
        replace oc := oc.mono hS.size
        replace rn := (rn.below h3).size
        refine hK.out _ _ (hS.trans (h3.mono hS.size)) (fun hS => ?_)
        clear hK K h3
        refine wpAnyH_ready (rs := [7, 8]) (by kernel_rfl) (by simp) ?_
        refine AllReadyH.cons rfl (fun K hK => ?aq2_6x1d2n5_7) (AllReadyH.cons rfl (fun K hK => ?aq2_6x1d2n5_8) .nil)
        case aq2_6x1d2n5_7 =>
          refine step_appI rfl (.tmp 13) (.tmp 17) rfl (by rfl) oc (by rfl) rn (by simp) hS.size ?_
          intro A7 c7 w7 oM g7 m7 b7
          replace gY := gY.trans (b7.mono gb.size)
          refine hK.out _ _ (hS.trans b7) (fun hS => ?_)
          clear hK K g7 m7 b7 oc rn
          refine wpAnyH_ready (rs := [8]) (by kernel_rfl) (by simp) ?_
          refine AllReadyH.cons rfl (fun K hK => ?_) .nil
          go_simp
          have hg8 := hS.size
          refine hK.out _ _ (hS.alloc hS.size _) (fun hS => ?_)
          clear hK K
          replace gY := gY.alloc gY.size (.cells #[.slice none 0 0] 75)
          have k8 := Blk.new w7 75 #[.slice none 0 0]
          replace oM := oM.alloc (.cells #[.slice none 0 0] 75)
          generalize w7.alloc (.cells #[.slice none 0 0] 75) = w8 at *
          generalize w7.heap.size = g8 at *
          exact key w8 A3 c3 gx g8 A7 c7 ⟨hS, gY, oM, k8, hg8⟩
        case aq2_6x1d2n5_8 =>
          go_simp
          have hg8 := hS.size
          refine hK.out _ _ (hS.alloc hS.size _) (fun hS => ?_)
          clear hK K
          replace gY := gY.alloc gY.size (.cells #[.slice none 0 0] 75)
          have k8 := Blk.new w2 75 #[.slice none 0 0]
          replace oc := oc.alloc (.cells #[.slice none 0 0] 75)
          replace rn := (rn.alloc (Nat.le_refl _) (.cells #[.slice none 0 0] 75)).size
          generalize w2.alloc (.cells #[.slice none 0 0] 75) = w8 at *
          generalize w2.heap.size = g8 at *
          refine wpAnyH_ready (rs := [7]) (by kernel_rfl) (by simp) ?_
          refine AllReadyH.cons rfl (fun K hK => ?_) .nil
          refine step_appI rfl (.tmp 13) (.tmp 17) rfl (by rfl) oc (by rfl) rn (by simp) hS.size ?_
          intro A7 c7 w7 oM g7 m7 b7
          replace k8 := k8.grown g7 (own_ne oc.2 k8 (by decide))
          replace gY := gY.trans (b7.mono gb.size)
          refine hK.out _ _ (hS.trans b7) (fun hS => ?_)
          clear hK K g7 m7 b7 oc rn
          exact key w7 A3 c3 gx g8 A7 c7 ⟨hS, gY, oM, k8, hg8⟩
      case aq6x1d1n4_8 =>
        go_simp
        have hg8 := hS.size
        refine hK.out _ _ (hS.alloc hS.size _) (fun hS => ?_)
        clear hK K
        replace gY := gY.alloc gY.size (.cells #[.slice none 0 0] 75)
        have k8 := Blk.new w6 75 #[.slice none 0 0]
        replace rn := (rn.alloc (Nat.le_refl _) (.cells #[.slice none 0 0] 75)).size
        generalize w6.alloc (.cells #[.slice none 0 0] 75) = w8 at *
        generalize w6.heap.size = g8 at *
        refine wpAnyH_ready (rs := [2]) (by kernel_rfl) (by simp) ?_
        refine AllReadyH.cons rfl (fun K hK => ?_) .nil
        go_simp
        refine (cloneI_any b s.U HU.out w8 (HR8.out _ hS)).mono ?_
        rintro e w2 ⟨A3, c3, rfl, oc, h3⟩
        replace gY := gY.trans (h3.mono gY.size)
        replace oc := oc.mono hS.size
        replace rn := (rn.below h3).size
        replace k8 := k8.below h3 k8.lt
        refine hK.out _ _ (hS.trans (h3.mono hS.size)) (fun hS => ?_)
        clear hK K h3
        refine wpAnyH_ready (rs := [7]) (by kernel_rfl) (by simp) ?_
        refine AllReadyH.cons rfl (fun K hK => ?_) .nil
        refine step_appI rfl (.tmp 13) (.tmp 17) rfl (by rfl) oc (by rfl) rn (by simp) hS.size ?_
        intro A7 c7 w7 oM g7 m7 b7
        replace k8 := k8.grown g7 (own_ne oc.2 k8 (by decide))
        replace gY := gY.trans (b7.mono gb.size)
        refine hK.out _ _ (hS.trans b7) (fun hS => ?_)
        clear hK K g7 m7 b7 oc rn
        exact key w7 A3 c3 gx g8 A7 c7 ⟨hS, gY, oM, k8, hg8⟩
    case aqx1d0n1_8 =>
      go_simp
      have hg8 := hS.size
      refine hK.out _ _ (hS.alloc hS.size _) (fun hS => ?_)
      clear hK K
      replace gY := gY.alloc gY.size (.cells #[.slice none 0 0] 75)
      have k8 := Blk.new wd 75 #[.slice none 0 0]
      generalize wd.alloc (.cells #[.slice none 0 0] 75) = w8 at *
      generalize wd.heap.size = g8 at *
      refine wpAnyH_ready (rs := [2, 6]) (by kernel_rfl) (by simp) ?_
      refine AllReadyH.cons rfl (fun K hK => ?aq8x1d1n6_2) (AllReadyH.cons rfl (fun K hK => ?aq8x1d1n6_6) .nil)
      case aq8x1d1n6_2 =>
        go_simp
        refine (cloneI_any b s.U HU.out w8 (HR8.out _ hS)).mono ?_
        rintro e w2 ⟨A3, c3, rfl, oc, h3⟩
        replace gY := gY.trans (h3.mono gY.size)
        replace oc := oc.mono hS.size
        replace k8 := k8.below h3 k8.lt
        refine hK.out _ _ (hS.trans (h3.mono hS.size)) (fun hS => ?_)
        clear hK K h3
        refine wpAnyH_ready (rs := [6]) (by kernel_rfl) (by simp) ?_
        refine AllReadyH.cons rfl (fun K hK => ?_) .nil
        go_simp
        refine hK.out _ _ (hS.alloc hS.size _) (fun hS => ?_)
        clear hK K
        replace gY := gY.alloc gY.size (.cells #[.int .i64 (s.n : Nat)] 3)
        have rn := (RdI.made w2 [((s.n : Nat) : Int)] #[.int .i64 (s.n : Nat)] 3 (0, 0) rfl).size
        replace oc := oc.alloc (.cells #[.int .i64 (s.n : Nat)] 3)
        replace k8 := k8.alloc (.cells #[.int .i64 (s.n : Nat)] 3)
        generalize w2.alloc (.cells #[.int .i64 (s.n : Nat)] 3) = w6 at *
        generalize w2.heap.size = gx at *
        refine wpAnyH_ready (rs := [7]) (by kernel_rfl) (by simp) ?_
        refine AllReadyH.cons rfl (fun K hK => ?_) .nil
        refine step_appI rfl (.tmp 13) (.tmp 17) rfl (by rfl) oc (by rfl) rn (by simp) hS.size ?_
        intro A7 c7 w7 oM g7 m7 b7
        replace k8 := k8.grown g7 (own_ne oc.2 k8 (by decide))
        replace gY := gY.trans (b7.mono gb.size)
        refine hK.out _ _ (hS.trans b7) (fun hS => ?_)
        clear hK K g7 m7 b7 oc rn
        exact key w7 A3 c3 gx g8 A7 c7 ⟨hS, gY, oM, k8, hg8⟩
      case aq8x1d1n6_6 =>
        go_simp
        refine hK.out _ _ (hS.alloc hS.size _) (fun hS => ?_)
        clear hK K
        replace gY := gY.alloc gY.size (.cells #[.int .i64 (s.n : Nat)] 3)
        have rn := (RdI.made w8 [((s.n : Nat) : Int)] #[.int .i64 (s.n : Nat)] 3 (0, 0) rfl).size
        replace k8 := k8.alloc (.cells #[.int .i64 (s.n : Nat)] 3)
        generalize w8.alloc (.cells #[.int .i64 (s.n : Nat)] 3) = w6 at *
        generalize w8.heap.size = gx at *
        refine wpAnyH_ready (rs := [2]) (by kernel_rfl) (by simp) ?_
        refine AllReadyH.cons rfl (fun K hK => ?_) .nil
        go_simp
        refine (cloneI_any b s.U HU.out w6 (HR8.out _ hS)).mono ?_
        rintro e w2 ⟨A3, c3, rfl, oc, h3⟩
        replace gY := gY.trans (h3.mono gY.size)
        replace oc := oc.mono hS.size
        replace rn := (rn.below h3).size
        replace k8 := k8.below h3 k8.lt
        refine hK.out _ _ (hS.trans (h3.mono hS.size)) (fun hS => ?_)
        clear hK K h3
        refine wpAnyH_ready (rs := [7]) (by kernel_rfl) (by simp) ?_
        refine AllReadyH.cons rfl (fun K hK => ?_) .nil
        refine step_appI rfl (.tmp 13) (.tmp 17) rfl (by rfl) oc (by rfl) rn (by simp) hS.size ?_
        intro A7 c7 w7 oM g7 m7 b7
        replace k8 := k8.grown g7 (own_ne oc.2 k8 (by decide))
        replace gY := gY.trans (b7.mono gb.size)
        refine hK.out _ _ (hS.trans b7) (fun hS => ?_)
        clear hK K g7 m7 b7 oc rn
        exact key w7 A3 c3 gx g8 A7 c7 ⟨hS, gY, oM, k8, hg8⟩
  rintro w9 A3 c3 gx g8 A7 c7 ⟨hS, gY, oM, k8, hg8⟩
  refine wpAnyH_ready (rs := [9]) (by kernel_rfl) (by simp) ?_
  refine AllReadyH.cons rfl (fun K hK => ?_) .nil
  have c9 : w9.cell? ⟨g8, 0, none⟩ = some (.slice none 0 0) := k8.cell 0
  have f9 := k8.free 0
  go_simp
  have hne := own_ne oM.2 k8 (by decide)
  have o9 := oM.setFar (p := ⟨g8, 0, none⟩) hne (.slice A7 9 c7)
  have gY9 := gY.setCell (p := ⟨g8, 0, none⟩) (Nat.le_trans gb.size hg8) (.slice A7 9 c7)
  have hS9 := hS.setCell (p := ⟨g8, 0, none⟩) hg8 (.slice A7 9 c7)
  have k9 := k8.set_ 0 (.slice A7 9 c7)
  refine hK.out _ _ hS9 (fun hS => ?_)
  clear hK K c9 f9 oM k8 hS9
  rename Below wv.heap.size wv wd => hSd
  rename Below w.heap.size w wd => hYd
  clear hSd hYd gY
  generalize w9.setCell ⟨g8, 0, none⟩ (.slice A7 9 c7) = w10 at *
  refine wpAnyH_done (by kernel_rfl) ?_ _
  have c8 := (hS.cell (p := ⟨b, 8, none⟩) hbv).trans t8
  have hrl := hrv.below (hS.mono gb.size)
  have o10 := o9.mono gb.size
  have hgw := Nat.le_trans gb.size hg8
  clear t8 hrv o9 gb hS
  go_wp2_with fail
  refine (each_put1 g8 s.n s.c 9 w.heap.size s.A s.l _ w10 hrl hn7 (by decide) hgw gY9.size A7 c7 k9 o10 hne).mono ?_
  rintro e w11 ⟨rfl, A1, c1, k11, o11, hne11, b11⟩
  have g11 := gY9.trans b11
  rw [show s.U ++ [((s.n : Nat) : Int)] ++ nums s.l = putL s.U s.l by rw [HN.out]; rfl] at o11
  have hml : 9 + 2 * s.n ≤ 1545 := by omega
  have c11 : w11.cell? ⟨g8, 0, none⟩ = some (.slice A1 (9 + 2 * s.n) c1) := k11.cell 0
  generalize 9 + 2 * s.n = m at *
  generalize putL s.U s.l = ms at *
  clear c8 hrl o10 k9 hne gY9 b11 k11
  have hmle := ownsRow_le o11.2
  go_wp2_with fail
  clear c11
  obtain ⟨wo, rfl⟩ : ∃ wo, wo = w11 := ⟨_, rfl⟩
  go_loopw [5, 25] (fun s i wr => ∃ (j : Nat) (A : Option Addr) (nb cb : Nat), j ≤ m ∧ i = .int .i64 j ∧ s = .slice A nb cb ∧ OwnB wr w.heap.size A nb cb (encs (ms.take j)) ∧ Below wo.heap.size wo wr) (fun _ i _ => m - (intOf i).toNat)
  case atStart => exact ⟨0, none, 0, 0, by omega, rfl, rfl, OwnB.nil _ _, Below.refl _ _⟩
  case round =>
    obtain ⟨j, A, nb, cb, hj, rfl, rfl, ob, bl⟩ := hrel
    by_cases hjm : j < m
    · have hjl : j < ms.length := by rw [← o11.1]; exact hjm
      obtain ⟨ad, rfl, _, c1⟩ := (o11.rd.below bl).at_ hjl
      have hxb := HBD.out _ (List.getElem_mem hjl)
      have hes := encs_snoc ms hjl
      have HES := Lib.hid hes
      have hel := encs_len (ms.take j)
      have hnb : nb ≤ 15000 := by
        have h1 := ob.1
        have h2 : (ms.take j).length ≤ j := List.length_take_le _ _
        omega
      clear hes hel
      generalize ms[j] = x at *
      obtain ⟨x, rfl⟩ := Int.eq_ofNat_of_zero_le hxb.1
      rw [Int.toNat_natCast] at HES
      have hj0 : (0 : Int) ≤ (j : Int) := by omega
      have hj1 : (j : Int) < (m : Int) := by omega
      go_wp2_with fail
      refine (put_ok A nb cb _ x wr.heap.size wr ob.rd (Nat.le_refl _) (by omega) (by omega)).mono ?_
      rintro e w4 ⟨A4, n4, c4, rfl, o4, b4⟩
      have O4 : OwnB w4 w.heap.size A4 n4 c4 (encs (ms.take (j + 1))) := by rw [HES.out]; exact o4.mono (Nat.le_trans g11.size bl.size)
      have B4 := bl.trans (b4.mono bl.size)
      have HO := Lib.hid O4
      clear O4 o4 b4 ob bl
      go_wp2_with fail
      go_roundw
      case rel => exact ⟨j + 1, A4, n4, c4, by omega, by go_num, rfl, HO.out, B4⟩
      case measure => simp [intOf]; omega
    · have hfull : ms.take j = ms := List.take_of_length_le (by rw [← o11.1]; omega)
      have HFL := Lib.hid hfull
      clear hfull
      go_wp2_with fail
      go_ret2
      exact ⟨A, nb, cb, rfl, by rw [HBS.out]; rw [HFL.out] at ob; exact ob, g11.trans (bl.mono g11.size)⟩
end Go.Proofs.Ytcgalmnllegnbaa

/- The walk of the reference's Same. -/
namespace Go.Proofs.Ytcgalmnllegnbaa
set_option linter.unusedVariables false
set_option linter.unusedSimpArgs false
set_option maxRecDepth 100000
open Go.RowKit

/-- Two lists of bytes that are the same. -/
theorem same_eq (A1 A2 : Option Addr) (n1 c1 n2 c2 : Nat) (bs : List UInt8) (B1 B2 : Nat) (w : World) (h1 : RdB w B1 A1 n1 bs) (h2 : RdB w B2 A2 n2 bs) (hl : n1 ≤ 9223372036854775807) :
    Calls Try.prog 16 #[.slice A1 n1 c1, .slice A2 n2 c2] w fun e w' => e = .returned (.bool true) ∧ ∃ m, w' = w.drewN m := by
  obtain rfl := h1.1
  obtain rfl := h2.1
  go_enter Try.func16, Try.ntmps16
  go_wp2_with fail
  go_loopw [13] (fun i wr => ∃ k m : Nat, k ≤ bs.length ∧ i = .int .i64 k ∧ wr = w.drewN m) (fun i _ => bs.length - (intOf i).toNat)
  case atStart => exact ⟨0, 0, by omega, rfl, rfl⟩
  case round =>
    obtain ⟨k, m, hk, rfl, rfl⟩ := hrel
    by_cases hlt : k < bs.length
    · obtain ⟨a1, rfl, _, hc1⟩ := h1.at_ hlt
      obtain ⟨a2, rfl, _, hc2⟩ := h2.at_ hlt
      obtain ⟨x, hx⟩ : ∃ x, x = bs[k] := ⟨_, rfl⟩
      rw [← hx] at hc1 hc2
      clear hx
      have hq : ((x.toNat : Int) != (x.toNat : Int)) = false := by simp
      go_wp2_with fail
      go_quiet (fail)
      go_wp2_with fail
      go_roundw
      case rel => exact ⟨k + 1, _, by omega, by go_num, rfl⟩
      case measure => simp [intOf]; omega
    · go_wp2_with fail
      go_ret
      exact ⟨rfl, _, rfl⟩

end Go.Proofs.Ytcgalmnllegnbaa

/- The walk of the reference of layer 2: Put. -/
namespace Go.Proofs.Ytcgalmnllegnbaa
set_option linter.unusedVariables false
set_option linter.unusedSimpArgs false
set_option maxRecDepth 100000
open Go.RowKit

theorem rput_bad (A : Option Addr) (n c : Nat) (x : Int) (w : World) (hx : x < 0 ∨ 1099511627776 < x) :
    Calls Try.prog 38 #[.slice A n c, .int .i64 x] w fun e w' => e = .returned (.tuple #[.slice none 0 0, .int .i64 2]) ∧ w = w' := by
  rcases hx with hx | hx
  · have hd : decide (x < 0) = true := decide_eq_true (by omega)
    go_enter Try.func38, Try.ntmps38
    go_wp2_with fail
    go_ret2
    exact ⟨rfl, rfl⟩
  · have hd : decide (x < 0) = false := decide_eq_false (by omega)
    have hd1 : decide (1099511627776 < x) = true := decide_eq_true (by omega)
    go_enter Try.func38, Try.ntmps38
    go_wp2_with fail
    go_ret2
    exact ⟨rfl, rfl⟩
theorem u8_ref (m : Nat) : IntKind.u8.wrap (128 + (m : Int) % 128) = ((UInt8.ofNat (m % 128 + 128)).toNat : Int) := by
  rw [IntKind.wrap_u8', Vint.toNat_ofNat]; omega
set_option maxRecDepth 100000 in
theorem rput_ok (A : Option Addr) (n c : Nat) (bs : List UInt8) (x : Nat) (B : Nat) (w : World) (hb : RdB w B A n bs) (hB : B ≤ w.heap.size) (hl : n ≤ 140737488355000) (hx : x ≤ 1099511627776) :
    Calls Try.prog 38 #[.slice A n c, .int .i64 x] w (GiveBE w (bs ++ Vint.enc x) 0) := by
  have hd : decide ((x : Int) < 0) = false := decide_eq_false (by omega)
  have hd1 : decide (1099511627776 < (x : Int)) = false := decide_eq_false (by omega)
  go_enter Try.func38, Try.ntmps38
  go_wp2_with (at_builtin; refine wpList_appB rfl (.tmp 13) (.tmp 14) rfl rfl (OwnB.made w w.heap.size [] #[] 0 rfl rfl (Nat.le_refl _) (Nat.zero_le _)) rfl (hb.alloc hB _) (by omega) (by simp) ?_)
  intro A1 c1 w1 ho _ _ hbl0
  have hbl : Below w.heap.size w w1 := ((Below.refl _ _).alloc (Nat.le_refl _) _).trans hbl0
  clear hd hd1 hbl0
  have hn1 := ho.1
  have hl1 : bs.length ≤ 140737488355000 := by rw [← hb.1]; exact hl
  have HN1 := Lib.hid hn1
  clear hn1
  go_wp2_with fail
  go_loopw [1, 6] (fun i v wr => ∃ (m f : Nat) (pre : List UInt8) (A' : Option Addr) (n' c' : Nat), i = .int .i64 m ∧ v = .slice A' n' c' ∧ m < 128 ^ (f + 1) ∧ f ≤ 5 ∧ m ≤ 1099511627776 ∧ pre.length + f ≤ 5 ∧ pre ++ Vint.encF f m = Vint.enc x ∧
      OwnB wr w.heap.size A' n' c' (bs ++ pre) ∧ Below w.heap.size w wr) (fun i _ _ => (intOf i).toNat)
  case atStart => exact ⟨x, 5, [], A1, _, c1, rfl, rfl, by have : (128 : Nat) ^ 6 = 4398046511104 := by decide
                                                           show x < 128 ^ 6; omega, by omega, hx, by simp, rfl, by simpa using ho, hbl⟩
  case round =>
    obtain ⟨m, f, pre, A', n', c', rfl, rfl, hm, hf5, hmt, hpf, hpre, hown, hbel⟩ := hrel
    have hlen := hown.1
    rw [List.length_append] at hlen
    have hln : n' ≤ 140737488355005 := by omega
    have HL := Lib.hid hlen
    have HP := Lib.hid hpre
    clear hlen hpre
    by_cases hge : 128 ≤ m
    · have hf : 1 ≤ f := by
        rcases Nat.eq_zero_or_pos f with h0 | h0
        · subst h0; simp at hm; omega
        · exact h0
      obtain ⟨f, rfl⟩ : ∃ f', f = f' + 1 := ⟨f - 1, by omega⟩
      have a1 := u8_ref m
      go_wp2_with (at_builtin; refine wpList_appB rfl (.tmp 18) (.tmp 23) rfl rfl (hown.alloc _) rfl (RdB.made _ [UInt8.ofNat (m % 128 + 128)] _ _ _ ?hx1) ?hx0 ?hx2 ?_)
      case hx0 => show n' + 1 ≤ _; omega
      case hx2 => have := hbel.size; simp; omega
      intro A2 c2 w3 ho2 _ _ hbl2
      have hbel3 : Below w.heap.size w w3 := (hbel.alloc hbel.size _).trans hbl2
      go_wp2_with fail
      go_roundw
      case rel =>
        refine ⟨m / 128, f, pre ++ [UInt8.ofNat (m % 128 + 128)], _, _, _, rfl, rfl, ?_, by omega, by omega, by simp; omega, ?_, by simpa using ho2, hbel3⟩
        · rw [Nat.pow_succ] at hm; omega
        · rw [← HP.out]
          conv => rhs; unfold Vint.encF
          rw [if_neg (by omega)]; simp
      case measure => simp [intOf]; omega
    · have a1 := u8_byte m
      go_wp2_with (at_builtin; refine wpList_appB rfl (.tmp 27) (.tmp 30) rfl rfl (hown.alloc _) rfl (RdB.made _ [UInt8.ofNat m] _ _ _ ?hy1) ?hy0 ?hy2 ?_)
      case hy0 => show n' + 1 ≤ _; omega
      case hy2 => have := hbel.size; simp; omega
      intro A2 c2 w3 ho2 _ _ hbl2
      have hbel3 : Below w.heap.size w w3 := (hbel.alloc hbel.size _).trans hbl2
      go_wp2_with fail
      go_ret2
      refine ⟨_, _, _, rfl, ?_, hbel3⟩
      have e : Vint.encF f m = [UInt8.ofNat m] := by
        cases f with
        | zero => rfl
        | succ f => unfold Vint.encF; rw [if_pos (by omega)]
      rw [← HP.out, e]
      simpa using ho2

end Go.Proofs.Ytcgalmnllegnbaa

/- The walk of the document's Put. -/
namespace Go.Proofs.Ytcgalmnllegnbaa
set_option linter.unusedVariables false
set_option linter.unusedSimpArgs false
set_option maxRecDepth 100000
open Go.RowKit
open Dot
theorem encs_app (a b : List Int) : encs (a ++ b) = encs a ++ encs b := by unfold encs; rw [List.flatMap_append]
theorem encs_one (x : Int) : encs [x] = Vint.enc x.toNat := by simp [encs]
theorem encs_two (x y : Int) : encs [x, y] = Vint.enc x.toNat ++ Vint.enc y.toNat := by simp [encs]
set_option maxRecDepth 100000 in
set_option maxHeartbeats 2000000 in
theorem drput_any (U : List Int) (A0 : Option Addr) (n0 c0 : Nat) (l0 : List Dt) (w : World) (hU : U.length = 8) (hr : RdD w w.heap.size A0 n0 l0) :
    Calls Try.prog 39 #[.agg (uc U (.slice A0 n0 c0))] w (GiveBE w (if rightB U l0 = true then encs (putL U l0) else []) (if rightB U l0 = true then 0 else 2)) := by
  have HU := Lib.hid hU
  have HS := Lib.hid (uc_size hU (.slice A0 n0 c0))
  have hra := fun w' (hb : Below w.heap.size w w') => rright_any U hU A0 n0 c0 l0 w' ((hr.below hb).more hb.size)
  have hix := fun w (k : Nat) (hk : k < 8) => run_index8 w U hU k hk
  have HIX := Lib.hid hix
  have HUL := Lib.hid (show (U.map (Value.int .i64)).length = 8 by rw [List.length_map, hU])
  have HRA := Lib.hid hra
  clear hra hix
  have HN := Lib.hid hr.1
  obtain ⟨sc, hsc⟩ : ∃ sc, sc = uc U (.slice A0 n0 c0) := ⟨_, rfl⟩
  rw [← hsc] at HS HRA ⊢
  have HSC := Lib.hid hsc
  clear hsc
  obtain ⟨BS, hBS⟩ : ∃ BS, BS = if rightB U l0 = true then encs (putL U l0) else [] := ⟨_, rfl⟩
  obtain ⟨E, hE⟩ : ∃ E, E = if rightB U l0 = true then 0 else 2 := ⟨_, rfl⟩
  rw [← hBS, ← hE]
  have HBS := Lib.hid hBS
  have HE := Lib.hid hE
  clear hBS hE
  go_enter Try.func39, Try.ntmps39
  go_upto_region 1 with fail
  refine nameW ?_
  intro wv hwv
  obtain ⟨b, hb⟩ : ∃ b, b = w.heap.size := ⟨_, rfl⟩
  rw [← hb]
  have kb : Blk wv b 84 sc := by rw [hwv, hb]; exact Blk.new w _ _
  have gb : Below w.heap.size w wv := by rw [hwv]; exact (Below.refl _ _).alloc (Nat.le_refl _) _
  have hbw : w.heap.size ≤ b := by omega
  clear hwv hb
  go_wp2_with ((with_reducible refine wpList_ld rowRS kb HS.out ?_ ?_); rotate_left; (rfl))
  refine (HRA.out _ gb).mono ?_
  rintro e w1 ⟨rfl, h1⟩
  replace gb := gb.trans (h1.mono gb.size)
  replace kb := kb.below h1 kb.lt
  clear h1 wv
  rename World => wv
  cases hright : rightB U l0
  case false =>
    have hBS2 : BS = [] := by rw [HBS.out, hright]; rfl
    have hE2 : E = 2 := by rw [HE.out, hright]; rfl
    clear HRA HBS HE
    subst hBS2 hE2
    go_wp2_with fail
    go_ret2
    exact ⟨none, 0, 0, rfl, OwnB.nil _ _, gb⟩
  case true =>
  have hBS2 : BS = encs (putL U l0) := by rw [HBS.out, hright]; rfl
  have hE2 : E = 0 := by rw [HE.out, hright]; rfl
  clear HBS HE
  have HBS := Lib.hid hBS2
  clear hBS2
  subst hE2
  have hbd := putL_bd hright
  have hbe := (right_iff _ _).1 hright
  have hn7 : n0 ≤ 768 := by rw [HN.out]; exact hbe.2.1
  have hub : ∀ x ∈ U, 0 ≤ x ∧ x ≤ 1099511627776 := fun x hx => hbd x (by unfold putL; simp [hx])
  have hnb : ∀ x ∈ nums l0, 0 ≤ x ∧ x ≤ 1099511627776 := fun x hx => hbd x (by unfold putL; simp [hx])
  have HUB := Lib.hid hub
  have HNB := Lib.hid hnb
  clear hbd hbe hright HRA hub hnb
  have hrv := hr.below gb
  have t8 : wv.cell? ⟨b, 8, none⟩ = some (.slice A0 n0 c0) := (kb.cell 8).trans (by rw [HSC.out]; exact uc_last HU.out _)
  have hbv := kb.lt
  rw [HSC.out] at kb
  have hrg := uc_range kb
  have T8 := Lib.hid t8
  clear hr kb t8
  go_upto_region 4 with fail
  go_upto_region 5 with ((with_reducible refine wpList_ldm row8 hrg HUL.out ?_ ?_); rotate_left; (rfl))
  rw [show (U.map (Value.int .i64)).toArray = uI U from rfl]
  clear hrg
  obtain ⟨wo, rfl⟩ : ∃ wo, wo = wv := ⟨_, rfl⟩
  go_loopw [4, 14] (fun t i wr => ∃ (j : Nat) (A : Option Addr) (nb cb : Nat), j ≤ 8 ∧ i = .int .i64 j ∧ t = .slice A nb cb ∧ OwnB wr wo.heap.size A nb cb (encs (U.take j)) ∧ Below wo.heap.size wo wr) (fun _ i _ => 8 - (intOf i).toNat)
  case atStart => exact ⟨0, none, 0, 0, by omega, rfl, rfl, OwnB.nil _ _, Below.refl _ _⟩
  case round =>
  obtain ⟨j, A, nb, cb, hj, rfl, rfl, ob, bl⟩ := hrel
  by_cases hlt : j < 8
  case pos =>
    have hjl : j < U.length := by rw [HU.out]; exact hlt
    have hx1 := fun w => HIX.out w j hlt
    have hgd : U.getD j 0 = U[j] := by rw [List.getD_eq_getElem?_getD, List.getElem?_eq_getElem hjl]; rfl
    simp only [hgd] at hx1
    have hxb := HUB.out _ (List.getElem_mem hjl)
    have hes := encs_snoc U hjl
    have HES := Lib.hid hes
    have hel := encs_len (U.take j)
    have hnb : nb ≤ 48 := by
      have h1 := ob.1
      have h2 : (U.take j).length ≤ j := List.length_take_le _ _
      omega
    clear hes hel hgd
    generalize U[j] = x at *
    obtain ⟨x, rfl⟩ := Int.eq_ofNat_of_zero_le hxb.1
    rw [Int.toNat_natCast] at HES
    have hkd : decide ((j : Int) < 8) = true := decide_eq_true (by omega)
    go_wp2_with fail
    refine (rput_ok A nb cb _ x wr.heap.size wr ob.rd (Nat.le_refl _) (by omega) (by omega)).mono ?_
    rintro e w4 ⟨A4, n4, c4, rfl, o4, b4⟩
    have O4 : OwnB w4 wo.heap.size A4 n4 c4 (encs (U.take (j + 1))) := by rw [HES.out]; exact o4.mono bl.size
    have B4 := bl.trans (b4.mono bl.size)
    have HO := Lib.hid O4
    clear O4 o4 b4 ob bl
    go_wp2_with fail
    go_roundw
    case rel => exact ⟨j + 1, A4, n4, c4, by omega, by go_num, rfl, HO.out, B4⟩
    case measure => simp [intOf]; omega
  case neg =>
  obtain rfl : j = 8 := by omega
  rw [show U.take 8 = U from List.take_of_length_le (by rw [HU.out]; exact Nat.le_refl _)] at ob
  have hnb : nb ≤ 48 := by
    have h1 := ob.1
    have h2 := encs_len U
    rw [HU.out] at h2
    omega
  have t8 : wr.cell? ⟨b, 8, none⟩ = some (.slice A0 n0 c0) := (bl.cell (p := ⟨b, 8, none⟩) hbv).trans T8.out
  go_wp2_with fail
  refine (rput_ok A nb cb _ n0 wr.heap.size wr ob.rd (Nat.le_refl _) (by omega) (by omega)).mono ?_
  rintro e w4 ⟨A4, n4, c4, rfl, o4, b4⟩
  have O4 : OwnB w4 wo.heap.size A4 n4 c4 (encs (U ++ [((n0 : Nat) : Int)] ++ nums (l0.take 0))) := by
    rw [encs_app, encs_app, encs_one, Int.toNat_natCast, show encs (nums (l0.take 0)) = [] from rfl, List.append_nil]
    exact o4.mono bl.size
  have B4 := bl.trans (b4.mono bl.size)
  have t84 : w4.cell? ⟨b, 8, none⟩ = some (.slice A0 n0 c0) := (B4.cell (p := ⟨b, 8, none⟩) hbv).trans T8.out
  have hUl := HU.out
  clear o4 b4 ob bl t8 hnb
  go_wp2_with fail
  clear t84
  go_loopw [4, 35] (fun t i wr => ∃ (k : Nat) (A : Option Addr) (nb cb : Nat), k ≤ n0 ∧ i = .int .i64 k ∧ t = .slice A nb cb ∧ OwnB wr wo.heap.size A nb cb (encs (U ++ [((n0 : Nat) : Int)] ++ nums (l0.take k))) ∧ Below wo.heap.size wo wr) (fun _ i _ => n0 - (intOf i).toNat)
  case atStart => exact ⟨0, A4, n4, c4, by omega, rfl, rfl, O4, B4⟩
  case round =>
    clear O4 B4
    obtain ⟨k, A, nb, cb, hk, rfl, rfl, ob, bl⟩ := hrel
    by_cases hlt : k < n0
    · have hkl : k < l0.length := by rw [← HN.out]; exact hlt
      obtain ⟨ad, rfl, hdt⟩ := (hrv.below (bl.mono gb.size)).2 k _ (List.getElem?_eq_getElem hkl)
      have hsn : nums (l0.take (k + 1)) = nums (l0.take k) ++ [l0[k].1, l0[k].2] := by rw [take_snoc l0 hkl, nums_snoc]
      have hm1 : l0[k].1 ∈ nums l0 := by unfold nums; rw [List.mem_flatMap]; exact ⟨_, List.getElem_mem hkl, by simp⟩
      have hm2 : l0[k].2 ∈ nums l0 := by unfold nums; rw [List.mem_flatMap]; exact ⟨_, List.getElem_mem hkl, by simp⟩
      have hx1 := HNB.out _ hm1
      have hx2 := HNB.out _ hm2
      have hel := encs_len (U ++ [((n0 : Nat) : Int)] ++ nums (l0.take k))
      have hnb : nb ≤ 15000 := by
        have h1 := ob.1
        rw [List.length_append, List.length_append, nums_len, HU.out] at hel
        have h2 : (l0.take k).length ≤ k := List.length_take_le _ _
        rw [List.length_singleton] at hel
        omega
      clear hm1 hm2 hel
      generalize l0[k] = d at *
      obtain ⟨x, q⟩ := d
      obtain ⟨q5, q0, q1⟩ := hdt
      simp only at q0 q1 hsn hx1 hx2
      obtain ⟨x, rfl⟩ := Int.eq_ofNat_of_zero_le hx1.1
      obtain ⟨q, rfl⟩ := Int.eq_ofNat_of_zero_le hx2.1
      have HSN := Lib.hid hsn
      clear hsn
      obtain ⟨wn, hwn⟩ : ∃ wn, wn = wr.alloc (.cells #[.int .i64 (x : Nat), .int .i64 (q : Nat)] 46) := ⟨_, rfl⟩
      obtain ⟨gd, hgd⟩ : ∃ gd, gd = wr.heap.size := ⟨_, rfl⟩
      have kn : Blk wn gd 46 #[.int .i64 (x : Nat), .int .i64 (q : Nat)] := by rw [hwn, hgd]; exact Blk.new wr _ _
      have o1 : OwnB wn wo.heap.size A nb cb (encs (U ++ [((n0 : Nat) : Int)] ++ nums (l0.take k))) := by rw [hwn]; exact ob.alloc _
      have b1 : Below wo.heap.size wo wn := by rw [hwn]; exact bl.alloc bl.size _
      have HW := Lib.hid hwn
      have HGD := Lib.hid hgd
      have hk0 : (0 : Int) ≤ (k : Int) := by omega
      have hk1 : (k : Int) < (n0 : Int) := by omega
      clear hwn hgd ob bl
      go_upto_region 13 with fail
      rw [← HW.out, ← HGD.out]
      have t0 : wn.cell? ⟨gd, 0, none⟩ = some (.int .i64 (x : Nat)) := kn.cell 0
      clear q0 q1 q5
      go_wp2_with fail
      refine (rput_ok A nb cb _ x wn.heap.size wn o1.rd (Nat.le_refl _) (by omega) (by omega)).mono ?_
      rintro e w4 ⟨A4, n4, c4, rfl, o4, b4⟩
      have kn4 := kn.below b4 kn.lt
      have t1 : w4.cell? ⟨gd, 1, none⟩ = some (.int .i64 (q : Nat)) := kn4.cell 1
      have hn4 : n4 ≤ 15010 := by
        have h1 := o4.1
        have h2 := o1.1
        have h3 := Vint.enc_length x
        rw [List.length_append] at h1
        omega
      have bw4 := b1.trans (b4.mono b1.size)
      clear kn b4 t0 o1
      go_wp2_with fail
      refine (rput_ok A4 n4 c4 _ q w4.heap.size w4 o4.rd (Nat.le_refl _) (by omega) (by omega)).mono ?_
      rintro e w5 ⟨A5, n5, c5, rfl, o5, b5⟩
      have O5 : OwnB w5 wo.heap.size A5 n5 c5 (encs (U ++ [((n0 : Nat) : Int)] ++ nums (l0.take (k + 1)))) := by
        rw [HSN.out, ← List.append_assoc, encs_app, encs_two, Int.toNat_natCast, Int.toNat_natCast, ← List.append_assoc]
        exact o5.mono bw4.size
      have B5 := bw4.trans (b5.mono bw4.size)
      have HO := Lib.hid O5
      clear O5 o5 b5 t1 kn4 o4 bw4 b1
      go_wp2_with fail
      go_roundw
      case rel => exact ⟨k + 1, A5, n5, c5, by omega, by go_num, rfl, HO.out, B5⟩
      case measure => simp [intOf]; omega
    · obtain rfl : k = n0 := by omega
      rw [List.take_of_length_le (l := l0) (by have := HN.out; omega)] at ob
      go_wp2_with fail
      go_ret2
      exact ⟨A, nb, cb, rfl, by rw [HBS.out]; unfold putL; rw [← HN.out]; exact ob.mono gb.size, gb.trans (bl.mono gb.size)⟩
end Go.Proofs.Ytcgalmnllegnbaa

/- The walk of the document's Less. -/
namespace Go.Proofs.Ytcgalmnllegnbaa
set_option linter.unusedVariables false
set_option linter.unusedSimpArgs false
set_option maxRecDepth 100000
open Go.RowKit
open Dot
/-- what is not in a set -/
def lessD (U : List Int) (l : List Dt) (L : List Dt) : List Dt := L.filter fun d => !hasB U l d
theorem lessD_snoc {U : List Int} {l : List Dt} {L : List Dt} {k : Nat} (h : k < L.length) : lessD U l (L.take (k + 1)) = if hasB U l L[k] = true then lessD U l (L.take k) else lessD U l (L.take k) ++ [L[k]] := by
  unfold lessD
  rw [take_snoc L h, List.filter_append]
  by_cases hh : hasB U l L[k] = true
  · rw [if_pos hh]; simp [hh]
  · rw [if_neg hh]; simp [hh]
theorem dots_len2 (G : Grid) : (dotsS G).length ≤ 784 := dotsTo_len G 8
theorem lessD_len (U : List Int) (l : List Dt) (L : List Dt) : (lessD U l L).length ≤ L.length := List.length_filter_le _ _
end Go.Proofs.Ytcgalmnllegnbaa

/- The walks of IndexFunc and DeleteFunc over dots, with Less's closure. -/
namespace Go.Proofs.Ytcgalmnllegnbaa
set_option linter.unusedVariables false
set_option linter.unusedSimpArgs false
set_option maxRecDepth 100000
open Go.RowKit
open Dot
/-- dots that may be looked up -/
def InD (l : List Dt) : Prop := ∀ d ∈ l, ∃ x q : Nat, d = ((x : Int), (q : Int)) ∧ x < 8 ∧ q < 98
def isG (G : Grid) (d : Dt) : Bool := G d.1.toNat d.2.toNat
/-- a shorter piece of a row of the call's own -/
theorem OwnD.short {w : World} {base n c : Nat} {A : Option Addr} {l : List Dt} (h : OwnD w base A n c l) {i : Nat} (hi : i ≤ n) (h0 : 0 < n) : OwnD w base A i c (l.take i) := by
  have hl : l.length = n := h.1.symm
  refine ⟨by rw [List.length_take]; omega, ?_, ?_⟩
  · rw [dcs_len, List.length_take]; omega
  · rcases h.2.2 with ⟨_, h1⟩ | ⟨g, cap, cur, hv, hb, hh, hn, hm, hs, hc⟩
    · omega
    · injection hv with h1 h2 h3
      subst h1 h3
      refine .inr ⟨g, c, cur, rfl, hb, hh, by omega, hm, hs, ?_⟩
      have e : l = l.take i ++ l.drop i := (List.take_append_drop i l).symm
      have h4 : dcs l = dcs (l.take i) ++ dcs (l.drop i) := by rw [← dcs_app, ← e]
      have h5 : (dcs (l.take i)).length = i * 2 := by rw [dcs_len, List.length_take]; omega
      have h6 := congrArg (List.take (i * 2)) hc
      rw [List.take_take, show min (i * 2) (n * 2) = i * 2 by omega, h4, List.take_append_of_le_length (by omega), List.take_of_length_le (l := dcs (l.take i)) (by omega)] at h6
      exact h6
/-- what lies behind a row of the call's own may be overwritten -/
theorem OwnD.tail {w : World} {base i c g : Nat} {l : List Dt} (h : OwnD w base (some ⟨g, 0, none⟩) i c l) (vs : List Value) : OwnD (w.setCells g (i * 2) vs) base (some ⟨g, 0, none⟩) i c l := by
  refine ⟨h.1, h.2.1, ?_⟩
  rcases h.2.2 with ⟨hv, _⟩ | ⟨g', cap, cur, hv, hb, hh, hn, hm, hs, hc⟩
  · cases hv
  · injection hv with h1 h2 h3
    injection h1 with h1
    injection h1 with h1
    subst h1 h3
    obtain ⟨cs', k1, k2, k3, _⟩ := setCells_heap w g vs (i * 2) cur hh
    refine .inr ⟨g, c, cs', rfl, hb, k1, hn, hm, by rw [k2, hs], ?_⟩
    rw [← hc]
    apply List.ext_getElem?
    intro j
    rw [List.getElem?_take, List.getElem?_take]
    by_cases hj : j < i * 2
    · rw [if_pos hj, if_pos hj]
      have := k3 j (.inl hj)
      simpa using this
    · rw [if_neg hj, if_neg hj]
theorem dcs_set (l : List Dt) : ∀ (i : Nat) (x q : Int), ((dcs l).set (i * 2) (.int .i64 x)).set (i * 2 + 1) (.int .i64 q) = dcs (l.set i (x, q)) := by
  induction l with
  | nil => intro i x q; simp [dcs]
  | cons d l ih =>
    intro i x q
    have e : ∀ (d : Dt) (l : List Dt), dcs (d :: l) = .int .i64 d.1 :: .int .i64 d.2 :: dcs l := fun _ _ => rfl
    cases i with
    | zero => rfl
    | succ i =>
      rw [show (i + 1) * 2 = i * 2 + 1 + 1 by omega, e]
      show _ :: _ :: ((dcs l).set (i * 2) (.int .i64 x)).set (i * 2 + 1) (.int .i64 q) = _
      rw [ih]
      rfl
theorem OwnD.set_ {w : World} {base n c g : Nat} {l : List Dt} (h : OwnD w base (some ⟨g, 0, none⟩) n c l) (i : Nat) (x q : Int) : OwnD ((w.setCell ⟨g, i * 2, none⟩ (.int .i64 x)).setCell ⟨g, i * 2 + 1, none⟩ (.int .i64 q)) base (some ⟨g, 0, none⟩) n c (l.set i (x, q)) := by
  refine ⟨by rw [List.length_set]; exact h.1, ?_⟩
  have h1 := (h.2.stored (i * 2) (.int .i64 x)).1
  have h2 := (h1.stored (i * 2 + 1) (.int .i64 q)).1
  rwa [dcs_set] at h2
theorem zeroD (w : World) : (zeroValue 46).run Try.prog w = .ok (.agg #[.int .i64 0, .int .i64 0]) w := by kernel_rfl
theorem run_clearD (w : World) (ty : TypeId) (b o n c : Nat) (hn : 0 < n)
    (hc : ∀ j, j < n * 2 → (w.cell? ⟨b, o + j, none⟩).isSome = true) (hf : ∀ j, j < n * 2 → w.frozen? ⟨b, o + j, none⟩ = false) :
    (Builtin.clear_ #[23] ty #[.slice (some ⟨b, o, none⟩) n c]).run Try.prog w = .ok (.tuple #[]) (w.setCells b o (Builtin.zeroCells (Value.agg #[.int .i64 0, .int .i64 0]).cells n).toList) := by
  have hst := run_storeCells_cells (P := Try.prog) b o (Builtin.zeroCells (Value.agg #[.int .i64 0, .int .i64 0]).cells n).toList 0 w (by simpa [Builtin.zeroCells, Value.cells, Nat.mul_comm] using hc) (by simpa [Builtin.zeroCells, Value.cells, Nat.mul_comm] using hf) (by
    intro v hv
    simp [Builtin.zeroCells, Value.cells] at hv
    obtain ⟨i, _, rfl⟩ := hv
    rcases (show i % 2 = 0 ∨ i % 2 = 1 by omega) with h | h <;> simp [h] <;> rfl)
  simp only [Nat.add_zero] at hst
  obtain ⟨m, rfl⟩ : ∃ m, n = m + 1 := ⟨n - 1, by omega⟩
  simp [Builtin.clear_, run_underlying Try.underlying23, zeroD, hst]
/-- what is not in the grid -/
def fltG (G : Grid) (l : List Dt) : List Dt := l.filter fun d => !isG G d
theorem fltG_snoc (G : Grid) {L : List Dt} {k : Nat} (h : k < L.length) : fltG G (L.take (k + 1)) = if isG G L[k] = true then fltG G (L.take k) else fltG G (L.take k) ++ [L[k]] := by
  unfold fltG
  rw [take_snoc L h, List.filter_append]
  by_cases hh : isG G L[k] = true
  · rw [if_pos hh]; simp [hh]
  · rw [if_neg hh]; simp [hh]
theorem drop_next {α : Type} {a b : List α} {m : Nat} (h : a.drop m = b.drop m) : a.drop (m + 1) = b.drop (m + 1) := by
  have := congrArg (List.drop 1) h
  rwa [List.drop_drop, List.drop_drop] at this
theorem fltG_none {G : Grid} {L : List Dt} (h : ∀ d ∈ L, isG G d = false) : fltG G L = L := List.filter_eq_self.2 fun d hd => by rw [h d hd]; rfl
end Go.Proofs.Ytcgalmnllegnbaa

/- The walk of the program's Less. -/
namespace Go.Proofs.Ytcgalmnllegnbaa
set_option linter.unusedVariables false
set_option linter.unusedSimpArgs false
set_option maxRecDepth 100000
open Go.RowKit
open Dot
theorem dots_in (G : Grid) : InD (dotsS G) := fun d hd => by
  obtain ⟨n, q, h1, h2, _, rfl⟩ := (mem_dotsTo G d 8).1 hd
  exact ⟨n, q, rfl, h1, h2⟩
theorem lessD_flt {G : Grid} (hG : InG G) (U : List Int) (l : List Dt) : lessD U l (dotsS G) = fltG (hasG U l) (dotsS G) := by
  unfold lessD fltG
  apply List.filter_congr
  intro d hd
  obtain ⟨n, q, h1, h2, h3, rfl⟩ := (mem_dotsTo G d 8).1 hd
  have h4 := hG n q h3
  have hm : mayB ((n : Int), (q : Int)) = true := by rw [may_iff]; simp only; omega
  unfold hasB isG
  rw [hm]
  rfl
end Go.Proofs.Ytcgalmnllegnbaa

/- Plain laws: the closed set of what there is is right, and has just that; how many there are in the one or the other. -/
namespace Go.Proofs.Ytcgalmnllegnbaa
set_option linter.unusedVariables false
set_option linter.unusedSimpArgs false
set_option maxRecDepth 100000
open Dot
namespace Dot
theorem lead_mono (r : Nat → Bool) (Q : Nat) : lead r Q ≤ lead r (Q + 1) := by
  have := lead_le r Q
  rw [lead]
  split <;> omega
theorem lead_all {r : Nat → Bool} : ∀ (Q q : Nat), 1 ≤ q → q ≤ lead r Q → r q = true := by
  intro Q
  induction Q with
  | zero => intro q h1 h2; simp [lead] at h2; omega
  | succ Q ih =>
    intro q h1 h2
    rw [lead] at h2
    by_cases h : r Q = true ∧ Q = lead r Q + 1
    · rw [if_pos h] at h2
      by_cases e : q = Q
      · rw [e]; exact h.1
      · exact ih q h1 (by omega)
    · rw [if_neg h] at h2
      exact ih q h1 h2
theorem rest_mem {r : Nat → Bool} (h0 : r 0 = false) : ∀ (Q q : Nat), q ∈ rest r Q → r q = true ∧ q < Q ∧ lead r Q + 2 ≤ q := by
  intro Q
  induction Q with
  | zero => intro q h; simp [rest] at h
  | succ Q ih =>
    intro q h
    rw [rest] at h
    have hl := lead_le r Q
    by_cases hc : r Q = true ∧ Q ≠ lead r Q + 1
    · rw [if_pos hc] at h
      have hl2 : lead r (Q + 1) = lead r Q := by rw [lead, if_neg (fun h => hc.2 h.2)]
      rw [hl2]
      rcases List.mem_append.1 h with h | h
      · have := ih q h
        exact ⟨this.1, by omega, this.2.2⟩
      · simp at h
        subst h
        refine ⟨hc.1, by omega, ?_⟩
        have : q ≠ 0 := fun e => by rw [e, h0] at hc; simp at hc
        omega
    · rw [if_neg hc] at h
      have := ih q h
      refine ⟨this.1, by omega, ?_⟩
      rw [lead]
      split
      · omega
      · exact this.2.2
theorem rest_has {r : Nat → Bool} : ∀ (Q q : Nat), r q = true → q < Q → q ≤ lead r Q ∨ q ∈ rest r Q := by
  intro Q
  induction Q with
  | zero => intro q _ h; omega
  | succ Q ih =>
    intro q hr hq
    by_cases e : q = Q
    · subst e
      by_cases hc : q = lead r q + 1
      · left
        rw [lead, if_pos ⟨hr, hc⟩]
        exact Nat.le_refl _
      · right
        rw [rest, if_pos ⟨hr, hc⟩]
        simp
    · rcases ih q hr (by omega) with h | h
      · exact .inl (Nat.le_trans h (lead_mono r Q))
      · right
        rw [rest]
        split
        · exact List.mem_append_left _ h
        · exact h
theorem rest_sorted {r : Nat → Bool} (h0 : r 0 = false) : ∀ Q, (rest r Q).Pairwise (· < ·) := by
  intro Q
  induction Q with
  | zero => simp [rest]
  | succ Q ih =>
    rw [rest]
    split
    · rw [List.pairwise_append]
      refine ⟨ih, by simp, fun a ha b hb => ?_⟩
      simp at hb
      subst hb
      exact (rest_mem h0 _ a ha).2.1
    · exact ih
theorem rest_len2 {r : Nat → Bool} (h0 : r 0 = false) : ∀ Q, (rest r (Q + 1)).length ≤ Q := by
  intro Q
  induction Q with
  | zero => simp [rest, h0]
  | succ Q ih =>
    rw [rest]
    split <;> (try simp only [List.length_append, List.length_cons, List.length_nil]) <;> omega
theorem mem_moreTo (G : Grid) (d : Dt) : ∀ N, d ∈ moreTo G N ↔ ∃ n q, n < N ∧ q ∈ rest (G n) 98 ∧ d = ((n : Int), (q : Int)) := by
  intro N
  induction N with
  | zero => simp [moreTo]
  | succ N ih =>
    rw [moreTo, List.mem_append, ih]
    unfold numb
    rw [List.mem_map]
    constructor
    · rintro (⟨n, q, h1, h2, h3⟩ | ⟨q, h1, h2⟩)
      · exact ⟨n, q, by omega, h2, h3⟩
      · exact ⟨N, q, by omega, h1, h2.symm⟩
    · rintro ⟨n, q, h1, h2, h3⟩
      by_cases e : n = N
      · subst e; exact .inr ⟨q, h2, h3.symm⟩
      · exact .inl ⟨n, q, by omega, h2, h3⟩
theorem in_zero {G : Grid} (h : InG G) (n : Nat) : G n 0 = false := by
  rw [← Bool.not_eq_true]
  intro e
  have := h n 0 e
  omega
theorem more_sorted {G : Grid} (h : InG G) : ∀ N, (moreTo G N).Pairwise (fun a b => befB a b = true) := by
  intro N
  induction N with
  | zero => simp [moreTo]
  | succ N ih =>
    rw [moreTo, List.pairwise_append]
    refine ⟨ih, ?_, fun a ha b hb => ?_⟩
    · unfold numb
      rw [List.pairwise_map]
      refine (rest_sorted (in_zero h N) 98).imp fun hab => ?_
      unfold befB
      simp
      omega
    · obtain ⟨n, q, h1, _, rfl⟩ := (mem_moreTo G a N).1 ha
      unfold numb at hb
      obtain ⟨p, _, rfl⟩ := List.mem_map.1 hb
      unfold befB
      simp
      omega
theorem more_len2 {G : Grid} (h : InG G) : ∀ N, (moreTo G N).length ≤ N * 96 := by
  intro N
  induction N with
  | zero => simp [moreTo]
  | succ N ih =>
    have h97 : G N 97 = false := by
      rw [← Bool.not_eq_true]
      intro e
      have := h N 97 e
      omega
    have h1 : rest (G N) 98 = rest (G N) 97 := by
      rw [show (98 : Nat) = 97 + 1 from rfl, rest, if_neg (by rw [h97]; simp)]
    have h2 : (rest (G N) 97).length ≤ 96 := rest_len2 (in_zero h N) 96
    rw [moreTo, List.length_append, numb_len, h1]
    omega
theorem upto_get (G : Grid) {n : Nat} (hn : n < 8) : (uptoS G).getD n 0 = (lead (G n) 98 : Int) := by
  unfold uptoS
  rw [List.getD_eq_getElem?_getD, List.getElem?_map, List.getElem?_range hn]
  rfl
theorem lead_le96 {G : Grid} (h : InG G) (n : Nat) : lead (G n) 98 ≤ 96 := by
  by_cases e : lead (G n) 98 = 0
  · omega
  · have := lead_all (r := G n) 98 (lead (G n) 98) (by omega) (Nat.le_refl _)
    exact (h n _ this).2.2
theorem right_closed {G : Grid} (h : InG G) : rightB (uptoS G) (moreS G) = true := by
  rw [right_iff]
  refine ⟨?_, by have := more_len2 h 8; unfold moreS; omega, fun i hi => ?_⟩
  · rw [List.all_eq_true]
    intro x hx
    unfold uptoS at hx
    obtain ⟨n, _, rfl⟩ := List.mem_map.1 hx
    have := lead_le96 h n
    rw [numOk_iff]
    omega
  · have hg : (moreS G).getD i (0, 0) = (moreS G)[i] := by rw [List.getD_eq_getElem?_getD, List.getElem?_eq_getElem hi]; rfl
    obtain ⟨n, q, h1, h2, h3⟩ := (mem_moreTo G (moreS G)[i] 8).1 (List.getElem_mem hi)
    have h4 := rest_mem (in_zero h n) 98 q h2
    have h5 := h n q h4.1
    unfold goodAt
    rw [hg, h3]
    simp only [Bool.and_eq_true, Bool.or_eq_true, decide_eq_true_eq]
    refine ⟨⟨(may_iff _).2 (by simp only; omega), ?_⟩, ?_⟩
    · rw [Int.toNat_natCast, upto_get G h1]
      omega
    · by_cases e : i = 0
      · exact .inl e
      · right
        have hp := List.pairwise_iff_getElem.1 (more_sorted h 8) (i - 1) i (by show i - 1 < (moreS G).length; omega) hi (by omega)
        have hg2 : (moreS G).getD (i - 1) (0, 0) = (moreS G)[i - 1] := by rw [List.getD_eq_getElem?_getD, List.getElem?_eq_getElem (by omega)]; rfl
        rw [hg2, ← h3]
        exact hp
theorem has_closed {G : Grid} (h : InG G) : hasG (uptoS G) (moreS G) = G := by
  funext n q
  unfold hasG
  rw [right_closed h, Bool.true_and, Bool.eq_iff_iff]
  simp only [Bool.and_eq_true, Bool.or_eq_true, decide_eq_true_eq, List.contains_iff_mem]
  constructor
  · rintro ⟨⟨⟨h1, h2⟩, h3⟩, h4⟩
    rw [upto_get G h1] at h4
    rcases h4 with h4 | h4
    · exact lead_all 98 q h2 (by omega)
    · obtain ⟨m, p, _, h6, h7⟩ := (mem_moreTo G _ 8).1 h4
      simp only [Prod.mk.injEq, Int.natCast_inj] at h7
      obtain ⟨rfl, rfl⟩ := h7
      exact (rest_mem (in_zero h n) 98 q h6).1
  · intro hg
    obtain ⟨h1, h2, h3⟩ := h n q hg
    refine ⟨⟨⟨h1, h2⟩, h3⟩, ?_⟩
    rw [upto_get G h1]
    rcases rest_has (r := G n) 98 q hg (by omega) with h4 | h4
    · exact .inl (by omega)
    · exact .inr ((mem_moreTo G _ 8).2 ⟨n, q, h1, h4, rfl⟩)
theorem has_may (U : List Int) (l : List Dt) (d : Dt) : hasB U l d = true → mayB d = true := fun h => by
  unfold hasB at h
  simp only [Bool.and_eq_true] at h
  exact h.1
theorem orG_comm (g h : Grid) : orG g h = orG h g := by funext n q; exact Bool.or_comm _ _
theorem orG_assoc (g h k : Grid) : orG (orG g h) k = orG g (orG h k) := by funext n q; exact Bool.or_assoc _ _ _
theorem orG_self (g : Grid) : orG g g = g := by funext n q; exact Bool.or_self _
theorem orG_left (g h : Grid) : orG (orG g h) g = orG g h := by rw [orG_comm (orG g h) g, ← orG_assoc, orG_self]
end Dot
theorem rowTo_or (X Y : Grid) (n : Nat) : ∀ Q, (rowTo (orG X Y) n Q).length = (rowTo X n Q).length + (fltG X (rowTo Y n Q)).length := by
  intro Q
  induction Q with
  | zero => simp [rowTo, fltG]
  | succ Q ih =>
    unfold fltG at ih ⊢
    rw [rowTo, rowTo, rowTo]
    have ho : orG X Y n Q = (X n Q || Y n Q) := rfl
    have hi : isG X ((n : Int), (Q : Int)) = X n Q := rfl
    cases hx : X n Q <;> cases hy : Y n Q <;> simp [ho, hx, hy, hi, List.filter_append, ih] <;> omega
theorem dots_or (X Y : Grid) : ∀ N, (dotsTo (orG X Y) N).length = (dotsTo X N).length + (fltG X (dotsTo Y N)).length := by
  intro N
  induction N with
  | zero => simp [dotsTo, fltG]
  | succ N ih =>
    have h := rowTo_or X Y N 98
    unfold fltG at ih h ⊢
    rw [dotsTo, dotsTo, dotsTo, List.filter_append]
    simp only [List.length_append]
    omega
theorem has_or (X Y : Grid) (hX : InG X) (hY : InG Y) (d : Dt) : hasB (uptoS (orG X Y)) (moreS (orG X Y)) d = (mayB d && (X d.1.toNat d.2.toNat || Y d.1.toNat d.2.toNat)) := by
  unfold hasB
  rw [has_closed (orG_in hX hY)]
  rfl
end Go.Proofs.Ytcgalmnllegnbaa

/- The walk of the document's reader's Int. -/
namespace Go.Proofs.Ytcgalmnllegnbaa
set_option linter.unusedVariables false
set_option linter.unusedSimpArgs false
set_option maxRecDepth 100000
open Go.RowKit
namespace Vint
theorem decF_nil {i n : Nat} (hi : i < 6) : decF (6 - i) i n [] = .error 3 := by
  obtain ⟨k, hk⟩ : ∃ k, 6 - i = k + 1 := ⟨5 - i, by omega⟩
  rw [hk]; rfl
theorem decF_more {i n : Nat} (hi : i < 6) {c : UInt8} (r : List UInt8) (hc : 128 ≤ c.toNat) : decF (6 - i) i n (c :: r) = decF (6 - (i + 1)) (i + 1) (n + (c.toNat % 128) * 128 ^ i) r := by
  obtain ⟨k, hk⟩ : ∃ k, 6 - i = k + 1 := ⟨5 - i, by omega⟩
  rw [hk, show 6 - (i + 1) = k by omega]
  conv => lhs; unfold decF
  rw [if_pos hc]
theorem decF_bad {i n : Nat} (hi : i < 6) {c : UInt8} (r : List UInt8) (hc : c.toNat < 128) (h : top < n + c.toNat * 128 ^ i ∨ (c.toNat = 0 ∧ 0 < i)) : decF (6 - i) i n (c :: r) = .error 4 := by
  obtain ⟨k, hk⟩ : ∃ k, 6 - i = k + 1 := ⟨5 - i, by omega⟩
  rw [hk]
  unfold decF
  rw [if_neg (by omega), if_pos h]
theorem decF_good {i n : Nat} (hi : i < 6) {c : UInt8} (r : List UInt8) (hc : c.toNat < 128) (h1 : n + c.toNat * 128 ^ i ≤ top) (h2 : c.toNat ≠ 0 ∨ i = 0) : decF (6 - i) i n (c :: r) = .ok (n + c.toNat * 128 ^ i, r) := by
  obtain ⟨k, hk⟩ : ∃ k, 6 - i = k + 1 := ⟨5 - i, by omega⟩
  rw [hk]
  unfold decF
  rw [if_neg (by omega), if_neg (by omega)]
theorem pow128 {i : Nat} (hi : i < 6) : 1 ≤ 128 ^ i ∧ 128 ^ i ≤ 34359738368 := by
  match i, hi with
  | 0, _ => decide
  | 1, _ => decide
  | 2, _ => decide
  | 3, _ => decide
  | 4, _ => decide
  | 5, _ => decide
end Vint
end Go.Proofs.Ytcgalmnllegnbaa

/- The walks of package vint: New, and a reader's Int, Err, Left. -/
namespace Go.Proofs.Ytcgalmnllegnbaa
set_option linter.unusedVariables false
set_option linter.unusedSimpArgs false
set_option maxRecDepth 100000
open Go.RowKit

/-- A reader: block g holds its slice and its error; the bytes lie below it. -/
def Rdr (w : World) (g : Nat) (A : Option Addr) (n c : Nat) (bs : List UInt8) (e : Nat) : Prop :=
  w.heap[g]? = some (.cells #[.slice A n c, .int .i64 (e : Nat)] 134 (0, 0)) ∧ RdB w g A n bs ∧ n ≤ c ∧ c ≤ maxLen
section
variable {w w' : World} {g : Nat} {A : Option Addr} {n c : Nat} {bs : List UInt8} {e : Nat}
theorem Rdr.lt (h : Rdr w g A n c bs e) : g < w.heap.size := lt_of_block h.1
theorem Rdr.cell0 (h : Rdr w g A n c bs e) : w.cell? ⟨g, 0, none⟩ = some (.slice A n c) := by have := h.1; simp [World.cell?, this]
theorem Rdr.cell1 (h : Rdr w g A n c bs e) : w.cell? ⟨g, 1, none⟩ = some (.int .i64 (e : Nat)) := by have := h.1; simp [World.cell?, this]
theorem Rdr.free (h : Rdr w g A n c bs e) (i : Nat) : w.frozen? ⟨g, i, none⟩ = false := by have := h.1; simp [World.frozen?, this]
theorem Rdr.below (h : Rdr w g A n c bs e) (hb : Below (g + 1) w w') : Rdr w' g A n c bs e :=
  ⟨(hb.block g (by omega)).trans h.1, h.2.1.below (hb.mono (by omega)), h.2.2⟩
end
def IsNew (w : World) (bs : List UInt8) (e : Ending) (w' : World) : Prop :=
  ∃ A c g, e = .returned (.pointer (some ⟨g, 0, none⟩)) ∧ w.heap.size ≤ g ∧ Rdr w' g A bs.length c bs 0 ∧ Below w.heap.size w w'
theorem new_any (A : Option Addr) (n c : Nat) (bs : List UInt8) (B : Nat) (w : World) (hb : RdB w B A n bs) (hB : B ≤ w.heap.size) (hl : n ≤ 140737488355000) :
    Calls Try.prog 55 #[.slice A n c] w (IsNew w bs) := by
  obtain rfl := hb.1
  go_enter Try.func55, Try.ntmps55
  go_wp2_with (go_at_call 70; refine (clone_any _ _ _ _ _ _ hb hB (by omega)).mono ?_; rintro e w1 ⟨A1, n1, c1, rfl, ho, hbl⟩)
  have hn := ho.1
  subst hn
  go_ret
  refine ⟨A1, c1, w1.heap.size, rfl, hbl.size, ⟨?_, ?_, ?_⟩, hbl.alloc hbl.size _⟩
  · exact heap_alloc_new w1 _
  · exact (ho.rd.alloc (Nat.le_refl _) _)
  · rcases ho.2.2 with ⟨h, h0⟩ | ⟨g, cap, cur, h, _, _, h1, h2, _⟩
    · injection h with _ _ h; subst h; exact ⟨by omega, by unfold maxLen; omega⟩
    · injection h with _ _ h; subst h; exact ⟨h1, h2⟩
theorem err_any (g : Nat) (A : Option Addr) (n c : Nat) (bs : List UInt8) (e : Nat) (w : World) (h : Rdr w g A n c bs e) :
    Calls Try.prog 90 #[.pointer (some ⟨g, 0, none⟩)] w fun r w' => r = .returned (.int .i64 (e : Nat)) ∧ w = w' := by
  have h1 := h.cell1
  go_enter Try.func90, Try.ntmps90
  go_wp2_with fail
  go_ret
  exact ⟨rfl, rfl⟩
theorem left_any (g : Nat) (A : Option Addr) (n c : Nat) (bs : List UInt8) (e : Nat) (w : World) (h : Rdr w g A n c bs e) :
    Calls Try.prog 58 #[.pointer (some ⟨g, 0, none⟩)] w fun r w' => r = .returned (.int .i64 (n : Nat)) ∧ w = w' := by
  have h1 := h.cell0
  go_enter Try.func58, Try.ntmps58
  go_wp2_with fail
  go_ret
  exact ⟨rfl, rfl⟩
theorem err_nil (w : World) : Calls Try.prog 90 #[.pointer none] w fun r w' => r = .returned (.int .i64 1) ∧ w = w' := by
  go_enter Try.func90, Try.ntmps90
  go_wp2_with fail
  go_ret
  exact ⟨rfl, rfl⟩
/-- a fault, as a panic's value -/
abbrev fault (x : Int) : Value := .iface 157 (.agg #[.int .i64 x])
theorem pass_neg (k : Int) (g : Nat) (w : World) (hk : k < 0) :
    Calls Try.prog 87 #[.pointer (some ⟨g, 0, none⟩), .int .i64 k] w fun r w' => r = .panicked [{ v := fault 2, recovered := false }] ∧ w = w' := by
  have hd : decide (k < 0) = true := decide_eq_true (by omega)
  go_enter Try.func87, Try.ntmps87
  go_wp2
  exact ⟨rfl, rfl, rfl⟩
theorem pass_short (k : Nat) (g : Nat) (A : Option Addr) (n c : Nat) (bs : List UInt8) (e : Nat) (w : World) (hR : Rdr w g A n c bs e) (hk : n < k) :
    Calls Try.prog 87 #[.pointer (some ⟨g, 0, none⟩), .int .i64 k] w fun r w' => r = .panicked [{ v := fault 3, recovered := false }] ∧ w = w' := by
  have h1 := hR.cell0
  have hd : decide ((k : Int) < 0) = false := decide_eq_false (by omega)
  have hd1 : decide ((n : Int) < (k : Int)) = true := decide_eq_true (by omega)
  go_enter Try.func87, Try.ntmps87
  go_wp2
  exact ⟨rfl, rfl, rfl⟩
/-- The reader's slice with k bytes passed. -/
theorem Rdr.pass {w : World} {g : Nat} {A : Option Addr} {n c : Nat} {bs : List UInt8} {e : Nat} (h : Rdr w g A n c bs e) {k : Nat} (hk : k ≤ n) :
    (c = k → Rdr (w.setCell ⟨g, 0, none⟩ (.slice A (n - k) 0)) g A (n - k) 0 (bs.drop k) e) ∧
    (¬ c = k → Rdr (w.setCell ⟨g, 0, none⟩ (.slice (A.map fun x => x.add k) (n - k) (c - k))) g (A.map fun x => x.add k) (n - k) (c - k) (bs.drop k) e) := by
  obtain ⟨h1, h2, h3, h4⟩ := h
  have hh : ∀ u, (w.setCell ⟨g, 0, none⟩ u).heap[g]? = some (.cells #[u, .int .i64 (e : Nat)] 134 (0, 0)) := by
    intro u
    simp [World.setCell, Array.getElem?_modify, h1]
  refine ⟨fun hc => ⟨hh _, ⟨by rw [List.length_drop, h2.1], ?_⟩, by omega, Nat.zero_le _⟩, fun hc => ⟨hh _, ?_, by omega, by omega⟩⟩
  · have : bs.drop k = [] := List.drop_eq_nil_of_le (by have := h2.1; omega)
    rw [this]
    exact Rd.nil _ _ _
  · have := h2.drop k
    exact ⟨this.1, this.2.setCell (Nat.le_refl _) _⟩
def Passed (w : World) (g k : Nat) (A : Option Addr) (c : Nat) (bs : List UInt8) (e : Nat) (r : Ending) (w' : World) : Prop :=
  ∃ A' n' c' u, r = .returned (.slice A k c) ∧ w' = w.setCell ⟨g, 0, none⟩ u ∧ Rdr w' g A' n' c' (bs.drop k) e
theorem pass_ok (k : Nat) (g : Nat) (A : Option Addr) (n c : Nat) (bs : List UInt8) (e : Nat) (w : World) (hR : Rdr w g A n c bs e) (hk : k ≤ n) :
    Calls Try.prog 87 #[.pointer (some ⟨g, 0, none⟩), .int .i64 k] w (Passed w g k A c bs e) := by
  have h1 := hR.cell0
  have h2 := hR.free 0
  have hn := hR.2.2.1
  have hm := hR.2.2.2
  have hp := Lib.hid (hR.pass hk)
  unfold maxLen at hm
  have hd : decide ((k : Int) < 0) = false := decide_eq_false (by omega)
  have hd1 : decide ((n : Int) < (k : Int)) = false := decide_eq_false (by omega)
  by_cases hck : c = k
  · subst hck
    obtain rfl : n = c := by omega
    have hp1 := hp.out.1 rfl
    rw [Nat.sub_self] at hp1
    have HP := Lib.hid hp1
    clear hp hp1
    go_enter Try.func87, Try.ntmps87
    go_wp2
    go_ret
    exact ⟨_, _, _, _, rfl, rfl, HP.out⟩
  · go_enter Try.func87, Try.ntmps87
    go_wp2
    go_ret
    exact ⟨_, _, _, _, rfl, rfl, hp.out.2 hck⟩

theorem i64_andNot128 : ∀ x : Fin 256, bits .andNot .i64 (x.val : Int) 128 = ((x.val % 128 : Nat) : Int) := by decide +kernel
/-- what 'number' leaves: a number and the rest; or a panic -/
def Numbered (w : World) (g : Nat) (bs : List UInt8) (r : Ending) (w' : World) : Prop :=
  w.grownBy w' (some g) ∧ w.heap.size = w'.heap.size ∧
  match Vint.dec bs with
  | .ok (n, rest) => r = .returned (.int .i64 (n : Nat)) ∧ ∃ A' c', Rdr w' g A' rest.length c' rest 0
  | .error x => r = .panicked [{ v := fault (x : Nat), recovered := false }] ∧ ∃ A' n' c' rest, Rdr w' g A' n' c' rest 0
theorem i64_or_nat (a b : Nat) (ha : a < 9223372036854775808) (hb : b < 9223372036854775808) : bits .or .i64 (a : Int) (b : Int) = ((a ||| b : Nat) : Int) := by
  have hx : a ||| b < 2 ^ 63 := Nat.or_lt_two_pow (by omega) (by omega)
  have hn : ∀ x : Nat, x < 9223372036854775808 → (BitVec.ofInt 64 (x : Int)).toNat = x := fun x hx => by
    rw [BitVec.ofInt_natCast, BitVec.toNat_ofNat]; exact Nat.mod_eq_of_lt (by omega)
  show IntKind.i64.wrap ((BitVec.ofInt 64 (a : Int) ||| BitVec.ofInt 64 (b : Int)).toNat : Int) = _
  rw [BitVec.toNat_or, hn a ha, hn b hb, IntKind.wrap_i64]
  omega
theorem pow128 (k : Nat) : (128 : Nat) ^ k = 2 ^ (7 * k) := by rw [show (128 : Nat) = 2 ^ 7 from rfl, ← Nat.pow_mul]
theorem or_shift (acc x k : Nat) (hacc : acc < 128 ^ k) (hk : k < 6) (hx : x < 128) : bits .or .i64 (acc : Int) (wrap64 ((x : Int) * 2 ^ (7 * k))) = ((acc + x * 128 ^ k : Nat) : Int) := by
  have h5 : 128 ^ k ≤ 128 ^ 5 := Nat.pow_le_pow_right (by decide) (by omega)
  have hm : x * 128 ^ k ≤ 127 * 128 ^ 5 := Nat.mul_le_mul (by omega) h5
  have e5 : (128 : Nat) ^ 5 = 34359738368 := by decide
  rw [e5] at h5 hm
  have e1 : ((x : Int) * 2 ^ (7 * k)) = ((x * 128 ^ k : Nat) : Int) := by rw [pow128]; push_cast; rfl
  rw [e1, IntWalk.wrap64_in _ ⟨by omega, by omega⟩, i64_or_nat _ _ (by omega) (by omega)]
  have e2 := Nat.shiftLeft_add_eq_or_of_lt (by rw [← pow128]; exact hacc : acc < 2 ^ (7 * k)) x
  rw [Nat.shiftLeft_eq, ← pow128] at e2
  rw [Nat.or_comm, ← e2, Nat.add_comm]
theorem passed_one {w wr w1 : World} {g : Nat} {A' : Option Addr} {n' c' : Nat} {x : UInt8} {rest : List UInt8} {u : Value} (hr : Rdr wr g A' n' c' (x :: rest) 0) (hg : w.grownBy wr (some g)) (hs : w.heap.size = wr.heap.size)
    (hw1 : w1 = wr.setCell ⟨g, 0, none⟩ u) : ∃ a, A' = some a ∧ w1.cell? a = some (bv x) ∧ w.grownBy w1 (some g) ∧ w.heap.size = w1.heap.size := by
  obtain ⟨a, hA, hab, hc⟩ := (hr.2.1).at_ (k := 0) (by simp)
  refine ⟨a, hA, ?_, by rw [hw1]; exact only_set hg _, by rw [hw1, hs]; simp [World.setCell]⟩
  rw [hw1, World.cell?_setCell_other _ _ _ _ (fun e => by rw [← e] at hab; exact absurd hab (Nat.lt_irrefl _))]
  simpa [Addr.add] using hc
set_option maxRecDepth 100000 in
theorem number_any (g : Nat) (A : Option Addr) (n c : Nat) (bs : List UInt8) (w : World) (hR : Rdr w g A n c bs 0) :
    Calls Try.prog 115 #[.pointer (some ⟨g, 0, none⟩)] w (Numbered w g bs) := by
  go_enter Try.func115, Try.ntmps115
  go_wp2_with fail
  go_loopw [3, 6] (fun v i wr => ∃ (k acc : Nat) (A' : Option Addr) (n' c' : Nat) (rest : List UInt8), k ≤ 6 ∧ i = .int .i64 k ∧ v = .int .i64 acc ∧ acc < 128 ^ k ∧ Vint.decF (6 - k) k acc rest = Vint.dec bs ∧
      Rdr wr g A' n' c' rest 0 ∧ w.grownBy wr (some g) ∧ w.heap.size = wr.heap.size) (fun _ i _ => 6 - (intOf i).toNat)
  case atStart => exact ⟨0, 0, A, n, c, bs, by omega, rfl, rfl, by decide, rfl, hR, World.grownBy.refl w _, rfl⟩
  case round =>
    obtain ⟨k, acc, A', n', c', rest, hk, rfl, rfl, hacc, hdec, hr, hg, hsz⟩ := hrel
    have HD := Lib.hid hdec
    have HZ := Lib.hid hsz
    clear hdec hsz
    by_cases hk6 : k = 6
    · subst hk6
      go_wp2
      refine ⟨rfl, hg, HZ.out, ?_⟩
      rw [← HD.out]
      exact ⟨rfl, _, _, _, _, hr⟩
    · have hlt : k < 6 := by omega
      rcases rest with _ | ⟨x, rest⟩
      · have hn0 := hr.2.1.1
        have H0 := Lib.hid hn0
        clear hn0
        go_wp2_with fail
        refine (pass_short 1 _ _ _ _ _ _ _ hr (by rw [H0.out]; simp)).mono ?_
        rintro e w1 ⟨rfl, rfl⟩
        refine ⟨rfl, hg, HZ.out, ?_⟩
        rw [← HD.out]
        obtain ⟨m, hm⟩ : ∃ m, 6 - k = m + 1 := ⟨5 - k, by omega⟩
        rw [hm]
        exact ⟨rfl, _, _, _, _, hr⟩
      · have hn' := hr.2.1.1
        have hx := x.toNat_lt
        have ea := i64_andNot128 ⟨x.toNat, hx⟩
        simp only at ea
        obtain ⟨N, hN⟩ : ∃ N, N = acc + x.toNat % 128 * 128 ^ k := ⟨_, rfl⟩
        have eo := or_shift acc (x.toNat % 128) k hacc hlt (by omega)
        rw [← hN] at eo
        rw [show ((x.toNat % 128 : Nat) : Int) = (x.toNat : Int) % 128 from rfl] at eo
        have hNb : N < 128 ^ (k + 1) := by
          rw [hN, Nat.pow_succ]
          have : x.toNat % 128 * 128 ^ k ≤ 127 * 128 ^ k := Nat.mul_le_mul_right _ (by omega)
          omega
        have h6 : 128 ^ (k + 1) ≤ 128 ^ 6 := Nat.pow_le_pow_right (by decide) (by omega)
        have e6 : (128 : Nat) ^ 6 = 4398046511104 := by decide
        rw [e6] at h6
        have hNt : N < 4398046511104 := by omega
        clear h6 e6
        have HNN := Lib.hid hN
        clear hN
        obtain ⟨m, hm⟩ : ∃ m, 6 - k = m + 1 := ⟨5 - k, by omega⟩
        have hdr : List.drop 1 (x :: rest) = rest := rfl
        by_cases h128 : 128 ≤ x.toNat
        · go_wp2_with fail
          refine (pass_ok 1 _ _ _ _ _ _ _ hr (by rw [hn']; simp)).mono ?_
          rintro e w1 ⟨A2, n2, c2, u, rfl, hw1, hr2⟩
          rw [hdr] at hr2
          obtain ⟨a, hA, hc1, hg1, hs1⟩ := passed_one hr hg HZ.out hw1
          subst hA
          have HS := Lib.hid hs1
          have HM := Lib.hid hm
          clear hw1 hn' hdr hs1 hm
          go_wp2_with fail
          go_roundw
          case rel =>
            refine ⟨k + 1, N, _, _, _, _, by omega, by go_num, rfl, hNb, ?_, hr2, hg1, HS.out⟩
            rw [← HD.out, HM.out, show 6 - (k + 1) = m by have := HM.out; omega]
            conv => rhs; unfold Vint.decF
            rw [if_pos h128, HNN.out]
          case measure => simp [intOf]; omega
        · have hxm : x.toNat % 128 = x.toNat := Nat.mod_eq_of_lt (by omega)
          have hdec2 : Vint.dec bs = if Vint.top < N ∨ (x.toNat = 0 ∧ 0 < k) then .error 4 else .ok (N, rest) := by
            rw [← HD.out, hm]
            conv => lhs; unfold Vint.decF
            rw [if_neg h128, HNN.out, hxm]
          have HD2 := Lib.hid hdec2
          have hd8 : decide ((128 : Int) ≤ (x.toNat : Int)) = false := decide_eq_false (by omega)
          have HM := Lib.hid hm
          clear hdec2 hxm hm HD
          by_cases hb : 1099511627776 < N
          · have HB := Lib.hid (HD2.out.trans (if_pos (.inl hb)))
            have ht : decide ((1099511627776 : Int) < (N : Int)) = true := decide_eq_true (by omega)
            clear HD2
            go_wp2_with fail
            refine (pass_ok 1 _ _ _ _ _ _ _ hr (by rw [hn']; simp)).mono ?_
            rintro e w1 ⟨A2, n2, c2, u, rfl, hw1, hr2⟩
            rw [hdr] at hr2
            obtain ⟨a, hA, hc1, hg1, hs1⟩ := passed_one hr hg HZ.out hw1
            subst hA
            have HS := Lib.hid hs1
            clear hw1 hn' hdr hs1
            go_wp2
            refine ⟨rfl, hg1, HS.out, ?_⟩
            rw [HB.out]
            exact ⟨rfl, _, _, _, _, hr2⟩
          · have ht : decide ((1099511627776 : Int) < (N : Int)) = false := decide_eq_false (by omega)
            have HNT : ¬ Vint.top < N := hb
            by_cases hx0 : x.toNat = 0
            · have hxe : ((x.toNat : Int) == 0) = true := by rw [hx0]; rfl
              by_cases hk0 : k = 0
              · rw [if_neg (fun h => by rcases h with h | h <;> omega)] at HD2
                have hkd : decide (0 < k) = false := decide_eq_false (by omega)
                have hk00 := Lib.hid hk0
                clear hk0
                have hx00 := Lib.hid hx0
                clear hx0
                go_wp2_with fail
                refine (pass_ok 1 _ _ _ _ _ _ _ hr (by rw [hn']; simp)).mono ?_
                rintro e w1 ⟨A2, n2, c2, u, rfl, hw1, hr2⟩
                rw [hdr] at hr2
                obtain ⟨a, hA, hc1, hg1, hs1⟩ := passed_one hr hg HZ.out hw1
                subst hA
                have HS := Lib.hid hs1
                clear hw1 hn' hdr hs1
                go_wp2
                go_ret
                refine ⟨hg1, HS.out, ?_⟩
                rw [HD2.out]
                have := hr2.2.1.1
                subst this
                exact ⟨rfl, _, _, hr2⟩
              · have HB := Lib.hid (HD2.out.trans (if_pos (.inr ⟨hx0, by omega⟩)))
                have hkd : 0 < k := by omega
                have hx00 := Lib.hid hx0
                clear HD2 hx0
                go_wp2_with fail
                refine (pass_ok 1 _ _ _ _ _ _ _ hr (by rw [hn']; simp)).mono ?_
                rintro e w1 ⟨A2, n2, c2, u, rfl, hw1, hr2⟩
                rw [hdr] at hr2
                obtain ⟨a, hA, hc1, hg1, hs1⟩ := passed_one hr hg HZ.out hw1
                subst hA
                have HS := Lib.hid hs1
                clear hw1 hn' hdr hs1
                go_wp2
                refine ⟨rfl, hg1, HS.out, ?_⟩
                rw [HB.out]
                exact ⟨rfl, _, _, _, _, hr2⟩
            · have hxe : ((x.toNat : Int) == 0) = false := by rw [beq_eq_false_iff_ne]; omega
              rw [if_neg (fun h => by rcases h with h | h <;> omega)] at HD2
              go_wp2_with fail
              refine (pass_ok 1 _ _ _ _ _ _ _ hr (by rw [hn']; simp)).mono ?_
              rintro e w1 ⟨A2, n2, c2, u, rfl, hw1, hr2⟩
              rw [hdr] at hr2
              obtain ⟨a, hA, hc1, hg1, hs1⟩ := passed_one hr hg HZ.out hw1
              subst hA
              have HS := Lib.hid hs1
              clear hw1 hn' hdr hs1
              go_wp2
              go_ret
              refine ⟨hg1, HS.out, ?_⟩
              rw [HD2.out]
              have := hr2.2.1.1
              subst this
              exact ⟨rfl, _, _, hr2⟩
end Go.Proofs.Ytcgalmnllegnbaa

/- The walks of a reader's 'reading' (a panic is caught) and Int. -/
namespace Go.Proofs.Ytcgalmnllegnbaa
set_option linter.unusedVariables false
set_option linter.unusedSimpArgs false
set_option maxRecDepth 100000
open Go.RowKit

theorem frame20 (a b f : Value) : (#[a, b] ++ (Array.replicate 18 undef).setIfInBounds 3 f : Array Value) = #[a, b, undef, undef, undef, f, undef, undef, undef, undef, undef, undef, undef, undef, undef, undef, undef, undef, undef, undef] := by kernel_rfl
theorem assert_fault (x : Int) (w : World) : (Instr.typeAssert (fault x) 20 157 true).run Try.prog w = .ok (.tuple #[.agg #[.int .i64 x], .bool true]) w := by kernel_rfl
theorem caught_panic (g b0 b1 : Nat) (x : Int) (older : List PanicEntry) (A : Option Addr) (n c : Nat) (v1 v2 : Value) (w : World) (hq : w.cell? ⟨b1, 0, none⟩ = some (.pointer (some ⟨g, 0, none⟩))) (hp : w.cell? ⟨b0, 0, none⟩ = some (.slice A n c)) (h0 : w.cell? ⟨g, 0, none⟩ = some v1) (h1 : w.cell? ⟨g, 1, none⟩ = some v2)
    (hf : ∀ i, w.frozen? ⟨g, i, none⟩ = false) :
    CallsD Try.prog 113 #[.pointer (some ⟨b0, 0, none⟩), .pointer (some ⟨b1, 0, none⟩)] (.panicking ({ v := fault x, recovered := false } :: older)) w fun e u' w' =>
      e = .returned (.tuple #[]) ∧ u' = .panicking ({ v := fault x, recovered := true } :: older) ∧ w' = (((w.setCell ⟨g, 0, none⟩ (.slice A n c)).setCell ⟨g, 1, none⟩ (.int .i64 x)).alloc (.cells #[.int .i64 x] 157)).drew := by
  have hf0 := hf 0
  have hf1 := hf 1
  clear hf
  have ta := assert_fault x
  have lt0 := World.block_lt_of_cell? w _ h0
  have lt1 := World.block_lt_of_cell? w _ hq
  have lt2 := World.block_lt_of_cell? w _ hp
  refine callsD_of_wpS Try.func113 rfl fun c₀ cs hu => ?_
  apply wpS_seq
  apply wpS_region
  simp [wpOpsS, go_sem, recoverD, hu, Try.ntmps113, Exit.thenS]
  refine wpS_of_wp ?_
  rw [frame20]
  go_wp2_with fail
  go_region
  go_wp2_with fail
  simp [bodyPostS, results, Try.results113]
theorem caught_none (b0 b1 : Nat) (w : World) :
    CallsD Try.prog 113 #[.pointer (some ⟨b0, 0, none⟩), .pointer (some ⟨b1, 0, none⟩)] .returning w fun e u' w' => e = .returned (.tuple #[]) ∧ u' = .returning ∧ w' = w := by
  refine callsD_of_wpS Try.func113 rfl fun c₀ cs hu => ?_
  apply wpS_seq
  apply wpS_region
  simp [wpOpsS, go_sem, recoverD, hu, Try.ntmps113, Exit.thenS]
  refine wpS_of_wp ?_
  rw [frame20]
  go_wp2_with fail
  cases c₀
  simp_all [bodyPostS, results, Try.results113]

/-- The closure that Int hands to reading: a number. -/
theorem int1_ok (g b1 b2 m : Nat) (A : Option Addr) (n c : Nat) (bs rest : List UInt8) (v : Value) (w : World) (hR : Rdr w g A n c bs 0) (hd : Vint.dec bs = .ok (m, rest)) (h1 : w.cell? ⟨b1, 0, none⟩ = some (.pointer (some ⟨g, 0, none⟩))) (h2 : w.cell? ⟨b2, 0, none⟩ = some v) (hf : w.frozen? ⟨b2, 0, none⟩ = false) (hb : g ≠ b2) :
    Calls Try.prog 114 #[.pointer (some ⟨b1, 0, none⟩), .pointer (some ⟨b2, 0, none⟩)] w fun e w' => e = .returned (.tuple #[]) ∧
      ∃ w1 A' c', w.grownBy w1 (some g) ∧ w.heap.size = w1.heap.size ∧ Rdr w1 g A' rest.length c' rest 0 ∧ w' = w1.setCell ⟨b2, 0, none⟩ (.int .i64 m) := by
  have HD := Lib.hid hd
  clear hd
  go_enter Try.func114, Try.ntmps114
  go_wp2_with fail
  refine (number_any _ _ _ _ _ _ hR).mono ?_
  rintro e w1 ⟨hg, hs, hm⟩
  rw [HD.out] at hm
  obtain ⟨rfl, A', c', hR'⟩ := hm
  have e2 := hg.block b2 (World.block_lt_of_cell? w _ h2) (fun e => hb (by injection e with e; exact e.symm))
  have h2' : w1.cell? ⟨b2, 0, none⟩ = some v := (World.cell?_of_block (a := ⟨b2, 0, none⟩) e2).trans h2
  have hf' : w1.frozen? ⟨b2, 0, none⟩ = false := (World.frozen?_of_block (a := ⟨b2, 0, none⟩) e2).trans hf
  have HS := Lib.hid hs
  clear hs e2
  go_wp2_with fail
  go_end0
  exact ⟨rfl, w1, A', c', hg, HS.out, hR', rfl⟩
theorem int1_bad (g b1 b2 x : Nat) (A : Option Addr) (n c : Nat) (bs : List UInt8) (w : World) (hR : Rdr w g A n c bs 0) (hd : Vint.dec bs = .error x) (h1 : w.cell? ⟨b1, 0, none⟩ = some (.pointer (some ⟨g, 0, none⟩))) :
    Calls Try.prog 114 #[.pointer (some ⟨b1, 0, none⟩), .pointer (some ⟨b2, 0, none⟩)] w fun e w' => e = .panicked [{ v := fault (x : Nat), recovered := false }] ∧
      ∃ A' n' c' rest, w.grownBy w' (some g) ∧ w.heap.size = w'.heap.size ∧ Rdr w' g A' n' c' rest 0 := by
  have HD := Lib.hid hd
  clear hd
  go_enter Try.func114, Try.ntmps114
  go_wp2_with fail
  refine (number_any _ _ _ _ _ _ hR).mono ?_
  rintro e w1 ⟨hg, hs, hm⟩
  rw [HD.out] at hm
  obtain ⟨rfl, A', n', c', rest, hR'⟩ := hm
  have HS := Lib.hid hs
  clear hs
  go_wp2_with fail
  exact ⟨rfl, rfl, A', n', c', rest, hg, HS.out, hR'⟩

theorem reading_fail (g e : Nat) (A : Option Addr) (n c : Nat) (bs : List UInt8) (w : World) (hR : Rdr w g A n c bs e) (he : e ≠ 0) (f : Value) :
    Calls Try.prog 85 #[.pointer (some ⟨g, 0, none⟩), f] w fun r w' => r = .returned (.tuple #[]) ∧ Below w.heap.size w w' := by
  have h1 := hR.cell1
  have hlt := hR.lt
  have hne : ((e : Int) != 0) = true := by rw [bne_iff_ne]; omega
  go_enter_defers Try.func85, Try.ntmps85
  go_wp2_with fail
  exact ⟨_, results_none rfl _ _ _, rfl, (Below.refl _ _).alloc (Nat.le_refl _) _⟩
/-- the world in which reading calls what it was handed -/
def readW (w : World) (g : Nat) (A : Option Addr) (n c : Nat) : World := (w.alloc (.cells #[.pointer (some ⟨g, 0, none⟩)] 96)).alloc (.cells #[.slice A n c] 31)
/-- the world behind a panic that was caught -/
def backW (w : World) (g : Nat) (A : Option Addr) (n c : Nat) (x : Int) : World := (((w.setCell ⟨g, 0, none⟩ (.slice A n c)).setCell ⟨g, 1, none⟩ (.int .i64 x)).alloc (.cells #[.int .i64 x] 157)).drew
def ReadDone (g : Nat) (A : Option Addr) (n c : Nat) (R : Ending → World → Prop) (r : Ending) (w' : World) : Prop :=
  r = .returned (.tuple #[]) ∧ (R (.returned (.tuple #[])) w' ∨ ∃ x w1, R (.panicked [{ v := fault x, recovered := false }]) w1 ∧ w' = backW w1 g A n c x)
theorem reading_any (g k : Nat) (cap : Array Value) (A : Option Addr) (n c : Nat) (bs : List UInt8) (w : World) (hR : Rdr w g A n c bs 0) (R : Ending → World → Prop)
    (hk : ∀ args w, (callFunc k args).run Try.prog w = .ok (.enter k args) w)
    (hdo : Calls Try.prog k cap (readW w g A n c) R)
    (hend : ∀ e w1, R e w1 → e = .returned (.tuple #[]) ∨ ∃ x A' n' c' rest, e = .panicked [{ v := fault x, recovered := false }] ∧ (readW w g A n c).grownBy w1 (some g) ∧ Rdr w1 g A' n' c' rest 0) :
    Calls Try.prog 85 #[.pointer (some ⟨g, 0, none⟩), .func (.func k) #[] cap] w (ReadDone g A n c R) := by
  have hc0 := hR.cell0
  have hc1 := hR.cell1
  have hlt := hR.lt
  have HD := Lib.hid hdo
  have HE := Lib.hid hend
  clear hdo hend
  have hmf : ∀ (fn : Fn) (first cap : Array Value) (w : World), (Instr.makeFunc fn first cap).run Try.prog w = .ok (.func fn first cap) w := fun _ _ _ _ => rfl
  go_enter_defers Try.func85, Try.ntmps85
  go_wp2_with fail
  refine (show Calls Try.prog k cap (readW w g A n c) R from HD.out).mono ?_
  intro e w1 hr
  rcases HE.out _ _ hr with rfl | ⟨x, A', n', c', rest, rfl, hg, hR1⟩
  · have HR := Lib.hid hr
    clear hr
    go_wp2_with fail
    refine leaves_cons (f := 113) (args := #[.pointer (some ⟨w.heap.size + 1, 0, none⟩), .pointer (some ⟨w.heap.size, 0, none⟩)]) (by simp) (by simp [go_sem]) ?_
    refine (caught_none _ _ _).mono ?_
    rintro e u' w'' ⟨rfl, rfl, rfl⟩
    exact ⟨_, results_none rfl _ _ _, rfl, .inl HR.out⟩
  · have HR := Lib.hid hr
    clear hr
    go_wp2_with fail
    refine leaves_cons (f := 113) (args := #[.pointer (some ⟨w.heap.size + 1, 0, none⟩), .pointer (some ⟨w.heap.size, 0, none⟩)]) (by simp) (by simp [go_sem]) ?_
    have z1 : (readW w g A n c).heap.size = w.heap.size + 2 := by simp [readW]
    have z2 : (readW w g A n c).cell? ⟨w.heap.size, 0, none⟩ = some (.pointer (some ⟨g, 0, none⟩)) := by simp [readW, go_sem]
    have z3 : (readW w g A n c).cell? ⟨w.heap.size + 1, 0, none⟩ = some (.slice A n c) := by simp [readW, go_sem]
    have b1 := hg.block w.heap.size (by omega) (fun e => by injection e; omega)
    have b2 := hg.block (w.heap.size + 1) (by omega) (fun e => by injection e; omega)
    refine (caught_panic g _ _ x [] A n c _ _ _ ((World.cell?_of_block (a := ⟨w.heap.size, 0, none⟩) b1).trans z2) ((World.cell?_of_block (a := ⟨w.heap.size + 1, 0, none⟩) b2).trans z3) hR1.cell0 hR1.cell1 hR1.free).mono ?_
    rintro e u' w'' ⟨rfl, rfl, rfl⟩
    exact ⟨_, results_none rfl _ _ _, rfl, .inr ⟨x, w1, HR.out, rfl⟩⟩

theorem readW_below (w : World) (g : Nat) (A : Option Addr) (n c : Nat) : Below w.heap.size w (readW w g A n c) := ((Below.refl _ _).alloc (Nat.le_refl _) _).alloc (by simp) _
theorem backW_only {a w : World} {g : Nat} (h : a.grownBy w (some g)) (A : Option Addr) (n c : Nat) (x : Int) : a.grownBy (backW w g A n c x) (some g) := only_drew (only_alloc (only_set (only_set h _) _) _)
theorem backW_blk {w : World} {g b : Nat} {t : TypeId} {cs : Array Value} (h : Blk w b t cs) (hne : b ≠ g) (A : Option Addr) (n c : Nat) (x : Int) : Blk (backW w g A n c x) b t cs :=
  ((h.far (p := ⟨g, 0, none⟩) hne _).far (p := ⟨g, 1, none⟩) hne _).alloc _
theorem backW_rdr {w : World} {g n c n' c' : Nat} {A A' : Option Addr} {bs rest : List UInt8} (h : Rdr w g A' n' c' rest 0) (hb : RdB w g A n bs) (hn : n ≤ c) (hc : c ≤ maxLen) (x : Nat) : Rdr (backW w g A n c x) g A n c bs x := by
  have h0 : Blk w g 134 #[.slice A' n' c', .int .i64 (0 : Nat)] := h.1
  have h1 := (((h0.set_ 0 (.slice A n c)).set_ 1 (.int .i64 x)).alloc (.cells #[.int .i64 x] 157)).drew
  refine ⟨h1, ⟨hb.1, ?_⟩, hn, hc⟩
  exact ((hb.2.setCell (p := ⟨g, 0, none⟩) (Nat.le_refl _) _).setCell (p := ⟨g, 1, none⟩) (Nat.le_refl _) _).alloc (by have := h.lt; simp [World.setCell]; omega) _
theorem Rdr.only {w w' : World} {g : Nat} {A : Option Addr} {n : Nat} {bs : List UInt8} (hb : RdB w g A n bs) (hg : w.grownBy w' (some g)) (h : g < w.heap.size) : RdB w' g A n bs :=
  ⟨hb.1, hb.2.keep fun p hp => World.cell?_of_block (hg.block p.block (by omega) (fun e => by injection e; omega))⟩
/-- Another reader's block may turn. -/
theorem Rdr.far {w w' : World} {g h : Nat} {A A' : Option Addr} {n c n' c' : Nat} {bs bs' : List UInt8} {e e' : Nat} (hR : Rdr w g A n c bs e) (hH : Rdr w h A' n' c' bs' e') (hne : g ≠ h) (hg : w.grownBy w' (some h)) : Rdr w' g A n c bs e := by
  have hb : Blk w h 134 #[.slice A' n' c', .int .i64 (e' : Nat)] := hH.1
  refine ⟨(hg.block g hR.lt (fun e => hne (by injection e))).trans hR.1, ⟨hR.2.1.1, fun j u hu => ?_⟩, hR.2.2⟩
  obtain ⟨a, ha, hab, hc⟩ := hR.2.1.2 j u hu
  have hlt := World.block_lt_of_cell? w _ hc
  refine ⟨a, ha, hab, (World.cell?_of_block (hg.block _ hlt (fun e => ?_))).trans hc⟩
  have e1 : (a.add j).block = h := by injection e
  obtain ⟨x, hx⟩ : ∃ x, u = bv x := by
    have hj := List.mem_of_getElem? hu
    obtain ⟨x, _, rfl⟩ := List.mem_map.1 hj
    exact ⟨x, rfl⟩
  subst hx
  have h1 : w.heap[(a.add j).block]? = some (.cells #[.slice A' n' c', .int .i64 (e' : Nat)] 134 (0, 0)) := by rw [e1]; exact hb
  unfold World.cell? at hc
  rw [h1] at hc
  simp only at hc
  split at hc
  · cases hc
  · generalize (a.add j).off = q at hc
    match q, hc with
    | 0, hc => simp at hc
    | 1, hc => simp at hc
    | q + 2, hc => simp at hc
/-- A reader's step: Int. -/
def IntDone (w : World) (g : Nat) (bs : List UInt8) (e : Nat) (r : Ending) (w' : World) : Prop :=
  r = .returned (.int .i64 ((Vint.intM bs e).1 : Nat)) ∧ w.grownBy w' (some g) ∧ ∃ A' c', Rdr w' g A' (Vint.intM bs e).2.1.length c' (Vint.intM bs e).2.1 (Vint.intM bs e).2.2
/-- what Int's last statements leave: the result's own variable is read and stored again -/
theorem int_tail {w w2 : World} {g m : Nat} {A' : Option Addr} {n' c' : Nat} {bs' : List UInt8} {e' : Nat} (hlt : g < w.heap.size) (hr : Rdr w2 g A' n' c' bs' e') (hg : w.grownBy w2 (some g)) :
    w.grownBy (w2.setCell ⟨w.heap.size + 1, 0, none⟩ (.int .i64 m)) (some g) ∧ Rdr (w2.setCell ⟨w.heap.size + 1, 0, none⟩ (.int .i64 m)) g A' n' c' bs' e' :=
  ⟨only_new hg (by show _ ≤ w.heap.size + 1; omega) _, hr.below ((Below.refl _ _).setCell (by show _ ≤ w.heap.size + 1; omega) _)⟩
theorem int_any (g : Nat) (A : Option Addr) (n c : Nat) (bs : List UInt8) (e : Nat) (w : World) (hR : Rdr w g A n c bs e) :
    Calls Try.prog 88 #[.pointer (some ⟨g, 0, none⟩)] w (IntDone w g bs e) := by
  obtain rfl := hR.2.1.1
  have hlt := hR.lt
  have hmf : ∀ (fn : Fn) (first cap : Array Value) (w : World), (Instr.makeFunc fn first cap).run Try.prog w = .ok (.func fn first cap) w := fun _ _ _ _ => rfl
  have hck : ∀ args w, (callFunc 114 args).run Try.prog w = .ok (.enter 114 args) w := by
    intro args w
    simp [go_sem]
  obtain ⟨W, hW⟩ : ∃ W, W = (w.alloc (.cells #[.pointer (some ⟨g, 0, none⟩)] 96)).alloc (.cells #[.int .i64 0] 3) := ⟨_, rfl⟩
  have hBW : Below w.heap.size w W := by rw [hW]; exact ((Below.refl _ _).alloc (Nat.le_refl _) _).alloc (by simp) _
  have hRW : Rdr W g A bs.length c bs e := hR.below (hBW.mono (by omega))
  have q1 : Blk W w.heap.size 96 #[.pointer (some ⟨g, 0, none⟩)] := by rw [hW]; exact (Blk.new w _ _).alloc _
  have q2 : Blk W (w.heap.size + 1) 3 #[.int .i64 0] := by rw [hW]; have := Blk.new (w.alloc (.cells #[.pointer (some ⟨g, 0, none⟩)] 96)) 3 #[.int .i64 0]; simpa using this
  have q4 : W.heap.size = w.heap.size + 2 := by rw [hW]; simp
  have hGW : w.grownBy W (some g) := only_of_below hBW _
  have HW := Lib.hid hW
  have Q4 := Lib.hid q4
  clear hW q4
  by_cases he : e = 0
  · subst he
    have y1 := (readW_below W g A bs.length c)
    have y2 := hRW.below (y1.mono (by have := Q4.out; omega))
    have y3 := q1.below y1 q1.lt
    have y4 := q2.below y1 q2.lt
    have y6 : w.grownBy (readW W g A bs.length c) (some g) := only_of_below (hBW.trans (y1.mono (by have := Q4.out; omega))) _
    have hne : some g ≠ some (w.heap.size + 1) := fun e => by injection e; omega
    rcases hd : Vint.dec bs with x | ⟨m, rest⟩
    · have hI := Vint.intM_bad hd
      have HI := Lib.hid hI
      have HD := Lib.hid hd
      clear hI hd
      go_enter Try.func88, Try.ntmps88
      go_wp2_with fail
      rw [← HW.out]
      refine (reading_any g _ _ A _ c bs W hRW _ hck (int1_bad g _ _ x A _ c bs _ y2 HD.out (y3.cell 0)) ?_).mono ?_
      · rintro e' w1 ⟨rfl, A', n', c', rest, z1, z2, z3⟩
        exact .inr ⟨_, A', n', c', rest, rfl, z1, z3⟩
      rintro e' w2 ⟨rfl, hr⟩
      rcases hr with ⟨h, _⟩ | ⟨x', w1, ⟨hx, A', n', c', rest, z1, z2, z3⟩, rfl⟩
      · cases h
      · obtain rfl : x' = x := by injection hx with h; injection h with h; injection h with h; injection h with _ h; injection h with h; injection h with h; injection h with h; injection h
        have c1 := (backW_blk (y4.grown z1 hne) (fun e => hne (by rw [e])) A bs.length c x)
        have r2 : Rdr (backW w1 g A bs.length c x) g A bs.length c bs x := backW_rdr z3 (Rdr.only y2.2.1 z1 y2.lt) hR.2.2.1 hR.2.2.2 x
        have g2 := backW_only (y6.trans z1) A bs.length c x
        generalize backW w1 g A bs.length c x = w2 at *
        have c2 := c1.cell 0
        have c3 := c1.free 0
        have HT := Lib.hid (int_tail (m := 0) hlt r2 g2)
        go_wp2_with fail
        refine bodyPost_ret (v := .int .i64 0) (by simp [results, Try.results88, go_sem, c2]) rfl ?_
        unfold IntDone
        rw [HI.out]
        exact ⟨rfl, HT.out.1, A, c, HT.out.2⟩
    · have hI := Vint.intM_ok hd
      have HI := Lib.hid hI
      have HD := Lib.hid hd
      clear hI hd
      go_enter Try.func88, Try.ntmps88
      go_wp2_with fail
      rw [← HW.out]
      refine (reading_any g _ _ A _ c bs W hRW _ hck (int1_ok g _ _ m A _ c bs rest _ _ y2 HD.out (y3.cell 0) (y4.cell 0) (y4.free 0) (fun e => hne (by rw [e]))) ?_).mono ?_
      · rintro e' w1 ⟨rfl, h⟩
        exact .inl rfl
      rintro e' w2 ⟨rfl, hr⟩
      rcases hr with ⟨_, w1, A', c', z1, z2, z3, rfl⟩ | ⟨x', w1, ⟨hx, _⟩, rfl⟩
      · have c1 := (y4.grown z1 hne).set_ 0 (.int .i64 m)
        have ht := int_tail (m := m) hlt z3 (y6.trans z1)
        obtain ⟨t1, t2⟩ := ht
        generalize w1.setCell ⟨w.heap.size + 1, 0, none⟩ (.int .i64 m) = w2 at *
        have c2 := c1.cell 0
        have c3 := c1.free 0
        have HT := Lib.hid (int_tail (m := m) hlt t2 t1)
        go_wp2_with fail
        refine bodyPost_ret (v := .int .i64 m) (by simp [results, Try.results88, go_sem, c2]) rfl ?_
        unfold IntDone
        rw [HI.out]
        exact ⟨rfl, HT.out.1, A', c', HT.out.2⟩
      · cases hx
  · have hI := Vint.intM_fail (l := bs) he
    have HI := Lib.hid hI
    clear hI
    go_enter Try.func88, Try.ntmps88
    go_wp2_with fail
    rw [← HW.out]
    refine (reading_fail g e A _ c bs W hRW he _).mono ?_
    rintro e' w2 ⟨rfl, hb2⟩
    have c1 := q2.below hb2 q2.lt
    have r2 := hRW.below (hb2.mono (by have := Q4.out; omega))
    have g2 : w.grownBy w2 (some g) := only_of_below (hBW.trans (hb2.mono (by have := Q4.out; omega))) _
    have c2 := c1.cell 0
    have c3 := c1.free 0
    have HT := Lib.hid (int_tail (m := 0) hlt r2 g2)
    go_wp2_with fail
    refine bodyPost_ret (v := .int .i64 0) (by simp [results, Try.results88, go_sem, c2]) rfl ?_
    unfold IntDone
    rw [HI.out]
    exact ⟨rfl, HT.out.1, A, c, HT.out.2⟩
end Go.Proofs.Ytcgalmnllegnbaa

/- The document's reader: its Int and Fail, as the plain law has them. -/
namespace Go.Proofs.Ytcgalmnllegnbaa
set_option linter.unusedVariables false
set_option linter.unusedSimpArgs false
set_option maxRecDepth 100000
open Go.RowKit
theorem intM_err {l : List UInt8} {e : Nat} (h : e ≠ 0) : Vint.intM l e = (0, l, e) := by unfold Vint.intM; rw [if_neg h]
theorem intM_small (l : List UInt8) (e : Nat) : (Vint.intM l e).2.2 ≠ 0 → (Vint.intM l e).1 = 0 := by
  unfold Vint.intM
  by_cases h : e = 0
  · rw [if_pos h]
    cases Vint.dec l with
    | error x => intro _; rfl
    | ok p => intro h; exact absurd rfl h
  · rw [if_neg h]; intro _; rfl
theorem intM_put {n : Nat} (h : n ≤ 1099511627776) (r : List UInt8) : Vint.intM (Vint.enc n ++ r) 0 = (n, r, 0) := by
  unfold Vint.intM
  rw [if_pos rfl, Vint.dec_enc (by unfold Vint.top; exact h)]
theorem intM_good {l : List UInt8} {e : Nat} (h : (Vint.intM l e).2.2 = 0) : e = 0 ∧ l = Vint.enc (Vint.intM l e).1 ++ (Vint.intM l e).2.1 ∧ (Vint.intM l e).1 ≤ 1099511627776 := by
  unfold Vint.intM at h ⊢
  by_cases he : e = 0
  · rw [if_pos he] at h ⊢
    cases hd : Vint.dec l with
    | error x =>
      rw [hd] at h
      have := Vint.dec_err hd
      simp only at h
      omega
    | ok p =>
      obtain ⟨n, r⟩ := p
      have := Vint.dec_ok hd
      exact ⟨he, this.1, this.2⟩
  · rw [if_neg he] at h
    exact absurd h he
theorem grown_on {a w w' : World} {b : Nat} {row : Option Nat} (h0 : a.grownBy w row) (h : w.grownBy w' (some b)) (hb : a.heap.size ≤ b) : a.grownBy w' row :=
  ⟨h.os.trans h0.os, h.tape.trans h0.tape, h.output.trans h0.output, Nat.le_trans h0.size h.size, fun k hk hne => (h.block k (Nat.lt_of_lt_of_le hk h0.size) (fun e => by injection e; omega)).trans (h0.block k hk hne)⟩
end Go.Proofs.Ytcgalmnllegnbaa

/- Plain laws: the set of bytes; no program in sight. -/
namespace Go.Proofs.Ytcgalmnllegnbaa
set_option linter.unusedVariables false
set_option linter.unusedSimpArgs false
set_option maxRecDepth 100000
open Dot
/-- so many numbers: what they are, what is left, how the reader stands -/
def rdI : Nat → List UInt8 → Nat → List Int × List UInt8 × Nat
  | 0, l, e => ([], l, e)
  | k + 1, l, e => ((rdI k l e).1 ++ [((Vint.intM (rdI k l e).2.1 (rdI k l e).2.2).1 : Int)], (Vint.intM (rdI k l e).2.1 (rdI k l e).2.2).2)
/-- a dot -/
def rdD1 (s : List UInt8 × Nat) : Dt × List UInt8 × Nat :=
  ((((Vint.intM s.1 s.2).1 : Int), ((Vint.intM (Vint.intM s.1 s.2).2.1 (Vint.intM s.1 s.2).2.2).1 : Int)), (Vint.intM (Vint.intM s.1 s.2).2.1 (Vint.intM s.1 s.2).2.2).2)
/-- up to so many dots -/
def rdDs : Nat → List UInt8 → Nat → List Dt × List UInt8 × Nat
  | 0, l, e => ([], l, e)
  | k + 1, l, e => if (rdDs k l e).2.2 = 0 then ((rdDs k l e).1 ++ [(rdD1 (rdDs k l e).2).1], (rdD1 (rdDs k l e).2).2) else rdDs k l e
def failM (n e : Nat) : Nat := if 768 < n then (if e = 0 then 6 else e) else e
/-- what is read of bytes -/
def rdU (bs : List UInt8) : List Int := (rdI 8 bs 0).1
def rdN (bs : List UInt8) : Nat × List UInt8 × Nat := Vint.intM (rdI 8 bs 0).2.1 (rdI 8 bs 0).2.2
def rdL (bs : List UInt8) : List Dt × List UInt8 × Nat := rdDs (rdN bs).1 (rdN bs).2.1 (failM (rdN bs).1 (rdN bs).2.2)
def getE (bs : List UInt8) : Nat := if (rdL bs).2.2 = 0 ∧ ((rdL bs).2.1 ≠ [] ∨ rightB (rdU bs) (rdL bs).1 = false) then 4 else (rdL bs).2.2
def getU (bs : List UInt8) : List Int := if getE bs = 0 then rdU bs else uptoS noG
def getL (bs : List UInt8) : List Dt := if getE bs = 0 then (rdL bs).1 else []
theorem rdI_len (l : List UInt8) (e : Nat) : ∀ k, (rdI k l e).1.length = k := by
  intro k
  induction k with
  | zero => rfl
  | succ k ih => rw [rdI, List.length_append, ih]; rfl
theorem rdDs_stuck (l : List UInt8) (e k : Nat) (h : (rdDs k l e).2.2 ≠ 0) : ∀ m, k ≤ m → rdDs m l e = rdDs k l e := by
  intro m
  induction m with
  | zero => intro hk; obtain rfl : k = 0 := by omega
            rfl
  | succ m ih =>
    intro hk
    by_cases e1 : k = m + 1
    · rw [e1]
    · have h1 := ih (by omega)
      rw [rdDs, if_neg (by rw [h1]; exact h), h1]
theorem rdI_put (U : List Int) (hb : ∀ x ∈ U, 0 ≤ x ∧ x ≤ 1099511627776) : ∀ k, k ≤ U.length → ∀ r, rdI k (encs (U.take k) ++ r) 0 = (U.take k, r, 0) := by
  intro k
  induction k with
  | zero => intro _ r; rfl
  | succ k ih =>
    intro hk r
    have hkl : k < U.length := by omega
    have hx := hb _ (List.getElem_mem hkl)
    have h1 := ih (by omega) (Vint.enc U[k].toNat ++ r)
    rw [encs_snoc U hkl, List.append_assoc, rdI, h1, intM_put (by omega), take_snoc U hkl]
    have : ((U[k].toNat : Nat) : Int) = U[k] := by omega
    simp only [this]
theorem rdDs_put (l : List Dt) (hb : ∀ x ∈ nums l, 0 ≤ x ∧ x ≤ 1099511627776) : ∀ k, k ≤ l.length → ∀ r, rdDs k (encs (nums (l.take k)) ++ r) 0 = (l.take k, r, 0) := by
  intro k
  induction k with
  | zero => intro _ r; rfl
  | succ k ih =>
    intro hk r
    have hkl : k < l.length := by omega
    have hm1 : l[k].1 ∈ nums l := by unfold nums; rw [List.mem_flatMap]; exact ⟨_, List.getElem_mem hkl, by simp⟩
    have hm2 : l[k].2 ∈ nums l := by unfold nums; rw [List.mem_flatMap]; exact ⟨_, List.getElem_mem hkl, by simp⟩
    have hx := hb _ hm1
    have hy := hb _ hm2
    have h1 := ih (by omega) (Vint.enc l[k].1.toNat ++ (Vint.enc l[k].2.toNat ++ r))
    rw [take_snoc l hkl, nums_snoc, encs_app, encs_two, List.append_assoc, List.append_assoc, rdDs, h1, if_pos rfl]
    unfold rdD1
    simp only
    rw [intM_put (by omega)]
    simp only
    rw [intM_put (by omega)]
    have e1 : ((l[k].1.toNat : Nat) : Int) = l[k].1 := by omega
    have e2 : ((l[k].2.toNat : Nat) : Int) = l[k].2 := by omega
    simp only [e1, e2]
theorem get_put {U : List Int} {l : List Dt} (hU : U.length = 8) (h : rightB U l = true) : rdU (encs (putL U l)) = U ∧ rdL (encs (putL U l)) = (l, [], 0) ∧ getE (encs (putL U l)) = 0 := by
  have hb := putL_bd h
  have hle := ((right_iff _ _).1 h).2.1
  have hub : ∀ x ∈ U, 0 ≤ x ∧ x ≤ 1099511627776 := fun x hx => hb x (by unfold putL; simp [hx])
  have hnb : ∀ x ∈ nums l, 0 ≤ x ∧ x ≤ 1099511627776 := fun x hx => hb x (by unfold putL; simp [hx])
  have e0 : encs (putL U l) = encs (U.take 8) ++ (Vint.enc l.length ++ (encs (nums (l.take l.length)) ++ [])) := by
    unfold putL
    rw [encs_app, encs_app, encs_one, Int.toNat_natCast, List.take_length, List.take_of_length_le (by omega), List.append_nil, List.append_assoc]
  have h1 := rdI_put U hub 8 (by omega) (Vint.enc l.length ++ (encs (nums (l.take l.length)) ++ []))
  rw [← e0, List.take_of_length_le (l := U) (by omega)] at h1
  have h2 : rdN (encs (putL U l)) = (l.length, encs (nums (l.take l.length)) ++ [], 0) := by
    unfold rdN
    rw [h1]
    exact intM_put (by omega) _
  have h3 : rdU (encs (putL U l)) = U := by unfold rdU; rw [h1]
  have h4 : rdL (encs (putL U l)) = (l, [], 0) := by
    unfold rdL
    rw [h2]
    simp only
    have hf : failM l.length 0 = 0 := by unfold failM; rw [if_neg (by omega)]
    rw [hf, rdDs_put l hnb l.length (Nat.le_refl _), List.take_length]
  refine ⟨h3, h4, ?_⟩
  unfold getE
  rw [h4, h3, if_neg (by simp [h])]
theorem rdI_good (b : List UInt8) : ∀ k, (rdI k b 0).2.2 = 0 → b = encs (rdI k b 0).1 ++ (rdI k b 0).2.1 := by
  intro k
  induction k with
  | zero => intro _; rfl
  | succ k ih =>
    intro h
    have h' : (Vint.intM (rdI k b 0).2.1 (rdI k b 0).2.2).2.2 = 0 := h
    obtain ⟨h1, h2, h3⟩ := intM_good h'
    have h4 := ih h1
    rw [rdI]
    simp only
    rw [encs_app, encs_one, Int.toNat_natCast, List.append_assoc, ← h2]
    exact h4
theorem rdDs_good (b : List UInt8) : ∀ k, (rdDs k b 0).2.2 = 0 → b = encs (nums (rdDs k b 0).1) ++ (rdDs k b 0).2.1 ∧ (rdDs k b 0).1.length = k := by
  intro k
  induction k with
  | zero => intro _; exact ⟨rfl, rfl⟩
  | succ k ih =>
    intro h
    by_cases h0 : (rdDs k b 0).2.2 = 0
    · obtain ⟨h4, h5⟩ := ih h0
      rw [rdDs, if_pos h0] at h ⊢
      have h' : (Vint.intM (Vint.intM (rdDs k b 0).2.1 (rdDs k b 0).2.2).2.1 (Vint.intM (rdDs k b 0).2.1 (rdDs k b 0).2.2).2.2).2.2 = 0 := h
      obtain ⟨h1, h2, h3⟩ := intM_good h'
      obtain ⟨g1, g2, g3⟩ := intM_good h1
      simp only
      rw [nums_snoc, encs_app, List.length_append, h5]
      refine ⟨?_, rfl⟩
      unfold rdD1
      simp only
      rw [encs_two, Int.toNat_natCast, Int.toNat_natCast, List.append_assoc, List.append_assoc, ← h2, ← g2]
      exact h4
    · rw [rdDs, if_neg h0] at h
      exact absurd h h0
theorem failM_zero {n e : Nat} (h : failM n e = 0) : e = 0 ∧ n ≤ 768 := by
  unfold failM at h
  by_cases h1 : 768 < n
  · rw [if_pos h1] at h
    by_cases h2 : e = 0
    · rw [if_pos h2] at h; omega
    · rw [if_neg h2] at h; exact absurd h h2
  · rw [if_neg h1] at h; exact ⟨h, by omega⟩
theorem rdDs_zero (b : List UInt8) (e : Nat) : ∀ k, (rdDs k b e).2.2 = 0 → e = 0 := by
  intro k
  induction k with
  | zero => exact id
  | succ k ih =>
    intro h
    by_cases h0 : (rdDs k b e).2.2 = 0
    · exact ih h0
    · rw [rdDs, if_neg h0] at h
      exact absurd h h0
/-- bytes that are a set's are put as they were -/
theorem put_get {b : List UInt8} (h : getE b = 0) : rightB (getU b) (getL b) = true ∧ encs (putL (getU b) (getL b)) = b ∧ (getU b).length = 8 := by
  have hU : getU b = rdU b := by unfold getU; rw [if_pos h]
  have hL : getL b = (rdL b).1 := by unfold getL; rw [if_pos h]
  rw [hU, hL]
  have hc : (rdL b).2.2 = 0 ∧ (rdL b).2.1 = [] ∧ rightB (rdU b) (rdL b).1 = true := by
    unfold getE at h
    by_cases h1 : (rdL b).2.2 = 0 ∧ ((rdL b).2.1 ≠ [] ∨ rightB (rdU b) (rdL b).1 = false)
    · rw [if_pos h1] at h; omega
    · rw [if_neg h1] at h
      refine ⟨h, ?_, ?_⟩
      · by_cases h2 : (rdL b).2.1 = []
        · exact h2
        · exact absurd ⟨h, .inl h2⟩ h1
      · cases h2 : rightB (rdU b) (rdL b).1 with
        | true => rfl
        | false => exact absurd ⟨h, .inr h2⟩ h1
  obtain ⟨c1, c2, c3⟩ := hc
  have d00 : rdL b = rdDs (rdN b).1 (rdN b).2.1 (failM (rdN b).1 (rdN b).2.2) := by rw [rdL]
  have c11 := c1
  rw [d00] at c11
  have f0 := rdDs_zero _ _ _ c11
  clear c11
  obtain ⟨f1, f2⟩ := failM_zero f0
  have d0 : rdL b = rdDs (rdN b).1 (rdN b).2.1 0 := by rw [d00, f0]
  clear d00
  have c1' : (rdDs (rdN b).1 (rdN b).2.1 0).2.2 = 0 := by rw [← d0]; exact c1
  obtain ⟨d1, d2⟩ := rdDs_good _ _ c1'
  rw [← d0] at d1 d2
  have hN : rdN b = Vint.intM (rdI 8 b 0).2.1 (rdI 8 b 0).2.2 := by rw [rdN]
  have f1' := f1
  rw [hN] at f1'
  obtain ⟨n1, n2, n3⟩ := intM_good f1'
  rw [← hN] at n2
  have hUu : rdU b = (rdI 8 b 0).1 := by rw [rdU]
  have i1 := rdI_good b 8 n1
  refine ⟨c3, ?_, by rw [hUu]; exact rdI_len b 0 8⟩
  unfold putL
  rw [encs_app, encs_app, encs_one, Int.toNat_natCast, d2, List.append_assoc]
  rw [c2, List.append_nil] at d1
  rw [← d1, ← n2, hUu]
  exact i1.symm
end Go.Proofs.Ytcgalmnllegnbaa

/- The walks of event's reader.number, reader.fail, reader.end. -/
namespace Go.Proofs.Ytcgalmnllegnbaa
set_option linter.unusedVariables false
set_option linter.unusedSimpArgs false
set_option maxRecDepth 100000
open Go.RowKit
open Dot Evt
theorem rdfail_any (g : Nat) (x : Int) (w : World) :
    Calls Try.prog 92 #[.agg #[.pointer (some ⟨g, 0, none⟩)], .int .i64 x] w fun e w' => e = .panicked [{ v := eflt x, recovered := false }] ∧ Below w.heap.size w w' := by
  go_enter Try.func92, Try.ntmps92
  go_wp2_with fail
  exact ⟨rfl, rfl, (Below.refl _ _).alloc (Nat.le_refl _) _⟩
theorem rdend_any (g : Nat) (A : Option Addr) (n c : Nat) (bs : List UInt8) (b : Bool) (w : World) (hR : Rdr w g A n c bs 0) :
    Calls Try.prog 94 #[.agg #[.pointer (some ⟨g, 0, none⟩)], .bool b] w fun e w' => (e = if bs = [] ∧ b = true then .returned (.tuple #[]) else .panicked [{ v := eflt 4, recovered := false }]) ∧ Below w.heap.size w w' := by
  have hn := hR.2.1.1
  have hR1 : Rdr (w.alloc (.cells #[.pointer (some ⟨g, 0, none⟩)] 139)) g A n c bs 0 := hR.below ((Below.refl _ _).alloc (by have := hR.lt; omega) _)
  have HR := Lib.hid hR1
  have hb0 : Below w.heap.size w (w.alloc (.cells #[.pointer (some ⟨g, 0, none⟩)] 139)) := (Below.refl _ _).alloc (Nat.le_refl _) _
  by_cases h0 : n = 0
  · have hbs : bs = [] := List.eq_nil_of_length_eq_zero (by omega)
    subst h0
    cases b
    case true =>
      rw [if_pos ⟨hbs, rfl⟩]
      clear hn hR1 hbs hR
      go_enter Try.func94, Try.ntmps94
      go_wp2_with fail
      refine (left_any g A 0 c bs 0 _ HR.out).mono ?_
      rintro e w1 ⟨rfl, rfl⟩
      go_wp2_with fail
      go_end0
      exact ⟨rfl, hb0⟩
    case false =>
      rw [if_neg (by simp)]
      clear hn hR1 hbs hR
      go_enter Try.func94, Try.ntmps94
      go_wp2_with fail
      refine (left_any g A 0 c bs 0 _ HR.out).mono ?_
      rintro e w1 ⟨rfl, rfl⟩
      go_wp2_with fail
      refine (rdfail_any g 4 _).mono ?_
      rintro e w2 ⟨rfl, b2⟩
      go_wp2_with fail
      exact ⟨rfl, rfl, hb0.trans (b2.mono hb0.size)⟩
  · have hbs : ¬ bs = [] := fun e => h0 (by rw [hn, e]; rfl)
    have hd : decide (0 < (n : Int)) = true := decide_eq_true (by omega)
    have hd2 : decide (0 < n) = true := decide_eq_true (by omega)
    rw [if_neg (fun h => hbs h.1)]
    clear hn hR1 hbs hR h0
    go_enter Try.func94, Try.ntmps94
    go_wp2_with fail
    refine (left_any g A n c bs 0 _ HR.out).mono ?_
    rintro e w1 ⟨rfl, rfl⟩
    go_wp2_with fail
    refine (rdfail_any g 4 _).mono ?_
    rintro e w2 ⟨rfl, b2⟩
    go_wp2_with fail
    exact ⟨rfl, rfl, hb0.trans (b2.mono hb0.size)⟩
/-- the blocks that a read may turn: the reader's, and that of what is read -/
def GB (g b : Nat) : Nat → Prop := fun k => k = g ∨ k = b
/-- what reading a number into a cell leaves -/
def RNum (w : World) (g b : Nat) (T : TypeId) (cs : Array Value) (i : Nat) (bs : List UInt8) (e : Ending) (w' : World) : Prop :=
  Only (GB g b) w w' ∧ match Vint.dec bs with
    | .ok (x, r) => e = .returned (.tuple #[]) ∧ (∃ A c, Rdr w' g A r.length c r 0) ∧ Blk w' b T (cs.setIfInBounds i (.int .i64 (x : Nat)))
    | .error x => e = .panicked [{ v := eflt (x : Nat), recovered := false }]
theorem RNum.good {w w' : World} {g b : Nat} {T : TypeId} {cs : Array Value} {i : Nat} {bs : List UInt8} {e : Ending} (h : RNum w g b T cs i bs e w') {x : Nat} {r : List UInt8} (hd : Vint.dec bs = .ok (x, r)) :
    e = .returned (.tuple #[]) ∧ (∃ A c, Rdr w' g A r.length c r 0) ∧ Blk w' b T (cs.setIfInBounds i (.int .i64 (x : Nat))) ∧ Only (GB g b) w w' := by
  obtain ⟨h1, h2⟩ := h
  rw [hd] at h2
  exact ⟨h2.1, h2.2.1, h2.2.2, h1⟩
theorem RNum.bad {w w' : World} {g b : Nat} {T : TypeId} {cs : Array Value} {i : Nat} {bs : List UInt8} {e : Ending} (h : RNum w g b T cs i bs e w') {x : Nat} (hd : Vint.dec bs = .error x) :
    e = .panicked [{ v := eflt (x : Nat), recovered := false }] ∧ Only (GB g b) w w' := by
  obtain ⟨h1, h2⟩ := h
  rw [hd] at h2
  exact ⟨h2, h1⟩
theorem rdnum_any (g b : Nat) (T : TypeId) (cs : Array Value) (i : Nat) (A : Option Addr) (n c : Nat) (bs : List UInt8) (w : World) (hR : Rdr w g A n c bs 0) (hb : Blk w b T cs) (hgb : g < b) (hi : i < cs.size) :
    Calls Try.prog 91 #[.agg #[.pointer (some ⟨g, 0, none⟩)], .pointer (some ⟨b, i, none⟩)] w (RNum w g b T cs i bs) := by
  obtain ⟨W, hW⟩ : ∃ W, W = w.alloc (.cells #[.pointer (some ⟨g, 0, none⟩)] 139) := ⟨_, rfl⟩
  obtain ⟨s, hs⟩ : ∃ s, s = w.heap.size := ⟨_, rfl⟩
  have hBW : Below w.heap.size w W := by rw [hW]; exact (Below.refl _ _).alloc (Nat.le_refl _) _
  have hRW : Rdr W g A n c bs 0 := hR.below (hBW.mono (by have := hR.lt; omega))
  have hbW := hb.below hBW hb.lt
  have ks : Blk W s 139 #[.pointer (some ⟨g, 0, none⟩)] := by rw [hW, hs]; exact Blk.new _ _ _
  have hbs : b < s := by rw [hs]; exact hb.lt
  have o0 : Only (GB g b) w W := Only.of_below _ hBW
  have HW := Lib.hid hW
  have HS := Lib.hid hs
  have HI := Lib.hid hi
  have ib := int_any g A n c bs 0 W hRW
  have HIB := Lib.hid ib
  clear hW hs hi hR hb ib
  have hc0 := ks.cell 0
  go_enter Try.func91, Try.ntmps91
  go_upto_region 1 with fail
  rw [← HW.out, ← HS.out]
  have hc0 : W.cell? ⟨s, 0, none⟩ = some (.pointer (some ⟨g, 0, none⟩)) := ks.cell 0
  go_wp2_with fail
  refine HIB.out.mono ?_
  rintro e w1 ⟨rfl, g1, A1, c1, r1⟩
  have b1 := hbW.grown g1 (by simp; omega)
  have s1 := ks.grown g1 (by simp; omega)
  have o1 := o0.trans (Only.of_grown (F := GB g b) g1 (.inl rfl)) (Grows.refl _ _)
  have HI1 := HI.out
  have cb : w1.cell? ⟨b, i, none⟩ = some cs[i] := by rw [b1.cell]; exact Array.getElem?_eq_getElem HI1
  have fb := b1.free i
  have b2 := b1.set_ i (.int .i64 ((Vint.intM bs 0).1 : Nat))
  have s2 := s1.far (p := ⟨b, i, none⟩) (by simp; omega) (.int .i64 ((Vint.intM bs 0).1 : Nat))
  have r2 := r1.below (w' := w1.setCell ⟨b, i, none⟩ (.int .i64 ((Vint.intM bs 0).1 : Nat))) ((Below.refl _ _).setCell (by show g + 1 ≤ b; omega) _)
  have o2 := o1.setCell (p := ⟨b, i, none⟩) (.inl (.inr rfl)) (.int .i64 ((Vint.intM bs 0).1 : Nat))
  clear hbW o0 o1 g1 r1 s1 HIB hBW hRW ks hc0
  generalize cs[i] = v at cb
  cases hd : Vint.dec bs with
  | ok p =>
    obtain ⟨x, r⟩ := p
    have hI := Vint.intM_ok hd
    rw [hI] at b2 s2 r2 o2 ⊢
    have HD := Lib.hid hd
    clear hd hI
    go_upto_region 2 with fail
    refine nameW ?_
    intro w2 hw2
    rw [← hw2] at b2 s2 r2 o2
    have c2 : w2.cell? ⟨s, 0, none⟩ = some (.pointer (some ⟨g, 0, none⟩)) := s2.cell 0
    clear hw2 cb fb b1
    go_wp2_with fail
    refine (err_any g A1 r.length c1 r 0 w2 r2).mono ?_
    rintro e w3 ⟨rfl, rfl⟩
    go_wp2_with fail
    go_end0
    refine ⟨o2, ?_⟩
    rw [HD.out]
    exact ⟨rfl, ⟨A1, c1, r2⟩, b2⟩
  | error x =>
    have hI := Vint.intM_bad hd
    have hx := Vint.dec_err hd
    rw [hI] at b2 s2 r2 o2 ⊢
    rw [show ((0 : Nat) : Int) = 0 from rfl] at b2 s2 r2 o2
    have HD := Lib.hid hd
    have hne : (((x : Nat) : Int) == 0) = false := by rw [beq_eq_false_iff_ne]; omega
    have hne2 : (((x : Nat) : Int) != 0) = true := by rw [bne_iff_ne]; omega
    clear hd hI hx
    go_upto_region 2 with fail
    refine nameW ?_
    intro w2 hw2
    rw [← hw2] at b2 s2 r2 o2
    have c2 : w2.cell? ⟨s, 0, none⟩ = some (.pointer (some ⟨g, 0, none⟩)) := s2.cell 0
    clear hw2 cb fb b1
    go_wp2_with fail
    refine (err_any g A1 _ c1 bs x w2 r2).mono ?_
    rintro e w3 ⟨rfl, rfl⟩
    go_wp2_with fail
    refine (rdfail_any g x _).mono ?_
    rintro e w4 ⟨rfl, b4⟩
    go_wp2_with fail
    refine ⟨rfl, o2.then_below (b4.mono o2.size), ?_⟩
    rw [HD.out]
end Go.Proofs.Ytcgalmnllegnbaa

/- Plain laws: the event of bytes; no program in sight. -/
namespace Go.Proofs.Ytcgalmnllegnbaa.Evt
set_option linter.unusedVariables false
set_option linter.unusedSimpArgs false
set_option maxRecDepth 100000
open Dot
/-- so many numbers, and the rest; or the error -/
def decs : Nat → List UInt8 → Except Nat (List Nat × List UInt8)
  | 0, l => .ok ([], l)
  | k + 1, l => match Vint.dec l with
    | .error x => .error x
    | .ok (n, r) => match decs k r with
      | .error x => .error x
      | .ok (ns, r') => .ok (n :: ns, r')
/-- so many dots, and the rest; or the error -/
def decD : Nat → List UInt8 → Except Nat (List Dt × List UInt8)
  | 0, l => .ok ([], l)
  | k + 1, l => match decD k l with
    | .error x => .error x
    | .ok (ds, r) => match Vint.dec r with
      | .error x => .error x
      | .ok (n, r1) => match Vint.dec r1 with
        | .error x => .error x
        | .ok (q, r2) => .ok (ds ++ [((n : Int), (q : Int))], r2)
/-- the dots that an event removes -/
def decL (l : List UInt8) : Except Nat (List Dt × List UInt8) :=
  match Vint.dec l with
  | .error x => .error x
  | .ok (m, r) => if 96 < m then .error 6 else decD m r
/-- what is behind an event's first five numbers -/
def decK (n q t k wk : Nat) (l : List UInt8) : Except Nat (Ev × List UInt8) :=
  if k = 1 then
    match Vint.dec l with
    | .error x => .error x
    | .ok (v, r) => .ok (⟨((n : Int), (q : Int)), t, k, wk, v, p0, []⟩, r)
  else if k = 2 then
    match decs 7 l with
    | .error x => .error x
    | .ok (p, r) => match decL r with
      | .error x => .error x
      | .ok (ds, r') => .ok (⟨((n : Int), (q : Int)), t, k, wk, 0, p.map fun x : Nat => (x : Int), ds⟩, r')
  else
    match decL l with
    | .error x => .error x
    | .ok (ds, r') => .ok (⟨((n : Int), (q : Int)), t, k, wk, 0, p0, ds⟩, r')
/-- an event's numbers, and the rest; or the error -/
def decE (l : List UInt8) : Except Nat (Ev × List UInt8) :=
  match Vint.dec l with
  | .error x => .error x
  | .ok (n, l1) => match Vint.dec l1 with
    | .error x => .error x
    | .ok (q, l2) => match Vint.dec l2 with
      | .error x => .error x
      | .ok (t, l3) => match Vint.dec l3 with
        | .error x => .error x
        | .ok (k, l4) => if 1 ≤ k ∧ k ≤ 3 then
            match Vint.dec l4 with
            | .error x => .error x
            | .ok (wk, l5) => decK n q t k wk l5
          else .error 4
theorem decs_len : ∀ (k : Nat) (l : List UInt8) (ns : List Nat) (r : List UInt8), decs k l = .ok (ns, r) → ns.length = k := by
  intro k
  induction k with
  | zero => intro l ns r h; simp [decs] at h; rw [h.1]; rfl
  | succ k ih =>
    intro l ns r h
    unfold decs at h
    split at h
    · cases h
    · split at h
      · cases h
      · rename_i h2
        injection h with h
        injection h with h _
        rw [← h, List.length_cons, ih _ _ _ h2]
theorem decs_suf : ∀ (k : Nat) (l : List UInt8) (ns : List Nat) (r : List UInt8), decs k l = .ok (ns, r) → l = ns.flatMap Vint.enc ++ r ∧ ∀ n ∈ ns, n ≤ Vint.top := by
  intro k
  induction k with
  | zero => intro l ns r h; simp [decs] at h; obtain ⟨rfl, rfl⟩ := h; exact ⟨rfl, by simp⟩
  | succ k ih =>
    intro l ns r h
    unfold decs at h
    split at h
    · cases h
    · rename_i n r1 h1
      split at h
      · cases h
      · rename_i ns' r' h2
        injection h with h
        injection h with h h'
        subst h h'
        obtain ⟨e1, e2⟩ := Vint.dec_ok h1
        obtain ⟨e3, e4⟩ := ih _ _ _ h2
        refine ⟨by rw [e1, e3]; simp, fun x hx => ?_⟩
        rcases List.mem_cons.1 hx with rfl | hx
        · exact e2
        · exact e4 x hx
theorem decs_enc : ∀ (ns : List Nat) (r : List UInt8), (∀ n ∈ ns, n ≤ Vint.top) → decs ns.length (ns.flatMap Vint.enc ++ r) = .ok (ns, r) := by
  intro ns
  induction ns with
  | nil => intro r _; rfl
  | cons n ns ih =>
    intro r h
    rw [List.length_cons, decs, List.flatMap_cons, List.append_assoc, Vint.dec_enc (h n (by simp))]
    simp only [ih r fun x hx => h x (by simp [hx])]
theorem decD_err {k : Nat} {l : List UInt8} {x : Nat} (h : decD k l = .error x) : ∀ m, k ≤ m → decD m l = .error x := by
  intro m
  induction m with
  | zero => intro hk; obtain rfl : k = 0 := by omega
            exact h
  | succ m ih =>
    intro hk
    by_cases e : k = m + 1
    · rw [← e]; exact h
    · rw [decD, ih (by omega)]
theorem decD_len : ∀ (k : Nat) (l : List UInt8) (ds : List Dt) (r : List UInt8), decD k l = .ok (ds, r) → ds.length = k := by
  intro k
  induction k with
  | zero => intro l ds r h; simp [decD] at h; rw [h.1]; rfl
  | succ k ih =>
    intro l ds r h
    unfold decD at h
    split at h
    · cases h
    · rename_i h1
      split at h
      · cases h
      · split at h
        · cases h
        · injection h with h
          injection h with h _
          rw [← h, List.length_append, ih _ _ _ h1]
          rfl
/-- dots' bytes -/
def encD (l : List Dt) : List UInt8 := l.flatMap fun d => Vint.enc d.1.toNat ++ Vint.enc d.2.toNat
theorem decD_suf : ∀ (k : Nat) (l : List UInt8) (ds : List Dt) (r : List UInt8), decD k l = .ok (ds, r) → l = encD ds ++ r ∧ ∀ d ∈ ds, (0 ≤ d.1 ∧ d.1 ≤ top) ∧ 0 ≤ d.2 ∧ d.2 ≤ top := by
  intro k
  induction k with
  | zero => intro l ds r h; simp [decD] at h; obtain ⟨rfl, rfl⟩ := h; exact ⟨rfl, by simp⟩
  | succ k ih =>
    intro l ds r h
    unfold decD at h
    split at h
    · cases h
    · rename_i ds' r' h0
      split at h
      · cases h
      · rename_i n r1 h1
        split at h
        · cases h
        · rename_i q r2 h2
          injection h with h
          injection h with h h'
          subst h h'
          obtain ⟨e1, e2⟩ := Vint.dec_ok h1
          obtain ⟨e3, e4⟩ := Vint.dec_ok h2
          obtain ⟨e5, e6⟩ := ih _ _ _ h0
          have t1 : Vint.top = 1099511627776 := rfl
          have t2 : top = 1099511627776 := rfl
          refine ⟨by rw [e5, e1, e3]; simp [encD], fun d hd => ?_⟩
          rcases List.mem_append.1 hd with hd | hd
          · exact e6 d hd
          · simp at hd
            subst hd
            simp only
            omega
theorem decD_enc (l : List Dt) (h : ∀ d ∈ l, (0 ≤ d.1 ∧ d.1 ≤ top) ∧ 0 ≤ d.2 ∧ d.2 ≤ top) : ∀ k, k ≤ l.length → ∀ r, decD k (encD (l.take k) ++ r) = .ok (l.take k, r) := by
  intro k
  induction k with
  | zero => intro _ r; rfl
  | succ k ih =>
    intro hk r
    have hkl : k < l.length := by omega
    have hd := h _ (List.getElem_mem hkl)
    have t1 : Vint.top = 1099511627776 := rfl
    have t2 : top = 1099511627776 := rfl
    have ht : l.take (k + 1) = l.take k ++ [l[k]] := List.take_succ_eq_append_getElem hkl
    have h1 := ih (by omega) (Vint.enc l[k].1.toNat ++ (Vint.enc l[k].2.toNat ++ r))
    have e : encD (l.take (k + 1)) ++ r = encD (l.take k) ++ (Vint.enc l[k].1.toNat ++ (Vint.enc l[k].2.toNat ++ r)) := by rw [ht]; simp only [encD, List.flatMap_append, List.flatMap_cons, List.flatMap_nil, List.append_nil, List.append_assoc]
    rw [e, decD, h1]
    simp only [Vint.dec_enc (show l[k].1.toNat ≤ Vint.top by omega), Vint.dec_enc (show l[k].2.toNat ≤ Vint.top by omega)]
    rw [ht]
    have e1 : ((l[k].1.toNat : Nat) : Int) = l[k].1 := by omega
    have e2 : ((l[k].2.toNat : Nat) : Int) = l[k].2 := by omega
    rw [e1, e2]
theorem decL_enc (l : List Dt) (hl : l.length ≤ 96) (h : ∀ d ∈ l, (0 ≤ d.1 ∧ d.1 ≤ top) ∧ 0 ≤ d.2 ∧ d.2 ≤ top) (r : List UInt8) : decL (Vint.enc l.length ++ (encD l ++ r)) = .ok (l, r) := by
  have t1 : Vint.top = 1099511627776 := rfl
  unfold decL
  rw [Vint.dec_enc (by omega)]
  simp only
  rw [if_neg (by omega)]
  have := decD_enc l h l.length (Nat.le_refl _) r
  rwa [List.take_length] at this
theorem decL_suf {l : List UInt8} {ds : List Dt} {r : List UInt8} (h : decL l = .ok (ds, r)) : l = Vint.enc ds.length ++ (encD ds ++ r) ∧ ds.length ≤ 96 ∧ ∀ d ∈ ds, (0 ≤ d.1 ∧ d.1 ≤ top) ∧ 0 ≤ d.2 ∧ d.2 ≤ top := by
  unfold decL at h
  split at h
  · cases h
  · rename_i m r1 h1
    split at h
    · cases h
    · rename_i hm
      obtain ⟨e1, _⟩ := Vint.dec_ok h1
      obtain ⟨e3, e4⟩ := decD_suf _ _ _ _ h
      have e5 := decD_len _ _ _ _ h
      subst e5
      exact ⟨by rw [e1, e3], by omega, e4⟩
end Go.Proofs.Ytcgalmnllegnbaa.Evt

/- The walks of event's policy and through over a reader. -/
namespace Go.Proofs.Ytcgalmnllegnbaa
set_option linter.unusedVariables false
set_option linter.unusedSimpArgs false
set_option maxRecDepth 100000
open Go.RowKit
open Dot Evt
/-- the reader's method number, as a value -/
abbrev rnumV (g : Nat) : Value := .func (.method "murmur/event.number") #[.iface 139 (.agg #[.pointer (some ⟨g, 0, none⟩)])] #[]
theorem gb_trans {g b : Nat} {w w1 w2 : World} (h : Only (GB g b) w w1) (k : Only (GB g b) w1 w2) : Only (GB g b) w w2 := h.trans k (Grows.refl _ _)
theorem gb_new {g b r : Nat} {w w1 w2 : World} (h : Only (GB g b) w w1) (k : Only (GB g r) w1 w2) (hr : w.heap.size ≤ r) : Only (GB g b) w w2 := h.trans k fun i hi => by
  rcases hi with rfl | rfl
  · exact .inl (.inl rfl)
  · exact .inr hr
/-- what reading a policy leaves -/
def PolR (w : World) (g b : Nat) (v0 v1 v2 v3 v4 v5 v13 : Value) (bs : List UInt8) (e : Ending) (w' : World) : Prop :=
  Only (GB g b) w w' ∧ ((∃ x0 x1 x2 x3 x4 x5 x6 r, decs 7 bs = .ok ([x0, x1, x2, x3, x4, x5, x6], r) ∧ e = .returned (.tuple #[]) ∧ (∃ A c, Rdr w' g A r.length c r 0) ∧
      Blk w' b 50 #[v0, v1, v2, v3, v4, v5, .int .i64 (x0 : Nat), .int .i64 (x1 : Nat), .int .i64 (x2 : Nat), .int .i64 (x3 : Nat), .int .i64 (x4 : Nat), .int .i64 (x5 : Nat), .int .i64 (x6 : Nat), v13])
    ∨ ∃ x, decs 7 bs = .error x ∧ e = .panicked [{ v := eflt (x : Nat), recovered := false }])
set_option maxRecDepth 100000 in
set_option maxHeartbeats 2000000 in
theorem polr_any (b g : Nat) (v0 v1 v2 v3 v4 v5 u0 u1 u2 u3 u4 u5 u6 v13 : Value) (A0 : Option Addr) (n0 c0 : Nat) (bs : List UInt8) (w : World) (h : Rdr w g A0 n0 c0 bs 0) (hb : Blk w b 50 #[v0, v1, v2, v3, v4, v5, u0, u1, u2, u3, u4, u5, u6, v13]) (hne : g < b) :
    Calls Try.prog 117 #[.pointer (some ⟨b, 6, none⟩), rnumV g] w (PolR w g b v0 v1 v2 v3 v4 v5 v13 bs) := by
  have HGB := Lib.hid hne
  have hbl := hb.lt
  have hm : ∀ w, (method 246 139 (.agg #[.pointer (some ⟨g, 0, none⟩)]) "murmur/event.number").run Try.prog w = .ok (91, .agg #[.pointer (some ⟨g, 0, none⟩)]) w := fun w => by kernel_rfl
  clear hne
  have hix0 : ∀ w, (Instr.index 169 (.agg #[.pointer (some ⟨b, 6, none⟩), .pointer (some ⟨b, 7, none⟩), .pointer (some ⟨b, 8, none⟩), .pointer (some ⟨b, 9, none⟩), .pointer (some ⟨b, 10, none⟩), .pointer (some ⟨b, 11, none⟩), .pointer (some ⟨b, 12, none⟩)]) (.int .i64 0)).run Try.prog w = .ok (.pointer (some ⟨b, 6, none⟩)) w := fun w => by kernel_rfl
  have hix1 : ∀ w, (Instr.index 169 (.agg #[.pointer (some ⟨b, 6, none⟩), .pointer (some ⟨b, 7, none⟩), .pointer (some ⟨b, 8, none⟩), .pointer (some ⟨b, 9, none⟩), .pointer (some ⟨b, 10, none⟩), .pointer (some ⟨b, 11, none⟩), .pointer (some ⟨b, 12, none⟩)]) (.int .i64 1)).run Try.prog w = .ok (.pointer (some ⟨b, 7, none⟩)) w := fun w => by kernel_rfl
  have hix2 : ∀ w, (Instr.index 169 (.agg #[.pointer (some ⟨b, 6, none⟩), .pointer (some ⟨b, 7, none⟩), .pointer (some ⟨b, 8, none⟩), .pointer (some ⟨b, 9, none⟩), .pointer (some ⟨b, 10, none⟩), .pointer (some ⟨b, 11, none⟩), .pointer (some ⟨b, 12, none⟩)]) (.int .i64 2)).run Try.prog w = .ok (.pointer (some ⟨b, 8, none⟩)) w := fun w => by kernel_rfl
  have hix3 : ∀ w, (Instr.index 169 (.agg #[.pointer (some ⟨b, 6, none⟩), .pointer (some ⟨b, 7, none⟩), .pointer (some ⟨b, 8, none⟩), .pointer (some ⟨b, 9, none⟩), .pointer (some ⟨b, 10, none⟩), .pointer (some ⟨b, 11, none⟩), .pointer (some ⟨b, 12, none⟩)]) (.int .i64 3)).run Try.prog w = .ok (.pointer (some ⟨b, 9, none⟩)) w := fun w => by kernel_rfl
  have hix4 : ∀ w, (Instr.index 169 (.agg #[.pointer (some ⟨b, 6, none⟩), .pointer (some ⟨b, 7, none⟩), .pointer (some ⟨b, 8, none⟩), .pointer (some ⟨b, 9, none⟩), .pointer (some ⟨b, 10, none⟩), .pointer (some ⟨b, 11, none⟩), .pointer (some ⟨b, 12, none⟩)]) (.int .i64 4)).run Try.prog w = .ok (.pointer (some ⟨b, 10, none⟩)) w := fun w => by kernel_rfl
  have hix5 : ∀ w, (Instr.index 169 (.agg #[.pointer (some ⟨b, 6, none⟩), .pointer (some ⟨b, 7, none⟩), .pointer (some ⟨b, 8, none⟩), .pointer (some ⟨b, 9, none⟩), .pointer (some ⟨b, 10, none⟩), .pointer (some ⟨b, 11, none⟩), .pointer (some ⟨b, 12, none⟩)]) (.int .i64 5)).run Try.prog w = .ok (.pointer (some ⟨b, 11, none⟩)) w := fun w => by kernel_rfl
  have hix6 : ∀ w, (Instr.index 169 (.agg #[.pointer (some ⟨b, 6, none⟩), .pointer (some ⟨b, 7, none⟩), .pointer (some ⟨b, 8, none⟩), .pointer (some ⟨b, 9, none⟩), .pointer (some ⟨b, 10, none⟩), .pointer (some ⟨b, 11, none⟩), .pointer (some ⟨b, 12, none⟩)]) (.int .i64 6)).run Try.prog w = .ok (.pointer (some ⟨b, 12, none⟩)) w := fun w => by kernel_rfl
  go_enter Try.func117, Try.ntmps117
  go_wp2_with fail
  go_region
  go_wp2_with fail
  have h0 : Rdr w.drew g A0 n0 c0 bs 0 := h
  have b0 : Blk w.drew b 50 #[v0, v1, v2, v3, v4, v5, u0, u1, u2, u3, u4, u5, u6, v13] := hb
  have o0 : Only (GB g b) w w.drew := ⟨rfl, rfl, rfl, Nat.le_refl _, fun _ _ _ => rfl⟩
  have l0e : bs = bs := rfl
  clear h hb l0e
  refine wp_loop_rounds 8 ?_
  rw [rounds_succ]
  go_wp2_with fail
  refine (rdnum_any g b 50 _ 6 A0 n0 c0 bs _ h0 b0 HGB.out (by simp)).mono ?_
  intro e w1 hn
  rcases hd : Vint.dec bs with x | ⟨x0, l1⟩
  · obtain ⟨rfl, oo⟩ := hn.bad hd
    have HE := Lib.hid (show decs 7 bs = .error x by simp [decs, hd])
    have HO := Lib.hid (gb_trans o0 oo)
    clear hd hn oo
    go_wp2_with fail
    exact ⟨rfl, HO.out, .inr ⟨x, HE.out, rfl⟩⟩
  obtain ⟨rfl, ⟨A1, c1, h1⟩, bb, oo⟩ := hn.good hd
  have b1 : Blk w1 b 50 #[v0, v1, v2, v3, v4, v5, .int .i64 (x0 : Nat), u1, u2, u3, u4, u5, u6, v13] := bb
  have o1 := gb_trans o0 oo
  have HD0 := Lib.hid hd
  clear hd hn oo bb h0 b0 o0
  go_wp2_with fail
  rw [rounds_succ]
  go_wp2_with fail
  refine (rdnum_any g b 50 _ 7 A1 _ c1 l1 _ h1 b1 HGB.out (by simp)).mono ?_
  intro e w2 hn
  rcases hd : Vint.dec l1 with x | ⟨x1, l2⟩
  · obtain ⟨rfl, oo⟩ := hn.bad hd
    have HE := Lib.hid (show decs 7 bs = .error x by simp [decs, HD0.out, hd])
    have HO := Lib.hid (gb_trans o1 oo)
    clear hd hn oo
    go_wp2_with fail
    exact ⟨rfl, HO.out, .inr ⟨x, HE.out, rfl⟩⟩
  obtain ⟨rfl, ⟨A2, c2, h2⟩, bb, oo⟩ := hn.good hd
  have b2 : Blk w2 b 50 #[v0, v1, v2, v3, v4, v5, .int .i64 (x0 : Nat), .int .i64 (x1 : Nat), u2, u3, u4, u5, u6, v13] := bb
  have o2 := gb_trans o1 oo
  have HD1 := Lib.hid hd
  clear hd hn oo bb h1 b1 o1
  go_wp2_with fail
  rw [rounds_succ]
  go_wp2_with fail
  refine (rdnum_any g b 50 _ 8 A2 _ c2 l2 _ h2 b2 HGB.out (by simp)).mono ?_
  intro e w3 hn
  rcases hd : Vint.dec l2 with x | ⟨x2, l3⟩
  · obtain ⟨rfl, oo⟩ := hn.bad hd
    have HE := Lib.hid (show decs 7 bs = .error x by simp [decs, HD0.out, HD1.out, hd])
    have HO := Lib.hid (gb_trans o2 oo)
    clear hd hn oo
    go_wp2_with fail
    exact ⟨rfl, HO.out, .inr ⟨x, HE.out, rfl⟩⟩
  obtain ⟨rfl, ⟨A3, c3, h3⟩, bb, oo⟩ := hn.good hd
  have b3 : Blk w3 b 50 #[v0, v1, v2, v3, v4, v5, .int .i64 (x0 : Nat), .int .i64 (x1 : Nat), .int .i64 (x2 : Nat), u3, u4, u5, u6, v13] := bb
  have o3 := gb_trans o2 oo
  have HD2 := Lib.hid hd
  clear hd hn oo bb h2 b2 o2
  go_wp2_with fail
  rw [rounds_succ]
  go_wp2_with fail
  refine (rdnum_any g b 50 _ 9 A3 _ c3 l3 _ h3 b3 HGB.out (by simp)).mono ?_
  intro e w4 hn
  rcases hd : Vint.dec l3 with x | ⟨x3, l4⟩
  · obtain ⟨rfl, oo⟩ := hn.bad hd
    have HE := Lib.hid (show decs 7 bs = .error x by simp [decs, HD0.out, HD1.out, HD2.out, hd])
    have HO := Lib.hid (gb_trans o3 oo)
    clear hd hn oo
    go_wp2_with fail
    exact ⟨rfl, HO.out, .inr ⟨x, HE.out, rfl⟩⟩
  obtain ⟨rfl, ⟨A4, c4, h4⟩, bb, oo⟩ := hn.good hd
  have b4 : Blk w4 b 50 #[v0, v1, v2, v3, v4, v5, .int .i64 (x0 : Nat), .int .i64 (x1 : Nat), .int .i64 (x2 : Nat), .int .i64 (x3 : Nat), u4, u5, u6, v13] := bb
  have o4 := gb_trans o3 oo
  have HD3 := Lib.hid hd
  clear hd hn oo bb h3 b3 o3
  go_wp2_with fail
  rw [rounds_succ]
  go_wp2_with fail
  refine (rdnum_any g b 50 _ 10 A4 _ c4 l4 _ h4 b4 HGB.out (by simp)).mono ?_
  intro e w5 hn
  rcases hd : Vint.dec l4 with x | ⟨x4, l5⟩
  · obtain ⟨rfl, oo⟩ := hn.bad hd
    have HE := Lib.hid (show decs 7 bs = .error x by simp [decs, HD0.out, HD1.out, HD2.out, HD3.out, hd])
    have HO := Lib.hid (gb_trans o4 oo)
    clear hd hn oo
    go_wp2_with fail
    exact ⟨rfl, HO.out, .inr ⟨x, HE.out, rfl⟩⟩
  obtain ⟨rfl, ⟨A5, c5, h5⟩, bb, oo⟩ := hn.good hd
  have b5 : Blk w5 b 50 #[v0, v1, v2, v3, v4, v5, .int .i64 (x0 : Nat), .int .i64 (x1 : Nat), .int .i64 (x2 : Nat), .int .i64 (x3 : Nat), .int .i64 (x4 : Nat), u5, u6, v13] := bb
  have o5 := gb_trans o4 oo
  have HD4 := Lib.hid hd
  clear hd hn oo bb h4 b4 o4
  go_wp2_with fail
  rw [rounds_succ]
  go_wp2_with fail
  refine (rdnum_any g b 50 _ 11 A5 _ c5 l5 _ h5 b5 HGB.out (by simp)).mono ?_
  intro e w6 hn
  rcases hd : Vint.dec l5 with x | ⟨x5, l6⟩
  · obtain ⟨rfl, oo⟩ := hn.bad hd
    have HE := Lib.hid (show decs 7 bs = .error x by simp [decs, HD0.out, HD1.out, HD2.out, HD3.out, HD4.out, hd])
    have HO := Lib.hid (gb_trans o5 oo)
    clear hd hn oo
    go_wp2_with fail
    exact ⟨rfl, HO.out, .inr ⟨x, HE.out, rfl⟩⟩
  obtain ⟨rfl, ⟨A6, c6, h6⟩, bb, oo⟩ := hn.good hd
  have b6 : Blk w6 b 50 #[v0, v1, v2, v3, v4, v5, .int .i64 (x0 : Nat), .int .i64 (x1 : Nat), .int .i64 (x2 : Nat), .int .i64 (x3 : Nat), .int .i64 (x4 : Nat), .int .i64 (x5 : Nat), u6, v13] := bb
  have o6 := gb_trans o5 oo
  have HD5 := Lib.hid hd
  clear hd hn oo bb h5 b5 o5
  go_wp2_with fail
  rw [rounds_succ]
  go_wp2_with fail
  refine (rdnum_any g b 50 _ 12 A6 _ c6 l6 _ h6 b6 HGB.out (by simp)).mono ?_
  intro e w7 hn
  rcases hd : Vint.dec l6 with x | ⟨x6, l7⟩
  · obtain ⟨rfl, oo⟩ := hn.bad hd
    have HE := Lib.hid (show decs 7 bs = .error x by simp [decs, HD0.out, HD1.out, HD2.out, HD3.out, HD4.out, HD5.out, hd])
    have HO := Lib.hid (gb_trans o6 oo)
    clear hd hn oo
    go_wp2_with fail
    exact ⟨rfl, HO.out, .inr ⟨x, HE.out, rfl⟩⟩
  obtain ⟨rfl, ⟨A7, c7, h7⟩, bb, oo⟩ := hn.good hd
  have b7 : Blk w7 b 50 #[v0, v1, v2, v3, v4, v5, .int .i64 (x0 : Nat), .int .i64 (x1 : Nat), .int .i64 (x2 : Nat), .int .i64 (x3 : Nat), .int .i64 (x4 : Nat), .int .i64 (x5 : Nat), .int .i64 (x6 : Nat), v13] := bb
  have o7 := gb_trans o6 oo
  have HD6 := Lib.hid hd
  clear hd hn oo bb h6 b6 o6
  go_wp2_with fail
  rw [rounds_succ]
  go_wp2_with fail
  go_end0
  exact ⟨o7, .inl ⟨x0, x1, x2, x3, x4, x5, x6, l7, by simp [decs, HD0.out, HD1.out, HD2.out, HD3.out, HD4.out, HD5.out, HD6.out], rfl, ⟨A7, c7, h7⟩, b7⟩⟩
/-- dots, and behind them zeros -/
def dzs (ds : List Dt) (m : Nat) : Array Value := (dcs ds ++ List.replicate ((m - ds.length) * 2) (Value.int .i64 0)).toArray
theorem dzs_size {ds : List Dt} {m : Nat} (h : ds.length ≤ m) : (dzs ds m).size = m * 2 := by
  unfold dzs
  rw [List.size_toArray, List.length_append, dcs_len, List.length_replicate]
  omega
theorem dzs_full {ds : List Dt} {m : Nat} (h : ds.length = m) : dzs ds m = (dcs ds).toArray := by
  unfold dzs
  rw [show (m - ds.length) * 2 = 0 by omega]
  simp
theorem dzs_set (ds : List Dt) (m : Nat) (x y : Int) (h : ds.length < m) : ((dzs ds m).setIfInBounds (ds.length * 2) (.int .i64 x)).setIfInBounds (ds.length * 2 + 1) (.int .i64 y) = dzs (ds ++ [(x, y)]) m := by
  apply Array.toList_inj.1
  rw [Array.toList_setIfInBounds, Array.toList_setIfInBounds]
  show ((dcs ds ++ List.replicate ((m - ds.length) * 2) (Value.int .i64 0)).set (ds.length * 2) _).set (ds.length * 2 + 1) _ = dcs (ds ++ [(x, y)]) ++ List.replicate ((m - (ds ++ [(x, y)]).length) * 2) (.int .i64 0)
  obtain ⟨k, hk⟩ : ∃ k, (m - ds.length) * 2 = k + 1 + 1 := ⟨(m - ds.length) * 2 - 2, by omega⟩
  have hk2 : (m - (ds ++ [(x, y)]).length) * 2 = k := by rw [List.length_append]; simp; omega
  rw [hk, hk2, dcs_app, List.replicate_succ, List.replicate_succ, List.set_append, if_neg (by rw [dcs_len]; omega), dcs_len, Nat.sub_self, List.set_cons_zero, List.set_append, if_neg (by rw [dcs_len]; omega), dcs_len, show ds.length * 2 + 1 - ds.length * 2 = 0 + 1 by omega, List.set_cons_succ, List.set_cons_zero]
  simp [dcs]
theorem run_makeD (W : World) (m : Nat) (hm : m ≤ 1000000) : (Instr.makeSlice 23 (.int .i64 (m : Int)) (.int .i64 (m : Int))).run Try.prog W = .ok (.slice (some ⟨W.heap.size, 0, none⟩) m m) (W.alloc (.cells (dzs [] m) 46)) := by
  obtain ⟨i0, hi, hz0, hz1, hz2⟩ := info_parts infoD
  have h := run_make (P := Try.prog) (w := W) 23 46 i0 (.agg #[.int .i64 0, .int .i64 0]) Try.underlying23 hi hz0 .i64 .i64 m m (by omega) (by omega) (by rw [hz2]; omega) (by omega)
  rw [hz1] at h
  simp only [Int.toNat_natCast] at h
  rw [h]
  have e : madeCells (Value.agg #[.int .i64 0, .int .i64 0]).cells (m * 2) = dzs [] m := by
    have hz := dzs_size (ds := []) (m := m) (Nat.zero_le _)
    apply Array.ext_getElem?
    intro i
    by_cases hi : i < m * 2
    · have h2 : (dzs [] m)[i]? = some (.int .i64 0) := by
        show ((dcs [] ++ List.replicate ((m - 0) * 2) (Value.int .i64 0)).toArray)[i]? = _
        rw [List.getElem?_toArray]
        simp [dcs, hi]
      rw [h2]
      unfold madeCells
      rw [Array.getElem?_map, Array.getElem?_range, if_pos hi, Option.map_some]
      have h3 : i % 2 = 0 ∨ i % 2 = 1 := by omega
      show some ((#[Value.int .i64 0, Value.int .i64 0] : Array Value)[i % 2]!) = _
      rcases h3 with h3 | h3 <;> rw [h3] <;> rfl
    · rw [Array.getElem?_eq_none (by rw [size_madeCells]; omega), Array.getElem?_eq_none (by rw [hz]; omega)]
  rw [e]
theorem own_dzs {w : World} {base d m : Nat} {ds : List Dt} (h : Blk w d 46 (dzs ds m)) (hl : ds.length = m) (hb : base ≤ d) (hm : m ≤ 1000000) : OwnD w base (some ⟨d, 0, none⟩) m m ds := by
  rw [dzs_full hl] at h
  refine ⟨hl.symm, by rw [dcs_len, hl], .inr ⟨d, m, _, rfl, hb, h, Nat.le_refl _, by unfold maxLen; omega, ?_, ?_⟩⟩
  · rw [List.size_toArray, dcs_len, hl]
  · exact List.take_of_length_le (by rw [dcs_len, hl]; omega)
/-- what reading an event leaves -/
def ThrR (w : World) (g b : Nat) (bs : List UInt8) (e : Ending) (w' : World) : Prop :=
  Only (GB g b) w w' ∧ ((∃ x r, decE bs = .ok (x, r) ∧ e = .returned (.tuple #[]) ∧ (∃ A c, Rdr w' g A r.length c r 0) ∧ ∃ A' m' c', Blk w' b 50 (ec x (.slice A' m' c')) ∧ OwnD w' w.heap.size A' m' c' x.l)
    ∨ ∃ x, decE bs = .error x ∧ e = .panicked [{ v := eflt (x : Nat), recovered := false }])
set_option maxRecDepth 100000 in
set_option maxHeartbeats 4000000 in
theorem thrr_any (b g : Nat) (A0 : Option Addr) (n0 c0 : Nat) (bs : List UInt8) (w : World) (h : Rdr w g A0 n0 c0 bs 0) (hb : Blk w b 50 #[.int .i64 0, .int .i64 0, .int .i64 0, .int .i64 0, .int .i64 0, .int .i64 0, .int .i64 0, .int .i64 0, .int .i64 0, .int .i64 0, .int .i64 0, .int .i64 0, .int .i64 0, .slice none 0 0]) (hne : g < b) :
    Calls Try.prog 93 #[.pointer (some ⟨b, 0, none⟩), .iface 139 (.agg #[.pointer (some ⟨g, 0, none⟩)])] w (ThrR w g b bs) := by
  have HGB := Lib.hid hne
  have hbl := hb.lt
  have HBL := Lib.hid hbl
  have hm : ∀ w, (method 246 139 (.agg #[.pointer (some ⟨g, 0, none⟩)]) "murmur/event.number").run Try.prog w = .ok (91, .agg #[.pointer (some ⟨g, 0, none⟩)]) w := fun w => by kernel_rfl
  have hmF : ∀ w, (method 246 139 (.agg #[.pointer (some ⟨g, 0, none⟩)]) "murmur/event.fail").run Try.prog w = .ok (92, .agg #[.pointer (some ⟨g, 0, none⟩)]) w := fun w => by kernel_rfl
  have hmf : ∀ (fn : Fn) (first cap : Array Value) (w : World), (Instr.makeFunc fn first cap).run Try.prog w = .ok (.func fn first cap) w := fun _ _ _ _ => rfl
  clear hne
  have hix0 : ∀ w, (Instr.index 160 (.agg #[.pointer (some ⟨b, 0, none⟩), .pointer (some ⟨b, 1, none⟩), .pointer (some ⟨b, 2, none⟩), .pointer (some ⟨b, 3, none⟩)]) (.int .i64 0)).run Try.prog w = .ok (.pointer (some ⟨b, 0, none⟩)) w := fun w => by kernel_rfl
  have hix1 : ∀ w, (Instr.index 160 (.agg #[.pointer (some ⟨b, 0, none⟩), .pointer (some ⟨b, 1, none⟩), .pointer (some ⟨b, 2, none⟩), .pointer (some ⟨b, 3, none⟩)]) (.int .i64 1)).run Try.prog w = .ok (.pointer (some ⟨b, 1, none⟩)) w := fun w => by kernel_rfl
  have hix2 : ∀ w, (Instr.index 160 (.agg #[.pointer (some ⟨b, 0, none⟩), .pointer (some ⟨b, 1, none⟩), .pointer (some ⟨b, 2, none⟩), .pointer (some ⟨b, 3, none⟩)]) (.int .i64 2)).run Try.prog w = .ok (.pointer (some ⟨b, 2, none⟩)) w := fun w => by kernel_rfl
  have hix3 : ∀ w, (Instr.index 160 (.agg #[.pointer (some ⟨b, 0, none⟩), .pointer (some ⟨b, 1, none⟩), .pointer (some ⟨b, 2, none⟩), .pointer (some ⟨b, 3, none⟩)]) (.int .i64 3)).run Try.prog w = .ok (.pointer (some ⟨b, 3, none⟩)) w := fun w => by kernel_rfl
  go_enter Try.func93, Try.ntmps93
  go_wp2_with fail
  go_region
  go_wp2_with fail
  have h0 : Rdr w.drew g A0 n0 c0 bs 0 := h
  have b0 : Blk w.drew b 50 #[.int .i64 0, .int .i64 0, .int .i64 0, .int .i64 0, .int .i64 0, .int .i64 0, .int .i64 0, .int .i64 0, .int .i64 0, .int .i64 0, .int .i64 0, .int .i64 0, .int .i64 0, .slice none 0 0] := hb
  have o0 : Only (GB g b) w w.drew := ⟨rfl, rfl, rfl, Nat.le_refl _, fun _ _ _ => rfl⟩
  clear h hb
  refine wp_loop_rounds 5 ?_
  rw [rounds_succ]
  go_wp2_with fail
  refine (rdnum_any g b 50 _ 0 A0 n0 c0 bs _ h0 b0 HGB.out (by simp)).mono ?_
  intro e w1 hn
  rcases hd : Vint.dec bs with x | ⟨n, l1⟩
  · obtain ⟨rfl, oo⟩ := hn.bad hd
    have HE := Lib.hid (show decE bs = .error x by simp [decE, decK, hd])
    have HO := Lib.hid (gb_trans o0 oo)
    clear hd hn oo
    go_wp2_with fail
    exact ⟨rfl, HO.out, .inr ⟨x, HE.out, rfl⟩⟩
  obtain ⟨rfl, ⟨A1, c1, h1⟩, bb, oo⟩ := hn.good hd
  have b1 : Blk w1 b 50 #[.int .i64 (n : Nat), .int .i64 0, .int .i64 0, .int .i64 0, .int .i64 0, .int .i64 0, .int .i64 0, .int .i64 0, .int .i64 0, .int .i64 0, .int .i64 0, .int .i64 0, .int .i64 0, .slice none 0 0] := bb
  have o1 := gb_trans o0 oo
  have HD0 := Lib.hid hd
  clear hd hn oo bb h0 b0 o0
  go_wp2_with fail
  rw [rounds_succ]
  go_wp2_with fail
  refine (rdnum_any g b 50 _ 1 A1 _ c1 l1 _ h1 b1 HGB.out (by simp)).mono ?_
  intro e w2 hn
  rcases hd : Vint.dec l1 with x | ⟨q, l2⟩
  · obtain ⟨rfl, oo⟩ := hn.bad hd
    have HE := Lib.hid (show decE bs = .error x by simp [decE, decK, HD0.out, hd])
    have HO := Lib.hid (gb_trans o1 oo)
    clear hd hn oo
    go_wp2_with fail
    exact ⟨rfl, HO.out, .inr ⟨x, HE.out, rfl⟩⟩
  obtain ⟨rfl, ⟨A2, c2, h2⟩, bb, oo⟩ := hn.good hd
  have b2 : Blk w2 b 50 #[.int .i64 (n : Nat), .int .i64 (q : Nat), .int .i64 0, .int .i64 0, .int .i64 0, .int .i64 0, .int .i64 0, .int .i64 0, .int .i64 0, .int .i64 0, .int .i64 0, .int .i64 0, .int .i64 0, .slice none 0 0] := bb
  have o2 := gb_trans o1 oo
  have HD1 := Lib.hid hd
  clear hd hn oo bb h1 b1 o1
  go_wp2_with fail
  rw [rounds_succ]
  go_wp2_with fail
  refine (rdnum_any g b 50 _ 2 A2 _ c2 l2 _ h2 b2 HGB.out (by simp)).mono ?_
  intro e w3 hn
  rcases hd : Vint.dec l2 with x | ⟨t, l3⟩
  · obtain ⟨rfl, oo⟩ := hn.bad hd
    have HE := Lib.hid (show decE bs = .error x by simp [decE, decK, HD0.out, HD1.out, hd])
    have HO := Lib.hid (gb_trans o2 oo)
    clear hd hn oo
    go_wp2_with fail
    exact ⟨rfl, HO.out, .inr ⟨x, HE.out, rfl⟩⟩
  obtain ⟨rfl, ⟨A3, c3, h3⟩, bb, oo⟩ := hn.good hd
  have b3 : Blk w3 b 50 #[.int .i64 (n : Nat), .int .i64 (q : Nat), .int .i64 (t : Nat), .int .i64 0, .int .i64 0, .int .i64 0, .int .i64 0, .int .i64 0, .int .i64 0, .int .i64 0, .int .i64 0, .int .i64 0, .int .i64 0, .slice none 0 0] := bb
  have o3 := gb_trans o2 oo
  have HD2 := Lib.hid hd
  clear hd hn oo bb h2 b2 o2
  go_wp2_with fail
  rw [rounds_succ]
  go_wp2_with fail
  refine (rdnum_any g b 50 _ 3 A3 _ c3 l3 _ h3 b3 HGB.out (by simp)).mono ?_
  intro e w4 hn
  rcases hd : Vint.dec l3 with x | ⟨k, l4⟩
  · obtain ⟨rfl, oo⟩ := hn.bad hd
    have HE := Lib.hid (show decE bs = .error x by simp [decE, decK, HD0.out, HD1.out, HD2.out, hd])
    have HO := Lib.hid (gb_trans o3 oo)
    clear hd hn oo
    go_wp2_with fail
    exact ⟨rfl, HO.out, .inr ⟨x, HE.out, rfl⟩⟩
  obtain ⟨rfl, ⟨A4, c4, h4⟩, bb, oo⟩ := hn.good hd
  have b4 : Blk w4 b 50 #[.int .i64 (n : Nat), .int .i64 (q : Nat), .int .i64 (t : Nat), .int .i64 (k : Nat), .int .i64 0, .int .i64 0, .int .i64 0, .int .i64 0, .int .i64 0, .int .i64 0, .int .i64 0, .int .i64 0, .int .i64 0, .slice none 0 0] := bb
  have o4 := gb_trans o3 oo
  have HD3 := Lib.hid hd
  clear hd hn oo bb h3 b3 o3
  go_wp2_with fail
  rw [rounds_succ]
  have ck : w4.cell? ⟨b, 3, none⟩ = some (.int .i64 (k : Nat)) := b4.cell 3
  go_wp2_with fail
  refine (within_any _ _ _ _).mono ?_
  rintro e w4' ⟨rfl, rfl⟩
  by_cases hk : 1 ≤ k ∧ k ≤ 3
  case neg =>
    have HE := Lib.hid (show decE bs = .error 4 by simp only [decE, HD0.out, HD1.out, HD2.out, HD3.out]; rw [if_neg hk])
    rw [show inB (k : Int) 1 3 = false by rw [← Bool.not_eq_true, inB_iff]; omega]
    clear hk
    go_wp2_with fail
    refine (rdfail_any g 4 _).mono ?_
    rintro e w5 ⟨rfl, b5⟩
    go_wp2_with fail
    exact ⟨rfl, o4.then_below (b5.mono o4.size), .inr ⟨4, HE.out, rfl⟩⟩
  have HK := Lib.hid hk
  rw [show inB (k : Int) 1 3 = true by rw [inB_iff]; omega]
  clear hk
  go_wp2_with fail
  refine (rdnum_any g b 50 _ 4 A4 _ c4 l4 _ h4 b4 HGB.out (by simp)).mono ?_
  intro e w5 hn
  rcases hd : Vint.dec l4 with x | ⟨wk, l5⟩
  · obtain ⟨rfl, oo⟩ := hn.bad hd
    have HE := Lib.hid (show decE bs = .error x by simp [decE, decK, HD0.out, HD1.out, HD2.out, HD3.out, HK.out.1, HK.out.2, hd])
    have HO := Lib.hid (gb_trans o4 oo)
    clear hd hn oo
    go_wp2_with fail
    exact ⟨rfl, HO.out, .inr ⟨x, HE.out, rfl⟩⟩
  obtain ⟨rfl, ⟨A5, c5, h5⟩, bb, oo⟩ := hn.good hd
  have b5 : Blk w5 b 50 #[.int .i64 (n : Nat), .int .i64 (q : Nat), .int .i64 (t : Nat), .int .i64 (k : Nat), .int .i64 (wk : Nat), .int .i64 0, .int .i64 0, .int .i64 0, .int .i64 0, .int .i64 0, .int .i64 0, .int .i64 0, .int .i64 0, .slice none 0 0] := bb
  have o5 := gb_trans o4 oo
  have HD4 := Lib.hid hd
  clear hd hn oo bb h4 b4 o4
  have hdK : decE bs = decK n q t k wk l5 := by simp [decE, HD0.out, HD1.out, HD2.out, HD3.out, HK.out.1, HK.out.2, HD4.out]
  have HDK := Lib.hid hdK
  clear hdK ck
  have ck : w5.cell? ⟨b, 3, none⟩ = some (.int .i64 (k : Nat)) := b5.cell 3
  by_cases hk1 : k = 1
  · have hq1 : ((k : Int) == 1) = true := by rw [beq_iff_eq]; omega
    have HK1 := Lib.hid hk1
    clear hk1
    go_wp2_with fail
    refine (rdnum_any g b 50 _ 5 A5 _ c5 l5 _ h5 b5 HGB.out (by simp)).mono ?_
    intro e w6 hn
    rcases hd : Vint.dec l5 with x | ⟨v, l6⟩
    · obtain ⟨rfl, oo⟩ := hn.bad hd
      have HE := Lib.hid (show decE bs = .error x by simp [HDK.out, decK, HK1.out, hd])
      have HO := Lib.hid (gb_trans o5 oo)
      clear hd hn oo
      go_wp2_with fail
      exact ⟨rfl, HO.out, .inr ⟨x, HE.out, rfl⟩⟩
    obtain ⟨rfl, ⟨A6, c6, h6⟩, bb, oo⟩ := hn.good hd
    have b6 : Blk w6 b 50 #[.int .i64 (n : Nat), .int .i64 (q : Nat), .int .i64 (t : Nat), .int .i64 (k : Nat), .int .i64 (wk : Nat), .int .i64 (v : Nat), .int .i64 0, .int .i64 0, .int .i64 0, .int .i64 0, .int .i64 0, .int .i64 0, .int .i64 0, .slice none 0 0] := bb
    have o6 := gb_trans o5 oo
    have HD5 := Lib.hid hd
    clear hd hn oo bb h5 b5 o5
    have HE := Lib.hid (show decE bs = .ok (⟨((n : Int), (q : Int)), (t : Nat), (k : Nat), (wk : Nat), (v : Nat), Evt.p0, []⟩, l6) by simp [HDK.out, decK, HK1.out, HD5.out])
    go_wp2_with fail
    (try simp only [Exit.inBlock, Exit.then])
    refine bodyPost_ret (results_none rfl _ _ _) rfl ?_
    exact ⟨o6, .inl ⟨_, _, HE.out, rfl, ⟨A6, c6, h6⟩, none, 0, 0, b6, OwnD.nil _ _⟩⟩
  have hq1 : ((k : Int) == 1) = false := by rw [beq_eq_false_iff_ne]; omega
  have HK1 := Lib.hid hk1
  clear hk1
  by_cases hk2 : k = 2
  · have hq2 : ((k : Int) == 2) = true := by rw [beq_iff_eq]; omega
    have HK2 := Lib.hid hk2
    clear hk2
    go_wp2_with fail
    refine (polr_any b g _ _ _ _ _ _ _ _ _ _ _ _ _ _ A5 _ c5 l5 _ h5 b5 HGB.out).mono ?_
    rintro e w6 ⟨oo, ⟨x0, x1, x2, x3, x4, x5, x6, l6, hd, rfl, ⟨A6, c6, h6⟩, b6⟩ | ⟨x, hd, rfl⟩⟩
    case inr =>
      have HE := Lib.hid (show decE bs = .error x by simp [HDK.out, decK, HK2.out, hd])
      have HO := Lib.hid (gb_trans o5 oo)
      clear hd oo
      go_wp2_with fail
      exact ⟨rfl, HO.out, .inr ⟨x, HE.out, rfl⟩⟩
    have o6 := gb_trans o5 oo
    have HD5 := Lib.hid hd
    clear hd oo h5 b5 o5
    have cs : w6.cell? ⟨b, 13, none⟩ = some (.slice none 0 0) := b6.cell 13
    go_upto_region 15 with fail
    refine nameW ?_
    intro wa hwa
    obtain ⟨r, hr⟩ : ∃ r, r = w6.heap.size := ⟨_, rfl⟩
    rw [← hr]
    have ka : Blk wa r 3 #[.int .i64 0] := by rw [hwa, hr]; exact Blk.new _ _ _
    have ha : Rdr wa g A6 l6.length c6 l6 0 := by rw [hwa]; exact h6.below ((Below.refl _ _).alloc (by have := h6.lt; omega) _)
    have ba : Blk wa b 50 #[.int .i64 (n : Nat), .int .i64 (q : Nat), .int .i64 (t : Nat), .int .i64 (k : Nat), .int .i64 (wk : Nat), .int .i64 0, .int .i64 (x0 : Nat), .int .i64 (x1 : Nat), .int .i64 (x2 : Nat), .int .i64 (x3 : Nat), .int .i64 (x4 : Nat), .int .i64 (x5 : Nat), .int .i64 (x6 : Nat), .slice none 0 0] := by rw [hwa]; exact b6.alloc _
    have oa : Only (GB g b) w wa := by rw [hwa]; exact o6.alloc _
    have hrw : w.heap.size ≤ r := by rw [hr]; exact o6.size
    have hgr : g < r := by have := h6.lt; omega
    have hbr : b < r := by have := b6.lt; omega
    have HR3 := Lib.hid (show w.heap.size ≤ r ∧ g < r ∧ b < r from ⟨hrw, hgr, hbr⟩)
    clear hwa hr h6 b6 o6 cs hgr ck hbr hrw
    go_wp2_with fail
    refine (rdnum_any g r 3 _ 0 A6 _ c6 l6 _ ha ka HR3.out.2.1 (by simp)).mono ?_
    intro e wc hn
    rcases hd : Vint.dec l6 with x | ⟨m, lm⟩
    · obtain ⟨rfl, oo⟩ := hn.bad hd
      have HE := Lib.hid (show decE bs = .error x by simp [HDK.out, decK, decL, HK2.out, HD5.out, hd])
      have HO := Lib.hid (gb_new oa oo HR3.out.1)
      clear hd hn oo
      go_wp2_with fail
      exact ⟨rfl, HO.out, .inr ⟨x, HE.out, rfl⟩⟩
    obtain ⟨rfl, ⟨Am, cm, hM⟩, bb, oo⟩ := hn.good hd
    have kc : Blk wc r 3 #[.int .i64 (m : Nat)] := bb
    have bC : Blk wc b 50 #[.int .i64 (n : Nat), .int .i64 (q : Nat), .int .i64 (t : Nat), .int .i64 (k : Nat), .int .i64 (wk : Nat), .int .i64 0, .int .i64 (x0 : Nat), .int .i64 (x1 : Nat), .int .i64 (x2 : Nat), .int .i64 (x3 : Nat), .int .i64 (x4 : Nat), .int .i64 (x5 : Nat), .int .i64 (x6 : Nat), .slice none 0 0] := (oo.block b ba.lt (by rintro (h | h); have := HGB.out; omega; have := HR3.out.2.2; omega)).trans ba
    have oC := gb_new oa oo HR3.out.1
    have HDM := Lib.hid hd
    have cr : wc.cell? ⟨r, 0, none⟩ = some (.int .i64 (m : Nat)) := kc.cell 0
    clear hd hn oo bb ha ba oa ka
    by_cases hm96 : 96 < m
    · have hmd : decide ((96 : Int) < (m : Int)) = true := decide_eq_true (by omega)
      have HE := Lib.hid (show decE bs = .error 6 by simp [HDK.out, decK, decL, HK2.out, HD5.out, HDM.out, hm96])
      clear hm96
      go_wp2_with fail
      refine (rdfail_any g 6 _).mono ?_
      rintro e w8 ⟨rfl, b8⟩
      go_wp2_with fail
      exact ⟨rfl, oC.then_below (b8.mono oC.size), .inr ⟨6, HE.out, rfl⟩⟩
    have hmd : decide ((96 : Int) < (m : Int)) = false := decide_eq_false (by omega)
    have H96 := Lib.hid (show m ≤ 96 by omega)
    have HDD := Lib.hid (show ∀ j x, j ≤ m → decD j lm = .error x → decE bs = .error x from fun j x hj hx => by
      have hx2 := decD_err hx m hj
      simp [HDK.out, decK, decL, HK2.out, HD5.out, HDM.out, hm96, hx2])
    have HDK2 := Lib.hid (show ∀ ds lr, decD m lm = .ok (ds, lr) → decE bs = .ok (⟨((n : Int), (q : Int)), (t : Nat), (k : Nat), (wk : Nat), 0, [x0, x1, x2, x3, x4, x5, x6].map fun x : Nat => (x : Int), ds⟩, lr) from fun ds lr hx => by
      simp [HDK.out, decK, decL, HK2.out, HD5.out, HDM.out, hm96, hx])
    clear hm96
    have cs : wc.cell? ⟨b, 13, none⟩ = some (.slice none 0 0) := bC.cell 13
    go_upto_region 18 with fail
    by_cases hm0 : m = 0
    · subst hm0
      have HF := HDK2.out [] lm rfl
      have HFF := Lib.hid HF
      clear HF
      go_region
      go_wp2_with fail
      refine wp_loop_rounds 1 ?_
      rw [rounds_succ]
      go_wp2_with fail
      go_end0
      exact ⟨oC.drewN 1, .inl ⟨_, _, HFF.out, rfl, ⟨Am, cm, hM⟩, none, 0, 0, bC, OwnD.nil _ _⟩⟩
    have hmn : ((0 : Int) != (m : Int)) = true := by rw [bne_iff_ne]; omega
    have hmk := run_makeD wc.drew m (by have := H96.out; omega)
    have hbw : b < wc.heap.size := bC.lt
    have fb := bC.free 13
    go_region
    go_upto_region 20 with fail
    refine nameW ?_
    intro wd hwd
    obtain ⟨d, hd⟩ : ∃ d, d = wc.heap.size := ⟨_, rfl⟩
    rw [← hd]
    have kd : Blk wd d 46 (dzs [] m) := by
      have h1 := Blk.new (wc.setCell ⟨b, 13, none⟩ (.slice (some ⟨wc.heap.size, 0, none⟩) m m)) 46 (dzs [] m)
      rw [show (wc.setCell ⟨b, 13, none⟩ (.slice (some ⟨wc.heap.size, 0, none⟩) m m)).heap.size = wc.heap.size by simp [World.setCell]] at h1
      rw [hwd, hd]
      exact h1
    have bD : Blk wd b 50 #[.int .i64 (n : Nat), .int .i64 (q : Nat), .int .i64 (t : Nat), .int .i64 (k : Nat), .int .i64 (wk : Nat), .int .i64 0, .int .i64 (x0 : Nat), .int .i64 (x1 : Nat), .int .i64 (x2 : Nat), .int .i64 (x3 : Nat), .int .i64 (x4 : Nat), .int .i64 (x5 : Nat), .int .i64 (x6 : Nat), .slice (some ⟨d, 0, none⟩) m m] := by
      rw [hwd, hd]
      exact (bC.set_ 13 (.slice (some ⟨wc.heap.size, 0, none⟩) m m)).alloc _
    have hD : Rdr wd g Am lm.length cm lm 0 := by
      rw [hwd]
      refine hM.below ?_
      have h1 : Below (g + 1) wc (wc.setCell ⟨b, 13, none⟩ (.slice (some ⟨wc.heap.size, 0, none⟩) m m)) := (Below.refl _ _).setCell (by show g + 1 ≤ b; have := HGB.out; omega) _
      exact (h1.alloc (by have := hM.lt; simp [World.setCell]; omega) _).drew
    have oD : Only (GB g b) w wd := by
      rw [hwd]
      have h1 := (oC.setCell (p := ⟨b, 13, none⟩) (.inl (.inr rfl)) (.slice (some ⟨wc.heap.size, 0, none⟩) m m)).alloc (.cells (dzs [] m) 46)
      exact ⟨h1.os, h1.tape, h1.output, h1.size, h1.block⟩
    have hgd : g < d := by have := hM.lt; omega
    have hbd : b < d := by omega
    have HGD := Lib.hid (show g < d ∧ b < d ∧ w.heap.size ≤ d from ⟨hgd, hbd, by rw [hd]; exact oC.size⟩)
    clear hwd hd hM bC kc oC cr cs hmk fb hbw hmn hgd hbd hm0
    have cs : wd.cell? ⟨b, 13, none⟩ = some (.slice (some ⟨d, 0, none⟩) m m) := bD.cell 13
    go_wp2_with fail
    go_loopw [93] (fun i wr => ∃ (j : Nat) (ds : List Dt) (lr : List UInt8) (A : Option Addr) (c : Nat), j ≤ m ∧ i = .int .i64 j ∧ decD j lm = .ok (ds, lr) ∧ Rdr wr g A lr.length c lr 0 ∧ Blk wr b 50 #[.int .i64 (n : Nat), .int .i64 (q : Nat), .int .i64 (t : Nat), .int .i64 (k : Nat), .int .i64 (wk : Nat), .int .i64 0, .int .i64 (x0 : Nat), .int .i64 (x1 : Nat), .int .i64 (x2 : Nat), .int .i64 (x3 : Nat), .int .i64 (x4 : Nat), .int .i64 (x5 : Nat), .int .i64 (x6 : Nat), .slice (some ⟨d, 0, none⟩) m m] ∧ Blk wr d 46 (dzs ds m) ∧ Only (GB g b) w wr) (fun i _ => m - (intOf i).toNat)
    case atStart => exact ⟨0, [], lm, Am, cm, by omega, rfl, rfl, hD, bD, kd, oD⟩
    case round =>
      clear hD bD kd oD cs
      obtain ⟨j, ds, lr, A, c, hj, rfl, hdj, hR, bR, kR, oR⟩ := hrel
      have cs : wr.cell? ⟨b, 13, none⟩ = some (.slice (some ⟨d, 0, none⟩) m m) := bR.cell 13
      have hdl := decD_len _ _ _ _ hdj
      have HDJ := Lib.hid hdj
      have HDL := Lib.hid hdl
      clear hdj hdl
      by_cases hlt : j < m
      · have hj0 : (0 : Int) ≤ (j : Int) := by omega
        have hjm : (j : Int) < (m : Int) := by omega
        have hsz := dzs_size (ds := ds) (m := m) (by rw [HDL.out]; omega)
        have HSZ := Lib.hid hsz
        clear hsz
        go_wp2_with fail
        refine (rdnum_any g d 46 _ (j * 2) A _ c lr _ hR kR HGD.out.1 (by rw [HSZ.out]; omega)).mono ?_
        intro e wx hn
        rcases hd : Vint.dec lr with x | ⟨x, lx⟩
        · obtain ⟨rfl, oo⟩ := hn.bad hd
          have HE := Lib.hid (HDD.out (j + 1) x (by omega) (by simp [decD, HDJ.out, hd]))
          have HO := Lib.hid (gb_new oR oo HGD.out.2.2)
          clear hd hn oo
          go_wp2_with fail
          exact ⟨rfl, HO.out, .inr ⟨x, HE.out, rfl⟩⟩
        obtain ⟨rfl, ⟨Ax, cx, hX⟩, kX, oo⟩ := hn.good hd
        have bX := (show Blk wx b _ _ from (oo.block b bR.lt (by rintro (h | h); have := HGB.out; omega; have := HGD.out.2.1; omega)).trans bR)
        have oX := gb_new oR oo HGD.out.2.2
        have HDX := Lib.hid hd
        have cs : wx.cell? ⟨b, 13, none⟩ = some (.slice (some ⟨d, 0, none⟩) m m) := bX.cell 13
        clear hd hn oo hR kR bR oR
        go_wp2_with fail
        refine (rdnum_any g d 46 _ (j * 2 + 1) Ax _ cx lx _ hX kX HGD.out.1 (by rw [Array.size_setIfInBounds, HSZ.out]; omega)).mono ?_
        intro e wy hn
        rcases hd : Vint.dec lx with y | ⟨y, ly⟩
        · obtain ⟨rfl, oo⟩ := hn.bad hd
          have HE := Lib.hid (HDD.out (j + 1) y (by omega) (by simp [decD, HDJ.out, HDX.out, hd]))
          have HO := Lib.hid (gb_new oX oo HGD.out.2.2)
          clear hd hn oo
          go_wp2_with fail
          exact ⟨rfl, HO.out, .inr ⟨y, HE.out, rfl⟩⟩
        obtain ⟨rfl, ⟨Ay, cy, hY⟩, kY, oo⟩ := hn.good hd
        have bY := (show Blk wy b _ _ from (oo.block b bX.lt (by rintro (h | h); have := HGB.out; omega; have := HGD.out.2.1; omega)).trans bX)
        have oY := gb_new oX oo HGD.out.2.2
        have hds := dzs_set ds m x y (by rw [HDL.out]; exact hlt)
        rw [HDL.out] at hds
        rw [hds] at kY
        have HDY := Lib.hid (show decD (j + 1) lm = .ok (ds ++ [((x : Int), (y : Int))], ly) by simp [decD, HDJ.out, HDX.out, hd])
        clear hd hn oo hX kX bX oX hds
        go_wp2_with fail
        go_roundw
        case rel => exact ⟨j + 1, _, ly, Ay, cy, by omega, num_succ j (by have := H96.out; omega), HDY.out, hY, bY, kY, oY⟩
        case measure => exact meas_succ j m hlt (by have := H96.out; omega)
      · obtain rfl : j = m := by omega
        have HF := Lib.hid (HDK2.out ds lr HDJ.out)
        have hkd : decide ((j : Int) < (j : Int)) = false := decide_eq_false (by omega)
        go_wp2_with fail
        go_end0
        exact ⟨oR, .inl ⟨_, _, HF.out, rfl, ⟨A, c, hR⟩, _, _, _, bR, own_dzs kR HDL.out HGD.out.2.2 (by have := H96.out; omega)⟩⟩
  have hq2 : ((k : Int) == 2) = false := by rw [beq_eq_false_iff_ne]; omega
  have HK2 := Lib.hid hk2
  clear hk2
  have cs : w5.cell? ⟨b, 13, none⟩ = some (.slice none 0 0) := b5.cell 13
  go_upto_region 15 with fail
  refine nameW ?_
  intro wa hwa
  obtain ⟨r, hr⟩ : ∃ r, r = w5.heap.size := ⟨_, rfl⟩
  rw [← hr]
  have ka : Blk wa r 3 #[.int .i64 0] := by rw [hwa, hr]; exact Blk.new _ _ _
  have ha : Rdr wa g A5 l5.length c5 l5 0 := by rw [hwa]; exact h5.below ((Below.refl _ _).alloc (by have := h5.lt; omega) _)
  have ba : Blk wa b 50 #[.int .i64 (n : Nat), .int .i64 (q : Nat), .int .i64 (t : Nat), .int .i64 (k : Nat), .int .i64 (wk : Nat), .int .i64 0, .int .i64 0, .int .i64 0, .int .i64 0, .int .i64 0, .int .i64 0, .int .i64 0, .int .i64 0, .slice none 0 0] := by rw [hwa]; exact b5.alloc _
  have oa : Only (GB g b) w wa := by rw [hwa]; exact o5.alloc _
  have hrw : w.heap.size ≤ r := by rw [hr]; exact o5.size
  have hgr : g < r := by have := h5.lt; omega
  have hbr : b < r := by have := b5.lt; omega
  have HR3 := Lib.hid (show w.heap.size ≤ r ∧ g < r ∧ b < r from ⟨hrw, hgr, hbr⟩)
  clear hwa hr h5 b5 o5 cs hgr ck hbr hrw
  go_wp2_with fail
  refine (rdnum_any g r 3 _ 0 A5 _ c5 l5 _ ha ka HR3.out.2.1 (by simp)).mono ?_
  intro e wc hn
  rcases hd : Vint.dec l5 with x | ⟨m, lm⟩
  · obtain ⟨rfl, oo⟩ := hn.bad hd
    have HE := Lib.hid (show decE bs = .error x by simp [HDK.out, decK, decL, HK1.out, HK2.out, hd])
    have HO := Lib.hid (gb_new oa oo HR3.out.1)
    clear hd hn oo
    go_wp2_with fail
    exact ⟨rfl, HO.out, .inr ⟨x, HE.out, rfl⟩⟩
  obtain ⟨rfl, ⟨Am, cm, hM⟩, bb, oo⟩ := hn.good hd
  have kc : Blk wc r 3 #[.int .i64 (m : Nat)] := bb
  have bC : Blk wc b 50 #[.int .i64 (n : Nat), .int .i64 (q : Nat), .int .i64 (t : Nat), .int .i64 (k : Nat), .int .i64 (wk : Nat), .int .i64 0, .int .i64 0, .int .i64 0, .int .i64 0, .int .i64 0, .int .i64 0, .int .i64 0, .int .i64 0, .slice none 0 0] := (oo.block b ba.lt (by rintro (h | h); have := HGB.out; omega; have := HR3.out.2.2; omega)).trans ba
  have oC := gb_new oa oo HR3.out.1
  have HDM := Lib.hid hd
  have cr : wc.cell? ⟨r, 0, none⟩ = some (.int .i64 (m : Nat)) := kc.cell 0
  clear hd hn oo bb ha ba oa ka
  by_cases hm96 : 96 < m
  · have hmd : decide ((96 : Int) < (m : Int)) = true := decide_eq_true (by omega)
    have HE := Lib.hid (show decE bs = .error 6 by simp [HDK.out, decK, decL, HK1.out, HK2.out, HDM.out, hm96])
    clear hm96
    go_wp2_with fail
    refine (rdfail_any g 6 _).mono ?_
    rintro e w8 ⟨rfl, b8⟩
    go_wp2_with fail
    exact ⟨rfl, oC.then_below (b8.mono oC.size), .inr ⟨6, HE.out, rfl⟩⟩
  have hmd : decide ((96 : Int) < (m : Int)) = false := decide_eq_false (by omega)
  have H96 := Lib.hid (show m ≤ 96 by omega)
  have HDD := Lib.hid (show ∀ j x, j ≤ m → decD j lm = .error x → decE bs = .error x from fun j x hj hx => by
    have hx2 := decD_err hx m hj
    simp [HDK.out, decK, decL, HK1.out, HK2.out, HDM.out, hm96, hx2])
  have HDK2 := Lib.hid (show ∀ ds lr, decD m lm = .ok (ds, lr) → decE bs = .ok (⟨((n : Int), (q : Int)), (t : Nat), (k : Nat), (wk : Nat), 0, Evt.p0, ds⟩, lr) from fun ds lr hx => by
    simp [HDK.out, decK, decL, HK1.out, HK2.out, HDM.out, hm96, hx])
  clear hm96
  have cs : wc.cell? ⟨b, 13, none⟩ = some (.slice none 0 0) := bC.cell 13
  go_upto_region 18 with fail
  by_cases hm0 : m = 0
  · subst hm0
    have HF := HDK2.out [] lm rfl
    have HFF := Lib.hid HF
    clear HF
    go_region
    go_wp2_with fail
    refine wp_loop_rounds 1 ?_
    rw [rounds_succ]
    go_wp2_with fail
    go_end0
    exact ⟨oC.drewN 1, .inl ⟨_, _, HFF.out, rfl, ⟨Am, cm, hM⟩, none, 0, 0, bC, OwnD.nil _ _⟩⟩
  have hmn : ((0 : Int) != (m : Int)) = true := by rw [bne_iff_ne]; omega
  have hmk := run_makeD wc.drew m (by have := H96.out; omega)
  have hbw : b < wc.heap.size := bC.lt
  have fb := bC.free 13
  go_region
  go_upto_region 20 with fail
  refine nameW ?_
  intro wd hwd
  obtain ⟨d, hd⟩ : ∃ d, d = wc.heap.size := ⟨_, rfl⟩
  rw [← hd]
  have kd : Blk wd d 46 (dzs [] m) := by
    have h1 := Blk.new (wc.setCell ⟨b, 13, none⟩ (.slice (some ⟨wc.heap.size, 0, none⟩) m m)) 46 (dzs [] m)
    rw [show (wc.setCell ⟨b, 13, none⟩ (.slice (some ⟨wc.heap.size, 0, none⟩) m m)).heap.size = wc.heap.size by simp [World.setCell]] at h1
    rw [hwd, hd]
    exact h1
  have bD : Blk wd b 50 #[.int .i64 (n : Nat), .int .i64 (q : Nat), .int .i64 (t : Nat), .int .i64 (k : Nat), .int .i64 (wk : Nat), .int .i64 0, .int .i64 0, .int .i64 0, .int .i64 0, .int .i64 0, .int .i64 0, .int .i64 0, .int .i64 0, .slice (some ⟨d, 0, none⟩) m m] := by
    rw [hwd, hd]
    exact (bC.set_ 13 (.slice (some ⟨wc.heap.size, 0, none⟩) m m)).alloc _
  have hD : Rdr wd g Am lm.length cm lm 0 := by
    rw [hwd]
    refine hM.below ?_
    have h1 : Below (g + 1) wc (wc.setCell ⟨b, 13, none⟩ (.slice (some ⟨wc.heap.size, 0, none⟩) m m)) := (Below.refl _ _).setCell (by show g + 1 ≤ b; have := HGB.out; omega) _
    exact (h1.alloc (by have := hM.lt; simp [World.setCell]; omega) _).drew
  have oD : Only (GB g b) w wd := by
    rw [hwd]
    have h1 := (oC.setCell (p := ⟨b, 13, none⟩) (.inl (.inr rfl)) (.slice (some ⟨wc.heap.size, 0, none⟩) m m)).alloc (.cells (dzs [] m) 46)
    exact ⟨h1.os, h1.tape, h1.output, h1.size, h1.block⟩
  have hgd : g < d := by have := hM.lt; omega
  have hbd : b < d := by omega
  have HGD := Lib.hid (show g < d ∧ b < d ∧ w.heap.size ≤ d from ⟨hgd, hbd, by rw [hd]; exact oC.size⟩)
  clear hwd hd hM bC kc oC cr cs hmk fb hbw hmn hgd hbd hm0
  have cs : wd.cell? ⟨b, 13, none⟩ = some (.slice (some ⟨d, 0, none⟩) m m) := bD.cell 13
  go_wp2_with fail
  go_loopw [93] (fun i wr => ∃ (j : Nat) (ds : List Dt) (lr : List UInt8) (A : Option Addr) (c : Nat), j ≤ m ∧ i = .int .i64 j ∧ decD j lm = .ok (ds, lr) ∧ Rdr wr g A lr.length c lr 0 ∧ Blk wr b 50 #[.int .i64 (n : Nat), .int .i64 (q : Nat), .int .i64 (t : Nat), .int .i64 (k : Nat), .int .i64 (wk : Nat), .int .i64 0, .int .i64 0, .int .i64 0, .int .i64 0, .int .i64 0, .int .i64 0, .int .i64 0, .int .i64 0, .slice (some ⟨d, 0, none⟩) m m] ∧ Blk wr d 46 (dzs ds m) ∧ Only (GB g b) w wr) (fun i _ => m - (intOf i).toNat)
  case atStart => exact ⟨0, [], lm, Am, cm, by omega, rfl, rfl, hD, bD, kd, oD⟩
  case round =>
    clear hD bD kd oD cs
    obtain ⟨j, ds, lr, A, c, hj, rfl, hdj, hR, bR, kR, oR⟩ := hrel
    have cs : wr.cell? ⟨b, 13, none⟩ = some (.slice (some ⟨d, 0, none⟩) m m) := bR.cell 13
    have hdl := decD_len _ _ _ _ hdj
    have HDJ := Lib.hid hdj
    have HDL := Lib.hid hdl
    clear hdj hdl
    by_cases hlt : j < m
    · have hj0 : (0 : Int) ≤ (j : Int) := by omega
      have hjm : (j : Int) < (m : Int) := by omega
      have hsz := dzs_size (ds := ds) (m := m) (by rw [HDL.out]; omega)
      have HSZ := Lib.hid hsz
      clear hsz
      go_wp2_with fail
      refine (rdnum_any g d 46 _ (j * 2) A _ c lr _ hR kR HGD.out.1 (by rw [HSZ.out]; omega)).mono ?_
      intro e wx hn
      rcases hd : Vint.dec lr with x | ⟨x, lx⟩
      · obtain ⟨rfl, oo⟩ := hn.bad hd
        have HE := Lib.hid (HDD.out (j + 1) x (by omega) (by simp [decD, HDJ.out, hd]))
        have HO := Lib.hid (gb_new oR oo HGD.out.2.2)
        clear hd hn oo
        go_wp2_with fail
        exact ⟨rfl, HO.out, .inr ⟨x, HE.out, rfl⟩⟩
      obtain ⟨rfl, ⟨Ax, cx, hX⟩, kX, oo⟩ := hn.good hd
      have bX := (show Blk wx b _ _ from (oo.block b bR.lt (by rintro (h | h); have := HGB.out; omega; have := HGD.out.2.1; omega)).trans bR)
      have oX := gb_new oR oo HGD.out.2.2
      have HDX := Lib.hid hd
      have cs : wx.cell? ⟨b, 13, none⟩ = some (.slice (some ⟨d, 0, none⟩) m m) := bX.cell 13
      clear hd hn oo hR kR bR oR
      go_wp2_with fail
      refine (rdnum_any g d 46 _ (j * 2 + 1) Ax _ cx lx _ hX kX HGD.out.1 (by rw [Array.size_setIfInBounds, HSZ.out]; omega)).mono ?_
      intro e wy hn
      rcases hd : Vint.dec lx with y | ⟨y, ly⟩
      · obtain ⟨rfl, oo⟩ := hn.bad hd
        have HE := Lib.hid (HDD.out (j + 1) y (by omega) (by simp [decD, HDJ.out, HDX.out, hd]))
        have HO := Lib.hid (gb_new oX oo HGD.out.2.2)
        clear hd hn oo
        go_wp2_with fail
        exact ⟨rfl, HO.out, .inr ⟨y, HE.out, rfl⟩⟩
      obtain ⟨rfl, ⟨Ay, cy, hY⟩, kY, oo⟩ := hn.good hd
      have bY := (show Blk wy b _ _ from (oo.block b bX.lt (by rintro (h | h); have := HGB.out; omega; have := HGD.out.2.1; omega)).trans bX)
      have oY := gb_new oX oo HGD.out.2.2
      have hds := dzs_set ds m x y (by rw [HDL.out]; exact hlt)
      rw [HDL.out] at hds
      rw [hds] at kY
      have HDY := Lib.hid (show decD (j + 1) lm = .ok (ds ++ [((x : Int), (y : Int))], ly) by simp [decD, HDJ.out, HDX.out, hd])
      clear hd hn oo hX kX bX oX hds
      go_wp2_with fail
      go_roundw
      case rel => exact ⟨j + 1, _, ly, Ay, cy, by omega, num_succ j (by have := H96.out; omega), HDY.out, hY, bY, kY, oY⟩
      case measure => exact meas_succ j m hlt (by have := H96.out; omega)
    · obtain rfl : j = m := by omega
      have HF := Lib.hid (HDK2.out ds lr HDJ.out)
      have hkd : decide ((j : Int) < (j : Int)) = false := decide_eq_false (by omega)
      go_wp2_with fail
      go_end0
      exact ⟨oR, .inl ⟨_, _, HF.out, rfl, ⟨A, c, hR⟩, _, _, _, bR, own_dzs kR HDL.out HGD.out.2.2 (by have := H96.out; omega)⟩⟩
end Go.Proofs.Ytcgalmnllegnbaa

/- The walk of event.Put. -/
namespace Go.Proofs.Ytcgalmnllegnbaa
set_option linter.unusedVariables false
set_option linter.unusedSimpArgs false
set_option maxRecDepth 100000
open Go.RowKit
open Dot Evt
/-- what Put gives: bytes, an error's number -/
def putE (x : Ev) : List UInt8 × Nat := if rightE x = true then (encE x, 0) else ([], 2)
end Go.Proofs.Ytcgalmnllegnbaa

/- The document's example of layer 7. -/
namespace Go.Proofs.Ytcgalmnllegnbaa
set_option linter.unusedVariables false
set_option linter.unusedSimpArgs false
set_option maxRecDepth 100000
open Go.RowKit
open Dot Evt
def exE : Ev := ⟨(1, 2), 3, 1, 4, 5, Evt.p0, []⟩
def exZ : Ev := ⟨(0, 0), 0, 0, 0, 0, Evt.p0, []⟩
def exT (t : Int) : Ev := ⟨(0, 0), t, 0, 0, 0, Evt.p0, []⟩
abbrev cE : Array Value := #[.int .i64 1, .int .i64 2, .int .i64 3, .int .i64 1, .int .i64 4, .int .i64 5, .int .i64 0, .int .i64 0, .int .i64 0, .int .i64 0, .int .i64 0, .int .i64 0, .int .i64 0, .slice none 0 0]
abbrev cT (t : Int) : Array Value := #[.int .i64 0, .int .i64 0, .int .i64 t, .int .i64 0, .int .i64 0, .int .i64 0, .int .i64 0, .int .i64 0, .int .i64 0, .int .i64 0, .int .i64 0, .int .i64 0, .int .i64 0, .slice none 0 0]
theorem cE_eq : ec exE (.slice none 0 0) = cE := by kernel_rfl
theorem cT_eq (t : Int) : ec (exT t) (.slice none 0 0) = cT t := by kernel_rfl
theorem exE_put : putE exE = ([1, 2, 3, 1, 4, 5], 0) := by decide +kernel
theorem exE_right : rightE exE = true := by decide +kernel
theorem exZ_right : rightE (exT 0) = false := by decide +kernel
theorem exL : laterB (exT 2) (exT 1) = true := by decide +kernel
end Go.Proofs.Ytcgalmnllegnbaa

/- A region that must not panic. -/
namespace Go.Proofs.Ytcgalmnllegnbaa
set_option linter.unusedVariables false
set_option linter.unusedSimpArgs false
set_option maxRecDepth 100000
open Go.RowKit
/-- A region that must not panic: what holds behind a panic is no matter. -/
def NoPanic (Q : Exit → Act → World → Prop) : Exit → Act → World → Prop
  | .panic _, _, _ => False
  | e, a, w => Q e a w
theorem NoPanic.ok {Q : Exit → Act → World → Prop} {a : Act} {w : World} (h : Q .normal a w) : NoPanic Q .normal a w := h
theorem wp_nopanic {P : Program} {c : Code} {Q : Exit → Act → World → Prop} {a : Act} {w : World} (h : c.wp P (NoPanic Q) a w) : c.wp P Q a w :=
  Code.wp_mono (fun e a w h => by cases e <;> first | exact h | exact False.elim h) h
end Go.Proofs.Ytcgalmnllegnbaa

/- The walk of event.Get. -/
namespace Go.Proofs.Ytcgalmnllegnbaa
set_option linter.unusedVariables false
set_option linter.unusedSimpArgs false
set_option maxRecDepth 100000
open Go.RowKit
open Dot Evt
/-- the event of bytes, an error's number -/
def getEv (bs : List UInt8) : Ev × Nat := match decE bs with
  | .ok (x, r) => if r = [] ∧ rightE x = true then (x, 0) else (exZ, 4)
  | .error y => (exZ, y)
def GetEv (w : World) (bs : List UInt8) (e : Ending) (w' : World) : Prop := ∃ A m c, e = .returned (.tuple #[.agg (ec (getEv bs).1 (.slice A m c)), .int .i64 ((getEv bs).2 : Nat)]) ∧ OwnD w' w.heap.size A m c (getEv bs).1.l ∧ Below w.heap.size w w'
theorem results_cc {P : Program} {T U : TypeId} {n g : Nat} {cs : Array Value} {t : TypeId} {fn : Func} {p q : Tmp} {w : World} {tmps : Array Value} {ad : Addr} {v : Value} (h : fn.results = #[.cell p T, .cell q U]) (hR : RowT P T n) (hB : Blk w g t cs) (hn : cs.size = n) (hp : tmps.getD p undef = .pointer (some ⟨g, 0, none⟩)) (hq : tmps.getD q undef = .pointer (some ad)) (hl2 : (loadVar U ad).run P w = .ok v w) : (results fn tmps).run P w = .ok (.tuple #[.agg cs, v]) w := by
  obtain ⟨d, hu, hd, hi⟩ := hR
  rw [← hn, ← Array.length_toList] at hi
  have hp' : tmps[p]?.getD undef = .pointer (some ⟨g, 0, none⟩) := by simpa using hp
  have hq' : tmps[q]?.getD undef = .pointer (some ad) := by simpa using hq
  have hl := run_loadVar_mid w g 0 T cs.toList d hB.range hu hd hi
  rw [Array.toArray_toList] at hl
  simp [results, h, hp', hq', asAddr, hl, hl2]
/-- A region that may panic in one way: what the frame's first slots hold is kept. -/
def PanicQ (K : Nat) (T0 : Array Value) (D : List Deferred) (c0 : List PanicEntry) (S : World → Prop) (Q : Exit → Act → World → Prop) : Exit → Act → World → Prop
  | .panic c, a, w => c = c0 ∧ (∀ i, i < K → a.tmps.getD i undef = T0.getD i undef) ∧ a.defers = D ∧ S w
  | e, a, w => Q e a w
theorem wp_panicQ {P : Program} {c : Code} {Q : Exit → Act → World → Prop} {a : Act} {w : World} {K : Nat} {T0 : Array Value} {D : List Deferred} {c0 : List PanicEntry} {S : World → Prop}
    (hp : ∀ a w, (∀ i, i < K → a.tmps.getD i undef = T0.getD i undef) → a.defers = D → S w → Q (.panic c0) a w) (h : c.wp P (PanicQ K T0 D c0 S Q) a w) : c.wp P Q a w :=
  Code.wp_mono (fun e a w h => by
    cases e
    case panic c =>
      obtain ⟨rfl, h1, h2, h3⟩ := h
      exact hp a w h1 h2 h3
    all_goals exact h) h
theorem panicQ_put {K : Nat} {T0 : Array Value} {D : List Deferred} {c0 : List PanicEntry} {S : World → Prop} {Q : Exit → Act → World → Prop} {d : Nat} {v : Value} (hd : K ≤ d) (c : List PanicEntry) (a : Act) (w : World) (h : PanicQ K T0 D c0 S Q (.panic c) (a.put (some d) v) w) : PanicQ K T0 D c0 S Q (.panic c) a w := by
  obtain ⟨h1, h2, h3, h4⟩ := h
  refine ⟨h1, fun i hi => ?_, h3, h4⟩
  rw [← h2 i hi]
  show _ = (a.tmps.setIfInBounds d v).getD i undef
  rw [Array.getD_eq_getD_getElem?, Array.getD_eq_getD_getElem?, Array.getElem?_setIfInBounds_ne (by omega)]
theorem PanicQ.ok {K : Nat} {T0 : Array Value} {D : List Deferred} {c0 : List PanicEntry} {S : World → Prop} {Q : Exit → Act → World → Prop} {a : Act} {w : World} (h : Q .normal a w) : PanicQ K T0 D c0 S Q .normal a w := h
theorem rowRd : RowT Try.prog 139 1 := ⟨_, Try.underlying139, rfl, by kernel_rfl⟩
theorem decE_p {l : List UInt8} {x : Ev} {r : List UInt8} (h : decE l = .ok (x, r)) : x.p.length = 7 := by
  unfold decE at h
  split at h
  · cases h
  split at h
  · cases h
  split at h
  · cases h
  split at h
  · cases h
  split at h
  case isFalse => cases h
  split at h
  · cases h
  unfold decK at h
  split at h
  · split at h
    · cases h
    · injection h with h; injection h with h _; rw [← h]; rfl
  · split at h
    · split at h
      · cases h
      · rename_i hd
        split at h
        · cases h
        · injection h with h; injection h with h _
          rw [← h]
          show (List.map _ _).length = 7
          rw [List.length_map, decs_len _ _ _ _ hd]
    · split at h
      · cases h
      · injection h with h; injection h with h _; rw [← h]; rfl
theorem exZ_cs : cT 0 = ec exZ (.slice none 0 0) := by kernel_rfl
end Go.Proofs.Ytcgalmnllegnbaa

/- Rows of events in memory; the document's Great. -/
namespace Go.Proofs.Ytcgalmnllegnbaa
set_option linter.unusedVariables false
set_option linter.unusedSimpArgs false
set_option maxRecDepth 100000
open Go.RowKit
open Dot Evt
section
variable {P : Program}
theorem run_loadVar_at (w : World) (a : Addr) (ty : TypeId) (cs : List Value) (d : TypeDesc) (hc : ∀ (j : Nat) v, cs[j]? = some v → w.cell? (a.add j) = some v)
    (hu : P.underlying ty = some d) (hd : d.isRow = true) (hi : (P.info? ty).map (·.size) = some cs.length) :
    (loadVar ty a).run P w = .ok (.agg cs.toArray) w := by
  have hl : (loadCells a cs.length).run P w = .ok cs.toArray w := run_loadCells_list (P := P) w a cs hc
  cases hq : P.info? ty with
  | none => simp [hq] at hi
  | some i =>
    have hs : i.size = cs.length := by simpa [hq] using hi
    have hagg : (isAgg ty).run P w = .ok true w := by
      unfold isAgg
      rw [Sem.run_bind, run_underlying hu w]
      cases d <;> simp_all
    simp [loadVar, Sem.run_bind, hagg, sizeOf, typeInfo, hq, hs, hl]
theorem wpList_lda {ops : Array Oper} {rest : List Oper} {a : Act} {w : World} {Q : Exit → Act → World → Prop} {d : Option Tmp} {ty T : TypeId} {pos : String} {aft : Array Edge} {x : Operand} {ad : Addr} {n : Nat} {cs : Array Value} (hR : RowT P T n)
    (hc : ∀ (j : Nat) v, cs[j]? = some v → w.cell? (ad.add j) = some v) (hn : cs.size = n)
    (h : wpList P ops Q rest (a.put d (.agg cs)) w) (hx : a.eval x = .pointer (some ad)) : wpList P ops Q (⟨d, .load T x, ty, pos, aft, none⟩ :: rest) a w := by
  obtain ⟨e, hu, hd, hi⟩ := hR
  rw [← hn, ← Array.length_toList] at hi
  have hcl : ∀ (j : Nat) v, cs.toList[j]? = some v → w.cell? (ad.add j) = some v := fun j v hj => hc j v (by simpa using hj)
  refine wpList_plain rfl fun _ hK => ?_
  unfold Oper.wp execOp
  simp only [hx, Instr.loadAt, Instr.sureAddr, Sem.run_bind, Sem.run_pure, Result.andThen_ok, run_loadVar_at w ad T cs.toList e hcl hu hd hi, Array.toArray_toList]
  exact hK _ _ h
end
/-- an event's value in memory: the event, where the dots that it removes stand -/
structure EvV where
  e : Ev
  A : Option Addr
  m : Nat
  c : Nat
def EvV.cs (x : EvV) : Array Value := ec x.e (.slice x.A x.m x.c)
theorem EvV.size (x : EvV) : x.cs.size = 14 := rfl
theorem EvV.one (x : EvV) : x.cs.all (·.oneCell') = true := ec_one _ _ _ _
/-- an event that is read: its policy's numbers are seven, its dots are read -/
def EvOk (w : World) (B : Nat) (x : EvV) : Prop := x.e.p.length = 7 ∧ RdD w B x.A x.m x.e.l ∧ x.m ≤ 10000000000000
/-- a row of events that is read -/
def RowEv (w : World) (B : Nat) (A : Option Addr) (n : Nat) (xs : List EvV) : Prop :=
  n = xs.length ∧ ∀ i x, xs[i]? = some x → EvOk w B x ∧ ∃ ad, A = some ad ∧ ad.block < B ∧ ∀ (j : Nat) v, x.cs[j]? = some v → w.cell? ((ad.add (i * 14)).add j) = some v
section
variable {w w' : World} {B B' : Nat} {A : Option Addr} {n : Nat} {xs : List EvV} {x : EvV}
theorem EvOk.below (h : EvOk w B x) (hb : Below B w w') : EvOk w' B x := ⟨h.1, h.2.1.below hb, h.2.2⟩
theorem EvOk.more (h : EvOk w B x) (hB : B ≤ B') : EvOk w B' x := ⟨h.1, h.2.1.more hB, h.2.2⟩
theorem RowEv.below (h : RowEv w B A n xs) (hb : Below B w w') : RowEv w' B A n xs := ⟨h.1, fun i x hi => by
  obtain ⟨h1, ad, e, h2, h3⟩ := h.2 i x hi
  exact ⟨h1.below hb, ad, e, h2, fun j v hv => (hb.cell (by rw [block_add, block_add]; exact h2)).trans (h3 j v hv)⟩⟩
theorem RowEv.more (h : RowEv w B A n xs) (hB : B ≤ B') : RowEv w B' A n xs := ⟨h.1, fun i x hi => by
  obtain ⟨h1, ad, e, h2, h3⟩ := h.2 i x hi
  exact ⟨h1.more hB, ad, e, by omega, h3⟩⟩
theorem RowEv.nil (w : World) (B : Nat) (A : Option Addr) : RowEv w B A 0 [] := ⟨rfl, fun i d hi => by simp at hi⟩
end
theorem wrap_one (m : Nat) (h : m ≤ 10000000000000) : wrap64 (1 + (m : Int)) = 1 + (m : Int) := IntWalk.wrap64_in _ ⟨by omega, by omega⟩
theorem wrap_two (S m : Nat) (hs : S ≤ 3000) (h : m ≤ 10000000000000) : wrap64 ((S : Int) + (1 + (m : Int))) = (S : Int) + (1 + (m : Int)) := IntWalk.wrap64_in _ ⟨by omega, by omega⟩
theorem cast_two (S m : Nat) : Value.int .i64 ((S : Int) + (1 + (m : Int))) = .int .i64 ((S + (1 + m) : Nat) : Int) := by
  rw [Int.natCast_add, Int.natCast_add]
  rfl
/-- how much there is of events -/
def evSum (xs : List EvV) : Nat := (xs.map fun x => 1 + x.m).sum
theorem evSum_take (xs : List EvV) {k : Nat} (h : k < xs.length) : evSum (xs.take (k + 1)) = evSum (xs.take k) + (1 + xs[k].m) := by
  unfold evSum
  rw [take_snoc xs h, List.map_append, List.sum_append]
  simp
set_option maxRecDepth 100000 in
set_option maxHeartbeats 2000000 in
theorem egreat_any (A : Option Addr) (n c : Nat) (xs : List EvV) (B : Nat) (w : World) (hn : n ≤ 4611686018427387904) (hR : RowEv w B A n xs) (hB : B ≤ w.heap.size) :
    Calls Try.prog 30 #[.slice A n c] w fun e w' => (∃ G, e = .returned (.bool G) ∧ (G = false → evSum xs ≤ 3000)) ∧ Below w.heap.size w w' := by
  have HN := Lib.hid hR.1
  have HNB := Lib.hid hn
  have hRk := fun (w' : World) (hb : Below w.heap.size w w') => hR.below (hb.mono hB)
  have HRK := Lib.hid hRk
  clear hRk hn hR
  go_enter Try.func30, Try.ntmps30
  go_wp2_with fail
  go_loopw [3, 8] (fun s i wr => ∃ k : Nat, k ≤ n ∧ i = .int .i64 k ∧ s = .int .i64 (evSum (xs.take k) : Nat) ∧ evSum (xs.take k) ≤ 3000 ∧ Below w.heap.size w wr) (fun _ i _ => n - (intOf i).toNat)
  case atStart => exact ⟨0, by omega, rfl, rfl, by simp [evSum], Below.refl _ _⟩
  case round =>
    obtain ⟨k, hk, rfl, rfl, hs, gb⟩ := hrel
    by_cases hlt : k < n
    · have hkl : k < xs.length := by rw [← HN.out]; exact hlt
      obtain ⟨hok, ad, hA, hab, hcell⟩ := (HRK.out wr gb).2 k _ (List.getElem?_eq_getElem hkl)
      have hst := evSum_take xs hkl
      generalize xs[k] = x at *
      subst hA
      have hml : x.m ≤ 10000000000000 := hok.2.2
      obtain ⟨S, hS⟩ : ∃ S, S = evSum (xs.take k) := ⟨_, rfl⟩
      rw [← hS] at hs hst ⊢
      have HST := Lib.hid hst
      have hw1 := wrap_one x.m hml
      have hw2 := wrap_two S x.m hs hml
      obtain ⟨cs, hcs⟩ : ∃ cs, cs = x.cs := ⟨_, rfl⟩
      rw [← hcs] at hcell
      have HSZ := Lib.hid (show cs.size = 14 by rw [hcs]; rfl)
      have H1C := Lib.hid (show cs.all (·.oneCell') = true by rw [hcs]; exact x.one)
      have X13 := Lib.hid (show cs[13]? = some (.slice x.A x.m x.c) by rw [hcs]; rfl)
      have HC := Lib.hid hcell
      have hk0 : (0 : Int) ≤ (k : Int) := by omega
      have hkm : (k : Int) < (n : Int) := by omega
      clear hst hml hcs hcell hok hS
      go_upto_region 4 with fail
      go_upto_region 5 with first
        | ((with_reducible refine wpList_lda rowE HC.out HSZ.out ?_ ?_); rotate_left; (rfl))
        | ((with_reducible refine wpList_st rowE (Blk.new _ _ _) HSZ.out ?_ H1C.out ?_ ?_ ?_); (rfl); rotate_left; (rfl); (rfl); intro w6 k6 g6 z6)
      have bA : Below wr.heap.size wr w6 := (((Below.refl _ _).alloc (Nat.le_refl _) _).grown g6 (by simp) (fun q hq => by injection hq with hq; omega))
      have gb6 := gb.trans (bA.mono gb.size)
      obtain ⟨gr, hgr2⟩ : ∃ gr, gr = wr.heap.size := ⟨_, rfl⟩
      rw [← hgr2] at k6 ⊢
      have t13 : w6.cell? ⟨gr, 13, none⟩ = some (.slice x.A x.m x.c) := (k6.cell 13).trans X13.out
      clear hgr2 g6 z6 bA gb k6
      by_cases hbig : 3000 < S + (1 + x.m)
      · have hd : decide ((3000 : Int) < (S : Int) + (1 + (x.m : Int))) = true := decide_eq_true (by omega)
        clear hbig
        go_wp2_with fail
        go_ret
        exact ⟨⟨true, rfl, fun h => by cases h⟩, gb6⟩
      · have hd : decide ((3000 : Int) < (S : Int) + (1 + (x.m : Int))) = false := decide_eq_false (by omega)
        have HBG := Lib.hid hbig
        clear hbig
        go_wp2_with fail
        go_roundw
        case rel => exact ⟨k + 1, by omega, num_succ k (by have := HNB.out; omega), by rw [HST.out, hw2]; exact cast_two S x.m, by rw [HST.out]; have := HBG.out; omega, gb6⟩
        case measure => exact meas_succ k n hlt (by have := HNB.out; omega)
    · have hkd : decide ((k : Int) < (n : Int)) = false := decide_eq_false (by omega)
      have hsx : evSum xs ≤ 3000 := by rwa [List.take_of_length_le (by rw [← HN.out]; omega)] at hs
      have HSX := Lib.hid hsx
      clear hsx hs
      go_wp2_with fail
      go_ret
      exact ⟨⟨false, rfl, fun _ => HSX.out⟩, gb⟩
end Go.Proofs.Ytcgalmnllegnbaa

/- The walks of the document's Copy and Copies of events; rows of events of the call's own. -/
namespace Go.Proofs.Ytcgalmnllegnbaa
set_option linter.unusedVariables false
set_option linter.unusedSimpArgs false
set_option maxRecDepth 100000
open Go.RowKit
open Dot Evt
theorem own_emptyD {w : World} {g base : Nat} (h : Blk w g 46 #[]) (hb : base ≤ g) : OwnD w base (some ⟨g, 0, none⟩) 0 0 [] :=
  ⟨rfl, rfl, .inr ⟨g, 0, #[], rfl, hb, h, Nat.le_refl _, Nat.zero_le _, rfl, rfl⟩⟩
theorem infoEv : (Try.prog.info? 50).map (fun i => (i.zero, i.size, i.bytes)) = some (some (.agg (cT 0)), 14, 128) := by kernel_rfl
/-- events' cells -/
def ecsL (xs : List EvV) : List Value := xs.flatMap fun x => x.cs.toList
theorem ecsL_len (xs : List EvV) : (ecsL xs).length = xs.length * 14 := by
  induction xs with
  | nil => rfl
  | cons x l ih => show (x.cs.toList ++ ecsL l).length = _; rw [List.length_append, ih, Array.length_toList, x.size]; simp; omega
theorem ecsL_app (l m : List EvV) : ecsL (l ++ m) = ecsL l ++ ecsL m := by unfold ecsL; rw [List.flatMap_append]
theorem ecsL_one (l : List EvV) : ∀ u ∈ ecsL l, u.oneCell' = true := by
  intro u hu
  unfold ecsL at hu
  rw [List.mem_flatMap] at hu
  obtain ⟨d, _, hd⟩ := hu
  have := Array.all_eq_true_iff_forall_mem.1 d.one u (by simpa using hd)
  exact this
theorem ecsL_at (l : List EvV) : ∀ (i : Nat) (x : EvV), l[i]? = some x → ∀ (j : Nat) v, x.cs[j]? = some v → (ecsL l)[i * 14 + j]? = some v := by
  induction l with
  | nil => intro i d h; simp at h
  | cons y l ih =>
    intro i x h j v hv
    have e : ecsL (y :: l) = y.cs.toList ++ ecsL l := rfl
    have hj : j < 14 := by
      have := (Array.getElem?_eq_some_iff.1 hv).1
      rwa [x.size] at this
    rw [e]
    cases i with
    | zero =>
      simp at h
      subst h
      rw [Nat.zero_mul, Nat.zero_add, List.getElem?_append_left (by rw [Array.length_toList, y.size]; exact hj), Array.getElem?_toList]
      exact hv
    | succ i =>
      rw [List.getElem?_append_right (by rw [Array.length_toList, y.size]; omega), Array.length_toList, y.size, show (i + 1) * 14 + j - 14 = i * 14 + j by omega]
      exact ih i x (by simpa using h) j v hv
/-- a row of events of the call's own -/
def OwnEv (w : World) (base : Nat) (A : Option Addr) (n c : Nat) (xs : List EvV) : Prop := n = xs.length ∧ w.ownsRow base 50 14 (.slice A n c) n (ecsL xs)
section
variable {w w' : World} {base B n c : Nat} {A : Option Addr} {xs : List EvV}
theorem OwnEv.nil (w : World) (base : Nat) : OwnEv w base none 0 0 [] := ⟨rfl, World.ownsRow_nil w base _ 14⟩
theorem OwnEv.alloc (h : OwnEv w base A n c xs) (o : Obj) : OwnEv (w.alloc o) base A n c xs := ⟨h.1, h.2.alloc o⟩
theorem OwnEv.drew (h : OwnEv w base A n c xs) : OwnEv w.drew base A n c xs := h
theorem OwnEv.mono {base' : Nat} (h : OwnEv w base A n c xs) (hb : base' ≤ base) : OwnEv w base' A n c xs := ⟨h.1, ownsRow_base h.2 hb⟩
theorem OwnEv.raw (h : OwnEv w base A n c xs) : Rd w w.heap.size A (ecsL xs) := fun j u hu => by
  rcases h.2.2 with ⟨hv, h0⟩ | ⟨g, cap, cur, hv, hb, hh, hn, hm, hs, hc⟩
  · have := h.2.1; rw [h0] at this; simp at this; rw [this] at hu; simp at hu
  · injection hv with hA
    subst hA
    exact ⟨_, rfl, (h.2.lt g rfl).2, h.2.cells (g := g) rfl j u hu⟩
theorem OwnEv.lt (h : OwnEv w base A n c xs) : ∀ g, A.map (·.block) = some g → base ≤ g ∧ g < w.heap.size := fun g hg => h.2.lt g (by
  rcases A with _ | a
  · simp at hg
  · simpa [Value.ownBlock] using hg)
theorem OwnEv.below (h : OwnEv w base A n c xs) (hb : Below B w w') (hB : w.heap.size ≤ B) : OwnEv w' base A n c xs := ⟨h.1, ownsRow_keep h.2 fun k hk => hb.block k (by have := ownsRow_lt h.2 hk; omega)⟩
theorem OwnEv.row (h : OwnEv w base A n c xs) (hx : ∀ x ∈ xs, EvOk w w.heap.size x) : RowEv w w.heap.size A n xs := ⟨h.1, fun i x hi => by
  have hm := List.mem_of_getElem? hi
  have h0 : (ecsL xs)[i * 14 + 0]? = some (.int .i64 x.e.d.1) := ecsL_at xs i x hi 0 _ rfl
  obtain ⟨ad, hA, hb, _⟩ := h.raw _ _ h0
  refine ⟨hx x hm, ad, hA, hb, fun j v hv => ?_⟩
  obtain ⟨ad', hA', _, hc⟩ := h.raw _ _ (ecsL_at xs i x hi j v hv)
  obtain rfl : ad = ad' := by rw [hA] at hA'; injection hA'
  rw [add_add]
  exact hc⟩
end
/-- rows of two types never share a block -/
theorem own2_ne {w : World} {b1 b2 : Nat} {t1 t2 : TypeId} {s1 s2 : Nat} {A1 A2 : Option Addr} {n1 c1 n2 c2 : Nat} {x1 x2 : List Value} (h1 : w.ownsRow b1 t1 s1 (.slice A1 n1 c1) n1 x1) (h2 : w.ownsRow b2 t2 s2 (.slice A2 n2 c2) n2 x2) (hne : t1 ≠ t2) : A1.map (·.block) = none ∨ A1.map (·.block) ≠ A2.map (·.block) := by
  rcases h : A1.map (·.block) with _ | k
  · exact .inl h
  · refine .inr fun e => ?_
    obtain ⟨cur, hc⟩ := ownsRow_type h1 h
    obtain ⟨cur', hc'⟩ := ownsRow_type h2 (e.symm.trans h)
    rw [hc] at hc'
    injection hc' with hc'
    injection hc' with _ ht
    exact hne ht
/-- an event of the call's own: its dots too -/
def EvOwn (w : World) (base : Nat) (x : EvV) : Prop := x.e.p.length = 7 ∧ OwnD w base x.A x.m x.c x.e.l ∧ x.m ≤ 10000000000000
theorem EvOwn.ok {w : World} {base : Nat} {x : EvV} (h : EvOwn w base x) : EvOk w w.heap.size x := ⟨h.1, h.2.1.rd, h.2.2⟩
theorem wpList_appE {w : World} {ops : Array Oper} {rest : List Oper} {o : Oper} {a : Act} {Q : Exit → Act → World → Prop} (hgd : o.guard = none) (s x : Operand)
    (ho : o.op = .call { callee := .builtin .append, args := #[s, x], argTypes := #[24, 24] })
    {base : Nat} {A : Option Addr} {n c : Nat} {bs : List EvV} (hs : a.eval s = .slice A n c) (hown : OwnEv w base A n c bs)
    {B : Nat} {D : Option Addr} {m d : Nat} {news : List EvV} (hx : a.eval x = .slice D m d) (hr : Rd w B D (ecsL news)) (hm : m = news.length)
    (hbytes : n + m ≤ 1000000000000) (hbase : base ≤ w.heap.size)
    (h : ∀ A' c' w', OwnEv w' base A' (n + m) c' (bs ++ news) → w.grownBy w' (A.map (·.block)) → Moved A' (A.map (·.block)) w.heap.size → Below base w w' →
      wpList Try.prog ops Q rest (a.put o.dst (.slice A' (n + m) c')) w') : wpList Try.prog ops Q (o :: rest) a w := by
  obtain ⟨i0, hi, hz0, hz1, hz2⟩ := info_parts infoEv
  have hob : (Value.slice A n c).ownBlock = A.map (·.block) := by cases A <;> rfl
  refine wpList_app w hgd s x 24 ho base 50 i0 (.agg (cT 0)) 14 128 Try.underlying24 hi hz0 hz1 hz2 rfl (by decide) _ _ _ hs hown.2 B D m d (ecsL news) hx hr (by rw [ecsL_len, hm]) (ecsL_one _) (by unfold maxLen; omega) (by omega) hbase ?_
  intro A' c' w' h1 h2 h3
  rw [hob] at h2 h3
  exact h A' c' w' ⟨by rw [List.length_append, hown.1, hm], by rw [ecsL_app]; exact h1⟩ h2 h3 ((Below.refl _ _).grown h2 hbase (fun g hg => (hown.lt g hg).1))
theorem buildE1 (x : EvV) (w : World) : (Instr.buildSlice 24 1 #[(0, .agg x.cs)]).run Try.prog w = .ok (.slice (some ⟨w.heap.size, 0, none⟩) 1 1) (w.alloc (.cells x.cs 50)) := by
  obtain ⟨⟨⟨n, q⟩, t, k, wk, v, p, l⟩, A, m, c⟩ := x
  unfold EvV.cs ec
  simp only
  generalize p.getD 0 0 = p0, p.getD 1 0 = p1, p.getD 2 0 = p2, p.getD 3 0 = p3, p.getD 4 0 = p4, p.getD 5 0 = p5, p.getD 6 0 = p6
  kernel_rfl
set_option maxRecDepth 100000 in
theorem rcopy07_any (x : EvV) (w : World) (hx : EvOk w w.heap.size x) (hm : x.m ≤ 100000) :
    Calls Try.prog 66 #[.agg x.cs] w fun e w' => ∃ A' c', e = .returned (.agg (ec x.e (.slice A' x.m c'))) ∧ OwnD w' w.heap.size A' x.m c' x.e.l ∧ Below w.heap.size w w' := by
  obtain ⟨cs, hcs⟩ : ∃ cs, cs = x.cs := ⟨_, rfl⟩
  have HSZ := Lib.hid (show cs.size = 14 by rw [hcs]; rfl)
  have X13 := Lib.hid (show cs[13]? = some (.slice x.A x.m x.c) by rw [hcs]; rfl)
  have XS := Lib.hid (fun (A' : Option Addr) (c' : Nat) => (show cs.setIfInBounds 13 (.slice A' x.m c') = ec x.e (.slice A' x.m c') by rw [hcs]; rfl))
  rw [← hcs]
  obtain ⟨l, hl⟩ : ∃ l, l = x.e.l := ⟨_, rfl⟩
  have HRD := Lib.hid (show RdD w w.heap.size x.A x.m l by rw [hl]; exact hx.2.1)
  rw [← hl]
  have HM := Lib.hid (HRD.out.1)
  clear hx hcs hl
  go_enter Try.func66, Try.ntmps66
  go_upto_region 1 with fail
  refine nameW ?_
  intro wv hwv
  obtain ⟨b, hb⟩ : ∃ b, b = w.heap.size := ⟨_, rfl⟩
  rw [← hb]
  have kb : Blk wv b 50 cs := by rw [hwv, hb]; exact (Blk.new w _ _).alloc _
  have kz : Blk wv (b + 1) 50 (cT 0) := by
    have h := Blk.new (w.alloc (.cells cs 50)) 50 (cT 0)
    rw [show (w.alloc (.cells cs 50)).heap.size = w.heap.size + 1 by simp] at h
    rw [hwv, hb]
    exact h
  have gb : Below b w wv := by rw [hwv, hb]; exact ((Below.refl _ _).alloc (Nat.le_refl _) _).alloc (by simp) _
  have hrd : RdD wv b x.A x.m l := by
    rw [hb]
    exact HRD.out.below (by rw [← hb]; exact gb)
  have hsz := kz.lt
  have hsb := kb.lt
  have t13 : wv.cell? ⟨b, 13, none⟩ = some (.slice x.A x.m x.c) := (kb.cell 13).trans X13.out
  have HB := Lib.hid hb
  clear hwv hb HRD
  have hrd2 : Rd (wv.alloc (.cells #[] 46)) b x.A (dcs l) := (hrd.below ((Below.refl _ _).alloc (by omega) _)).rd
  have HR2 := Lib.hid hrd2
  clear hrd hrd2
  go_wp2_with (at_builtin; refine wpList_appD rfl (.tmp 3) (.tmp 5) rfl rfl (own_emptyD (base := b + 1 + 1) (Blk.new wv _ _) (by omega)) rfl (news := l) HR2.out HM.out ?hc1 ?hc2 ?_)
  case hc1 => omega
  case hc2 => simp; omega
  intro A' c' w3 o3 g3 m3 b3
  have bx : Below (b + 1 + 1) wv w3 := ((Below.refl _ _).alloc (by omega) (.cells #[] 46)).trans b3
  have kb3 := kb.below bx (by omega)
  have kz3 := kz.below bx (by omega)
  have gb3 := gb.trans (bx.mono (by omega))
  have c3 : w3.cell? ⟨b, 13, none⟩ = some (.slice x.A x.m x.c) := (kb3.cell 13).trans X13.out
  have f3 := kb3.free 13
  have kb4 := kb3.set_ 13 (.slice A' x.m c')
  rw [XS.out] at kb4
  have kz4 := kz3.far (p := ⟨b, 13, none⟩) (by simp) (.slice A' x.m c')
  have o4 := o3.setFar (p := ⟨b, 13, none⟩) (by
    intro h
    have := (o3.lt _ h).1
    simp at this
    omega) (.slice A' x.m c')
  have gb4 : Below b w (w3.setCell ⟨b, 13, none⟩ (.slice A' x.m c')) := gb3.setCell (by show b ≤ b; omega) _
  obtain ⟨ce, hce⟩ : ∃ ce, ce = ec x.e (.slice A' x.m c') := ⟨_, rfl⟩
  have HSE := Lib.hid (show ce.size = 14 by rw [hce]; rfl)
  have H1E := Lib.hid (show ce.all (·.oneCell') = true by rw [hce]; exact ec_one _ _ _ _)
  have HCE := Lib.hid hce
  have HZ0 := Lib.hid (show (cT 0).size = 14 from rfl)
  rw [← hce] at kb4
  clear hce kb3 kz3 gb3 kb kz gb g3 m3 b3 bx
  have hs3 : b < w3.heap.size := by have := kb4.lt; simpa [World.setCell] using this
  go_upto_region 2 with fail
  refine nameW ?_
  intro w4 hw4
  rw [← hw4] at kb4 kz4 o4 gb4
  clear hw4 c3 f3 o3 hs3
  go_wp2_with first
    | ((with_reducible refine wpList_ld rowE kb4 HSE.out ?_ ?_); rotate_left; (rfl))
    | ((with_reducible refine wpList_st rowE kz4 HSE.out HZ0.out H1E.out ?_ ?_ ?_); rotate_left; (rfl); (rfl); intro w5 k5 g5 z5)
  have o5 := o4.grown g5 (.inr (own_ne o4.2 kz4 (by decide)))
  exact bodyPost_ret (v := .agg ce) (results_blk rfl rowE k5 HSE.out rfl) rfl ⟨A', c', by rw [HCE.out], o5.mono (by have := HB.out; omega), by rw [← HB.out]; exact gb4.grown g5 (by have := gb4.size; have := HB.out; omega) (fun q hq => by injection hq; omega)⟩
/-- copies of events: all is of the call's own -/
def CopiesEnd (w : World) (n : Nat) (xs : List EvV) (e : Ending) (w' : World) : Prop := ∃ A' c' ys, e = .returned (.slice A' n c') ∧ OwnEv w' w.heap.size A' n c' ys ∧ (∀ y ∈ ys, EvOwn w' w.heap.size y) ∧ ys.map (·.e) = xs.map (·.e) ∧ Below w.heap.size w w'
set_option maxRecDepth 100000 in
set_option maxHeartbeats 1000000 in
theorem rcopies07_any (A : Option Addr) (n c : Nat) (xs : List EvV) (w : World) (hn : n ≤ 100000) (hR : RowEv w w.heap.size A n xs) (hm : ∀ x ∈ xs, x.m ≤ 100000) :
    Calls Try.prog 27 #[.slice A n c] w (CopiesEnd w n xs) := by
  have HN := Lib.hid hR.1
  have HRK := Lib.hid fun (w' : World) (hb : Below w.heap.size w w') => hR.below hb
  have HNB := Lib.hid hn
  have HM := Lib.hid hm
  clear hR hn hm
  obtain ⟨B, hB⟩ : ∃ B, B = w.heap.size := ⟨_, rfl⟩
  have HB := Lib.hid hB
  rw [← hB] at HRK
  clear hB
  go_enter Try.func27, Try.ntmps27
  go_wp2_with fail
  go_loopw [3, 8] (fun s i wr => ∃ (k : Nat) (A' : Option Addr) (c' : Nat) (ys : List EvV), k ≤ n ∧ i = .int .i64 k ∧ s = .slice A' k c' ∧ OwnEv wr B A' k c' ys ∧ (∀ y ∈ ys, EvOwn wr B y) ∧ ys.map (·.e) = (xs.take k).map (·.e) ∧ Below B w wr) (fun _ i _ => n - (intOf i).toNat)
  case atStart => exact ⟨0, none, 0, [], by omega, rfl, rfl, OwnEv.nil _ _, fun y hy => by simp at hy, rfl, by rw [HB.out]; exact Below.refl _ _⟩
  case round =>
    obtain ⟨k, A', c', ys, hk, rfl, rfl, ho, hys, hmp, gb⟩ := hrel
    have HYS := Lib.hid hys
    have HMP := Lib.hid hmp
    clear hys hmp
    by_cases hlt : k < n
    · have hkl : k < xs.length := by rw [← HN.out]; exact hlt
      have hgs : B ≤ wr.heap.size := by have := gb.size; have := HB.out; omega
      obtain ⟨hok, ad, hA, hab, hcell⟩ := (HRK.out wr gb).2 k _ (List.getElem?_eq_getElem hkl)
      have hsn := take_snoc xs hkl
      have hmm := HM.out _ (List.getElem_mem hkl)
      generalize xs[k] = x at *
      subst hA
      obtain ⟨cs, hcs⟩ : ∃ cs, cs = x.cs := ⟨_, rfl⟩
      rw [← hcs] at hcell
      have HCS := Lib.hid hcs
      have HSZ := Lib.hid (show cs.size = 14 by rw [hcs]; rfl)
      have H1C := Lib.hid (show cs.all (·.oneCell') = true by rw [hcs]; exact x.one)
      have HC := Lib.hid hcell
      have HSN := Lib.hid hsn
      have HOK := Lib.hid hok
      have HMM := Lib.hid hmm
      have hk0 : (0 : Int) ≤ (k : Int) := by omega
      have hkm : (k : Int) < (n : Int) := by omega
      clear hcell hok hsn hmm hcs
      go_upto_region 4 with fail
      go_upto_region 5 with first
        | ((with_reducible refine wpList_lda rowE HC.out HSZ.out ?_ ?_); rotate_left; (rfl))
        | ((with_reducible refine wpList_st rowE (Blk.new _ _ _) HSZ.out ?_ H1C.out ?_ ?_ ?_); (rfl); rotate_left; (rfl); (rfl); intro w6 k6 g6 z6)
      have bA : Below wr.heap.size wr w6 := (((Below.refl _ _).alloc (Nat.le_refl _) _).grown g6 (by simp) (fun q hq => by injection hq with hq; omega))
      have gb6 := gb.trans (bA.mono hgs)
      have ho6 := ho.below bA (Nat.le_refl _)
      have hys6 : ∀ y ∈ ys, EvOwn w6 B y := fun y hy => by
        obtain ⟨q1, q2, q3⟩ := HYS.out y hy
        exact ⟨q1, q2.below bA (Nat.le_refl _), q3⟩
      have hok6 := HOK.out.below (bA.mono hgs)
      obtain ⟨gr, hgr2⟩ : ∃ gr, gr = wr.heap.size := ⟨_, rfl⟩
      have hgr3 : B ≤ gr := by omega
      rw [← hgr2] at k6 ⊢
      have HYS6 := Lib.hid hys6
      have hs6 : B ≤ w6.heap.size := by have := gb6.size; have := HB.out; omega
      have hcp := rcopy07_any x w6 (hok6.more hs6) HMM.out
      rw [← HCS.out] at hcp
      have HCP := Lib.hid hcp
      clear hgr2 g6 z6 bA gb ho HYS hys6 hcp hok6
      go_wp2_with first
        | ((with_reducible refine wpList_ld rowE k6 HSZ.out ?_ ?_); rotate_left; (rfl))
      refine HCP.out.mono ?_
      rintro e w7 ⟨A2, c2, rfl, o7, b7⟩
      have ho7 := ho6.below b7 (Nat.le_refl _)
      have hys7 : ∀ y ∈ ys, EvOwn w7 B y := fun y hy => by
        obtain ⟨q1, q2, q3⟩ := HYS6.out y hy
        exact ⟨q1, q2.below b7 (Nat.le_refl _), q3⟩
      have gb7 := gb6.trans (b7.mono hs6)
      have hz : EvOwn w7 B ⟨x.e, A2, x.m, c2⟩ := ⟨HOK.out.1, o7.mono hs6, HOK.out.2.2⟩
      obtain ⟨z, hzz⟩ : ∃ z : EvV, z = ⟨x.e, A2, x.m, c2⟩ := ⟨_, rfl⟩
      have hze : z.e = x.e := by rw [hzz]
      rw [← hzz] at hz
      have hcz : ec x.e (.slice A2 x.m c2) = z.cs := by rw [hzz]; rfl
      rw [hcz]
      have HZ := Lib.hid hz
      have HZE := Lib.hid hze
      have HBS := Lib.hid (fun w => buildE1 z w)
      have HYS7 := Lib.hid hys7
      have hs7 : B ≤ w7.heap.size := by have := gb7.size; have := HB.out; omega
      obtain ⟨cz, hcz2⟩ : ∃ cz, cz = z.cs := ⟨_, rfl⟩
      have HCZ := Lib.hid hcz2
      rw [← hcz2] at HBS ⊢
      clear hz hze hzz hcz hcz2 hys7 HYS6 o7 b7 ho6 gb6
      go_wp2_with first
        | ((refine wpList_bs (v := .slice (some ⟨w7.heap.size, 0, none⟩) 1 1) (w' := w7.alloc (.cells cz 50)) rfl 24 1 #[(0, .tmp 14)] rfl ?_ ?_); (simp only [List.map_toArray, List.map_cons, List.map_nil]; exact HBS.out w7))
        | (at_builtin; refine wpList_appE rfl (.tmp 12) (.tmp 15) rfl rfl (ho7.alloc _) rfl (news := [z]) (B := w7.heap.size + 1) ?hd1 rfl ?hd2 ?hd3 ?_)
      case hd1 => 
        have h := Rd.made w7 cz 50 (0, 0)
        rw [show ecsL [z] = cz.toList by rw [HCZ.out]; simp [ecsL]]
        exact h
      case hd2 => have := HNB.out; omega
      case hd3 => simp; omega
      intro A3 c3 w8 o8 g8 m8 b8
      have gb8 := gb7.trans (((Below.refl _ _).alloc hs7 (.cells cz 50)).trans b8)
      have hys8 : ∀ y ∈ ys ++ [z], EvOwn w8 B y := fun y hy => by
        have hy2 : EvOwn w7 B y := by
          rcases List.mem_append.1 hy with h | h
          · exact HYS7.out y h
          · simp at h; rw [h]; exact HZ.out
        exact ⟨hy2.1, (hy2.2.1.alloc (.cells cz 50)).grown g8 (own2_ne hy2.2.1.2 ho7.2 (by decide)), hy2.2.2⟩
      have HYS8 := Lib.hid hys8
      clear hys8 g8 m8 b8 HYS7
      go_wp2_with fail
      go_roundw
      case rel => exact ⟨k + 1, A3, c3, ys ++ [z], by omega, num_succ k (by have := HNB.out; omega), rfl, o8, HYS8.out, by rw [HSN.out, List.map_append, List.map_append, HMP.out]; simp [HZE.out], gb8⟩
      case measure => exact meas_succ k n hlt (by have := HNB.out; omega)
    · have hkn : k = n := by omega
      have hkd : decide ((k : Int) < (n : Int)) = false := decide_eq_false (by omega)
      have hmp := HMP.out
      rw [List.take_of_length_le (by rw [← HN.out]; omega)] at hmp
      have HMP2 := Lib.hid hmp
      clear hmp HMP
      subst hkn
      go_wp2_with fail
      go_ret
      exact ⟨A', c', ys, rfl, by rw [← HB.out]; exact ho, by rw [← HB.out]; exact HYS.out, HMP2.out, by rw [← HB.out]; exact gb⟩
end Go.Proofs.Ytcgalmnllegnbaa

/- The walk of event.GetAll. -/
namespace Go.Proofs.Ytcgalmnllegnbaa
set_option linter.unusedVariables false
set_option linter.unusedSimpArgs false
set_option maxRecDepth 100000
open Go.RowKit
open Dot Evt
namespace Evt
/-- so many right events, and the rest; or the error -/
def decEs : Nat → List UInt8 → Except Nat (List Ev × List UInt8)
  | 0, l => .ok ([], l)
  | k + 1, l => match decEs k l with
    | .error y => .error y
    | .ok (xs, r) => match decE r with
      | .error y => .error y
      | .ok (x, r') => if rightE x = true then .ok (xs ++ [x], r') else .error 4
/-- the events of bytes -/
def decA (l : List UInt8) : Except Nat (List Ev) :=
  match Vint.dec l with
  | .error y => .error y
  | .ok (n, r) => if 768 < n then .error 6 else match decEs n r with
    | .error y => .error y
    | .ok (xs, r') => if r' = [] then .ok xs else .error 4
def getAllE (l : List UInt8) : List Ev × Nat := match decA l with | .ok xs => (xs, 0) | .error y => ([], y)
theorem decEs_err {k : Nat} {l : List UInt8} {x : Nat} (h : decEs k l = .error x) : ∀ m, k ≤ m → decEs m l = .error x := by
  intro m
  induction m with
  | zero => intro hk; obtain rfl : k = 0 := by omega
            exact h
  | succ m ih =>
    intro hk
    by_cases e : k = m + 1
    · rw [← e]; exact h
    · rw [decEs, ih (by omega)]
theorem decE_l {l : List UInt8} {x : Ev} {r : List UInt8} (h : decE l = .ok (x, r)) : x.l.length ≤ 96 := by
  unfold decE at h
  split at h
  · cases h
  split at h
  · cases h
  split at h
  · cases h
  split at h
  · cases h
  split at h
  case isFalse => cases h
  split at h
  · cases h
  unfold decK at h
  split at h
  · split at h
    · cases h
    · injection h with h; injection h with h _; rw [← h]; exact Nat.zero_le _
  · split at h
    · split at h
      · cases h
      · split at h
        · cases h
        · rename_i hd
          injection h with h; injection h with h _
          rw [← h]
          exact (decL_suf hd).2.1
    · split at h
      · cases h
      · rename_i hd
        injection h with h; injection h with h _; rw [← h]
        exact (decL_suf hd).2.1
end Evt
/-- what GetAll leaves -/
def GetAllEv (w : World) (bs : List UInt8) (e : Ending) (w' : World) : Prop := ∃ A n c ys, e = .returned (.tuple #[.slice A n c, .int .i64 ((getAllE bs).2 : Nat)]) ∧ OwnEv w' w.heap.size A n c ys ∧ (∀ y ∈ ys, EvOwn w' w.heap.size y) ∧ ys.map (·.e) = (getAllE bs).1 ∧ Below w.heap.size w w'
theorem gall_close {bs : List UInt8} {w w3 : World} {B y : Nat} {tmps : Array Value} (kf : Blk w3 B 32 #[.int .i64 0]) (gb : Below B w w3) (hB : B = w.heap.size) (h2 : tmps.getD 2 undef = .slice none 0 0) (h3 : tmps.getD 3 undef = .pointer (some ⟨B, 0, none⟩)) (he : getAllE bs = ([], y)) :
    Leaves Try.prog Try.f60 tmps (GetAllEv w bs) [{ target := .fn (.func 75) #[], args := #[.pointer (some ⟨B, 0, none⟩)] }] (.panicking [{ v := eflt (y : Nat), recovered := false }]) w3 := by
  refine leaves_cons (f := 75) (args := #[.pointer (some ⟨B, 0, none⟩)]) (by simp) (by simp [go_sem]) ?_
  refine (ecaught_panic _ _ _ _ _ (kf.cell 0) (kf.free 0)).mono ?_
  rintro e u' w4 ⟨rfl, rfl, rfl⟩
  have k4 := (kf.alloc (.cells #[.int .i64 (y : Nat)] 151)).set_ 0 (.int .i64 (y : Nat))
  have c4 := k4.cell 0
  have g4 : Below B w ((w3.alloc (.cells #[.int .i64 (y : Nat)] 151)).setCell ⟨B, 0, none⟩ (.int .i64 (y : Nat))) := (gb.alloc (by have := gb.size; omega) _).setCell (by show B ≤ B; omega) _
  have h2' : tmps[2]?.getD undef = .slice none 0 0 := by simpa using h2
  have h3' : tmps[3]?.getD undef = .pointer (some ⟨B, 0, none⟩) := by simpa using h3
  refine ⟨.tuple #[.slice none 0 0, .int .i64 (y : Nat)], by simp [results, Try.results60, h2', h3', go_sem, c4], none, 0, 0, [], by rw [he], OwnEv.nil _ _, fun z hz => by simp at hz, by rw [he]; rfl, by rw [← hB]; exact g4⟩
theorem keepOwn {g x0 base : Nat} {wr w6 w7 : World} {t : TypeId} {s : Nat} {A : Option Addr} {n c : Nat} {xs : List Value} {tR : TypeId} {cs : Array Value} (h : wr.ownsRow base t s (.slice A n c) n xs) (b1 : Below wr.heap.size wr w6) (o : Only (GB g x0) w6 w7) (hx : wr.heap.size ≤ x0) (kg : Blk wr g tR cs) (hne : tR ≠ t) : w7.ownsRow base t s (.slice A n c) n xs :=
  ownsRow_keep h fun k hk => by
    have hl := ownsRow_lt h hk
    refine (o.block k (by have := b1.size; omega) ?_).trans (b1.block k hl)
    rintro (e | e)
    · exact own_ne h kg hne (by rw [hk, e])
    · omega
set_option maxRecDepth 100000 in
set_option maxHeartbeats 4000000 in
theorem egetAll_any (A : Option Addr) (n c : Nat) (bs : List UInt8) (w : World) (hb : RdB w w.heap.size A n bs) (hl : n ≤ 1000000000) :
    Calls Try.prog 60 #[.slice A n c] w (GetAllEv w bs) := by
  have HBS := Lib.hid fun (w' : World) (h : Below w.heap.size w w') => hb.below h
  have HL := Lib.hid hl
  clear hb hl
  go_enter_defers Try.func60, Try.ntmps60
  go_upto_region 2 with fail
  refine nameW ?_
  intro W hW
  obtain ⟨B, hB⟩ : ∃ B, B = w.heap.size := ⟨_, rfl⟩
  rw [← hB]
  have kf : Blk W B 32 #[.int .i64 0] := by rw [hW, hB]; exact Blk.new w _ _
  have gb : Below B w W := by rw [hW, hB]; exact (Below.refl _ _).alloc (Nat.le_refl _) _
  have HB := Lib.hid hB
  rw [← hB] at HBS
  clear hW hB
  go_wp2_with fail
  refine (new_any A n c bs B W (HBS.out W gb) (by have := kf.lt; omega) (by have := HL.out; omega)).mono ?_
  rintro e w1 ⟨A1, c1, g, rfl, hg, hR, b1⟩
  have kf1 := kf.below b1 kf.lt
  have gb1 := gb.trans (b1.mono (by have := kf.lt; omega))
  have hgB : B < g := by have := kf.lt; omega
  clear kf gb b1 hg
  go_upto_region 4 with fail
  refine nameW ?_
  intro W2 hW2
  obtain ⟨v, hv⟩ : ∃ v, v = w1.heap.size := ⟨_, rfl⟩
  rw [← hv]
  have kv : Blk W2 v 139 #[.pointer (some ⟨g, 0, none⟩)] := by rw [hW2, hv]; exact (Blk.new w1 _ _).alloc _
  have kn : Blk W2 (v + 1) 3 #[.int .i64 0] := by
    have h := Blk.new (w1.alloc (.cells #[.pointer (some ⟨g, 0, none⟩)] 139)) 3 #[.int .i64 0]
    rw [show (w1.alloc (.cells #[.pointer (some ⟨g, 0, none⟩)] 139)).heap.size = w1.heap.size + 1 by simp] at h
    rw [hW2, hv]
    exact h
  have bA : Below w1.heap.size w1 W2 := by rw [hW2]; exact ((Below.refl _ _).alloc (Nat.le_refl _) _).alloc (by simp) _
  have kf2 := kf1.below bA kf1.lt
  have gb2 := gb1.trans (bA.mono (by have := kf1.lt; omega))
  have hR2 := hR.below (bA.mono (by have := hR.lt; omega))
  have hgv : g < v := by have := hR.lt; omega
  have cv : W2.cell? ⟨v, 0, none⟩ = some (.pointer (some ⟨g, 0, none⟩)) := kv.cell 0
  clear hW2 hv kf1 gb1 hR bA
  go_wp2_with fail
  refine (rdnum_any g (v + 1) 3 _ 0 A1 bs.length c1 bs W2 hR2 kn (by omega) (by simp)).mono ?_
  intro e w3 hn
  have kf3 := kf2.only hn.1 (by rintro (h | h) <;> omega)
  have kv3 := kv.only hn.1 (by rintro (h | h) <;> omega)
  have gb3 := gb2.trans (hn.1.to_below (B := B) (by rintro k (h | h) <;> omega) (by have := kf2.lt; omega))
  rcases hd : Vint.dec bs with y | ⟨m, l0⟩
  · obtain ⟨rfl, _⟩ := hn.bad hd
    have HE := Lib.hid (show getAllE bs = ([], y) by simp [getAllE, decA, hd])
    clear hd hn
    go_wp2_with fail
    exact gall_close kf3 gb3 HB.out rfl rfl HE.out
  obtain ⟨rfl, ⟨A3, c3, hR3⟩, kn3, _⟩ := hn.good hd
  have kn3 : Blk w3 (v + 1) 3 #[.int .i64 (m : Nat)] := kn3
  have HD := Lib.hid hd
  have cn : w3.cell? ⟨v + 1, 0, none⟩ = some (.int .i64 (m : Nat)) := kn3.cell 0
  have cv : w3.cell? ⟨v, 0, none⟩ = some (.pointer (some ⟨g, 0, none⟩)) := kv3.cell 0
  clear hd hn kf2 kv kn gb2 hR2 kn3
  by_cases hbig : 768 < m
  · have hmd : decide ((768 : Int) < (m : Int)) = true := decide_eq_true (by omega)
    have HE := Lib.hid (show getAllE bs = ([], 6) by simp [getAllE, decA, HD.out, hbig])
    clear hbig
    go_wp2_with fail
    refine (rdfail_any g 6 _).mono ?_
    rintro e w4 ⟨rfl, b4⟩
    have kf4 := kf3.below b4 kf3.lt
    have gb4 := gb3.trans (b4.mono (by have := kf3.lt; omega))
    go_wp2_with fail
    exact gall_close (y := 6) kf4 gb4 HB.out rfl rfl HE.out
  have hmd : decide ((768 : Int) < (m : Int)) = false := decide_eq_false (by omega)
  have H768 := Lib.hid (show m ≤ 768 by omega)
  have HERR := Lib.hid (show ∀ k y, k ≤ m → decEs k l0 = .error y → getAllE bs = ([], y) from fun k y hk h => by
    have h2 := decEs_err h m hk
    simp [getAllE, decA, HD.out, hbig, h2])
  have HALL := Lib.hid (show ∀ xs r, decEs m l0 = .ok (xs, r) → getAllE bs = if r = [] then (xs, 0) else ([], 4) from fun xs r h => by
    by_cases hr : r = []
    · simp [getAllE, decA, HD.out, hbig, h, hr]
    · simp [getAllE, decA, HD.out, hbig, h, hr])
  clear hbig
  go_wp2_with fail
  go_loopw [6, 18] (fun s i wr => ∃ (k : Nat) (xs : List Ev) (ys : List EvV) (A' : Option Addr) (c' : Nat) (r : List UInt8) (Ar : Option Addr) (cr : Nat), k ≤ m ∧ i = .int .i64 k ∧ s = .slice A' k c' ∧ decEs k l0 = .ok (xs, r) ∧ OwnEv wr (g + 1) A' k c' ys ∧ (∀ y ∈ ys, EvOwn wr B y) ∧ ys.map (·.e) = xs ∧ Rdr wr g Ar r.length cr r 0 ∧ Blk wr v 139 #[.pointer (some ⟨g, 0, none⟩)] ∧ Blk wr B 32 #[.int .i64 0] ∧ Below B w wr) (fun _ i _ => m - (intOf i).toNat)
  case atStart => exact ⟨0, [], [], none, 0, l0, A3, c3, by omega, rfl, rfl, rfl, OwnEv.nil _ _, fun y hy => by simp at hy, rfl, hR3, kv3, kf3, gb3⟩
  case round =>
    clear hR3 kv3 kf3 gb3 cn cv
    obtain ⟨k, xs, ys, A', c', r, Ar, cr, hk, rfl, rfl, hdk, ho, hys, hmp, hR, kv, kf, gb⟩ := hrel
    have HDK := Lib.hid hdk
    have HYS := Lib.hid hys
    have HMP := Lib.hid hmp
    have hgs : B < wr.heap.size := kf.lt
    clear hdk hys hmp
    by_cases hlt : k < m
    · go_upto_region 11 with fail
      refine nameW ?_
      intro w6 hw6
      obtain ⟨x0, hx0⟩ : ∃ x0, x0 = wr.heap.size := ⟨_, rfl⟩
      rw [← hx0]
      have kx : Blk w6 x0 50 (cT 0) := by rw [hw6, hx0]; exact Blk.new _ _ _
      have b6 : Below wr.heap.size wr w6 := by rw [hw6]; exact (Below.refl _ _).alloc (Nat.le_refl _) _
      have hR6 := hR.below (b6.mono (by have := hR.lt; omega))
      have kv6 := kv.below b6 kv.lt
      have kf6 := kf.below b6 kf.lt
      have gb6 := gb.trans (b6.mono (by omega))
      have hgx : g < x0 := by have := hR.lt; omega
      have hvx : v < x0 := by have := kv.lt; omega
      have hBx : B < x0 := by omega
      have cv : w6.cell? ⟨v, 0, none⟩ = some (.pointer (some ⟨g, 0, none⟩)) := kv6.cell 0
      have kg : Blk wr g 134 _ := hR.1
      have HK7 := Lib.hid (show ∀ w7, Only (GB g x0) w6 w7 → OwnEv w7 (g + 1) A' k c' ys ∧ ∀ y ∈ ys, EvOwn w7 B y from fun w7 o => ⟨⟨ho.1, keepOwn ho.2 b6 o (by omega) kg (by decide)⟩, fun y hy => by
        obtain ⟨q1, q2, q3⟩ := HYS.out y hy
        exact ⟨q1, ⟨q2.1, keepOwn q2.2 b6 o (by omega) kg (by decide)⟩, q3⟩⟩)
      clear hw6 hx0 b6 hR kv kf gb ho HYS kg
      go_wp2_with fail
      refine (thrr_any x0 g Ar r.length cr r w6 hR6 kx hgx).mono ?_
      rintro e w7 ⟨oo, hh⟩
      have kf7 := kf6.only oo (by rintro (h | h) <;> omega)
      have kv7 := kv6.only oo (by rintro (h | h) <;> omega)
      have gb7 := gb6.trans (oo.to_below (B := B) (by rintro k (h | h) <;> omega) (by have := kf6.lt; omega))
      obtain ⟨ho7, hys7⟩ := HK7.out w7 oo
      rcases hh with ⟨x, r', hd, rfl, ⟨A7, c7, hR7⟩, A8, m8, c8, kx7, o8⟩ | ⟨y, hd, rfl⟩
      case inr =>
        have HE := Lib.hid (HERR.out (k + 1) y (by omega) (by simp [decEs, HDK.out, hd]))
        clear hd oo
        go_wp2_with fail
        exact gall_close kf7 gb7 HB.out rfl rfl HE.out
      have o9 := o8.mono (base' := B) (by have := kf6.lt; omega)
      have hz : EvOwn w7 B ⟨x, A8, m8, c8⟩ := ⟨decE_p hd, o9, by show m8 ≤ _; rw [o8.1]; have := decE_l hd; omega⟩
      obtain ⟨z, hzz⟩ : ∃ z : EvV, z = ⟨x, A8, m8, c8⟩ := ⟨_, rfl⟩
      have hze : z.e = x := by rw [hzz]
      have hcz : ec x (.slice A8 m8 c8) = z.cs := by rw [hzz]; rfl
      have hrt := eright_any x (decE_p hd) A8 m8 c8 w7 o9.rd.size
      rw [← hzz] at hz
      rw [hcz] at kx7 hrt
      obtain ⟨cz, hcz2⟩ : ∃ cz, cz = z.cs := ⟨_, rfl⟩
      have HBS2 := Lib.hid (fun w => buildE1 z w)
      rw [← hcz2] at kx7 hrt HBS2
      have SZ := Lib.hid (show cz.size = 14 by rw [hcz2]; rfl)
      have HCZ := Lib.hid hcz2
      have HZ := Lib.hid hz
      have HZE := Lib.hid hze
      have HRT := Lib.hid hrt
      have HYS7 := Lib.hid hys7
      have HDE := Lib.hid hd
      clear hz hzz hze hcz hcz2 hrt hys7 o8 o9 oo hd kx kf6 kv6 gb6 HK7 hR6
      go_wp2_with first
        | ((with_reducible refine wpList_ld rowE kx7 SZ.out ?_ ?_); rotate_left; (rfl))
      refine HRT.out.mono ?_
      rintro e w8 ⟨rfl, b8⟩
      have kf8 := kf7.below b8 kf7.lt
      have kv8 := kv7.below b8 kv7.lt
      have kx8 := kx7.below b8 kx7.lt
      have gb8 := gb7.trans (b8.mono (by have := kf7.lt; omega))
      have hR8 := hR7.below (b8.mono (by have := hR7.lt; omega))
      have cv8 : w8.cell? ⟨v, 0, none⟩ = some (.pointer (some ⟨g, 0, none⟩)) := kv8.cell 0
      cases hrx : rightE x
      case false =>
        have HE := Lib.hid (HERR.out (k + 1) 4 (by omega) (by simp [decEs, HDK.out, HDE.out, hrx]))
        clear hrx
        go_wp2_with fail
        refine (rdfail_any g 4 _).mono ?_
        rintro e w9 ⟨rfl, b9⟩
        have kf9 := kf8.below b9 kf8.lt
        have gb9 := gb8.trans (b9.mono (by have := kf8.lt; omega))
        go_wp2_with fail
        exact gall_close (y := 4) kf9 gb9 HB.out rfl rfl HE.out
      case true =>
        have HDN := Lib.hid (show decEs (k + 1) l0 = .ok (xs ++ [x], r') by simp [decEs, HDK.out, HDE.out, hrx])
        have ho8 := ho7.below b8 (Nat.le_refl _)
        have hys8 : ∀ y ∈ ys, EvOwn w8 B y := fun y hy => by
          obtain ⟨q1, q2, q3⟩ := HYS7.out y hy
          exact ⟨q1, q2.below b8 (Nat.le_refl _), q3⟩
        have hz8 : EvOwn w8 B z := by
          obtain ⟨q1, q2, q3⟩ := HZ.out
          exact ⟨q1, q2.below b8 (Nat.le_refl _), q3⟩
        have HYS8 := Lib.hid hys8
        have HZ8 := Lib.hid hz8
        have hs8 : B < w8.heap.size := kf8.lt
        have hg8 : g < w8.heap.size := hR8.lt
        clear hrx hys8 hz8 HYS7 HZ HRT kf7 kv7 kx7 gb7 b8 ho7 hR7
        go_wp2_with first
          | ((with_reducible refine wpList_ld rowE kx8 SZ.out ?_ ?_); rotate_left; (rfl))
          | ((refine wpList_bs (v := .slice (some ⟨w8.heap.size, 0, none⟩) 1 1) (w' := w8.alloc (.cells cz 50)) rfl 24 1 #[(0, .tmp 29)] rfl ?_ ?_); (simp only [List.map_toArray, List.map_cons, List.map_nil]; exact HBS2.out w8))
          | (at_builtin; refine wpList_appE rfl (.tmp 28) (.tmp 30) rfl rfl (ho8.alloc _) rfl (news := [z]) (B := w8.heap.size + 1) ?hd1 rfl ?hd2 ?hd3 ?_)
        case hd1 =>
          have h := Rd.made w8 cz 50 (0, 0)
          rw [show ecsL [z] = cz.toList by rw [HCZ.out]; simp [ecsL]]
          exact h
        case hd2 => have := H768.out; omega
        case hd3 => simp; omega
        intro A9 c9 w9 o9 g9 m9 b9
        have bx : Below w8.heap.size w8 (w8.alloc (.cells cz 50)) := (Below.refl _ _).alloc (Nat.le_refl _) _
        have gb9 := gb8.trans (((Below.refl _ _).alloc (by omega) (.cells cz 50)).trans (b9.mono (by omega)))
        have hys9 : ∀ y ∈ ys ++ [z], EvOwn w9 B y := fun y hy => by
          have hy2 : EvOwn w8 B y := by
            rcases List.mem_append.1 hy with h | h
            · exact HYS8.out y h
            · simp at h; rw [h]; exact HZ8.out
          exact ⟨hy2.1, (hy2.2.1.alloc (.cells cz 50)).grown g9 (own2_ne hy2.2.1.2 ho8.2 (by decide)), hy2.2.2⟩
        have kf9 := (kf8.alloc (.cells cz 50)).grown g9 (own_ne ho8.2 kf8 (by decide))
        have kv9 := (kv8.alloc (.cells cz 50)).grown g9 (own_ne ho8.2 kv8 (by decide))
        have hR9 := hR8.below (((Below.refl (g + 1) w8).alloc (by omega) (.cells cz 50)).trans b9)
        have HYS9 := Lib.hid hys9
        clear hys9 g9 m9 b9 HYS8 bx
        go_wp2_with fail
        go_roundw
        case rel => exact ⟨k + 1, xs ++ [x], ys ++ [z], A9, c9, r', A7, c7, by omega, num_succ k (by have := H768.out; omega), rfl, HDN.out, o9, HYS9.out, by rw [List.map_append, HMP.out]; simp [HZE.out], hR9, kv9, kf9, gb9⟩
        case measure => exact meas_succ k m hlt (by have := H768.out; omega)
    · obtain rfl : k = m := by omega
      have hfin := HALL.out xs r HDK.out
      have HF := Lib.hid hfin
      have hkd : decide ((k : Int) < (k : Int)) = false := decide_eq_false (by omega)
      have cv : wr.cell? ⟨v, 0, none⟩ = some (.pointer (some ⟨g, 0, none⟩)) := kv.cell 0
      clear hfin
      go_wp2_with fail
      refine (rdend_any g Ar r.length cr r true wr hR).mono ?_
      rintro e w8 ⟨he, b8⟩
      have kf8 := kf.below b8 kf.lt
      have gb8 := gb.trans (b8.mono (by omega))
      by_cases hr : r = []
      · rw [if_pos ⟨hr, rfl⟩] at he
        subst he
        have HE := Lib.hid (show getAllE bs = (xs, 0) by rw [HF.out, if_pos hr])
        have ho8 := ho.below b8 (Nat.le_refl _)
        have HYS8 := Lib.hid (show ∀ y ∈ ys, EvOwn w8 B y from fun y hy => by
          obtain ⟨q1, q2, q3⟩ := HYS.out y hy
          exact ⟨q1, q2.below b8 (Nat.le_refl _), q3⟩)
        have cf8 : w8.cell? ⟨B, 0, none⟩ = some (.int .i64 0) := kf8.cell 0
        have ff8 := kf8.free 0
        clear hr b8 kv kf hR HYS ho
        go_wp2_with fail
        refine leaves_cons (f := 75) (args := #[.pointer (some ⟨B, 0, none⟩)]) (by simp) (by simp [go_sem]) ?_
        refine (ecaught_none _ _).mono ?_
        rintro e u' w9 ⟨rfl, rfl, rfl⟩
        have f9 := kf8.set_ 0 (.int .i64 0)
        have c9 := f9.cell 0
        have o9 : OwnEv (w8.setCell ⟨B, 0, none⟩ (.int .i64 0)) (g + 1) A' k c' ys := ⟨ho8.1, ownsRow_keep ho8.2 fun j hj => Below.heap_setCell w8 _ _ j (fun e => own_ne ho8.2 kf8 (by decide) (by rw [hj, e]))⟩
        have y9 : ∀ y ∈ ys, EvOwn (w8.setCell ⟨B, 0, none⟩ (.int .i64 0)) B y := fun y hy => by
          obtain ⟨q1, q2, q3⟩ := HYS8.out y hy
          exact ⟨q1, q2.setFar (own_ne q2.2 kf8 (by decide)) _, q3⟩
        have gb9 : Below B w (w8.setCell ⟨B, 0, none⟩ (.int .i64 0)) := gb8.setCell (by show B ≤ B; omega) _
        refine ⟨.tuple #[.slice A' k c', .int .i64 0], by simp [results, Try.results60, go_sem, c9], A', k, c', ys, by rw [HE.out]; rfl, by rw [← HB.out]; exact o9.mono (by omega), by rw [← HB.out]; exact y9, by rw [HE.out]; exact HMP.out, by rw [← HB.out]; exact gb9⟩
      · rw [if_neg (fun h => hr h.1)] at he
        subst he
        have HE := Lib.hid (show getAllE bs = ([], 4) by rw [HF.out, if_neg hr])
        clear hr
        go_wp2_with fail
        exact gall_close (y := 4) kf8 gb8 HB.out rfl rfl HE.out
end Go.Proofs.Ytcgalmnllegnbaa

namespace Go.Proofs.Ytcgalmnllegnbaa
set_option linter.unusedVariables false
set_option linter.unusedSimpArgs false
set_option maxRecDepth 100000
open Go.RowKit
open Dot Evt
/-- what PutAll gives: bytes, an error's number -/
def putAllE (xs : List EvV) : List UInt8 × Nat :=
  if 768 < xs.length then ([], 6) else if xs.all (fun x => rightE x.e) = true then (Vint.enc xs.length ++ xs.flatMap (fun x => encE x.e), 0) else ([], 2)
theorem numsE_len (x : Ev) (hp : x.p.length = 7) : (numsE x).length ≤ 13 + 2 * x.l.length := by
  have hd : (dotNums x.l).length = 2 * x.l.length := by rw [← dotN_len, ← dotNums_nat, List.length_map]
  unfold numsE
  rw [List.length_append]
  split
  · simp only [List.length_cons, List.length_nil]; omega
  · rw [List.length_append, List.length_append, hd]
    split
    · simp only [List.length_cons, List.length_nil, hp]; omega
    · simp only [List.length_cons, List.length_nil]; omega
theorem encE_len {x : Ev} (hp : x.p.length = 7) (hx : rightE x = true) : (encE x).length ≤ 1230 := by
  have h := encN_len ((numsE x).map Int.toNat)
  rw [List.length_map] at h
  have h2 := numsE_len x hp
  have h3 := (right_facts hp hx).2.2.1
  unfold encE
  omega
theorem encAll_len (xs : List EvV) (hp : ∀ x ∈ xs, x.e.p.length = 7 ∧ rightE x.e = true) : (xs.flatMap fun x => encE x.e).length ≤ 1230 * xs.length := by
  induction xs with
  | nil => simp
  | cons a l ih =>
    have h1 := encE_len (hp a (by simp)).1 (hp a (by simp)).2
    have h2 := ih fun x hx => hp x (by simp [hx])
    simp only [List.flatMap_cons, List.length_append, List.length_cons]
    omega
set_option maxRecDepth 100000 in
set_option maxHeartbeats 2000000 in
theorem eputAll_any (A : Option Addr) (n c : Nat) (xs : List EvV) (w : World) (hn : n ≤ 10000000000000) (hR : RowEv w w.heap.size A n xs) :
    Calls Try.prog 37 #[.slice A n c] w (GiveBE w (putAllE xs).1 (putAllE xs).2) := by
  have HN := Lib.hid hR.1
  have HRK := Lib.hid fun (w' : World) (hb : Below w.heap.size w w') => hR.below hb
  have HNB := Lib.hid hn
  have hZ : ∀ s : List UInt8 × Nat, putAllE xs = s → GiveBE w (putAllE xs).1 (putAllE xs).2 = GiveBE w s.1 s.2 := fun s h => by rw [h]
  clear hR
  have HPA := Lib.hid (show putAllE xs = putAllE xs from rfl)
  go_enter_defers Try.func37, Try.ntmps37
  go_upto_region 4 with fail
  refine nameW ?_
  intro W hW
  obtain ⟨B, hB⟩ : ∃ B, B = w.heap.size := ⟨_, rfl⟩
  rw [← hB]
  have kf : Blk W B 32 #[.int .i64 0] := by rw [hW, hB]; exact ((Blk.new w _ _).alloc _).alloc _
  have kw : WrS W (B + 1) [] := by
    have h := Blk.new (w.alloc (.cells #[.int .i64 0] 32)) 123 #[.slice none 0 0]
    rw [show (w.alloc (.cells #[.int .i64 0] 32)).heap.size = w.heap.size + 1 by simp] at h
    rw [hW, hB]
    exact ⟨none, 0, 0, h.alloc _, OwnB.nil _ _⟩
  have kn : Blk W (B + 1 + 1) 3 #[.int .i64 n] := by
    have h := Blk.new ((w.alloc (.cells #[.int .i64 0] 32)).alloc (.cells #[.slice none 0 0] 123)) 3 #[.int .i64 n]
    rw [show ((w.alloc (.cells #[.int .i64 0] 32)).alloc (.cells #[.slice none 0 0] 123)).heap.size = w.heap.size + 1 + 1 by simp] at h
    rw [hW, hB]
    exact h
  have hbb : Below B w W := by rw [hW, hB]; exact (((Below.refl _ _).alloc (Nat.le_refl _) _).alloc (by simp) _).alloc (by simp; omega) _
  have HB := Lib.hid hB
  rw [← hB] at HRK
  clear hW hB hZ
  have cn : W.cell? ⟨B + 1 + 1, 0, none⟩ = some (.int .i64 n) := kn.cell 0
  have cf : W.cell? ⟨B, 0, none⟩ = some (.int .i64 0) := kf.cell 0
  have ff := kf.free 0
  by_cases hbig : 768 < n
  · have hd : decide ((768 : Int) < (n : Int)) = true := decide_eq_true (by omega)
    have he : putAllE xs = ([], 6) := by unfold putAllE; rw [if_pos (by rw [← HN.out]; exact hbig)]
    have HE := Lib.hid he
    clear hbig he
    go_wp2_with fail
    refine leaves_cons (f := 75) (args := #[.pointer (some ⟨B, 0, none⟩)]) (by simp) (by simp [go_sem]) ?_
    refine (ecaught_none _ _).mono ?_
    rintro e u' w2 ⟨rfl, rfl, rfl⟩
    have k2 := kf.set_ 0 (.int .i64 6)
    have c2 := k2.cell 0
    have hb3 : Below B w (W.setCell ⟨B, 0, none⟩ (.int .i64 6)) := hbb.setCell (by show B ≤ B; omega) _
    refine ⟨.tuple #[.slice none 0 0, .int .i64 6], by simp [results, Try.results37, go_sem, c2], none, 0, 0, by rw [HE.out]; rfl, ?_, by rw [← HB.out]; exact hb3⟩
    rw [HE.out]
    exact OwnB.nil _ _
  have hd : decide ((768 : Int) < (n : Int)) = false := decide_eq_false (by omega)
  have H768 := Lib.hid (show n ≤ 768 by omega)
  clear hbig
  go_wp2_with fail
  refine (wnum_any (B + 1) ⟨B + 1 + 1, 0, none⟩ [] n W kw cn (by have := H768.out; omega) (by simp)).mono ?_
  rintro e w1 ⟨rfl, hw1, g1⟩
  have kf1 := kf.grown g1 (by simp)
  have hb1 := hbb.trans (only_Below g1 (B := B) (by omega) (by have := kf.lt; omega))
  clear cn cf ff kf kw kn hbb g1 hn hd
  go_wp2_with fail
  go_loopw [18] (fun i wr => ∃ k : Nat, k ≤ n ∧ i = .int .i64 k ∧ (∀ j x, j < k → xs[j]? = some x → rightE x.e = true) ∧ WrS wr (B + 1) (Vint.enc n ++ (xs.take k).flatMap fun x => encE x.e) ∧ Blk wr B 32 #[.int .i64 0] ∧ Below B w wr) (fun i _ => n - (intOf i).toNat)
  case atStart => exact ⟨0, by omega, rfl, fun j x hj => by omega, by simpa using hw1, kf1, hb1⟩
  case round =>
    clear hw1 kf1 hb1
    obtain ⟨k, hk, rfl, hall, hw, kf, gb⟩ := hrel
    have HA := Lib.hid hall
    clear hall
    by_cases hlt : k < n
    · have hkl : k < xs.length := by rw [← HN.out]; exact hlt
      obtain ⟨hok, ad, hA, hab, hcell⟩ := (HRK.out wr gb).2 k _ (List.getElem?_eq_getElem hkl)
      have hsn := take_snoc xs hkl
      have hkg := List.getElem?_eq_getElem hkl
      generalize xs[k] = x at *
      have hpr : ∀ y ∈ xs.take k, y.e.p.length = 7 ∧ rightE y.e = true := fun y hy => by
        obtain ⟨i, hi, rfl⟩ := List.getElem_of_mem hy
        rw [List.length_take] at hi
        have e1 : xs[i]? = some (xs.take k)[i] := by rw [List.getElem_take, List.getElem?_eq_getElem]
        exact ⟨((HRK.out wr gb).2 i _ e1).1.1, HA.out i _ (by omega) e1⟩
      have hlen := encAll_len _ hpr
      rw [List.length_take] at hlen
      have hl6 := enc_len6 n
      have HLL := Lib.hid (show (Vint.enc n ++ (xs.take k).flatMap fun x => encE x.e).length ≤ 140737488350000 by rw [List.length_append]; have := H768.out; omega)
      subst hA
      have hyes := fun (w' : World) (h : WrS w' (B + 1) (Vint.enc n ++ (xs.take k).flatMap fun x => encE x.e)) (h2 : RdD w' (B + 1) x.A x.m x.e.l) (hx : rightE x.e = true) => wput_yes x.e hok.1 x.A x.m x.c (B + 1) _ w' h h2 hx HLL.out
      have hno := fun (w' : World) (h2 : RdD w' w'.heap.size x.A x.m x.e.l) (hx : rightE x.e = false) => wput_no x.e hok.1 x.A x.m x.c (B + 1) w' h2 hx
      obtain ⟨cs, hcs⟩ : ∃ cs, cs = x.cs := ⟨_, rfl⟩
      have hec : ec x.e (.slice x.A x.m x.c) = cs := hcs.symm
      rw [hec] at hyes hno
      rw [← hcs] at hcell
      have HYES := Lib.hid hyes
      have HNO := Lib.hid hno
      have HSZ := Lib.hid (show cs.size = 14 by rw [hcs]; rfl)
      have H1C := Lib.hid (show cs.all (·.oneCell') = true by rw [hcs]; exact x.one)
      have HC := Lib.hid hcell
      have HOK := Lib.hid hok
      have HSN := Lib.hid hsn
      have HKG := Lib.hid hkg
      have HWR := Lib.hid hw
      have hk0 : (0 : Int) ≤ (k : Int) := by omega
      have hkm : (k : Int) < (n : Int) := by omega
      have hgs := hw.lt
      clear hcs hec hcell hok hsn hkg hlen hl6 hpr hyes hno hw
      go_upto_region 9 with fail
      go_upto_region 10 with first
        | ((with_reducible refine wpList_lda rowE HC.out HSZ.out ?_ ?_); rotate_left; (rfl))
        | ((with_reducible refine wpList_st rowE (Blk.new _ _ _) HSZ.out ?_ H1C.out ?_ ?_ ?_); (rfl); rotate_left; (rfl); (rfl); intro w6 k6 g6 z6)
      have bA : Below wr.heap.size wr w6 := (((Below.refl _ _).alloc (Nat.le_refl _) _).grown g6 (by simp) (fun q hq => by injection hq with hq; omega))
      have gb6 := gb.trans (bA.mono (by have := kf.lt; omega))
      have kf6 := kf.below bA kf.lt
      have hw6 := HWR.out.below bA
      have hrd6 := (HOK.out.2.1.below (bA.mono (by have := kf.lt; omega))).more (show B ≤ B + 1 by omega)
      obtain ⟨gr, hgr2⟩ : ∃ gr, gr = wr.heap.size := ⟨_, rfl⟩
      rw [← hgr2] at k6 ⊢
      clear hgr2 g6 z6 bA gb kf
      cases hx : rightE x.e
      case false =>
        have he : putAllE xs = ([], 2) := by
          unfold putAllE
          rw [if_neg (by rw [← HN.out]; have := H768.out; omega), if_neg]
          intro h
          have := List.all_eq_true.1 h x (List.mem_of_getElem? HKG.out)
          rw [hx] at this
          cases this
        have HE := Lib.hid he
        have hn2 := HNO.out w6 hrd6.size hx
        clear he hx
        go_wp2_with first
          | ((with_reducible refine wpList_ld rowE k6 HSZ.out ?_ ?_); rotate_left; (rfl))
        refine hn2.mono ?_
        rintro e w7 ⟨rfl, b7⟩
        have kf7 := kf6.below b7 kf6.lt
        go_wp2_with fail
        refine leaves_cons (f := 75) (args := #[.pointer (some ⟨B, 0, none⟩)]) (by simp) (by simp [go_sem]) ?_
        refine (ecaught_panic _ _ _ _ _ (kf7.cell 0) (kf7.free 0)).mono ?_
        rintro e u' w8 ⟨rfl, rfl, rfl⟩
        have k8 := (kf7.alloc (.cells #[.int .i64 2] 151)).set_ 0 (.int .i64 2)
        have c8 := k8.cell 0
        have hb8 : Below B w ((w7.alloc (.cells #[.int .i64 2] 151)).setCell ⟨B, 0, none⟩ (.int .i64 2)) := ((gb6.trans (b7.mono (by have := kf6.lt; omega))).alloc (by have := gb6.size; have := b7.size; have := HB.out; omega) _).setCell (by show B ≤ B; omega) _
        refine ⟨.tuple #[.slice none 0 0, .int .i64 2], by simp [results, Try.results37, go_sem, c8], none, 0, 0, by rw [HE.out]; rfl, ?_, by rw [← HB.out]; exact hb8⟩
        rw [HE.out]
        exact OwnB.nil _ _
      case true =>
        have hy2 := HYES.out w6 hw6 hrd6 hx
        have HX := Lib.hid hx
        clear hx
        go_wp2_with first
          | ((with_reducible refine wpList_ld rowE k6 HSZ.out ?_ ?_); rotate_left; (rfl))
        refine hy2.mono ?_
        rintro e w7 ⟨rfl, hw7, g7⟩
        have kf7 := kf6.grown g7 (by simp)
        have gb7 := gb6.trans (only_Below g7 (B := B) (by omega) (by have := kf6.lt; omega))
        go_wp2_with fail
        go_roundw
        case rel => exact ⟨k + 1, by omega, num_succ k (by have := H768.out; omega), fun j y hj hy => by
          by_cases e : j = k
          · subst e; rw [HKG.out] at hy; injection hy with hy; rw [← hy]; exact HX.out
          · exact HA.out j y (by omega) hy, by rw [HSN.out, List.flatMap_append]; simpa using hw7, kf7, gb7⟩
        case measure => exact meas_succ k n hlt (by have := H768.out; omega)
    · have he : putAllE xs = (Vint.enc n ++ xs.flatMap fun x => encE x.e, 0) := by
        unfold putAllE
        rw [if_neg (by rw [← HN.out]; have := H768.out; omega), if_pos, ← HN.out]
        rw [List.all_eq_true]
        intro x hx
        obtain ⟨i, hi, rfl⟩ := List.getElem_of_mem hx
        exact HA.out i _ (by have := HN.out; omega) (List.getElem?_eq_getElem hi)
      have HE := Lib.hid he
      rw [List.take_of_length_le (by rw [← HN.out]; omega)] at hw
      clear he
      obtain ⟨A1, n1, c1, kw1, ho1⟩ := hw
      have q1 : wr.cell? ⟨B + 1, 0, none⟩ = some (.slice A1 n1 c1) := kw1.cell 0
      have f1 : wr.cell? ⟨B, 0, none⟩ = some (.int .i64 0) := kf.cell 0
      have f2 := kf.free 0
      have hkd : decide ((k : Int) < (n : Int)) = false := decide_eq_false (by omega)
      go_wp2_with fail
      refine leaves_cons (f := 75) (args := #[.pointer (some ⟨B, 0, none⟩)]) (by simp) (by simp [go_sem]) ?_
      refine (ecaught_none _ _).mono ?_
      rintro e u' w2 ⟨rfl, rfl, rfl⟩
      have k2 := kf.set_ 0 (.int .i64 0)
      have c2 := k2.cell 0
      have hb3 : Below B w (wr.setCell ⟨B, 0, none⟩ (.int .i64 0)) := gb.setCell (by show B ≤ B; omega) _
      refine ⟨.tuple #[.slice A1 n1 c1, .int .i64 0], by simp [results, Try.results37, go_sem, c2], A1, n1, c1, by rw [HE.out]; rfl, ?_, by rw [← HB.out]; exact hb3⟩
      rw [HE.out]
      refine (ho1.setFar ?_ _).mono (by have := HB.out; omega)
      rcases A1 with _ | a
      · simp
      · have := (ho1.lt a.block rfl).1
        simp
        omega
end Go.Proofs.Ytcgalmnllegnbaa

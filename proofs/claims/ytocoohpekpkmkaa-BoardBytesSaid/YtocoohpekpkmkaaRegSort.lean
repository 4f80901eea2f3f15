/- slices.SortFunc over values by their nodes: the library's contract, laid at this program. -/
import Derived.Test.YtocoohpekpkmkaaRegMem
import Derived.Shelf.SlSortCmp.SmallK
import Derived.Shelf.Small.Bits
import Derived.Ground.SlsfProg
import Derived.Ground.NamesProg
namespace Go.Proofs.Ytocoohpekpkmkaa
set_option linter.unusedVariables false
set_option linter.unusedSimpArgs false
open Go.Shelf Go.RowKit Go.Lib Go.Sort
open Reg
def sortV_ren : Go.Shelf.Ren := ⟨fun | 6 => 52 | 15 => 96 | 14 => 95 | 28 => 124 | 29 => 125 | 20 => 116 | 21 => 117 | 22 => 118 | 23 => 119 | 24 => 120 | 25 => 121 | 26 => 122 | 27 => 123 | 46 => 134 | 47 => 135 | 48 => 136 | 49 => 137 | 50 => 138 | 57 => 143 | n => n, fun | 22 => 29 | 24 => 49 | 25 => 112 | 3 => 3 | 39 => 55 | 0 => 0 | 53 => 167 | 55 => 191 | 4 => 4 | 46 => 183 | 45 => 182 | 50 => 187 | 5 => 5 | 9 => 9 | 66 => 197 | 70 => 176 | 76 => 206 | 77 => 207 | n => n, fun | n => n⟩
theorem sortV : Go.Proofs.SlLaysF0.n6 Try.prog sortV_ren := {
  mixed := by kernel_rfl
  f6 := ⟨Try.f52.name, by decide, Try.func52.trans (congrArg some (by kernel_rfl))⟩
  f14 := ⟨Try.f95.name, by decide, Try.func95.trans (congrArg some (by kernel_rfl))⟩
  f15 := Try.func96.trans (congrArg some (by kernel_rfl))
  f20 := ⟨Try.f116.name, by decide, Try.func116.trans (congrArg some (by kernel_rfl))⟩
  f21 := ⟨Try.f117.name, by decide, Try.func117.trans (congrArg some (by kernel_rfl))⟩
  f22 := ⟨Try.f118.name, by decide, Try.func118.trans (congrArg some (by kernel_rfl))⟩
  f23 := ⟨Try.f119.name, by decide, Try.func119.trans (congrArg some (by kernel_rfl))⟩
  f24 := ⟨Try.f120.name, by decide, Try.func120.trans (congrArg some (by kernel_rfl))⟩
  f25 := ⟨Try.f121.name, by decide, Try.func121.trans (congrArg some (by kernel_rfl))⟩
  f26 := ⟨Try.f122.name, by decide, Try.func122.trans (congrArg some (by kernel_rfl))⟩
  f27 := ⟨Try.f123.name, by decide, Try.func123.trans (congrArg some (by kernel_rfl))⟩
  f28 := Try.func124.trans (congrArg some (by kernel_rfl))
  f29 := Try.func125.trans (congrArg some (by kernel_rfl))
  f46 := ⟨Try.f134.name, by decide, Try.func134.trans (congrArg some (by kernel_rfl))⟩
  f47 := Try.func135.trans (congrArg some (by kernel_rfl))
  f48 := Try.func136.trans (congrArg some (by kernel_rfl))
  f49 := ⟨Try.f137.name, by decide, Try.func137.trans (congrArg some (by kernel_rfl))⟩
  f50 := ⟨Try.f138.name, by decide, Try.func138.trans (congrArg some (by kernel_rfl))⟩
  f57 := ⟨Try.f143.name, by decide, Try.func143.trans (congrArg some (by kernel_rfl))⟩
  t0 := Try.underlying0
  a0 := Try.isAgg0
  z0 := Try.sizeOf0
  v0 := Try.zeroValue0
  t3 := Try.underlying3
  a3 := Try.isAgg3
  z3 := Try.sizeOf3
  v3 := Try.zeroValue3
  t4 := Try.underlying4
  a4 := Try.isAgg4
  z4 := Try.sizeOf4
  v4 := Try.zeroValue4
  t5 := Try.underlying5
  a5 := Try.isAgg5
  z5 := Try.sizeOf5
  v5 := Try.zeroValue5
  t9 := Try.underlying9
  a9 := Try.isAgg9
  z9 := Try.sizeOf9
  v9 := Try.zeroValue9
  t22 := Try.underlying29
  a22 := Try.isAgg29
  z22 := Try.sizeOf29
  v22 := Try.zeroValue29
  t25 := Try.underlying112
  a25 := Try.isAgg112
  z25 := Try.sizeOf112
  v25 := Try.zeroValue112
  t39 := Try.underlying55
  a39 := Try.isAgg55
  z39 := Try.sizeOf55
  v39 := Try.zeroValue55
  t45 := Try.underlying182
  a45 := Try.isAgg182
  z45 := Try.sizeOf182
  v45 := Try.zeroValue182
  t46 := Try.underlying183
  a46 := Try.isAgg183
  z46 := Try.sizeOf183
  v46 := Try.zeroValue183
  t50 := Try.underlying187
  a50 := Try.isAgg187
  z50 := Try.sizeOf187
  v50 := Try.zeroValue187
  t53 := Try.underlying167
  a53 := Try.isAgg167
  z53 := Try.sizeOf167
  v53 := Try.zeroValue167
  t55 := Try.underlying191
  a55 := Try.isAgg191
  z55 := Try.sizeOf191
  v55 := Try.zeroValue191
  t66 := Try.underlying197
  a66 := Try.isAgg197
  z66 := Try.sizeOf197
  v66 := Try.zeroValue197
  t70 := Try.underlying176
  a70 := Try.isAgg176
  z70 := Try.sizeOf176
  v70 := Try.zeroValue176
  t76 := Try.underlying206
  a76 := Try.isAgg206
  z76 := Try.sizeOf206
  v76 := Try.zeroValue206
  t77 := Try.underlying207
  a77 := Try.isAgg207
  z77 := Try.sizeOf207
  v77 := Try.zeroValue207 }
def bitsLenV_ren : Go.Shelf.Ren := ⟨fun | 125 => 96 | 128 => 124 | 129 => 125 | n => n, fun | 46 => 55 | 3 => 3 | 51 => 167 | 53 => 191 | 4 => 4 | 5 => 5 | 9 => 9 | n => n, fun | n => n⟩
theorem bitsLenV : Go.Proofs.Lays.n125 Try.prog bitsLenV_ren := {
  mixed := by kernel_rfl
  f125 := Try.func96.trans (congrArg some (by kernel_rfl))
  f128 := Try.func124.trans (congrArg some (by kernel_rfl))
  f129 := Try.func125.trans (congrArg some (by kernel_rfl))
  t3 := Try.underlying3
  a3 := Try.isAgg3
  z3 := Try.sizeOf3
  v3 := Try.zeroValue3
  t4 := Try.underlying4
  a4 := Try.isAgg4
  z4 := Try.sizeOf4
  v4 := Try.zeroValue4
  t5 := Try.underlying5
  a5 := Try.isAgg5
  z5 := Try.sizeOf5
  v5 := Try.zeroValue5
  t9 := Try.underlying9
  a9 := Try.isAgg9
  z9 := Try.sizeOf9
  v9 := Try.zeroValue9
  t46 := Try.underlying55
  a46 := Try.isAgg55
  z46 := Try.sizeOf55
  v46 := Try.zeroValue55
  t51 := Try.underlying167
  a51 := Try.isAgg167
  z51 := Try.sizeOf167
  v51 := Try.zeroValue167
  t53 := Try.underlying191
  a53 := Try.isAgg191
  z53 := Try.sizeOf191
  v53 := Try.zeroValue191 }
/-- a value of one of the eight nodes -/
abbrev V8 := Fin 8 × Int × Int
def back (v : V8) : Vl := ((v.1.val : Int), v.2.1, v.2.2)
def encV (v : V8) : List Value := [.int .i64 (v.1.val : Int), .int .i64 v.2.1, .int .i64 v.2.2]
def cfV (x y : V8) : Int := (x.1.val : Int) - (y.1.val : Int)
theorem ltV (x y : V8) : ltOf cfV x y = decide (x.1.val < y.1.val) := by
  unfold ltOf cfV
  rw [decide_eq_decide]
  omega
theorem swoV : SWO (ltOf cfV) where
  irrefl x := by rw [ltV]; simp
  trans x y z h1 h2 := by rw [ltV] at *; simp at *; omega
  ntrans x y z h1 h2 := by rw [ltV] at *; simp at *; omega
set_option maxHeartbeats 1000000 in
theorem cmpV_any (x y : V8) (w : World) : Calls Try.prog 53 #[.agg (encV x).toArray, .agg (encV y).toArray] w fun e w' => e = .returned (.int .i64 (cfV x y)) ∧ ∃ q os', w' = grow (w.drewN q) os' := by
  obtain ⟨⟨a, ha⟩, b, c⟩ := x
  obtain ⟨⟨d, hd⟩, e, f⟩ := y
  have hw : IntKind.i64.wrap ((a : Int) - (d : Int)) = (a : Int) - (d : Int) := by rw [IntKind.wrap_i64]; omega
  unfold encV cfV
  simp only
  go_enter Try.func53, Try.ntmps53
  go_wp2_with fail
  go_ret
  exact ⟨rfl, 0, _, by rw [alloc_eq_grow, alloc_eq_grow, grow_grow]; rfl⟩
theorem cmpLaysV (blk off size : Nat) (w : World) : CmpLays Try.prog 53 #[] encV 3 cfV blk off size w :=
  fun _ _ _ _ x y => cmpV_any x y _
theorem hlenV (n : Nat) (W : World) (h : n ≤ 12) : Calls Try.prog 96 #[.int .u64 n] W fun e w' => (∃ l : Int, e = .returned (.int .i64 l)) ∧ w' = W :=
  (Any.bits_Len bitsLenV n W (by omega) (by omega)).mono fun _ _ ⟨he, hw⟩ => ⟨⟨_, he⟩, hw⟩
theorem sortV_any (blk off cap : Nat) (d : Array V8) (w : World) (hH : HoldsK encV 3 w blk off d) (hblk : blk < w.heap.size) (h12 : d.size ≤ 12) :
    Calls Try.prog 52 #[.slice (some ⟨blk, off, none⟩) d.size cap, .func (.func 53) #[] #[]] w fun e w' => e = .returned (.tuple #[]) ∧ ∃ d' n os, PermIn 0 d.size d d' ∧ SortedIn (ltOf cfV) 0 d.size d' ∧ w' = sortWorldK encV 3 w blk off n d' os := by
  have eg : ∀ args w, (callFunc 53 args).run Try.prog w = .ok (.enter 53 args) w := enters_of Try.func53 (by kernel_rfl) rfl
  have aE : ∀ w, (isAgg 49).run Try.prog w = .ok true w := fun w => by kernel_rfl
  have zE : ∀ w, (Go.sizeOf 49).run Try.prog w = .ok 3 w := fun w => by kernel_rfl
  have hcon := AnyQ.slices_SortFunc_small_sorted sortV 3 aE zE encV (fun _ => rfl) (fun x v hv => by simp [encV] at hv; rcases hv with rfl | rfl | rfl <;> rfl) cfV 53 #[] swoV blk off cap d w eg (cmpLaysV blk off d.size w) hH hblk h12 hlenV
  exact hcon
theorem flat_eq (d : Array V8) : flatK encV 3 d = (vcs (d.toList.map back)).toArray := by
  apply Array.ext
  · simp [vcs_len]
  · intro t h1 h2
    have h1' : t < d.size * 3 := by simpa using h1
    rw [← getElem!_pos _ t h1, get_flatK _ _ _ _ h1']
    have hi : t / 3 < d.size := by omega
    have hv := vcs_at (d.toList.map back) (t / 3) (back d[t / 3]) (by simp [hi])
    have ht : t = t / 3 * 3 + t % 3 := by omega
    have hg : (vcs (d.toList.map back))[t]? = some ((vcs (d.toList.map back)).toArray[t]) := by simp
    rw [getElem!_pos d _ hi]
    generalize (vcs (d.toList.map back)).toArray[t] = V at hg ⊢
    rcases (show t % 3 = 0 ∨ t % 3 = 1 ∨ t % 3 = 2 by omega) with e | e | e
    · rw [e] at ht ⊢
      rw [ht, Nat.add_zero, hv.1] at hg
      exact Option.some.inj hg
    · rw [e] at ht ⊢
      rw [ht, hv.2.1] at hg
      exact Option.some.inj hg
    · rw [e] at ht ⊢
      rw [ht, hv.2.2] at hg
      exact Option.some.inj hg
theorem take_putCells (F cur : Array Value) (h : F.size ≤ cur.size) : (putCells id 0 F cur).toList.take F.size = F.toList := by
  apply List.ext_getElem?
  intro k
  by_cases hk : k < F.size
  · rw [List.getElem?_take, if_pos hk]
    simp only [putCells, Array.getElem?_toList, Array.getElem?_mapIdx]
    have hc : k < cur.size := by omega
    rw [Array.getElem?_eq_getElem hc, Array.getElem?_eq_getElem hk]
    simp only [Option.map_some]
    rw [if_pos ⟨Nat.zero_le _, by omega⟩, Nat.sub_zero, getElem!_pos F k hk]
    rfl
  · rw [List.getElem?_take, if_neg hk, Array.getElem?_toList, Array.getElem?_eq_none (by omega)]
theorem pre_V8 (l : List Vl) (h : ∀ v ∈ l, 0 ≤ v.1 ∧ v.1 < 8) : ∃ d : Array V8, l = d.toList.map back := by
  induction l with
  | nil => exact ⟨#[], rfl⟩
  | cons v l ih =>
    obtain ⟨d, hd⟩ := ih (fun u hu => h u (List.mem_cons_of_mem _ hu))
    obtain ⟨h1, h2⟩ := h v (List.mem_cons_self ..)
    refine ⟨((⟨v.1.toNat, by omega⟩, v.2.1, v.2.2) :: d.toList).toArray, ?_⟩
    obtain ⟨a, b, c⟩ := v
    simp only at h1 h2
    rw [hd]
    simp [back, Int.toNat_of_nonneg h1]
set_option maxHeartbeats 1000000 in
theorem sort29_any (base g n c : Nat) (l : List Vl) (hr : ∀ v ∈ l, 0 ≤ v.1 ∧ v.1 < 8) (h12 : n ≤ 12) (w : World) (ho : OwnV 49 w base (some ⟨g, 0, none⟩) n c l) :
    Calls Try.prog 52 #[.slice (some ⟨g, 0, none⟩) n c, .func (.func 53) #[] #[]] w fun e w' => e = .returned (.tuple #[]) ∧ ∃ l', OwnV 49 w' base (some ⟨g, 0, none⟩) n c l' ∧ l'.Perm l ∧ l'.Pairwise (fun x y => x.1 ≤ y.1) ∧ w.grownBy w' (some g) := by
  obtain ⟨d, hd⟩ := pre_V8 l hr
  have hn : n = d.size := by rw [ho.1, hd]; simp
  obtain ⟨hlen, hc⟩ := ho.2
  rcases hc with ⟨hv, _⟩ | ⟨g', cap, cur, hv, hb, hh, hnc, hcm, hcs, htk⟩
  · cases hv
  · obtain ⟨rfl, rfl⟩ : g' = g ∧ cap = c := by
      injection hv with h1 h2 h3
      injection h1 with h1
      injection h1 with h1
      exact ⟨h1.symm, h3.symm⟩
    have hgl : g' < w.heap.size := lt_of_block hh
    have hF : (flatK encV 3 d).size = n * 3 := by rw [size_flatK, hn]
    have hcur : n * 3 ≤ cur.size := by rw [hcs]; exact Nat.mul_le_mul_right 3 hnc
    have hH : HoldsK encV 3 w g' 0 d := by
      intro j hj
      rw [hF] at hj
      have hx := ho.2.cellAt (g := g') j (by omega)
      refine ⟨?_, ho.free _⟩
      rw [Nat.zero_add, hx, flat_eq, ← hd]
      have : j < (vcs l).length := by rw [hlen]; exact hj
      simp [this]
    have h := sortV_any g' 0 cap d w hH hgl (by omega)
    rw [← hn] at h
    refine h.mono ?_
    rintro e w' ⟨he, d', m, os, hp, hs, rfl⟩
    have hdn : d'.size = d.size := hp.1
    refine ⟨he, d'.toList.map back, ?_, ?_, ?_, ?_⟩
    · refine ⟨by simp [hn, hdn], by rw [vcs_len]; simp [hn, hdn], .inr ⟨g', cap, putCells id 0 (flatK encV 3 d') cur, rfl, hb, ?_, hnc, hcm, by simp [putCells, hcs], ?_⟩⟩
      · unfold sortWorldK
        rw [heap_grow_old _ _ (by simpa [putRowK, Sort.ahead] using hgl)]
        unfold putRowK putRow mapBlock
        simp only [Array.getElem?_modify, if_true]
        show Option.map _ w.heap[g']? = _
        rw [hh]
        rfl
      · have h2 : (flatK encV 3 d').size = n * 3 := by rw [size_flatK, hdn, hn]
        rw [← h2, take_putCells _ _ (by omega), flat_eq]
    · rw [hd]
      have h1 : d'.extract 0 n = d' := by rw [show n = d'.size by omega]; simp
      have h2 : d.extract 0 n = d := by rw [hn]; simp
      have h3 := hp.2.2
      rw [h1, h2] at h3
      exact h3.map back
    · rw [List.pairwise_map, List.pairwise_iff_getElem]
      intro i j hi hj hij
      have hi' : i < d'.size := by simpa using hi
      have hj' : j < d'.size := by simpa using hj
      have h1 := hs i j (Nat.zero_le _) hij (by omega)
      rw [ltV, getElem!_pos d' i hi', getElem!_pos d' j hj'] at h1
      have h2 := of_decide_eq_false h1
      unfold back
      simp only [Array.getElem_toList]
      omega
    · refine ⟨rfl, rfl, rfl, ?_, fun k hk hne => ?_⟩
      · unfold sortWorldK
        rw [size_grow]
        unfold putRowK
        rw [size_putRow]
        exact Nat.le_add_right _ _
      · unfold sortWorldK
        rw [heap_grow_old _ _ (by simpa [putRowK, Sort.ahead] using hk)]
        unfold putRowK putRow mapBlock
        simp only [Array.getElem?_modify]
        rw [if_neg (fun e => hne (by rw [e]))]
        rfl
set_option maxHeartbeats 1000000 in
theorem insNil_any (c : Nat) (f : Value) (w : World) : Calls Try.prog 116 #[.slice none 0 c, .int .i64 0, .int .i64 0, f] w fun e w' => e = .returned (.tuple #[]) ∧ w = w' := by
  go_enter Try.func116, Try.ntmps116
  go_wp2_with fail
  refine wp_loop_rounds 1 ?_
  rw [rounds_succ]
  go_wp2_with fail
  go_end0
  exact ⟨rfl, rfl⟩
set_option maxHeartbeats 1000000 in
theorem pdqNil_any (c : Nat) (l : Int) (f : Value) (w : World) : Calls Try.prog 95 #[.slice none 0 c, .int .i64 0, .int .i64 0, .int .i64 l, f] w fun e w' => e = .returned (.tuple #[]) ∧ w = w' := by
  go_enter Try.func95, Try.ntmps95
  go_wp2_with fail
  refine wp_loop_rounds 1 ?_
  rw [rounds_succ]
  go_wp2_with fail
  refine (insNil_any c f _).mono ?_
  rintro e w1 ⟨rfl, rfl⟩
  go_wp2_with fail
  (try simp only [Exit.inBlock, Exit.then]); refine bodyPost_ret (results_none rfl _ _ _) rfl ?_
  exact ⟨rfl, rfl⟩
theorem sortNil_any (c : Nat) (f : Value) (w : World) : Calls Try.prog 52 #[.slice none 0 c, f] w fun e w' => e = .returned (.tuple #[]) ∧ w = w' := by
  go_enter Try.func52, Try.ntmps52
  go_wp2_with fail
  refine (hlenV 0 _ (by omega)).mono ?_
  rintro e w1 ⟨⟨l, rfl⟩, rfl⟩
  go_wp2_with fail
  refine (pdqNil_any c l f _).mono ?_
  rintro e w1 ⟨rfl, rfl⟩
  go_wp2_with fail
  go_end0
  exact ⟨rfl, rfl⟩
end Go.Proofs.Ytocoohpekpkmkaa

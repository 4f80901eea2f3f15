/- slices.SortFunc over values by their nodes: the library's contract, laid at this program. -/
import Derived.Test.YtocoohpekpkmkaaGreatRegMem
import Derived.Shelf.SlSortCmp.SmallK
import Derived.Shelf.Small.Bits
import Derived.Ground.SlsfProg
import Derived.Ground.NamesProg
namespace Go.Proofs.YtocoohpekpkmkaaGreat
set_option linter.unusedVariables false
set_option linter.unusedSimpArgs false
open Go.Shelf Go.RowKit Go.Lib Go.Sort
open Reg
def sortV_ren : Go.Shelf.Ren := ⟨fun | 6 => 91 | 15 => 104 | 14 => 103 | 28 => 118 | 29 => 119 | 20 => 110 | 21 => 111 | 22 => 112 | 23 => 113 | 24 => 114 | 25 => 115 | 26 => 116 | 27 => 117 | 46 => 122 | 47 => 123 | 48 => 124 | 49 => 125 | 50 => 126 | 57 => 127 | n => n, fun | 22 => 37 | 24 => 84 | 25 => 152 | 3 => 3 | 39 => 59 | 0 => 0 | 53 => 156 | 55 => 179 | 4 => 4 | 46 => 171 | 45 => 170 | 50 => 175 | 5 => 5 | 9 => 9 | 66 => 181 | 70 => 131 | 76 => 186 | 77 => 187 | n => n, fun | n => n⟩
theorem sortV : Go.Proofs.SlLaysF0.n6 Tryz.prog sortV_ren := {
  mixed := by kernel_rfl
  f6 := ⟨Tryz.f91.name, by decide, Tryz.func91.trans (congrArg some (by kernel_rfl))⟩
  f14 := ⟨Tryz.f103.name, by decide, Tryz.func103.trans (congrArg some (by kernel_rfl))⟩
  f15 := Tryz.func104.trans (congrArg some (by kernel_rfl))
  f20 := ⟨Tryz.f110.name, by decide, Tryz.func110.trans (congrArg some (by kernel_rfl))⟩
  f21 := ⟨Tryz.f111.name, by decide, Tryz.func111.trans (congrArg some (by kernel_rfl))⟩
  f22 := ⟨Tryz.f112.name, by decide, Tryz.func112.trans (congrArg some (by kernel_rfl))⟩
  f23 := ⟨Tryz.f113.name, by decide, Tryz.func113.trans (congrArg some (by kernel_rfl))⟩
  f24 := ⟨Tryz.f114.name, by decide, Tryz.func114.trans (congrArg some (by kernel_rfl))⟩
  f25 := ⟨Tryz.f115.name, by decide, Tryz.func115.trans (congrArg some (by kernel_rfl))⟩
  f26 := ⟨Tryz.f116.name, by decide, Tryz.func116.trans (congrArg some (by kernel_rfl))⟩
  f27 := ⟨Tryz.f117.name, by decide, Tryz.func117.trans (congrArg some (by kernel_rfl))⟩
  f28 := Tryz.func118.trans (congrArg some (by kernel_rfl))
  f29 := Tryz.func119.trans (congrArg some (by kernel_rfl))
  f46 := ⟨Tryz.f122.name, by decide, Tryz.func122.trans (congrArg some (by kernel_rfl))⟩
  f47 := Tryz.func123.trans (congrArg some (by kernel_rfl))
  f48 := Tryz.func124.trans (congrArg some (by kernel_rfl))
  f49 := ⟨Tryz.f125.name, by decide, Tryz.func125.trans (congrArg some (by kernel_rfl))⟩
  f50 := ⟨Tryz.f126.name, by decide, Tryz.func126.trans (congrArg some (by kernel_rfl))⟩
  f57 := ⟨Tryz.f127.name, by decide, Tryz.func127.trans (congrArg some (by kernel_rfl))⟩
  t0 := Tryz.underlying0
  a0 := Tryz.isAgg0
  z0 := Tryz.sizeOf0
  v0 := Tryz.zeroValue0
  t3 := Tryz.underlying3
  a3 := Tryz.isAgg3
  z3 := Tryz.sizeOf3
  v3 := Tryz.zeroValue3
  t4 := Tryz.underlying4
  a4 := Tryz.isAgg4
  z4 := Tryz.sizeOf4
  v4 := Tryz.zeroValue4
  t5 := Tryz.underlying5
  a5 := Tryz.isAgg5
  z5 := Tryz.sizeOf5
  v5 := Tryz.zeroValue5
  t9 := Tryz.underlying9
  a9 := Tryz.isAgg9
  z9 := Tryz.sizeOf9
  v9 := Tryz.zeroValue9
  t22 := Tryz.underlying37
  a22 := Tryz.isAgg37
  z22 := Tryz.sizeOf37
  v22 := Tryz.zeroValue37
  t25 := Tryz.underlying152
  a25 := Tryz.isAgg152
  z25 := Tryz.sizeOf152
  v25 := Tryz.zeroValue152
  t39 := Tryz.underlying59
  a39 := Tryz.isAgg59
  z39 := Tryz.sizeOf59
  v39 := Tryz.zeroValue59
  t45 := Tryz.underlying170
  a45 := Tryz.isAgg170
  z45 := Tryz.sizeOf170
  v45 := Tryz.zeroValue170
  t46 := Tryz.underlying171
  a46 := Tryz.isAgg171
  z46 := Tryz.sizeOf171
  v46 := Tryz.zeroValue171
  t50 := Tryz.underlying175
  a50 := Tryz.isAgg175
  z50 := Tryz.sizeOf175
  v50 := Tryz.zeroValue175
  t53 := Tryz.underlying156
  a53 := Tryz.isAgg156
  z53 := Tryz.sizeOf156
  v53 := Tryz.zeroValue156
  t55 := Tryz.underlying179
  a55 := Tryz.isAgg179
  z55 := Tryz.sizeOf179
  v55 := Tryz.zeroValue179
  t66 := Tryz.underlying181
  a66 := Tryz.isAgg181
  z66 := Tryz.sizeOf181
  v66 := Tryz.zeroValue181
  t70 := Tryz.underlying131
  a70 := Tryz.isAgg131
  z70 := Tryz.sizeOf131
  v70 := Tryz.zeroValue131
  t76 := Tryz.underlying186
  a76 := Tryz.isAgg186
  z76 := Tryz.sizeOf186
  v76 := Tryz.zeroValue186
  t77 := Tryz.underlying187
  a77 := Tryz.isAgg187
  z77 := Tryz.sizeOf187
  v77 := Tryz.zeroValue187 }
def bitsLenV_ren : Go.Shelf.Ren := ⟨fun | 125 => 104 | 128 => 118 | 129 => 119 | n => n, fun | 46 => 59 | 3 => 3 | 51 => 156 | 53 => 179 | 4 => 4 | 5 => 5 | 9 => 9 | n => n, fun | n => n⟩
theorem bitsLenV : Go.Proofs.Lays.n125 Tryz.prog bitsLenV_ren := {
  mixed := by kernel_rfl
  f125 := Tryz.func104.trans (congrArg some (by kernel_rfl))
  f128 := Tryz.func118.trans (congrArg some (by kernel_rfl))
  f129 := Tryz.func119.trans (congrArg some (by kernel_rfl))
  t3 := Tryz.underlying3
  a3 := Tryz.isAgg3
  z3 := Tryz.sizeOf3
  v3 := Tryz.zeroValue3
  t4 := Tryz.underlying4
  a4 := Tryz.isAgg4
  z4 := Tryz.sizeOf4
  v4 := Tryz.zeroValue4
  t5 := Tryz.underlying5
  a5 := Tryz.isAgg5
  z5 := Tryz.sizeOf5
  v5 := Tryz.zeroValue5
  t9 := Tryz.underlying9
  a9 := Tryz.isAgg9
  z9 := Tryz.sizeOf9
  v9 := Tryz.zeroValue9
  t46 := Tryz.underlying59
  a46 := Tryz.isAgg59
  z46 := Tryz.sizeOf59
  v46 := Tryz.zeroValue59
  t51 := Tryz.underlying156
  a51 := Tryz.isAgg156
  z51 := Tryz.sizeOf156
  v51 := Tryz.zeroValue156
  t53 := Tryz.underlying179
  a53 := Tryz.isAgg179
  z53 := Tryz.sizeOf179
  v53 := Tryz.zeroValue179 }
/-- a value of one of the eight nodes -/
abbrev V8 := Fin 8 × Int × Int
def back (v : V8) : Vl := ((v.1.val : Int), v.2.1, v.2.2)
def encV (v : V8) : List Value := [.int .i64 (v.1.val : Int), .int .i64 v.2.1, .int .i64 v.2.2]
def cfV (x y : V8) : Int := (x.1.val : Int) - (y.1.val : Int)
theorem ltV (x y : V8) : ltOf cfV x y = decide (x.1.val < y.1.val) := by
  unfold ltOf cfV
  rw [decide_eq_decide]
  omega
theorem swoV : SWO (ltOf cfV) where
  irrefl x := by rw [ltV]; simp
  trans x y z h1 h2 := by rw [ltV] at *; simp at *; omega
  ntrans x y z h1 h2 := by rw [ltV] at *; simp at *; omega
set_option maxHeartbeats 1000000 in
theorem cmpV_any (x y : V8) (w : World) : Calls Tryz.prog 92 #[.agg (encV x).toArray, .agg (encV y).toArray] w fun e w' => e = .returned (.int .i64 (cfV x y)) ∧ ∃ q os', w' = grow (w.drewN q) os' := by
  obtain ⟨⟨a, ha⟩, b, c⟩ := x
  obtain ⟨⟨d, hd⟩, e, f⟩ := y
  have hw : IntKind.i64.wrap ((a : Int) - (d : Int)) = (a : Int) - (d : Int) := by rw [IntKind.wrap_i64]; omega
  unfold encV cfV
  simp only
  go_enter Tryz.func92, Tryz.ntmps92
  go_wp2_with fail
  go_ret
  exact ⟨rfl, 0, _, by rw [alloc_eq_grow, alloc_eq_grow, grow_grow]; rfl⟩
theorem cmpLaysV (blk off size : Nat) (w : World) : CmpLays Tryz.prog 92 #[] encV 3 cfV blk off size w :=
  fun _ _ _ _ x y => cmpV_any x y _
theorem hlenV (n : Nat) (W : World) (h : n ≤ 12) : Calls Tryz.prog 104 #[.int .u64 n] W fun e w' => (∃ l : Int, e = .returned (.int .i64 l)) ∧ w' = W :=
  (Any.bits_Len bitsLenV n W (by omega) (by omega)).mono fun _ _ ⟨he, hw⟩ => ⟨⟨_, he⟩, hw⟩
theorem sortV_any (blk off cap : Nat) (d : Array V8) (w : World) (hH : HoldsK encV 3 w blk off d) (hblk : blk < w.heap.size) (h12 : d.size ≤ 12) :
    Calls Tryz.prog 91 #[.slice (some ⟨blk, off, none⟩) d.size cap, .func (.func 92) #[] #[]] w fun e w' => e = .returned (.tuple #[]) ∧ ∃ d' n os, PermIn 0 d.size d d' ∧ SortedIn (ltOf cfV) 0 d.size d' ∧ w' = sortWorldK encV 3 w blk off n d' os := by
  have eg : ∀ args w, (callFunc 92 args).run Tryz.prog w = .ok (.enter 92 args) w := enters_of Tryz.func92 (by kernel_rfl) rfl
  have aE : ∀ w, (isAgg 84).run Tryz.prog w = .ok true w := fun w => by kernel_rfl
  have zE : ∀ w, (Go.sizeOf 84).run Tryz.prog w = .ok 3 w := fun w => by kernel_rfl
  have hcon := AnyQ.slices_SortFunc_small_sorted sortV 3 aE zE encV (fun _ => rfl) (fun x v hv => by simp [encV] at hv; rcases hv with rfl | rfl | rfl <;> rfl) cfV 92 #[] swoV blk off cap d w eg (cmpLaysV blk off d.size w) hH hblk h12 hlenV
  exact hcon
theorem flat_eq (d : Array V8) : flatK encV 3 d = (vcs (d.toList.map back)).toArray := by
  apply Array.ext
  · simp [vcs_len]
  · intro t h1 h2
    have h1' : t < d.size * 3 := by simpa using h1
    rw [← getElem!_pos _ t h1, get_flatK _ _ _ _ h1']
    have hi : t / 3 < d.size := by omega
    have hv := vcs_at (d.toList.map back) (t / 3) (back d[t / 3]) (by simp [hi])
    have ht : t = t / 3 * 3 + t % 3 := by omega
    have hg : (vcs (d.toList.map back))[t]? = some ((vcs (d.toList.map back)).toArray[t]) := by simp
    rw [getElem!_pos d _ hi]
    generalize (vcs (d.toList.map back)).toArray[t] = V at hg ⊢
    rcases (show t % 3 = 0 ∨ t % 3 = 1 ∨ t % 3 = 2 by omega) with e | e | e
    · rw [e] at ht ⊢
      rw [ht, Nat.add_zero, hv.1] at hg
      exact Option.some.inj hg
    · rw [e] at ht ⊢
      rw [ht, hv.2.1] at hg
      exact Option.some.inj hg
    · rw [e] at ht ⊢
      rw [ht, hv.2.2] at hg
      exact Option.some.inj hg
theorem take_putCells (F cur : Array Value) (h : F.size ≤ cur.size) : (putCells id 0 F cur).toList.take F.size = F.toList := by
  apply List.ext_getElem?
  intro k
  by_cases hk : k < F.size
  · rw [List.getElem?_take, if_pos hk]
    simp only [putCells, Array.getElem?_toList, Array.getElem?_mapIdx]
    have hc : k < cur.size := by omega
    rw [Array.getElem?_eq_getElem hc, Array.getElem?_eq_getElem hk]
    simp only [Option.map_some]
    rw [if_pos ⟨Nat.zero_le _, by omega⟩, Nat.sub_zero, getElem!_pos F k hk]
    rfl
  · rw [List.getElem?_take, if_neg hk, Array.getElem?_toList, Array.getElem?_eq_none (by omega)]
theorem pre_V8 (l : List Vl) (h : ∀ v ∈ l, 0 ≤ v.1 ∧ v.1 < 8) : ∃ d : Array V8, l = d.toList.map back := by
  induction l with
  | nil => exact ⟨#[], rfl⟩
  | cons v l ih =>
    obtain ⟨d, hd⟩ := ih (fun u hu => h u (List.mem_cons_of_mem _ hu))
    obtain ⟨h1, h2⟩ := h v (List.mem_cons_self ..)
    refine ⟨((⟨v.1.toNat, by omega⟩, v.2.1, v.2.2) :: d.toList).toArray, ?_⟩
    obtain ⟨a, b, c⟩ := v
    simp only at h1 h2
    rw [hd]
    simp [back, Int.toNat_of_nonneg h1]
set_option maxHeartbeats 1000000 in
theorem sort29_any (base g n c : Nat) (l : List Vl) (hr : ∀ v ∈ l, 0 ≤ v.1 ∧ v.1 < 8) (h12 : n ≤ 12) (w : World) (ho : OwnV 84 w base (some ⟨g, 0, none⟩) n c l) :
    Calls Tryz.prog 91 #[.slice (some ⟨g, 0, none⟩) n c, .func (.func 92) #[] #[]] w fun e w' => e = .returned (.tuple #[]) ∧ ∃ l', OwnV 84 w' base (some ⟨g, 0, none⟩) n c l' ∧ l'.Perm l ∧ l'.Pairwise (fun x y => x.1 ≤ y.1) ∧ w.grownBy w' (some g) := by
  obtain ⟨d, hd⟩ := pre_V8 l hr
  have hn : n = d.size := by rw [ho.1, hd]; simp
  obtain ⟨hlen, hc⟩ := ho.2
  rcases hc with ⟨hv, _⟩ | ⟨g', cap, cur, hv, hb, hh, hnc, hcm, hcs, htk⟩
  · cases hv
  · obtain ⟨rfl, rfl⟩ : g' = g ∧ cap = c := by
      injection hv with h1 h2 h3
      injection h1 with h1
      injection h1 with h1
      exact ⟨h1.symm, h3.symm⟩
    have hgl : g' < w.heap.size := lt_of_block hh
    have hF : (flatK encV 3 d).size = n * 3 := by rw [size_flatK, hn]
    have hcur : n * 3 ≤ cur.size := by rw [hcs]; exact Nat.mul_le_mul_right 3 hnc
    have hH : HoldsK encV 3 w g' 0 d := by
      intro j hj
      rw [hF] at hj
      have hx := ho.2.cellAt (g := g') j (by omega)
      refine ⟨?_, ho.free _⟩
      rw [Nat.zero_add, hx, flat_eq, ← hd]
      have : j < (vcs l).length := by rw [hlen]; exact hj
      simp [this]
    have h := sortV_any g' 0 cap d w hH hgl (by omega)
    rw [← hn] at h
    refine h.mono ?_
    rintro e w' ⟨he, d', m, os, hp, hs, rfl⟩
    have hdn : d'.size = d.size := hp.1
    refine ⟨he, d'.toList.map back, ?_, ?_, ?_, ?_⟩
    · refine ⟨by simp [hn, hdn], by rw [vcs_len]; simp [hn, hdn], .inr ⟨g', cap, putCells id 0 (flatK encV 3 d') cur, rfl, hb, ?_, hnc, hcm, by simp [putCells, hcs], ?_⟩⟩
      · unfold sortWorldK
        rw [heap_grow_old _ _ (by simpa [putRowK, Sort.ahead] using hgl)]
        unfold putRowK putRow mapBlock
        simp only [Array.getElem?_modify, if_true]
        show Option.map _ w.heap[g']? = _
        rw [hh]
        rfl
      · have h2 : (flatK encV 3 d').size = n * 3 := by rw [size_flatK, hdn, hn]
        rw [← h2, take_putCells _ _ (by omega), flat_eq]
    · rw [hd]
      have h1 : d'.extract 0 n = d' := by rw [show n = d'.size by omega]; simp
      have h2 : d.extract 0 n = d := by rw [hn]; simp
      have h3 := hp.2.2
      rw [h1, h2] at h3
      exact h3.map back
    · rw [List.pairwise_map, List.pairwise_iff_getElem]
      intro i j hi hj hij
      have hi' : i < d'.size := by simpa using hi
      have hj' : j < d'.size := by simpa using hj
      have h1 := hs i j (Nat.zero_le _) hij (by omega)
      rw [ltV, getElem!_pos d' i hi', getElem!_pos d' j hj'] at h1
      have h2 := of_decide_eq_false h1
      unfold back
      simp only [Array.getElem_toList]
      omega
    · refine ⟨rfl, rfl, rfl, ?_, fun k hk hne => ?_⟩
      · unfold sortWorldK
        rw [size_grow]
        unfold putRowK
        rw [size_putRow]
        exact Nat.le_add_right _ _
      · unfold sortWorldK
        rw [heap_grow_old _ _ (by simpa [putRowK, Sort.ahead] using hk)]
        unfold putRowK putRow mapBlock
        simp only [Array.getElem?_modify]
        rw [if_neg (fun e => hne (by rw [e]))]
        rfl
set_option maxHeartbeats 1000000 in
theorem insNil_any (c : Nat) (f : Value) (w : World) : Calls Tryz.prog 110 #[.slice none 0 c, .int .i64 0, .int .i64 0, f] w fun e w' => e = .returned (.tuple #[]) ∧ w = w' := by
  go_enter Tryz.func110, Tryz.ntmps110
  go_wp2_with fail
  refine wp_loop_rounds 1 ?_
  rw [rounds_succ]
  go_wp2_with fail
  go_end0
  exact ⟨rfl, rfl⟩
set_option maxHeartbeats 1000000 in
theorem pdqNil_any (c : Nat) (l : Int) (f : Value) (w : World) : Calls Tryz.prog 103 #[.slice none 0 c, .int .i64 0, .int .i64 0, .int .i64 l, f] w fun e w' => e = .returned (.tuple #[]) ∧ w = w' := by
  go_enter Tryz.func103, Tryz.ntmps103
  go_wp2_with fail
  refine wp_loop_rounds 1 ?_
  rw [rounds_succ]
  go_wp2_with fail
  refine (insNil_any c f _).mono ?_
  rintro e w1 ⟨rfl, rfl⟩
  go_wp2_with fail
  (try simp only [Exit.inBlock, Exit.then]); refine bodyPost_ret (results_none rfl _ _ _) rfl ?_
  exact ⟨rfl, rfl⟩
theorem sortNil_any (c : Nat) (f : Value) (w : World) : Calls Tryz.prog 91 #[.slice none 0 c, f] w fun e w' => e = .returned (.tuple #[]) ∧ w = w' := by
  go_enter Tryz.func91, Tryz.ntmps91
  go_wp2_with fail
  refine (hlenV 0 _ (by omega)).mono ?_
  rintro e w1 ⟨⟨l, rfl⟩, rfl⟩
  go_wp2_with fail
  refine (pdqNil_any c l f _).mono ?_
  rintro e w1 ⟨rfl, rfl⟩
  go_wp2_with fail
  go_end0
  exact ⟨rfl, rfl⟩
end Go.Proofs.YtocoohpekpkmkaaGreat

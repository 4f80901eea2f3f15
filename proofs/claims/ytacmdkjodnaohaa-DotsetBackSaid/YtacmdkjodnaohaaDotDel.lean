/- The walks of IndexFunc and DeleteFunc over dots, with Less's closure. -/
import Derived.Test.YtacmdkjodnaohaaDotLess
import Derived.Test.YtacmdkjodnaohaaDotRLess
import Derived.Lib.SliceRun
namespace Go.Proofs.Ytacmdkjodnaohaa
open Go.RowKit
open Dot
/-- dots that may be looked up -/
def InD (l : List Dt) : Prop := ∀ d ∈ l, ∃ x q : Nat, d = ((x : Int), (q : Int)) ∧ x < 8 ∧ q < 98
def isG (G : Grid) (d : Dt) : Bool := G d.1.toNat d.2.toNat
set_option maxHeartbeats 1000000 in
theorem indexD_any (gp g n c B : Nat) (A : Option Addr) (l : List Dt) (G : Grid) (w : World) (hl : RdD w B A n l) (hn : n ≤ 1000) (hB : B ≤ w.heap.size) (hin : InD l) (hG : Blk w g 98 (gc G)) (hp : w.cell? ⟨gp, 0, none⟩ = some (.pointer (some ⟨g, 0, none⟩))) :
    Calls Try.prog 62 #[.slice A n c, .func (.func 47) #[] #[.pointer (some ⟨gp, 0, none⟩)]] w fun e w' => (∃ k : Nat, k ≤ n ∧ e = .returned (.int .i64 (if k < n then (k : Int) else -1)) ∧ (∀ d ∈ l.take k, isG G d = false) ∧ (k < n → ∃ d, l[k]? = some d ∧ isG G d = true)) ∧ Below w.heap.size w w' := by
  have hen : ∀ (args : Array Value) (w : World), (callFunc 47 args).run Try.prog w = .ok (.enter 47 args) w := fun _ _ => rfl
  have HN := Lib.hid hl.1
  have HIN := Lib.hid hin
  have hgl := hG.lt
  have hpl : gp < w.heap.size := World.block_lt_of_cell? w _ hp
  clear hin
  go_enter Try.func62, Try.ntmps62
  go_wp2_with fail
  go_loopw [8] (fun i wr => ∃ (k : Nat), k ≤ n ∧ i = .int .i64 k ∧ (∀ d ∈ l.take k, isG G d = false) ∧ Below w.heap.size w wr) (fun i _ => n - (intOf i).toNat)
  case atStart => exact ⟨0, by omega, rfl, fun d hd => by simp at hd, Below.refl _ _⟩
  case round =>
    obtain ⟨k, hk, rfl, hall, hb⟩ := hrel
    have HA := Lib.hid hall
    clear hall
    by_cases hlt : k < n
    · have hkl : k < l.length := by rw [← HN.out]; exact hlt
      obtain ⟨ad, rfl, hdt⟩ := (hl.below (hb.mono hB)).2 k _ (List.getElem?_eq_getElem hkl)
      have htk : l.take (k + 1) = l.take k ++ [l[k]] := take_snoc l hkl
      have hgk : l[k]? = some l[k] := List.getElem?_eq_getElem hkl
      obtain ⟨x, q, hxq, hx8, hq8⟩ := HIN.out l[k] (List.getElem_mem hkl)
      rw [hxq] at htk hdt hgk
      obtain ⟨q5, q0, q1⟩ := hdt
      simp only at q0 q1
      have HTK := Lib.hid htk
      have HGK := Lib.hid hgk
      have hk0 : (0 : Int) ≤ (k : Int) := by omega
      have hk1 : (k : Int) < (n : Int) := by omega
      clear hxq htk hgk
      go_wp2_with fail
      refine (less1_any gp g x q G wr hx8 hq8 (hG.below hb hgl) ((hb.cell (p := ⟨gp, 0, none⟩) hpl).trans hp)).mono ?_
      rintro e w2 ⟨rfl, h2⟩
      have b2 := hb.trans (h2.mono hb.size)
      clear h2 hb q0 q1
      cases hg : G x q
      case false =>
        have hga : ∀ d ∈ l.take (k + 1), isG G d = false := fun d hd => by
          rw [HTK.out] at hd
          rcases List.mem_append.1 hd with hd | hd
          · exact HA.out d hd
          · simp at hd
            subst hd
            exact hg
        have HGA := Lib.hid hga
        clear hg hga
        go_wp2_with fail
        go_roundw
        case rel => exact ⟨k + 1, by omega, by go_num, HGA.out, b2⟩
        case measure => simp [intOf]; omega
      case true =>
        have hfin : (∃ k' : Nat, k' ≤ n ∧ Ending.returned (.int .i64 (k : Int)) = .returned (.int .i64 (if k' < n then (k' : Int) else -1)) ∧ (∀ d ∈ l.take k', isG G d = false) ∧ (k' < n → ∃ d, l[k']? = some d ∧ isG G d = true)) :=
          ⟨k, hk, by rw [if_pos hlt], HA.out, fun _ => ⟨_, HGK.out, hg⟩⟩
        have HF := Lib.hid hfin
        clear hg hfin
        go_wp2_with fail
        go_ret
        exact ⟨HF.out, b2⟩
    · obtain rfl : k = n := by omega
      have hfin : (∃ k' : Nat, k' ≤ k ∧ Ending.returned (.int .i64 (-1)) = .returned (.int .i64 (if k' < k then (k' : Int) else -1)) ∧ (∀ d ∈ l.take k', isG G d = false) ∧ (k' < k → ∃ d, l[k']? = some d ∧ isG G d = true)) :=
        ⟨k, Nat.le_refl _, by rw [if_neg (by omega)], HA.out, fun h => absurd h (by omega)⟩
      have HF := Lib.hid hfin
      clear hfin
      go_wp2_with fail
      go_ret
      exact ⟨HF.out, hb⟩
/-- a shorter piece of a row of the call's own -/
theorem OwnD.short {w : World} {base n c : Nat} {A : Option Addr} {l : List Dt} (h : OwnD w base A n c l) {i : Nat} (hi : i ≤ n) (h0 : 0 < n) : OwnD w base A i c (l.take i) := by
  have hl : l.length = n := h.1.symm
  refine ⟨by rw [List.length_take]; omega, ?_, ?_⟩
  · rw [dcs_len, List.length_take]; omega
  · rcases h.2.2 with ⟨_, h1⟩ | ⟨g, cap, cur, hv, hb, hh, hn, hm, hs, hc⟩
    · omega
    · injection hv with h1 h2 h3
      subst h1 h3
      refine .inr ⟨g, c, cur, rfl, hb, hh, by omega, hm, hs, ?_⟩
      have e : l = l.take i ++ l.drop i := (List.take_append_drop i l).symm
      have h4 : dcs l = dcs (l.take i) ++ dcs (l.drop i) := by rw [← dcs_app, ← e]
      have h5 : (dcs (l.take i)).length = i * 2 := by rw [dcs_len, List.length_take]; omega
      have h6 := congrArg (List.take (i * 2)) hc
      rw [List.take_take, show min (i * 2) (n * 2) = i * 2 by omega, h4, List.take_append_of_le_length (by omega), List.take_of_length_le (l := dcs (l.take i)) (by omega)] at h6
      exact h6
/-- what lies behind a row of the call's own may be overwritten -/
theorem OwnD.tail {w : World} {base i c g : Nat} {l : List Dt} (h : OwnD w base (some ⟨g, 0, none⟩) i c l) (vs : List Value) : OwnD (w.setCells g (i * 2) vs) base (some ⟨g, 0, none⟩) i c l := by
  refine ⟨h.1, h.2.1, ?_⟩
  rcases h.2.2 with ⟨hv, _⟩ | ⟨g', cap, cur, hv, hb, hh, hn, hm, hs, hc⟩
  · cases hv
  · injection hv with h1 h2 h3
    injection h1 with h1
    injection h1 with h1
    subst h1 h3
    obtain ⟨cs', k1, k2, k3, _⟩ := setCells_heap w g vs (i * 2) cur hh
    refine .inr ⟨g, c, cs', rfl, hb, k1, hn, hm, by rw [k2, hs], ?_⟩
    rw [← hc]
    apply List.ext_getElem?
    intro j
    rw [List.getElem?_take, List.getElem?_take]
    by_cases hj : j < i * 2
    · rw [if_pos hj, if_pos hj]
      have := k3 j (.inl hj)
      simpa using this
    · rw [if_neg hj, if_neg hj]
theorem dcs_set (l : List Dt) : ∀ (i : Nat) (x q : Int), ((dcs l).set (i * 2) (.int .i64 x)).set (i * 2 + 1) (.int .i64 q) = dcs (l.set i (x, q)) := by
  induction l with
  | nil => intro i x q; simp [dcs]
  | cons d l ih =>
    intro i x q
    have e : ∀ (d : Dt) (l : List Dt), dcs (d :: l) = .int .i64 d.1 :: .int .i64 d.2 :: dcs l := fun _ _ => rfl
    cases i with
    | zero => rfl
    | succ i =>
      rw [show (i + 1) * 2 = i * 2 + 1 + 1 by omega, e]
      show _ :: _ :: ((dcs l).set (i * 2) (.int .i64 x)).set (i * 2 + 1) (.int .i64 q) = _
      rw [ih]
      rfl
theorem OwnD.set_ {w : World} {base n c g : Nat} {l : List Dt} (h : OwnD w base (some ⟨g, 0, none⟩) n c l) (i : Nat) (x q : Int) : OwnD ((w.setCell ⟨g, i * 2, none⟩ (.int .i64 x)).setCell ⟨g, i * 2 + 1, none⟩ (.int .i64 q)) base (some ⟨g, 0, none⟩) n c (l.set i (x, q)) := by
  refine ⟨by rw [List.length_set]; exact h.1, ?_⟩
  have h1 := (h.2.stored (i * 2) (.int .i64 x)).1
  have h2 := (h1.stored (i * 2 + 1) (.int .i64 q)).1
  rwa [dcs_set] at h2
theorem zeroD (w : World) : (zeroValue 27).run Try.prog w = .ok (.agg #[.int .i64 0, .int .i64 0]) w := by kernel_rfl
theorem run_clearD (w : World) (ty : TypeId) (b o n c : Nat) (hn : 0 < n)
    (hc : ∀ j, j < n * 2 → (w.cell? ⟨b, o + j, none⟩).isSome = true) (hf : ∀ j, j < n * 2 → w.frozen? ⟨b, o + j, none⟩ = false) :
    (Builtin.clear_ #[23] ty #[.slice (some ⟨b, o, none⟩) n c]).run Try.prog w = .ok (.tuple #[]) (w.setCells b o (Builtin.zeroCells (Value.agg #[.int .i64 0, .int .i64 0]).cells n).toList) := by
  have hst := run_storeCells_cells (P := Try.prog) b o (Builtin.zeroCells (Value.agg #[.int .i64 0, .int .i64 0]).cells n).toList 0 w (by simpa [Builtin.zeroCells, Value.cells, Nat.mul_comm] using hc) (by simpa [Builtin.zeroCells, Value.cells, Nat.mul_comm] using hf) (by
    intro v hv
    simp [Builtin.zeroCells, Value.cells] at hv
    obtain ⟨i, _, rfl⟩ := hv
    rcases (show i % 2 = 0 ∨ i % 2 = 1 by omega) with h | h <;> simp [h] <;> rfl)
  simp only [Nat.add_zero] at hst
  obtain ⟨m, rfl⟩ : ∃ m, n = m + 1 := ⟨n - 1, by omega⟩
  simp [Builtin.clear_, run_underlying Try.underlying23, zeroD, hst]
/-- what is not in the grid -/
def fltG (G : Grid) (l : List Dt) : List Dt := l.filter fun d => !isG G d
theorem fltG_snoc (G : Grid) {L : List Dt} {k : Nat} (h : k < L.length) : fltG G (L.take (k + 1)) = if isG G L[k] = true then fltG G (L.take k) else fltG G (L.take k) ++ [L[k]] := by
  unfold fltG
  rw [take_snoc L h, List.filter_append]
  by_cases hh : isG G L[k] = true
  · rw [if_pos hh]; simp [hh]
  · rw [if_neg hh]; simp [hh]
theorem drop_next {α : Type} {a b : List α} {m : Nat} (h : a.drop m = b.drop m) : a.drop (m + 1) = b.drop (m + 1) := by
  have := congrArg (List.drop 1) h
  rwa [List.drop_drop, List.drop_drop] at this
theorem fltG_none {G : Grid} {L : List Dt} (h : ∀ d ∈ L, isG G d = false) : fltG G L = L := List.filter_eq_self.2 fun d hd => by rw [h d hd]; rfl
set_option maxRecDepth 100000 in
set_option maxHeartbeats 2000000 in
theorem delete_any (gp g n c base : Nat) (A : Option Addr) (L : List Dt) (G : Grid) (w : World) (hn : n ≤ 1000) (hin : InD L) (hO : OwnD w base A n c L) (hbs : base ≤ w.heap.size) (hG : Blk w g 98 (gc G)) (hP : Blk w gp 71 #[.pointer (some ⟨g, 0, none⟩)]) :
    Calls Try.prog 46 #[.slice A n c, .func (.func 47) #[] #[.pointer (some ⟨gp, 0, none⟩)]] w fun e w' => ∃ A' m c', e = .returned (.slice A' m c') ∧ OwnD w' base A' m c' (fltG G L) ∧ Below base w w' := by
  have hen : ∀ (args : Array Value) (w : World), (callFunc 47 args).run Try.prog w = .ok (.enter 47 args) w := fun _ _ => rfl
  have HIN := Lib.hid hin
  have HL := Lib.hid hO.1
  clear hin
  go_enter Try.func46, Try.ntmps46
  go_wp2_with fail
  refine (indexD_any gp g n c w.heap.size A L G w hO.rd hn (Nat.le_refl _) HIN.out hG (hP.cell 0)).mono ?_
  rintro e w1 ⟨⟨k, hk, rfl, hall, hk2⟩, h1⟩
  have hO1 := hO.below h1 (Nat.le_refl _)
  have hG1 := hG.below h1 hG.lt
  have hP1 := hP.below h1 hP.lt
  have b1 : Below base w w1 := h1.mono hbs
  have hbs1 := Nat.le_trans hbs h1.size
  clear hO hG hP h1
  by_cases hlt : k < n
  case neg =>
    have hkn : k = n := by omega
    subst hkn
    rw [if_neg hlt]
    rw [show L.take k = L from List.take_of_length_le (Nat.le_of_eq HL.out.symm)] at hall
    have hf := fltG_none hall
    have HF := Lib.hid hf
    clear hall hk2 hf
    go_wp2_with fail
    go_ret
    exact ⟨A, k, c, rfl, by rw [HF.out]; exact hO1, b1⟩
  case pos =>
    rw [if_pos hlt]
    obtain ⟨d0, hd0, hg0⟩ := hk2 hlt
    have hst : fltG G (L.take (k + 1)) = L.take k := by
      have hkl : k < L.length := by rw [← HL.out]; exact hlt
      rw [List.getElem?_eq_getElem hkl] at hd0
      injection hd0 with hd0
      rw [fltG_snoc G hkl, hd0, if_pos hg0, fltG_none hall]
    have HST := Lib.hid hst
    clear hk2 hd0 hg0 hall hst
    have hke : (((k : Int)) == -1) = false := by rw [beq_eq_false_iff_ne]; omega
    obtain ⟨gA, rfl, hgA, hgL⟩ := hO1.form (by omega)
    go_wp2_with fail
    go_loopw [5, 6] (fun s j wr => ∃ (i m : Nat) (ys : List Dt), i < m ∧ m ≤ n ∧ s = .int .i64 i ∧ j = .int .i64 m ∧ OwnD wr base (some ⟨gA, 0, none⟩) n c ys ∧ ys.take i = fltG G (L.take m) ∧ ys.drop m = L.drop m ∧ Blk wr g 98 (gc G) ∧ Blk wr gp 71 #[.pointer (some ⟨g, 0, none⟩)] ∧ Below base w wr) (fun _ j _ => n - (intOf j).toNat)
    case atStart => exact ⟨k, k + 1, L, by omega, by omega, rfl, by go_num, hO1, HST.out.symm, rfl, hG1, hP1, b1⟩
    case round =>
      clear hO1 hG1 hP1 b1 hgL
      obtain ⟨i, m, ys, him, hmn, rfl, rfl, hO, htk, hdr, hG, hP, hb⟩ := hrel
      by_cases hlm : m < n
      · have hml : m < L.length := by rw [← HL.out]; exact hlm
        have hyl : ys.length = n := hO.1.symm
        have hym : ys[m]? = some L[m] := by
          have h1 : (ys.drop m)[0]? = (L.drop m)[0]? := by rw [hdr]
          rw [List.getElem?_drop, List.getElem?_drop, Nat.add_zero, List.getElem?_eq_getElem hml] at h1
          exact h1
        have hsn := fltG_snoc G hml
        obtain ⟨x, q, hxq, hx8, hq8⟩ := HIN.out L[m] (List.getElem_mem hml)
        obtain ⟨ad, had, hdt⟩ := hO.rd.2 m _ hym
        injection had with had
        subst had
        rw [hxq] at hdt hsn hym
        obtain ⟨q5, q0, q1⟩ := hdt
        have hset : (ys.set i ((x : Int), (q : Int))).take (i + 1) = ys.take i ++ [((x : Int), (q : Int))] := by
          rw [List.take_set, take_snoc ys (by omega), List.set_append_right _ _ (by rw [List.length_take]; omega), List.length_take, show i - min i ys.length = 0 by omega]
          rfl
        have hset2 : (ys.set i ((x : Int), (q : Int))).drop (m + 1) = L.drop (m + 1) := by
          rw [List.drop_set_of_lt (by omega)]
          exact drop_next hdr
        have hdr2 : ys.drop (m + 1) = L.drop (m + 1) := drop_next hdr
        rw [htk] at hset
        rw [add_mk, Nat.zero_add] at q0 q1
        simp only at q0 q1
        have HSN := Lib.hid hsn
        have HSET := Lib.hid hset
        have HSET2 := Lib.hid hset2
        have HDR2 := Lib.hid hdr2
        have HTK := Lib.hid htk
        clear hsn hset hset2 hdr2 htk hdr hxq hym q5
        obtain ⟨wn, hwn⟩ : ∃ wn, wn = wr.alloc (.cells #[.int .i64 (x : Nat), .int .i64 (q : Nat)] 27) := ⟨_, rfl⟩
        obtain ⟨gd, hgd⟩ : ∃ gd, gd = wr.heap.size := ⟨_, rfl⟩
        have kn : Blk wn gd 27 #[.int .i64 (x : Nat), .int .i64 (q : Nat)] := by rw [hwn, hgd]; exact Blk.new wr _ _
        have hO1 : OwnD wn base (some ⟨gA, 0, none⟩) n c ys := by rw [hwn]; exact hO.alloc _
        have hG1 : Blk wn g 98 (gc G) := by rw [hwn]; exact hG.alloc _
        have hP1 : Blk wn gp 71 #[.pointer (some ⟨g, 0, none⟩)] := by rw [hwn]; exact hP.alloc _
        have hb1 : Below base w wn := by rw [hwn]; exact hb.alloc (Nat.le_trans hbs hb.size) _
        have hgAd : gA ≠ gd := by
          have := (hO.lt gA rfl).2
          omega
        have hbsn := Nat.le_trans hbs hb1.size
        have HW := Lib.hid hwn
        have HGD := Lib.hid hgd
        have hm0 : (0 : Int) ≤ (m : Int) := by omega
        have hm1 : (m : Int) < (n : Int) := by omega
        have hi0 : (0 : Int) ≤ (i : Int) := by omega
        have hi1 : (i : Int) < (n : Int) := by omega
        clear hwn hgd hO hG hP hb
        go_upto_region 8 with fail
        rw [← HW.out, ← HGD.out]
        have t0 : wn.cell? ⟨gd, 0, none⟩ = some (.int .i64 (x : Nat)) := kn.cell 0
        have t1 : wn.cell? ⟨gd, 1, none⟩ = some (.int .i64 (q : Nat)) := kn.cell 1
        clear q0 q1
        go_wp2_with fail
        refine (less1_any gp g x q G wn hx8 hq8 hG1 (hP1.cell 0)).mono ?_
        rintro e w2 ⟨rfl, h2⟩
        have hO2 := hO1.below h2 (Nat.le_refl _)
        have hG2 := hG1.below h2 hG1.lt
        have hP2 := hP1.below h2 hP1.lt
        have kn2 := kn.below h2 kn.lt
        have b2 := hb1.trans (h2.mono hbsn)
        have t0 : w2.cell? ⟨gd, 0, none⟩ = some (.int .i64 (x : Nat)) := kn2.cell 0
        have t1 : w2.cell? ⟨gd, 1, none⟩ = some (.int .i64 (q : Nat)) := kn2.cell 1
        clear hO1 hG1 hP1 kn h2 hb1
        have hex : isG G ((x : Int), (q : Int)) = G x q := rfl
        cases hg : G x q
        case true =>
          have hsn := HSN.out
          rw [hex, hg, if_pos rfl] at hsn
          have htk := HTK.out
          rw [← hsn] at htk
          have HTK2 := Lib.hid htk
          clear hsn htk HSN HTK hg hex HSET HSET2
          go_wp2_with fail
          go_roundw
          case rel => exact ⟨i, m + 1, ys, by omega, by omega, rfl, by go_num, hO2, HTK2.out, HDR2.out, hG2, hP2, b2⟩
          case measure => simp [intOf]; omega
        case false =>
          have hsn := HSN.out
          rw [hex, hg, if_neg (by decide)] at hsn
          have hst := HSET.out
          rw [← hsn] at hst
          have HTK2 := Lib.hid hst
          clear hsn hst HSN HTK hg hex HSET HDR2
          have hyl2 : (dcs ys).length = n * 2 := by rw [dcs_len, hyl]
          have e0 : w2.cell? ⟨gA, i * 2, none⟩ = some ((dcs ys)[i * 2]'(by omega)) := by rw [hO2.2.cellAt _ (by omega), List.getElem?_eq_getElem]
          have e1 : w2.cell? ⟨gA, i * 2 + 1, none⟩ = some ((dcs ys)[i * 2 + 1]'(by omega)) := by rw [hO2.2.cellAt _ (by omega), List.getElem?_eq_getElem]
          generalize (dcs ys)[i * 2]'(by omega) = u0 at e0
          generalize (dcs ys)[i * 2 + 1]'(by omega) = u1 at e1
          have f0 := hO2.2.frozenAt (i * 2)
          have f1 := hO2.2.frozenAt (i * 2 + 1)
          have oX := hO2.set_ i (x : Int) (q : Int)
          have hneG : gA ≠ g := fun e => own_ne hO2.2 hG2 (by decide) (by rw [e]; rfl)
          have hneP : gA ≠ gp := fun e => own_ne hO2.2 hP2 (by decide) (by rw [e]; rfl)
          have gX := (hG2.far (p := ⟨gA, i * 2, none⟩) (fun e => hneG e.symm) (.int .i64 (x : Nat))).far (p := ⟨gA, i * 2 + 1, none⟩) (fun e => hneG e.symm) (.int .i64 (q : Nat))
          have pX := (hP2.far (p := ⟨gA, i * 2, none⟩) (fun e => hneP e.symm) (.int .i64 (x : Nat))).far (p := ⟨gA, i * 2 + 1, none⟩) (fun e => hneP e.symm) (.int .i64 (q : Nat))
          have bX := (b2.setCell (p := ⟨gA, i * 2, none⟩) hgA (.int .i64 (x : Nat))).setCell (p := ⟨gA, i * 2 + 1, none⟩) hgA (.int .i64 (q : Nat))
          have OX := Lib.hid oX
          have GX := Lib.hid gX
          have PX := Lib.hid pX
          have BX := Lib.hid bX
          clear oX gX pX bX hO2 hG2 hP2 b2 kn2
          go_wp2_with fail
          go_roundw
          case rel => exact ⟨i + 1, m + 1, _, by omega, by omega, by go_num, by go_num, OX.out, HTK2.out, HSET2.out, GX.out, PX.out, BX.out⟩
          case measure => simp [intOf]; omega
      · have hmn2 : m = n := by omega
        subst hmn2
        rw [show L.take m = L from List.take_of_length_le (Nat.le_of_eq HL.out.symm)] at htk
        have oF := (hO.short (i := i) (by omega) (by omega)).tail
        rw [htk] at oF
        have hi0 : (0 : Int) ≤ (i : Int) := by omega
        have hi1 : (i : Int) ≤ (m : Int) := by omega
        have hcm : m ≤ c := (ownsRow_le hO.2).1
        have hyl2 : (dcs ys).length = m * 2 := by rw [dcs_len, ← hO.1]
        have hcl : ∀ ty, (Builtin.clear_ #[23] ty #[.slice (some ⟨gA, i * 2, none⟩) (m - i) (c - i)]).run Try.prog wr = .ok (.tuple #[]) (wr.setCells gA (i * 2) (Builtin.zeroCells (Value.agg #[.int .i64 0, .int .i64 0]).cells (m - i)).toList) := fun ty => run_clearD wr ty gA (i * 2) (m - i) (c - i) (by omega) (fun j hj => by rw [hO.2.cellAt _ (by omega), List.getElem?_eq_getElem (by omega)]; rfl) (fun j hj => hO.2.frozenAt _)
        generalize (Builtin.zeroCells (Value.agg #[.int .i64 0, .int .i64 0]).cells (m - i)).toList = zs at hcl
        have gz : wr.grownBy (wr.setCells gA (i * 2) zs) (some gA) := by
          obtain ⟨e1, e2, e3, e4⟩ := setCells_size wr gA zs (i * 2)
          exact ⟨e2, e3, e4, by rw [e1]; exact Nat.le_refl _, fun k hk hne => setCells_other wr gA _ _ k (fun e => hne (by rw [e]))⟩
        have bz := hb.grown gz (Nat.le_trans hbs hb.size) (fun q hq => by injection hq with hq; omega)
        have BZ := Lib.hid bz
        clear bz gz hyl2
        have OF := Lib.hid oF
        clear oF htk hdr hO hG hP hb
        go_wp2_with fail
        go_ret
        exact ⟨some ⟨gA, 0, none⟩, i, c, rfl, OF.out _, BZ.out⟩
end Go.Proofs.Ytacmdkjodnaohaa

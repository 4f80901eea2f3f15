/- The walk of event.PutAll. -/
import Derived.Test.YtiemlnomlfebkaaEvPut
import Derived.Test.YtiemlnomlfebkaaEvRow
namespace Go.Proofs.Ytiemlnomlfebkaa
set_option linter.unusedVariables false
set_option linter.unusedSimpArgs false
open Go.RowKit
open Dot Evt
/-- what PutAll gives: bytes, an error's number -/
def putAllE (xs : List EvV) : List UInt8 × Nat :=
  if 768 < xs.length then ([], 6) else if xs.all (fun x => rightE x.e) = true then (Vint.enc xs.length ++ xs.flatMap (fun x => encE x.e), 0) else ([], 2)
theorem numsE_len (x : Ev) (hp : x.p.length = 7) : (numsE x).length ≤ 13 + 2 * x.l.length := by
  have hd : (dotNums x.l).length = 2 * x.l.length := by rw [← dotN_len, ← dotNums_nat, List.length_map]
  unfold numsE
  rw [List.length_append]
  split
  · simp only [List.length_cons, List.length_nil]; omega
  · rw [List.length_append, List.length_append, hd]
    split
    · simp only [List.length_cons, List.length_nil, hp]; omega
    · simp only [List.length_cons, List.length_nil]; omega
theorem encE_len {x : Ev} (hp : x.p.length = 7) (hx : rightE x = true) : (encE x).length ≤ 1230 := by
  have h := encs_len ((numsE x).map Int.toNat)
  rw [List.length_map] at h
  have h2 := numsE_len x hp
  have h3 := (right_facts hp hx).2.2.1
  unfold encE
  omega
theorem encAll_len (xs : List EvV) (hp : ∀ x ∈ xs, x.e.p.length = 7 ∧ rightE x.e = true) : (xs.flatMap fun x => encE x.e).length ≤ 1230 * xs.length := by
  induction xs with
  | nil => simp
  | cons a l ih =>
    have h1 := encE_len (hp a (by simp)).1 (hp a (by simp)).2
    have h2 := ih fun x hx => hp x (by simp [hx])
    simp only [List.flatMap_cons, List.length_append, List.length_cons]
    omega
set_option maxRecDepth 100000 in
set_option maxHeartbeats 2000000 in
theorem eputAll_any (A : Option Addr) (n c : Nat) (xs : List EvV) (w : World) (hn : n ≤ 10000000000000) (hR : RowEv w w.heap.size A n xs) :
    Calls Try.prog 18 #[.slice A n c] w (GiveBE w (putAllE xs).1 (putAllE xs).2) := by
  have HN := Lib.hid hR.1
  have HRK := Lib.hid fun (w' : World) (hb : Below w.heap.size w w') => hR.below hb
  have HNB := Lib.hid hn
  have hZ : ∀ s : List UInt8 × Nat, putAllE xs = s → GiveBE w (putAllE xs).1 (putAllE xs).2 = GiveBE w s.1 s.2 := fun s h => by rw [h]
  clear hR
  have HPA := Lib.hid (show putAllE xs = putAllE xs from rfl)
  go_enter_defers Try.func18, Try.ntmps18
  go_upto_region 4 with fail
  refine nameW ?_
  intro W hW
  obtain ⟨B, hB⟩ : ∃ B, B = w.heap.size := ⟨_, rfl⟩
  rw [← hB]
  have kf : Blk W B 38 #[.int .i64 0] := by rw [hW, hB]; exact ((Blk.new w _ _).alloc _).alloc _
  have kw : WrS W (B + 1) [] := by
    have h := Blk.new (w.alloc (.cells #[.int .i64 0] 38)) 73 #[.slice none 0 0]
    rw [show (w.alloc (.cells #[.int .i64 0] 38)).heap.size = w.heap.size + 1 by simp] at h
    rw [hW, hB]
    exact ⟨none, 0, 0, h.alloc _, OwnB.nil _ _⟩
  have kn : Blk W (B + 1 + 1) 3 #[.int .i64 n] := by
    have h := Blk.new ((w.alloc (.cells #[.int .i64 0] 38)).alloc (.cells #[.slice none 0 0] 73)) 3 #[.int .i64 n]
    rw [show ((w.alloc (.cells #[.int .i64 0] 38)).alloc (.cells #[.slice none 0 0] 73)).heap.size = w.heap.size + 1 + 1 by simp] at h
    rw [hW, hB]
    exact h
  have hbb : Below B w W := by rw [hW, hB]; exact (((Below.refl _ _).alloc (Nat.le_refl _) _).alloc (by simp) _).alloc (by simp; omega) _
  have HB := Lib.hid hB
  rw [← hB] at HRK
  clear hW hB hZ
  have cn : W.cell? ⟨B + 1 + 1, 0, none⟩ = some (.int .i64 n) := kn.cell 0
  have cf : W.cell? ⟨B, 0, none⟩ = some (.int .i64 0) := kf.cell 0
  have ff := kf.free 0
  by_cases hbig : 768 < n
  · have hd : decide ((768 : Int) < (n : Int)) = true := decide_eq_true (by omega)
    have he : putAllE xs = ([], 6) := by unfold putAllE; rw [if_pos (by rw [← HN.out]; exact hbig)]
    have HE := Lib.hid he
    clear hbig he
    go_wp2_with fail
    refine leaves_cons (f := 38) (args := #[.pointer (some ⟨B, 0, none⟩)]) (by simp) (by simp [go_sem]) ?_
    refine (ecaught_none _ _).mono ?_
    rintro e u' w2 ⟨rfl, rfl, rfl⟩
    have k2 := kf.set_ 0 (.int .i64 6)
    have c2 := k2.cell 0
    have hb3 : Below B w (W.setCell ⟨B, 0, none⟩ (.int .i64 6)) := hbb.setCell (by show B ≤ B; omega) _
    refine ⟨.tuple #[.slice none 0 0, .int .i64 6], by simp [results, Try.results18, go_sem, c2], none, 0, 0, by rw [HE.out]; rfl, ?_, by rw [← HB.out]; exact hb3⟩
    rw [HE.out]
    exact OwnB.nil _ _
  have hd : decide ((768 : Int) < (n : Int)) = false := decide_eq_false (by omega)
  have H768 := Lib.hid (show n ≤ 768 by omega)
  clear hbig
  go_wp2_with fail
  refine (wnum_any (B + 1) ⟨B + 1 + 1, 0, none⟩ [] n W kw cn (by have := H768.out; omega) (by simp)).mono ?_
  rintro e w1 ⟨rfl, hw1, g1⟩
  have kf1 := kf.grown g1 (by simp)
  have hb1 := hbb.trans (only_Below g1 (B := B) (by omega) (by have := kf.lt; omega))
  clear cn cf ff kf kw kn hbb g1 hn hd
  go_wp2_with fail
  go_loopw [18] (fun i wr => ∃ k : Nat, k ≤ n ∧ i = .int .i64 k ∧ (∀ j x, j < k → xs[j]? = some x → rightE x.e = true) ∧ WrS wr (B + 1) (Vint.enc n ++ (xs.take k).flatMap fun x => encE x.e) ∧ Blk wr B 38 #[.int .i64 0] ∧ Below B w wr) (fun i _ => n - (intOf i).toNat)
  case atStart => exact ⟨0, by omega, rfl, fun j x hj => by omega, by simpa using hw1, kf1, hb1⟩
  case round =>
    clear hw1 kf1 hb1
    obtain ⟨k, hk, rfl, hall, hw, kf, gb⟩ := hrel
    have HA := Lib.hid hall
    clear hall
    by_cases hlt : k < n
    · have hkl : k < xs.length := by rw [← HN.out]; exact hlt
      obtain ⟨hok, ad, hA, hab, hcell⟩ := (HRK.out wr gb).2 k _ (List.getElem?_eq_getElem hkl)
      have hsn := take_snoc xs hkl
      have hkg := List.getElem?_eq_getElem hkl
      generalize xs[k] = x at *
      have hpr : ∀ y ∈ xs.take k, y.e.p.length = 7 ∧ rightE y.e = true := fun y hy => by
        obtain ⟨i, hi, rfl⟩ := List.getElem_of_mem hy
        rw [List.length_take] at hi
        have e1 : xs[i]? = some (xs.take k)[i] := by rw [List.getElem_take, List.getElem?_eq_getElem]
        exact ⟨((HRK.out wr gb).2 i _ e1).1.1, HA.out i _ (by omega) e1⟩
      have hlen := encAll_len _ hpr
      rw [List.length_take] at hlen
      have hl6 := enc_len6 n
      have HLL := Lib.hid (show (Vint.enc n ++ (xs.take k).flatMap fun x => encE x.e).length ≤ 140737488350000 by rw [List.length_append]; have := H768.out; omega)
      subst hA
      have hyes := fun (w' : World) (h : WrS w' (B + 1) (Vint.enc n ++ (xs.take k).flatMap fun x => encE x.e)) (h2 : RdD w' (B + 1) x.A x.m x.e.l) (hx : rightE x.e = true) => wput_yes x.e hok.1 x.A x.m x.c (B + 1) _ w' h h2 hx HLL.out
      have hno := fun (w' : World) (h2 : RdD w' w'.heap.size x.A x.m x.e.l) (hx : rightE x.e = false) => wput_no x.e hok.1 x.A x.m x.c (B + 1) w' h2 hx
      obtain ⟨cs, hcs⟩ : ∃ cs, cs = x.cs := ⟨_, rfl⟩
      have hec : ec x.e (.slice x.A x.m x.c) = cs := hcs.symm
      rw [hec] at hyes hno
      rw [← hcs] at hcell
      have HYES := Lib.hid hyes
      have HNO := Lib.hid hno
      have HSZ := Lib.hid (show cs.size = 14 by rw [hcs]; rfl)
      have H1C := Lib.hid (show cs.all (·.oneCell') = true by rw [hcs]; exact x.one)
      have HC := Lib.hid hcell
      have HOK := Lib.hid hok
      have HSN := Lib.hid hsn
      have HKG := Lib.hid hkg
      have HWR := Lib.hid hw
      have hk0 : (0 : Int) ≤ (k : Int) := by omega
      have hkm : (k : Int) < (n : Int) := by omega
      have hgs := hw.lt
      clear hcs hec hcell hok hsn hkg hlen hl6 hpr hyes hno hw
      go_upto_region 9 with fail
      go_upto_region 10 with first
        | ((with_reducible refine wpList_lda rowE HC.out HSZ.out ?_ ?_); rotate_left; (rfl))
        | ((with_reducible refine wpList_st rowE (Blk.new _ _ _) HSZ.out ?_ H1C.out ?_ ?_ ?_); (rfl); rotate_left; (rfl); (rfl); intro w6 k6 g6 z6)
      have bA : Below wr.heap.size wr w6 := (((Below.refl _ _).alloc (Nat.le_refl _) _).grown g6 (by simp) (fun q hq => by injection hq with hq; omega))
      have gb6 := gb.trans (bA.mono (by have := kf.lt; omega))
      have kf6 := kf.below bA kf.lt
      have hw6 := HWR.out.below bA
      have hrd6 := (HOK.out.2.1.below (bA.mono (by have := kf.lt; omega))).more (show B ≤ B + 1 by omega)
      obtain ⟨gr, hgr2⟩ : ∃ gr, gr = wr.heap.size := ⟨_, rfl⟩
      rw [← hgr2] at k6 ⊢
      clear hgr2 g6 z6 bA gb kf
      cases hx : rightE x.e
      case false =>
        have he : putAllE xs = ([], 2) := by
          unfold putAllE
          rw [if_neg (by rw [← HN.out]; have := H768.out; omega), if_neg]
          intro h
          have := List.all_eq_true.1 h x (List.mem_of_getElem? HKG.out)
          rw [hx] at this
          cases this
        have HE := Lib.hid he
        have hn2 := HNO.out w6 hrd6.size hx
        clear he hx
        go_wp2_with first
          | ((with_reducible refine wpList_ld rowE k6 HSZ.out ?_ ?_); rotate_left; (rfl))
        refine hn2.mono ?_
        rintro e w7 ⟨rfl, b7⟩
        have kf7 := kf6.below b7 kf6.lt
        go_wp2_with fail
        refine leaves_cons (f := 38) (args := #[.pointer (some ⟨B, 0, none⟩)]) (by simp) (by simp [go_sem]) ?_
        refine (ecaught_panic _ _ _ _ _ (kf7.cell 0) (kf7.free 0)).mono ?_
        rintro e u' w8 ⟨rfl, rfl, rfl⟩
        have k8 := (kf7.alloc (.cells #[.int .i64 2] 101)).set_ 0 (.int .i64 2)
        have c8 := k8.cell 0
        have hb8 : Below B w ((w7.alloc (.cells #[.int .i64 2] 101)).setCell ⟨B, 0, none⟩ (.int .i64 2)) := ((gb6.trans (b7.mono (by have := kf6.lt; omega))).alloc (by have := gb6.size; have := b7.size; have := HB.out; omega) _).setCell (by show B ≤ B; omega) _
        refine ⟨.tuple #[.slice none 0 0, .int .i64 2], by simp [results, Try.results18, go_sem, c8], none, 0, 0, by rw [HE.out]; rfl, ?_, by rw [← HB.out]; exact hb8⟩
        rw [HE.out]
        exact OwnB.nil _ _
      case true =>
        have hy2 := HYES.out w6 hw6 hrd6 hx
        have HX := Lib.hid hx
        clear hx
        go_wp2_with first
          | ((with_reducible refine wpList_ld rowE k6 HSZ.out ?_ ?_); rotate_left; (rfl))
        refine hy2.mono ?_
        rintro e w7 ⟨rfl, hw7, g7⟩
        have kf7 := kf6.grown g7 (by simp)
        have gb7 := gb6.trans (only_Below g7 (B := B) (by omega) (by have := kf6.lt; omega))
        go_wp2_with fail
        go_roundw
        case rel => exact ⟨k + 1, by omega, num_succ k (by have := H768.out; omega), fun j y hj hy => by
          by_cases e : j = k
          · subst e; rw [HKG.out] at hy; injection hy with hy; rw [← hy]; exact HX.out
          · exact HA.out j y (by omega) hy, by rw [HSN.out, List.flatMap_append]; simpa using hw7, kf7, gb7⟩
        case measure => exact meas_succ k n hlt (by have := H768.out; omega)
    · have he : putAllE xs = (Vint.enc n ++ xs.flatMap fun x => encE x.e, 0) := by
        unfold putAllE
        rw [if_neg (by rw [← HN.out]; have := H768.out; omega), if_pos, ← HN.out]
        rw [List.all_eq_true]
        intro x hx
        obtain ⟨i, hi, rfl⟩ := List.getElem_of_mem hx
        exact HA.out i _ (by have := HN.out; omega) (List.getElem?_eq_getElem hi)
      have HE := Lib.hid he
      rw [List.take_of_length_le (by rw [← HN.out]; omega)] at hw
      clear he
      obtain ⟨A1, n1, c1, kw1, ho1⟩ := hw
      have q1 : wr.cell? ⟨B + 1, 0, none⟩ = some (.slice A1 n1 c1) := kw1.cell 0
      have f1 : wr.cell? ⟨B, 0, none⟩ = some (.int .i64 0) := kf.cell 0
      have f2 := kf.free 0
      have hkd : decide ((k : Int) < (n : Int)) = false := decide_eq_false (by omega)
      go_wp2_with fail
      refine leaves_cons (f := 38) (args := #[.pointer (some ⟨B, 0, none⟩)]) (by simp) (by simp [go_sem]) ?_
      refine (ecaught_none _ _).mono ?_
      rintro e u' w2 ⟨rfl, rfl, rfl⟩
      have k2 := kf.set_ 0 (.int .i64 0)
      have c2 := k2.cell 0
      have hb3 : Below B w (wr.setCell ⟨B, 0, none⟩ (.int .i64 0)) := gb.setCell (by show B ≤ B; omega) _
      refine ⟨.tuple #[.slice A1 n1 c1, .int .i64 0], by simp [results, Try.results18, go_sem, c2], A1, n1, c1, by rw [HE.out]; rfl, ?_, by rw [← HB.out]; exact hb3⟩
      rw [HE.out]
      refine (ho1.setFar ?_ _).mono (by have := HB.out; omega)
      rcases A1 with _ | a
      · simp
      · have := (ho1.lt a.block rfl).1
        simp
        omega
end Go.Proofs.Ytiemlnomlfebkaa

/- The walk of the document's Less. -/
import Derived.Test.YtacmdkjodnaohaaDotRJoin
namespace Go.Proofs.Ytacmdkjodnaohaa
open Go.RowKit
open Dot
/-- what is not in a set -/
def lessD (U : List Int) (l : List Dt) (L : List Dt) : List Dt := L.filter fun d => !hasB U l d
theorem lessD_snoc {U : List Int} {l : List Dt} {L : List Dt} {k : Nat} (h : k < L.length) : lessD U l (L.take (k + 1)) = if hasB U l L[k] = true then lessD U l (L.take k) else lessD U l (L.take k) ++ [L[k]] := by
  unfold lessD
  rw [take_snoc L h, List.filter_append]
  by_cases hh : hasB U l L[k] = true
  · rw [if_pos hh]; simp [hh]
  · rw [if_neg hh]; simp [hh]
theorem dots_len2 (G : Grid) : (dotsS G).length ≤ 784 := dotsTo_len G 8
theorem lessD_len (U : List Int) (l : List Dt) (L : List Dt) : (lessD U l L).length ≤ L.length := List.length_filter_le _ _
set_option maxRecDepth 100000 in
set_option maxHeartbeats 2000000 in
theorem rless_any (s u : SetV) (w : World) (hU : s.U.length = 8) (hU' : u.U.length = 8) (hr : RdD w w.heap.size s.A s.n s.l) (hr' : RdD w w.heap.size u.A u.n u.l) :
    Calls Try.prog 27 #[.agg (uc s.U (.slice s.A s.n s.c)), .agg (uc u.U (.slice u.A u.n u.c))] w (ListEnd w (lessD u.U u.l (dotsS (hasG s.U s.l)))) := by
  unfold ListEnd
  have HS := Lib.hid (uc_size hU (.slice s.A s.n s.c))
  have HS' := Lib.hid (uc_size hU' (.slice u.A u.n u.c))
  have hls := fun w' (hb : Below w.heap.size w w') => rlist_any s.U hU s.A s.n s.c s.l w' ((hr.below hb).more hb.size)
  have hhs := fun (d : Dt) w' (hb : Below w.heap.size w w') => rhas_any u.U hU' u.A u.n u.c u.l d.1 d.2 w' ((hr'.below hb).more hb.size)
  have hLL := dots_len2 (hasG s.U s.l)
  generalize dotsS (hasG s.U s.l) = LL at *
  obtain ⟨sc, hsc⟩ : ∃ sc, sc = uc s.U (.slice s.A s.n s.c) := ⟨_, rfl⟩
  obtain ⟨sd, hsd⟩ : ∃ sd, sd = uc u.U (.slice u.A u.n u.c) := ⟨_, rfl⟩
  rw [← hsc] at HS hls ⊢
  rw [← hsd] at HS' hhs ⊢
  have HLS := Lib.hid hls
  have HHS := Lib.hid hhs
  clear hls hhs hsc hsd hr hr'
  go_enter Try.func27, Try.ntmps27
  go_upto_region 1 with fail
  refine nameW ?_
  intro wv hwv
  obtain ⟨b, hb⟩ : ∃ b, b = w.heap.size := ⟨_, rfl⟩
  rw [← hb]
  have kb : Blk wv b 35 sc := by rw [hwv, hb]; exact (Blk.new w _ _).alloc _
  have ku : Blk wv (b + 1) 35 sd := by
    have h := Blk.new (w.alloc (.cells sc 35)) 35 sd
    rw [hwv, hb]
    simpa using h
  have gb : Below w.heap.size w wv := by rw [hwv]; exact ((Below.refl _ _).alloc (Nat.le_refl _) _).alloc (by simp) _
  clear hwv hb
  go_wp2_with ((with_reducible refine wpList_ld rowRS kb HS.out ?_ ?_); rotate_left; (rfl))
  refine (HLS.out wv gb).mono ?_
  rintro e w1 ⟨AL, mL, cL, rfl, oL, h1⟩
  have b1 := gb.trans (h1.mono gb.size)
  have ku1 := ku.below h1 ku.lt
  have hub := ku1.lt
  clear kb ku h1 gb
  have rL := oL.rd
  obtain rfl : mL = LL.length := oL.1
  clear oL
  go_wp2_with fail
  obtain ⟨wo, rfl⟩ : ∃ wo, wo = w1 := ⟨_, rfl⟩
  go_loopw [5, 11] (fun s i wr => ∃ (k : Nat) (A : Option Addr) (m c : Nat), k ≤ LL.length ∧ i = .int .i64 k ∧ s = .slice A m c ∧ OwnD wr wo.heap.size A m c (lessD u.U u.l (LL.take k)) ∧ Below wo.heap.size wo wr) (fun _ i _ => LL.length - (intOf i).toNat)
  case atStart => exact ⟨0, none, 0, 0, by omega, rfl, rfl, OwnD.nil _ _, Below.refl _ _⟩
  case round =>
    obtain ⟨k, A, m, c, hk, rfl, rfl, oA, bl⟩ := hrel
    by_cases hlt : k < LL.length
    · have hsn := lessD_snoc (U := u.U) (l := u.l) hlt
      have hml : m ≤ 784 := by
        have h1 := oA.1
        have h2 := lessD_len u.U u.l (LL.take k)
        have h3 : (LL.take k).length ≤ k := List.length_take_le _ _
        omega
      obtain ⟨ad, rfl, hdt⟩ := (rL.below bl).2 k _ (List.getElem?_eq_getElem hlt)
      have hhas := HHS.out LL[k]
      generalize LL[k] = d at *
      obtain ⟨x, q⟩ := d
      obtain ⟨q5, q0, q1⟩ := hdt
      simp only at q0 q1 hsn hhas
      have HSN := Lib.hid hsn
      have HHAS := Lib.hid hhas
      clear hsn hhas
      obtain ⟨wn, hwn⟩ : ∃ wn, wn = wr.alloc (.cells #[.int .i64 x, .int .i64 q] 27) := ⟨_, rfl⟩
      obtain ⟨gd, hgd⟩ : ∃ gd, gd = wr.heap.size := ⟨_, rfl⟩
      have kn : Blk wn gd 27 #[.int .i64 x, .int .i64 q] := by rw [hwn, hgd]; exact Blk.new wr _ _
      have hB1 := ku1.below bl ku1.lt
      have hB2 : Blk wn (b + 1) 35 sd := by rw [hwn]; exact hB1.alloc _
      have hO1 : OwnD wn wo.heap.size A m c (lessD u.U u.l (LL.take k)) := by rw [hwn]; exact oA.alloc _
      have hb1 : Below wo.heap.size wo wn := by rw [hwn]; exact bl.alloc bl.size _
      have hbw := b1.trans (hb1.mono b1.size)
      have HW := Lib.hid hwn
      have HGD := Lib.hid hgd
      have hk0 : (0 : Int) ≤ (k : Int) := by omega
      have hk1 : (k : Int) < (LL.length : Int) := by omega
      clear hwn hgd
      go_upto_region 5 with fail
      rw [← HW.out, ← HGD.out]
      have t0 : wn.cell? ⟨gd, 0, none⟩ = some (.int .i64 x) := kn.cell 0
      have t1 : wn.cell? ⟨gd, 1, none⟩ = some (.int .i64 q) := kn.cell 1
      clear q0 q1 hB1 oA bl
      go_wp2_with ((with_reducible refine wpList_ld rowRS hB2 HS'.out ?_ ?_); rotate_left; (rfl))
      refine (HHAS.out wn hbw).mono ?_
      rintro e w2 ⟨rfl, h2⟩
      have o2 := hO1.below h2 (Nat.le_refl _)
      have kn2 := kn.below h2 kn.lt
      have b2 := hb1.trans (h2.mono hb1.size)
      have t0 : w2.cell? ⟨gd, 0, none⟩ = some (.int .i64 x) := kn2.cell 0
      have t1 : w2.cell? ⟨gd, 1, none⟩ = some (.int .i64 q) := kn2.cell 1
      have hw0 := Nat.le_trans b1.size b2.size
      clear h2 hO1 kn hb1 hbw hB2
      cases hh : hasB u.U u.l (x, q)
      case true =>
        have hsn := HSN.out
        rw [hh, if_pos rfl] at hsn
        rw [← hsn] at o2
        clear hh hsn HSN
        go_wp2_with fail
        go_roundw
        case rel => exact ⟨k + 1, A, m, c, by omega, by go_num, rfl, o2, b2⟩
        case measure => simp [intOf]; omega
      case false =>
        have hsn := HSN.out
        rw [hh, if_neg (by decide)] at hsn
        have HSN2 := Lib.hid hsn
        clear hh hsn HSN
        have rX := Rd.made w2 #[.int .i64 x, .int .i64 q] 27 (0, 0)
        have oX := o2.alloc (.cells #[.int .i64 x, .int .i64 q] 27)
        go_wp2_with (at_builtin; refine stop ?_)
        unfold Stop
        refine wpList_appD rfl (.tmp 19) (.tmp 21) rfl (by rfl) oX (by rfl) (m := 1) (news := [(x, q)]) rX rfl (by omega) (Nat.le_trans b2.size (by simp)) ?_
        intro A5 c5 w5 o5 g5 m5 b5
        rw [← HSN2.out] at o5
        have bx := (b2.alloc b2.size (.cells #[.int .i64 x, .int .i64 q] 27)).trans b5
        clear oX rX o2 b2 kn2 t0 t1
        go_wp2_with fail
        go_roundw
        case rel => exact ⟨k + 1, A5, m + 1, c5, by omega, by go_num, rfl, o5, bx⟩
        case measure => simp [intOf]; omega
    · have hkn : k = LL.length := by omega
      subst hkn
      rw [List.take_length] at oA
      go_wp2_with fail
      go_ret
      exact ⟨A, m, c, rfl, oA.mono b1.size, b1.trans (bl.mono b1.size)⟩
end Go.Proofs.Ytacmdkjodnaohaa

/- MsgPuts: whether any message may be, its frame and how long that is, or the error, are the document's; the message stays: the whole statement, without a condition. -/
import Derived.Test.YtcgalmnllegnbaaEvRRight
import Derived.Test.YtcgalmnllegnbaaEvRow
import Derived.Test.YtcgalmnllegnbaaDotSame
import Derived.Test.YtcgalmnllegnbaaFactsD
import Derived.Test.YtcgalmnllegnbaaMsgRMem
import Derived.Test.YtcgalmnllegnbaaDotRRight
import Derived.Test.YtcgalmnllegnbaaVintPut
import Derived.Test.YtcgalmnllegnbaaVintWalks
import Derived.Laws.CopyOwn
import Derived.Test.YtcgalmnllegnbaaFramePut
import Derived.Test.YtcgalmnllegnbaaMem
import Derived.Test.YtcgalmnllegnbaaRows
import Derived.ProofKit
import Derived.OpenShut
import Derived.ShutString
import Derived.ChangeOld
import Derived.Below
import Derived.Deep.Slices
import Derived.Deep.Fields
import Derived.Deep.Strs
import Derived.SizedLaws
import Derived.Test.YtcgalmnllegnbaaDotMem
import Derived.Test.YtcgalmnllegnbaaMsgMem
/- The document's example of layer 17. -/
namespace Go.Proofs.Ytcgalmnllegnbaa
set_option linter.unusedVariables false
set_option linter.unusedSimpArgs false
set_option maxRecDepth 100000
open Go.RowKit
open Dot Evt
open Ms (Mem)
/-- a message without rows, as a value -/
def bareV (m : Ms.Msg) : MgV := ⟨m, none, 0, 0, [], none, 0, 0, none, 0, 0⟩
def exM : Ms.Msg := ⟨1, 1, 2, 5, 0, [0, 0, 0, 0, 0, 0, 0, 0], [], [], []⟩
abbrev cM : Array Value := #[.int .i64 1, .int .i64 1, .int .i64 2, .int .i64 5, .int .i64 0, .int .i64 0, .int .i64 0, .int .i64 0, .int .i64 0, .int .i64 0, .int .i64 0, .int .i64 0, .int .i64 0, .slice none 0 0, .slice none 0 0, .slice none 0 0]
abbrev cZ : Array Value := #[.int .i64 0, .int .i64 0, .int .i64 0, .int .i64 0, .int .i64 0, .int .i64 0, .int .i64 0, .int .i64 0, .int .i64 0, .int .i64 0, .int .i64 0, .int .i64 0, .int .i64 0, .slice none 0 0, .slice none 0 0, .slice none 0 0]
theorem cM_eq : (bareV exM).cs = cM := rfl
theorem cZ_eq : (bareV Ms.zero).cs = cZ := rfl
theorem cM_size : cM.size = 16 := rfl
theorem cM_one : cM.all (·.oneCell') = true := by kernel_rfl
theorem exM_right : Ms.rightM exM = true := by decide +kernel
theorem zeroM_right : Ms.rightM Ms.zero = false := by decide +kernel
theorem exM_body : Ms.bodyM exM = [1, 1, 2, 0, 5] := by decide +kernel
theorem exM_put : Ms.putM exM = (Frame.frm [1, 1, 2, 0, 5], 0) := by
  unfold Ms.putM
  rw [if_pos exM_right, exM_body, if_pos (by decide)]
theorem bare_in (m : Ms.Msg) (w : World) (hu : m.u.length = 8) (h1 : m.more = []) (h2 : m.ev = []) (h3 : m.mem = []) (wu : Wf m.u) : MgIn w (bareV m) :=
  ⟨⟨hu, by show RdD w _ none 0 m.more; rw [h1]; exact RdD.nil _ _ _, RowEv.nil _ _ _, h2, by show RdMb w _ none 0 m.mem; rw [h3]; exact RdMb.nil _ _ _⟩, wu, by show 0 ≤ _; omega, by show 0 ≤ _; omega⟩
theorem wf_zeros {l : List Int} (h : ∀ y ∈ l, y = 0) : Wf l := fun y hy => by rw [h y hy]; exact wf_of (by omega) (by omega)
theorem frm5_get (A : Option Addr) (n c B : Nat) (w : World) (hb : RdB w B A n (Frame.frm [1, 1, 2, 0, 5])) (hB : B ≤ w.heap.size) (hl : n ≤ 140737488355000) (hc : n ≤ c) (hm : c ≤ maxLen) :
    Calls Try.prog 29 #[.slice A n c] w fun e w' => Below w.heap.size w w' ∧ ∃ A1 c1 A2 c2, e = .returned (.tuple #[.slice A1 5 c1, .slice A2 0 c2, .int .i64 0]) ∧ OwnB w' w.heap.size A1 5 c1 [1, 1, 2, 0, 5] :=
  (Frame.get_any A n c _ B w hb hB hl hc hm).mono (by
    rintro e w' ⟨h1, h2⟩
    have hd : Frame.dec (Frame.frm [1, 1, 2, 0, 5]) = .ok ([1, 1, 2, 0, 5], []) := by
      have := Frame.dec_frm (b := [1, 1, 2, 0, 5]) (by decide) []
      rwa [List.append_nil] at this
    rw [hd] at h2
    obtain ⟨A1, c1, A2, c2, he, o1, _⟩ := h2
    exact ⟨h1, A1, c1, A2, c2, he, o1⟩)
set_option maxHeartbeats 2000000 in
theorem alive17 (w : World) : Calls Try.prog 8 #[] w fun e w' => e = .returned (.bool true) ∧ Below w.heap.size w w' := by
  have hp := fun w' => mput_any (bareV exM) w' (bare_in exM w' rfl rfl rfl rfl (wf_zeros (by simp [exM])))
  have hr := fun w' => mright_any (bareV exM) w' (bare_in exM w' rfl rfl rfl rfl (wf_zeros (by simp [exM])))
  have hz := fun w' => mright_any (bareV Ms.zero) w' (bare_in Ms.zero w' rfl rfl rfl rfl (wf_zeros (by simp [Ms.zero])))
  rw [cM_eq] at hp hr
  rw [cZ_eq] at hz
  rw [show (bareV exM).m = exM from rfl, exM_put] at hp
  rw [show (bareV exM).m = exM from rfl, exM_right] at hr
  rw [show (bareV Ms.zero).m = Ms.zero from rfl, zeroM_right] at hz
  have HP := Lib.hid hp
  have HR := Lib.hid hr
  have HZ := Lib.hid hz
  clear hp hr hz
  go_enter Try.func8, Try.ntmps8
  go_upto_region 2 with ((with_reducible refine wpList_st (cs := cM) rowMg (Blk.new _ _ _) cM_size ?_ cM_one ?_ ?_ ?_); (rfl); rotate_left; (rfl); (rfl); intro w1 kb g1 z1)
  have gb : Below w.heap.size w w1 := new_below g1
  obtain ⟨g, hg⟩ : ∃ g, g = w.heap.size := ⟨_, rfl⟩
  rw [← hg] at kb ⊢
  clear g1 z1
  go_wp2_with ((with_reducible refine wpList_ld rowMg kb cM_size ?_ ?_); rotate_left; (rfl))
  refine (HP.out w1).mono ?_
  rintro e w2 ⟨A2, n2, c2, rfl, o2, b2⟩
  have kb := kb.below b2 kb.lt
  rw [hg] at *
  have gb := gb.trans (b2.mono gb.size)
  have hle := ownsRow_le o2.2
  have hn2 : n2 ≤ 100 := by
    have := o2.1
    rw [Frame.frm_length] at this
    have h2 := Vint.enc_length ([1, 1, 2, 0, 5] : List UInt8).length
    simp at this h2
    omega
  have HO := Lib.hid o2
  clear o2 b2
  go_wp2_with fail
  refine (frm5_get A2 n2 c2 w2.heap.size w2 HO.out.rd (Nat.le_refl _) (by omega) hle.1 hle.2).mono ?_
  rintro e w3 ⟨b3, A3, c3, A4, c4, rfl, o3⟩
  have kb := kb.below b3 kb.lt
  have gb := gb.trans (b3.mono gb.size)
  have HO3 := Lib.hid o3
  clear o3 b3 HO hle
  go_wp2_with fail
  have ba : Below w3.heap.size w3 (w3.alloc (.cells #[.int .u8 1, .int .u8 1, .int .u8 2, .int .u8 0, .int .u8 5] 5)) := (Below.refl _ _).alloc (Nat.le_refl _) _
  refine (same_eq A3 _ 5 c3 5 _ [1, 1, 2, 0, 5] w3.heap.size _ _ (HO3.out.rd.below ba) (RdB.made w3 [1, 1, 2, 0, 5] _ _ _ (by kernel_rfl)) (by decide)).mono ?_
  rintro e w4 ⟨rfl, m4, rfl⟩
  have kb := kb.below (below_drewN ba m4) kb.lt
  have gb := gb.trans ((below_drewN ba m4).mono gb.size)
  generalize (w3.alloc (.cells #[.int .u8 1, .int .u8 1, .int .u8 2, .int .u8 0, .int .u8 5] 5)).drewN m4 = w4 at *
  clear ba HO3
  go_wp2_with ((with_reducible refine wpList_ldg rowMg kb cM_size ?_ ?_ ?_); rotate_left; (rfl); (rfl))
  refine (HR.out _).mono ?_
  rintro e w5 ⟨rfl, b5⟩
  have gb := gb.trans (b5.mono gb.size)
  clear b5 kb
  go_wp2_with fail
  refine (HZ.out _).mono ?_
  rintro e w6 ⟨rfl, b6⟩
  have gb := gb.trans (b6.mono gb.size)
  go_wp2_with fail
  go_ret
  exact ⟨rfl, gb⟩
end Go.Proofs.Ytcgalmnllegnbaa

/- The walks of the document's Same and All of events that are the same. -/
namespace Go.Proofs.Ytcgalmnllegnbaa
set_option linter.unusedVariables false
set_option linter.unusedSimpArgs false
set_option maxRecDepth 100000
open Go.RowKit
open Dot Evt
set_option maxRecDepth 100000 in
set_option maxHeartbeats 2000000 in
theorem rsame07_eq (x y : EvV) (w : World) (hx : EvOk w w.heap.size x) (hy : EvOk w w.heap.size y) (he : x.e = y.e) (hm : x.m ≤ 1000000) :
    Calls Try.prog 67 #[.agg x.cs, .agg y.cs] w fun e w' => e = .returned (.bool true) ∧ Below w.heap.size w w' := by
  obtain ⟨ex, A1, m1, c1⟩ := x
  obtain ⟨ey, A2, m2, c2⟩ := y
  simp only at he
  subst he
  have hd := fun (w' : World) (h : Below w.heap.size w w') => dots_any A1 A2 m1 c1 m2 c2 w.heap.size w.heap.size ex.l ex.l w' (hx.2.1.below h) (hy.2.1.below h) hm
  obtain ⟨⟨n, q⟩, t, k, wk, v, p, l⟩ := ex
  simp only [decide_true] at hd
  have HD := Lib.hid hd
  clear hd hx hy hm
  unfold EvV.cs ec
  simp only
  generalize p.getD 0 0 = p0, p.getD 1 0 = p1, p.getD 2 0 = p2, p.getD 3 0 = p3, p.getD 4 0 = p4, p.getD 5 0 = p5, p.getD 6 0 = p6
  go_enter Try.func67, Try.ntmps67
  go_upto_region 1 with fail
  refine nameW ?_
  intro wv hwv
  obtain ⟨b, hb⟩ : ∃ b, b = w.heap.size := ⟨_, rfl⟩
  rw [← hb]
  have kb : Blk wv b 50 #[.int .i64 n, .int .i64 q, .int .i64 t, .int .i64 k, .int .i64 wk, .int .i64 v, .int .i64 p0, .int .i64 p1, .int .i64 p2, .int .i64 p3, .int .i64 p4, .int .i64 p5, .int .i64 p6, .slice A1 m1 c1] := by rw [hwv, hb]; exact (Blk.new w _ _).alloc _
  have kz : Blk wv (b + 1) 50 #[.int .i64 n, .int .i64 q, .int .i64 t, .int .i64 k, .int .i64 wk, .int .i64 v, .int .i64 p0, .int .i64 p1, .int .i64 p2, .int .i64 p3, .int .i64 p4, .int .i64 p5, .int .i64 p6, .slice A2 m2 c2] := by
    have h := Blk.new (w.alloc (.cells #[.int .i64 n, .int .i64 q, .int .i64 t, .int .i64 k, .int .i64 wk, .int .i64 v, .int .i64 p0, .int .i64 p1, .int .i64 p2, .int .i64 p3, .int .i64 p4, .int .i64 p5, .int .i64 p6, .slice A1 m1 c1] 50)) 50 #[.int .i64 n, .int .i64 q, .int .i64 t, .int .i64 k, .int .i64 wk, .int .i64 v, .int .i64 p0, .int .i64 p1, .int .i64 p2, .int .i64 p3, .int .i64 p4, .int .i64 p5, .int .i64 p6, .slice A2 m2 c2]
    rw [show (w.alloc (.cells #[.int .i64 n, .int .i64 q, .int .i64 t, .int .i64 k, .int .i64 wk, .int .i64 v, .int .i64 p0, .int .i64 p1, .int .i64 p2, .int .i64 p3, .int .i64 p4, .int .i64 p5, .int .i64 p6, .slice A1 m1 c1] 50)).heap.size = w.heap.size + 1 by simp] at h
    rw [hwv, hb]
    exact h
  have gb : Below w.heap.size w wv := by rw [hwv]; exact ((Below.refl _ _).alloc (Nat.le_refl _) _).alloc (by simp) _
  have hD := HD.out wv gb
  have HD2 := Lib.hid hD
  have HG := Lib.hid gb
  clear hwv hb gb hD HD
  obtain ⟨c0, c1, c2, c3, c4, c5, c6, c7, c8, c9, c10, c11, c12, c13⟩ := ecells kb
  obtain ⟨d0, d1, d2, d3, d4, d5, d6, d7, d8, d9, d10, d11, d12, d13⟩ := ecells kz
  go_wp2_with fail
  refine HD2.out.mono ?_
  rintro e w1 ⟨rfl, mm, rfl⟩
  go_wp2_with fail
  go_ret
  exact ⟨rfl, below_drewN HG.out mm⟩
section
variable {P : Program} {T : TypeId} {n : Nat} {ad : Addr} {cs : Array Value}
theorem quiet_lda {ops : Array Oper} {rest : List Oper} {a : Act} {Q : Act → Prop} {C : World → Prop} {d : Option Tmp} {ty : TypeId} {pos : String} {aft : Array Edge} {gd : Option (Nat × Bool)} {x : Operand} (hR : RowT P T n) (hS : ∀ w, C w → ∀ (j : Nat) v, cs[j]? = some v → w.cell? (ad.add j) = some v) (hn : cs.size = n)
    (h : wpQuiet P ops C Q rest (a.put d (.agg cs))) (hx : a.eval x = .pointer (some ad)) (hw : Region.wanted ⟨d, .load T x, ty, pos, aft, gd⟩ (yielded ops a.tmps) = true) : wpQuiet P ops C Q (⟨d, .load T x, ty, pos, aft, gd⟩ :: rest) a := by
  unfold wpQuiet
  rw [if_pos hw]
  obtain ⟨e, hu, hd, hi⟩ := hR
  rw [← hn, ← Array.length_toList] at hi
  refine ⟨.agg cs, fun w hw => ?_, h⟩
  have hcl : ∀ (j : Nat) v, cs.toList[j]? = some v → w.cell? (ad.add j) = some v := fun j v hj => hS w hw j v (by simpa using hj)
  unfold Oper.quietAt execOp
  simp only [hx, Instr.loadAt, Instr.sureAddr, Sem.run_bind, Sem.run_pure, Result.andThen_ok, run_loadVar_at w ad T cs.toList e hcl hu hd hi, Array.toArray_toList]
  exact ⟨rfl, rfl⟩
end
set_option maxRecDepth 100000 in
set_option maxHeartbeats 2000000 in
theorem rall07_eq (A1 A2 : Option Addr) (n c1 c2 : Nat) (xs ys : List EvV) (w : World) (hx : RowEv w w.heap.size A1 n xs) (hy : RowEv w w.heap.size A2 n ys) (he : xs.map (·.e) = ys.map (·.e)) (hm : ∀ x ∈ xs, x.m ≤ 1000000) (hn : n ≤ 10000000000000) :
    Calls Try.prog 28 #[.slice A1 n c1, .slice A2 n c2] w fun e w' => e = .returned (.bool true) ∧ Below w.heap.size w w' := by
  have HN := Lib.hid hx.1
  have HN2 := Lib.hid hy.1
  have HX := Lib.hid fun (w' : World) (h : Below w.heap.size w w') => (hx.below h)
  have HY := Lib.hid fun (w' : World) (h : Below w.heap.size w w') => (hy.below h)
  have HE := Lib.hid he
  have HM := Lib.hid hm
  clear hx hy he hm
  go_enter Try.func28, Try.ntmps28
  go_wp2_with fail
  go_loopw [13] (fun i wr => ∃ k : Nat, k ≤ n ∧ i = .int .i64 k ∧ Below w.heap.size w wr) (fun i _ => n - (intOf i).toNat)
  case atStart => exact ⟨0, by omega, rfl, Below.refl _ _⟩
  case round =>
    obtain ⟨k, hk, rfl, gb⟩ := hrel
    by_cases hlt : k < n
    · have hkl : k < xs.length := by rw [← HN.out]; exact hlt
      have hky : k < ys.length := by rw [← HN2.out]; exact hlt
      have hX := (HX.out wr gb).2 k _ (List.getElem?_eq_getElem hkl)
      have hY := (HY.out wr gb).2 k _ (List.getElem?_eq_getElem hky)
      have hmm := HM.out _ (List.getElem_mem hkl)
      have hee : xs[k].e = ys[k].e := by
        have h := congrArg (fun l => l[k]?) HE.out
        simp only [List.getElem?_map, List.getElem?_eq_getElem hkl, List.getElem?_eq_getElem hky, Option.map_some] at h
        injection h
      generalize xs[k] = x at *
      generalize ys[k] = y at *
      obtain ⟨okx, ad1, hA1, hb1, hc1⟩ := hX
      obtain ⟨oky, ad2, hA2, hb2, hc2⟩ := hY
      subst hA1 hA2
      have hcl1 := fun (w' : World) (h : Below wr.heap.size wr w') => fun (j : Nat) (v : Value) (hv : x.cs[j]? = some v) => ((h.cell (p := (ad1.add (k * 14)).add j) (by rw [block_add, block_add]; have := gb.size; omega)).trans (hc1 j v hv))
      have hcl2 := fun (w' : World) (h : Below wr.heap.size wr w') => fun (j : Nat) (v : Value) (hv : y.cs[j]? = some v) => ((h.cell (p := (ad2.add (k * 14)).add j) (by rw [block_add, block_add]; have := gb.size; omega)).trans (hc2 j v hv))
      have hsm := fun (w' : World) (h : Below wr.heap.size wr w') => rsame07_eq x y w' ((okx.below (h.mono gb.size)).more (by have := gb.size; have := h.size; omega)) ((oky.below (h.mono gb.size)).more (by have := gb.size; have := h.size; omega)) hee hmm
      obtain ⟨cx, hcx⟩ : ∃ cx, cx = x.cs := ⟨_, rfl⟩
      obtain ⟨cy, hcy⟩ : ∃ cy, cy = y.cs := ⟨_, rfl⟩
      have SX := Lib.hid (show cx.size = 14 by rw [hcx]; rfl)
      have SY := Lib.hid (show cy.size = 14 by rw [hcy]; rfl)
      rw [← hcx, ← hcy] at hsm
      rw [← hcx] at hcl1
      rw [← hcy] at hcl2
      have HC1 := Lib.hid hcl1
      have HC2 := Lib.hid hcl2
      have HSM := Lib.hid hsm
      have hk0 : (0 : Int) ≤ (k : Int) := by omega
      have hkm : (k : Int) < (n : Int) := by omega
      clear hcl1 hcl2 hsm hcx hcy hee hmm hc1 hc2 okx oky
      go_upto_region 6 with fail
      refine wp_region_below (by kernel_rfl) (by kernel_rfl) ?_
      intro T iT F hF hT
      have HF := Lib.hid hF
      have HT := Lib.hid hT
      clear hF hT
      iterate 3 (go_big_quiet_step (fail))
      (with_reducible refine quiet_lda rowE (fun w' hw' => by obtain ⟨qf, rfl⟩ := hw'; exact HC1.out _ (HF.out qf)) SX.out ?_ ?_ ?_); rotate_left; (rfl); (rfl); simp only [Act.put, List.setIfInBounds_toArray, List.set_cons_succ, List.set_cons_zero, eq_self, decide_true, Bool.not_true, Bool.not_false, beq_self_eq_true]
      iterate 3 (go_big_quiet_step (fail))
      (with_reducible refine quiet_lda rowE (fun w' hw' => by obtain ⟨qf, rfl⟩ := hw'; exact HC2.out _ (HF.out qf)) SY.out ?_ ?_ ?_); rotate_left; (rfl); (rfl); simp only [Act.put, List.setIfInBounds_toArray, List.set_cons_succ, List.set_cons_zero, eq_self, decide_true, Bool.not_true, Bool.not_false, beq_self_eq_true]
      go_big_quiet_step ((go_at_call 67; exact calls_below HF.out HT.out (HSM.out _ (HF.out _))))
      repeat (go_big_quiet_step (fail))
      refine wpQuiet_nil ?_
      intro w' hw'
      obtain ⟨qf, rfl⟩ := hw'
      have bF := HF.out qf
      have gbF := gb.trans (bF.mono gb.size)
      clear HC1 HC2 HSM HF HT bF
      go_wp2_with fail
      go_roundw
      case rel => exact ⟨k + 1, by omega, by go_num, gbF⟩
      case measure => simp [intOf]; omega
    · have hkd : decide ((k : Int) < (n : Int)) = false := decide_eq_false (by omega)
      go_wp2_with fail
      go_ret
      exact ⟨rfl, gb⟩
end Go.Proofs.Ytcgalmnllegnbaa

/- The walk of the document's Same of two messages that are the same. -/
namespace Go.Proofs.Ytcgalmnllegnbaa
set_option linter.unusedVariables false
set_option linter.unusedSimpArgs false
set_option maxRecDepth 100000
open Go.RowKit
open Dot Evt
open Ms (Mem)
theorem ne_run8m (w : World) (a b : List Int) (ha : a.length = 8) (hb : b.length = 8) (wa : Wf a) (wb : Wf b) :
    (binOp .neq 22 (.agg (uI a)) (.agg (uI b))).run Try.prog w = .ok (.bool (!decide (a = b))) w := by
  have h := eq_run8 w a b ha hb wa wb
  rw [run_eql_struct] at h
  rw [run_neq_struct]
  revert h
  generalize (Op.equalIn 10000 22 (.agg (uI a)) (.agg (uI b))).run Try.prog w = r
  intro h
  cases r with
  | halt x w' => simp [Result.andThen] at h
  | ok b' w' =>
    simp only [Result.andThen_ok] at h ⊢
    injection h with h1 h2
    injection h1 with h1
    rw [h1, h2]
theorem wpList_ne8g {ops : Array Oper} {rest : List Oper} {d : Option Tmp} {ty : TypeId} {pos : String} {aft : Array Edge} {gd : Option (Nat × Bool)} {x y : Operand} {z : TypeId} {A B : List Int} {a : Act} {w : World} {Q : Exit → Act → World → Prop} (ha : A.length = 8) (hb : B.length = 8) (wa : Wf A) (wb : Wf B)
    (h : wpList Try.prog ops Q rest (a.put d (.bool (!decide (A = B)))) w) (hx : a.eval x = .agg (uI A)) (hy : a.eval y = .agg (uI B)) (hw : Region.wanted ⟨d, .binOp .neq 22 x y z, ty, pos, aft, gd⟩ (yielded ops a.tmps) = true) : wpList Try.prog ops Q (⟨d, .binOp .neq 22 x y z, ty, pos, aft, gd⟩ :: rest) a w := by
  refine wpList_step fun K hK => ?_
  rw [if_pos hw]
  unfold Oper.wp execOp
  simp only [hx, hy, Sem.run_bind, run_eqGuard_agg w .neq 22 x y (uI A) (uI B) (show (Try.prog).eqGuardType (Try.prog).depth 22 = false by kernel_rfl), Result.andThen_ok, ne_run8m w A B ha hb wa wb, Sem.run_pure]
  exact hK _ _ h
set_option maxHeartbeats 2000000 in
theorem rsame17_eq (x y : MgV) (w : World) (hx : MgIn w x) (hy : MgIn w y) (he : x.m = y.m) (h1 : x.n1 ≤ 1000000) (h3 : x.n3 ≤ 1000000) (hm : ∀ z ∈ x.xs, z.m ≤ 1000000) :
    Calls Try.prog 17 #[.agg x.cs, .agg y.cs] w fun e w' => e = .returned (.bool true) ∧ Below w.heap.size w w' := by
  have e1 : y.n1 = x.n1 := by rw [hy.ok.more.1, hx.ok.more.1, he]
  have hz : (x.xs.map (·.e)).length = (y.xs.map (·.e)).length := by rw [← hx.ok.es, ← hy.ok.es, he]
  rw [List.length_map, List.length_map] at hz
  have e2 : y.n2 = x.n2 := by rw [hy.ok.ev.1, hx.ok.ev.1]; exact hz.symm
  have e3 : y.n3 = x.n3 := by rw [hy.ok.mem.1, hx.ok.mem.1, he]
  have HAX := Lib.hid (mgv_at x)
  have HAY := Lib.hid (by have := mgv_at y; rw [← he, e1, e2, e3] at this; exact this : y.cs[0]? = some (.int .i64 x.m.kind) ∧ y.cs[1]? = some (.int .i64 x.m.frm) ∧ y.cs[2]? = some (.int .i64 x.m.to) ∧ y.cs[3]? = some (.int .i64 x.m.seq) ∧ y.cs[4]? = some (.int .i64 x.m.node) ∧ y.cs[13]? = some (.slice y.A1 x.n1 y.c1) ∧ y.cs[14]? = some (.slice y.A2 x.n2 y.c2) ∧ y.cs[15]? = some (.slice y.A3 x.n3 y.c3))
  have hux : ∀ (w' : World) (g : Nat), Blk w' g 27 x.cs → w'.rangeAt g 5 (uI x.m.u).toList := fun w' g h => mgv_u x hx.ok.u h
  have HUX := Lib.hid hux
  have huy : ∀ (w' : World) (g : Nat), Blk w' g 27 y.cs → w'.rangeAt g 5 (uI x.m.u).toList := fun w' g h => by rw [he]; exact mgv_u y hy.ok.u h
  have HUY := Lib.hid huy
  have U8 := Lib.hid (show (uI x.m.u).size = 8 by simp [uI, hx.ok.u])
  have UL := Lib.hid hx.ok.u
  have WU := Lib.hid hx.wu
  have HD := Lib.hid fun (w' : World) (hb : Below w.heap.size w w') => dots_any x.A1 y.A1 x.n1 x.c1 x.n1 y.c1 _ _ x.m.more x.m.more w' (hx.ok.more.below hb) (by have := hy.ok.more.below hb; rw [e1, ← he] at this; exact this) h1
  have HA := Lib.hid fun (w' : World) (hb : Below w.heap.size w w') => rall07_eq x.A2 y.A2 x.n2 x.c2 y.c2 x.xs y.xs w' (hx.below hb).ok.ev (by have := (hy.below hb).ok.ev; rw [e2] at this; exact this) (by rw [← hx.ok.es, ← hy.ok.es, he]) hm hx.b2
  have HMX := Lib.hid fun (w' : World) (hb : Below w.heap.size w w') => (hx.ok.mem.below hb)
  have HMY := Lib.hid fun (w' : World) (hb : Below w.heap.size w w') => (by have := hy.ok.mem.below hb; rw [e3, ← he] at this; exact this : RdMb w' w.heap.size y.A3 x.n3 x.m.mem)
  have HN3 := Lib.hid hx.ok.mem.1
  have hd : decide (x.m.u = x.m.u) = true := decide_eq_true rfl
  simp only [decide_true] at HD
  clear hx hy he hm e1 e2 e3 hz hux huy
  generalize hC : x.cs = C at *
  generalize hC' : y.cs = C' at *
  clear hC hC'
  go_enter Try.func17, Try.ntmps17
  go_upto_region 1 with fail
  refine nameW ?_
  intro W hW
  obtain ⟨g, hg⟩ : ∃ g, g = w.heap.size := ⟨_, rfl⟩
  rw [← hg]
  have kx : Blk W g 27 C := by rw [hW, hg]; exact (Blk.new w _ _).alloc _
  have ky : Blk W (g + 1) 27 C' := by
    have h := Blk.new (w.alloc (.cells C 27)) 27 C'
    rw [hW, hg]
    simpa using h
  have gb : Below w.heap.size w W := by rw [hW]; exact ((Below.refl _ _).alloc (Nat.le_refl _) _).alloc (by simp) _
  clear hW hg
  have hcl := HAX.out
  have hcm := HAY.out
  have a0 : W.cell? ⟨g, 0, none⟩ = some (.int .i64 x.m.kind) := (kx.cell 0).trans hcl.1
  have a1 : W.cell? ⟨g, 1, none⟩ = some (.int .i64 x.m.frm) := (kx.cell 1).trans hcl.2.1
  have a2 : W.cell? ⟨g, 2, none⟩ = some (.int .i64 x.m.to) := (kx.cell 2).trans hcl.2.2.1
  have a3 : W.cell? ⟨g, 3, none⟩ = some (.int .i64 x.m.seq) := (kx.cell 3).trans hcl.2.2.2.1
  have a4 : W.cell? ⟨g, 4, none⟩ = some (.int .i64 x.m.node) := (kx.cell 4).trans hcl.2.2.2.2.1
  have a13 : W.cell? ⟨g, 13, none⟩ = some (.slice x.A1 x.n1 x.c1) := (kx.cell 13).trans hcl.2.2.2.2.2.1
  have d0 : W.cell? ⟨g + 1, 0, none⟩ = some (.int .i64 x.m.kind) := (ky.cell 0).trans hcm.1
  have d1 : W.cell? ⟨g + 1, 1, none⟩ = some (.int .i64 x.m.frm) := (ky.cell 1).trans hcm.2.1
  have d2 : W.cell? ⟨g + 1, 2, none⟩ = some (.int .i64 x.m.to) := (ky.cell 2).trans hcm.2.2.1
  have d3 : W.cell? ⟨g + 1, 3, none⟩ = some (.int .i64 x.m.seq) := (ky.cell 3).trans hcm.2.2.2.1
  have d4 : W.cell? ⟨g + 1, 4, none⟩ = some (.int .i64 x.m.node) := (ky.cell 4).trans hcm.2.2.2.2.1
  have d13 : W.cell? ⟨g + 1, 13, none⟩ = some (.slice y.A1 x.n1 y.c1) := (ky.cell 13).trans hcm.2.2.2.2.2.1
  have rx := HUX.out _ _ kx
  have ry := HUY.out _ _ ky
  clear hcl hcm
  go_wp2_with first
    | ((with_reducible refine wpList_ldrg row8 rx U8.out ?_ ?_ ?_); rotate_left; (rfl); (rfl))
    | ((with_reducible refine wpList_ldrg row8 ry U8.out ?_ ?_ ?_); rotate_left; (rfl); (rfl))
    | ((with_reducible refine wpList_ne8g (A := x.m.u) (B := x.m.u) UL.out UL.out WU.out WU.out ?_ ?_ ?_ ?_); rotate_left; (rfl); (rfl); (rfl); rw [hd])
  refine (HD.out W gb).mono ?_
  rintro e w1 ⟨rfl, m1, rfl⟩
  have b1 : Below W.heap.size W (W.drewN m1) := below_drewN (Below.refl _ _) m1
  have kx := kx.below b1 kx.lt
  have ky := ky.below b1 ky.lt
  have gb := gb.trans (b1.mono gb.size)
  generalize W.drewN m1 = w1 at *
  have a14 : w1.cell? ⟨g, 14, none⟩ = some (.slice x.A2 x.n2 x.c2) := (kx.cell 14).trans HAX.out.2.2.2.2.2.2.1
  have d14 : w1.cell? ⟨g + 1, 14, none⟩ = some (.slice y.A2 x.n2 y.c2) := (ky.cell 14).trans HAY.out.2.2.2.2.2.2.1
  clear a0 a1 a2 a3 a4 a13 d0 d1 d2 d3 d4 d13 rx ry b1
  go_wp2_with fail
  refine (HA.out w1 gb).mono ?_
  rintro e w2 ⟨rfl, b2⟩
  have kx := kx.below b2 kx.lt
  have ky := ky.below b2 ky.lt
  have gb := gb.trans (b2.mono gb.size)
  have a15 : w2.cell? ⟨g, 15, none⟩ = some (.slice x.A3 x.n3 x.c3) := (kx.cell 15).trans HAX.out.2.2.2.2.2.2.2
  have d15 : w2.cell? ⟨g + 1, 15, none⟩ = some (.slice y.A3 x.n3 y.c3) := (ky.cell 15).trans HAY.out.2.2.2.2.2.2.2
  have hqn : ((x.n3 : Int) != x.n3) = false := by simp
  clear a14 d14 b2
  go_wp2_with fail
  go_loopw [74] (fun i wr => ∃ k : Nat, k ≤ x.n3 ∧ i = .int .i64 k ∧ Below w.heap.size w wr ∧ Below w2.heap.size w2 wr) (fun i _ => x.n3 - (intOf i).toNat)
  case atStart => exact ⟨0, by omega, rfl, gb, Below.refl _ _⟩
  case round =>
    clear gb
    obtain ⟨k, hk, rfl, gb, gW⟩ := hrel
    by_cases hlt : k < x.n3
    · have hkl : k < x.m.mem.length := by rw [← HN3.out]; exact hlt
      obtain ⟨p1, hA1, q5, q0, q1, q2⟩ := (HMX.out wr gb).2 k _ (List.getElem?_eq_getElem hkl)
      obtain ⟨p2, hA2, r5, r0, r1, r2⟩ := (HMY.out wr gb).2 k _ (List.getElem?_eq_getElem hkl)
      have a15 : wr.cell? ⟨g, 15, none⟩ = some (.slice (some p1) x.n3 x.c3) := by rw [← hA1]; exact (gW.cell (p := ⟨g, 15, none⟩) kx.lt).trans a15
      have d15 : wr.cell? ⟨g + 1, 15, none⟩ = some (.slice (some p2) x.n3 y.c3) := by rw [← hA2]; exact (gW.cell (p := ⟨g + 1, 15, none⟩) ky.lt).trans d15
      generalize x.m.mem[k] = d at *
      obtain ⟨b1, b2, b3⟩ := d
      simp only at q0 q1 q2 r0 r1 r2
      have hk0 : (0 : Int) ≤ (k : Int) := by omega
      have hkn : (k : Int) < (x.n3 : Int) := by omega
      have HGB := Lib.hid (And.intro gb gW)
      clear gb gW
      go_upto_region 6 with fail
      go_quiet (fail)
      have gb := below_drewN HGB.out.1 nq
      have gW := below_drewN HGB.out.2 nq
      go_wp2_with fail
      go_roundw
      case rel => exact ⟨k + 1, by omega, by go_num, gb, gW⟩
      case measure => simp [intOf]; omega
    · have hkd : decide ((k : Int) < (x.n3 : Int)) = false := decide_eq_false (by omega)
      go_wp2_with fail
      go_ret
      exact ⟨rfl, gb⟩
end Go.Proofs.Ytcgalmnllegnbaa

/- The walk of the document's set (of a message). -/
namespace Go.Proofs.Ytcgalmnllegnbaa
set_option linter.unusedVariables false
set_option linter.unusedSimpArgs false
set_option maxRecDepth 100000
open Go.RowKit
open Dot Evt
theorem rset_any (x : MgV) (hu : x.m.u.length = 8) (w : World) : Calls Try.prog 40 #[.agg x.cs] w fun e w' => e = .returned (.agg (uc x.m.u (.slice x.A1 x.n1 x.c1))) ∧ Below w.heap.size w w' := by
  obtain ⟨⟨kd, fr, tt, sq, nd, u, more, ev, mem⟩, A1, n1, c1, xs, A2, n2, c2, A3, n3, c3⟩ := x
  simp only at hu
  match u, hu with
  | [u0, u1, u2, u3, u4, u5, u6, u7], _ =>
    unfold MgV.cs mgc uc
    simp only [List.getD_cons_zero, List.getD_cons_succ, List.map_cons, List.map_nil, List.cons_append, List.nil_append]
    go_enter Try.func40, Try.ntmps40
    go_upto_region 1 with fail
    refine nameW ?_
    intro W hW
    obtain ⟨G, hG⟩ : ∃ G, G = w.heap.size := ⟨_, rfl⟩
    rw [← hG]
    have kb : Blk W G 27 #[.int .i64 kd, .int .i64 fr, .int .i64 tt, .int .i64 sq, .int .i64 nd, .int .i64 u0, .int .i64 u1, .int .i64 u2, .int .i64 u3, .int .i64 u4, .int .i64 u5, .int .i64 u6, .int .i64 u7, .slice A1 n1 c1, .slice A2 n2 c2, .slice A3 n3 c3] := by rw [hW, hG]; exact (Blk.new w _ _).alloc _
    have kz : Blk W (G + 1) 84 #[.int .i64 0, .int .i64 0, .int .i64 0, .int .i64 0, .int .i64 0, .int .i64 0, .int .i64 0, .int .i64 0, .slice none 0 0] := by
      have h := Blk.new (w.alloc (.cells #[.int .i64 kd, .int .i64 fr, .int .i64 tt, .int .i64 sq, .int .i64 nd, .int .i64 u0, .int .i64 u1, .int .i64 u2, .int .i64 u3, .int .i64 u4, .int .i64 u5, .int .i64 u6, .int .i64 u7, .slice A1 n1 c1, .slice A2 n2 c2, .slice A3 n3 c3] 27)) 84 #[.int .i64 0, .int .i64 0, .int .i64 0, .int .i64 0, .int .i64 0, .int .i64 0, .int .i64 0, .int .i64 0, .slice none 0 0]
      rw [hW, hG]
      simpa using h
    have gb : Below w.heap.size w W := by rw [hW]; exact ((Below.refl _ _).alloc (Nat.le_refl _) _).alloc (by simp) _
    have hGl : w.heap.size ≤ G + 1 := by omega
    have r5 : W.rangeAt G 5 (([u0, u1, u2, u3, u4, u5, u6, u7] : List Int).map (Value.int .i64)) := fun j v hv => by
      rw [kb.cell]
      match j, hv with
      | 0, hv => exact hv
      | 1, hv => exact hv
      | 2, hv => exact hv
      | 3, hv => exact hv
      | 4, hv => exact hv
      | 5, hv => exact hv
      | 6, hv => exact hv
      | 7, hv => exact hv
    have k13 : W.cell? ⟨G, 13, none⟩ = some (.slice A1 n1 c1) := kb.cell 13
    clear hW hG kb
    go_wp2_with first
      | ((with_reducible refine wpList_ldm row8 r5 rfl ?_ ?_); rotate_left; (rfl))
      | ((with_reducible refine wpList_st (cs := #[.int .i64 u0, .int .i64 u1, .int .i64 u2, .int .i64 u3, .int .i64 u4, .int .i64 u5, .int .i64 u6, .int .i64 u7, .slice A1 n1 c1]) rowRS kz rfl rfl ?_ ?_ ?_ ?_); (exact uc_one (U := [u0, u1, u2, u3, u4, u5, u6, u7]) (s := .slice A1 n1 c1) rfl); rotate_left; (rfl); (rfl); intro w7 k7 g7 z7)
    exact bodyPost_ret (v := .agg #[.int .i64 u0, .int .i64 u1, .int .i64 u2, .int .i64 u3, .int .i64 u4, .int .i64 u5, .int .i64 u6, .int .i64 u7, .slice A1 n1 c1]) (results_blk rfl rowRS k7 rfl rfl) rfl ⟨rfl, gb.grown g7 gb.size (fun q hq => by injection hq with hq; omega)⟩
end Go.Proofs.Ytcgalmnllegnbaa

/- The walk of the document's Right of a message (printed by wip/gen/msgrright.py). -/
namespace Go.Proofs.Ytcgalmnllegnbaa
set_option linter.unusedVariables false
set_option linter.unusedSimpArgs false
set_option maxRecDepth 100000
open Go.RowKit
open Dot Evt
open Ms (Mem)
def hdD (m : Ms.Msg) : Bool := Ms.nodeB m.frm && (Ms.nodeB m.to && (!decide (m.frm = m.to) && (Ms.membersB m.mem && inB m.seq 0 1099511627776)))
def kdD (m : Ms.Msg) : Bool :=
  if m.kind = 1 then decide (m.node = 0) && (Ms.noSeen m && decide (m.ev = []))
  else if m.kind = 2 ∨ m.kind = 3 then Ms.nodeB m.node && (Ms.noSeen m && decide (m.ev = []))
  else if m.kind = 4 then decide (m.seq ≤ 1) && (decide (m.node = 0) && (rightB m.u m.more && decide (m.ev = [])))
  else if m.kind = 5 then decide (m.seq = 0) && (decide (m.node = 0) && (Ms.noSeen m && (decide (m.ev.length ≤ 768) && m.ev.all rightE)))
  else false
theorem right_hk (m : Ms.Msg) : Ms.rightM m = (hdD m && kdD m) := by
  rw [← Ms.right_D]
  unfold Ms.rightD hdD kdD
  have hml : (decide (m.mem.length ≤ 8) && Ms.membersB m.mem) = Ms.membersB m.mem := by
    cases h : Ms.membersB m.mem with
    | false => simp
    | true => simp [Ms.members_len h]
  rw [hml, show Ms.top = 1099511627776 from rfl]
  simp only [Bool.and_assoc]
theorem rright06_b (x : MgV) (w : World) (h : MgIn w x) : Calls Try.prog 52 #[.agg (uc x.m.u (.slice x.A1 x.n1 x.c1))] w fun e w' => e = .returned (.bool (rightB x.m.u x.m.more)) ∧ Below w.heap.size w w' := rright_any x.m.u h.ok.u x.A1 x.n1 x.c1 x.m.more w h.ok.more
set_option maxHeartbeats 8000000 in
theorem rright17_any (x : MgV) (w : World) (h : MgIn w x) : Calls Try.prog 15 #[.agg x.cs] w fun e w' => e = .returned (.bool (Ms.rightM x.m)) ∧ Below w.heap.size w w' := by
  obtain ⟨R, hR⟩ : ∃ R, R = Ms.rightM x.m := ⟨_, rfl⟩
  rw [← hR]
  rw [right_hk] at hR
  have HR := Lib.hid hR
  have HIN := Lib.hid h
  have HAT := Lib.hid (mgv_at x)
  have SZ := Lib.hid x.size
  have h2 := fun w => rnode_bel x.m.frm w
  have h3 := fun w => rnode_bel x.m.to w
  have HN := Lib.hid fun w => rnode_bel x.m.node w
  have h5 := fun (w' : World) (hb : Below w.heap.size w w') => rmembers_any x.A3 x.n3 x.c3 x.m.mem w' (h.below hb).ok.mem
  have HU := Lib.hid fun (w' : World) (g : Nat) (k : Blk w' g 27 x.cs) => mgv_u x h.ok.u k
  have HUL := Lib.hid h.ok.u
  have HUM := Lib.hid (show (x.m.u.map (Value.int .i64)).length = 8 by rw [List.length_map, h.ok.u])
  have WU := Lib.hid h.wu
  have WZ := Lib.hid (show Wf zeros8 from fun y hy => by simp [zeros8] at hy; subst hy; exact wf_of (by omega) (by omega))
  have NS := Lib.hid (show Ms.noSeen x.m = (decide (x.m.u = zeros8) && decide (x.m.more = [])) from rfl)
  have HSET := Lib.hid fun (w' : World) => rset_any x h.ok.u w'
  have HR6 := Lib.hid fun (w' : World) (hb : Below w.heap.size w w') => rright06_b x w' (h.below hb)
  have HRK := Lib.hid fun (w' : World) (hb : Below w.heap.size w w') => h.ok.ev.below hb
  have HN2 := Lib.hid h.ok.ev.1
  have hnm := h.ok.more.1
  have hel : x.m.ev.length = x.n2 := by rw [h.ok.es, List.length_map, h.ok.ev.1]
  have HEL := Lib.hid hel
  have HES := Lib.hid h.ok.es
  have hh : hdD x.m = (Ms.nodeB x.m.frm && (Ms.nodeB x.m.to && (!decide (x.m.frm = x.m.to) && (Ms.membersB x.m.mem && inB x.m.seq 0 1099511627776)))) := rfl
  clear h hR hel
  generalize hC : x.cs = C at *
  clear hC
  have b1 := HAT.out
  go_enter Try.func15, Try.ntmps15
  go_upto_region 1 with fail
  refine nameW ?_
  intro W hW
  obtain ⟨g, hg⟩ : ∃ g, g = w.heap.size := ⟨_, rfl⟩
  rw [← hg]
  have kb : Blk W g 27 C := by rw [hW, hg]; exact Blk.new w _ _
  have gb : Below w.heap.size w W := by rw [hW]; exact (Below.refl _ _).alloc (Nat.le_refl _) _
  clear hW hg
  have cells : ∀ w', Below W.heap.size W w' → w'.cell? ⟨g, 1, none⟩ = some (.int .i64 x.m.frm) ∧ w'.cell? ⟨g, 2, none⟩ = some (.int .i64 x.m.to) ∧ w'.cell? ⟨g, 3, none⟩ = some (.int .i64 x.m.seq) ∧ w'.cell? ⟨g, 15, none⟩ = some (.slice x.A3 x.n3 x.c3) := fun w' hb => by
    have k := kb.below hb kb.lt
    exact ⟨(k.cell 1).trans b1.2.1, (k.cell 2).trans b1.2.2.1, (k.cell 3).trans b1.2.2.2.1, (k.cell 15).trans b1.2.2.2.2.2.2.2⟩
  have HCL := Lib.hid cells
  obtain ⟨t1, t2, t3, t15⟩ := cells W (Below.refl _ _)
  have H5 := Lib.hid h5
  clear b1 h5 cells
  have gW : Below W.heap.size W W := Below.refl _ _
  cases c2 : Ms.nodeB x.m.frm
  case false =>
    have hr : R = false := by rw [HR.out, hh, c2]; rfl
    subst hr
    clear HR
    rw [c2] at h2
    have H2 := Lib.hid h2
    clear h2 h3 hh c2 kb
    go_wp2_with fail
    refine (H2.out _).mono ?_
    rintro e w1 ⟨rfl, bb⟩
    have gb := gb.trans (bb.mono gb.size)
    have gW := gW.trans (bb.mono gW.size)
    obtain ⟨t1, t2, t3, t15⟩ := HCL.out w1 gW
    clear bb
    go_wp2_with fail
    go_ret
    exact ⟨rfl, gb⟩
  rw [c2] at h2 hh
  have H2 := Lib.hid h2
  clear h2 c2
  cases c3 : Ms.nodeB x.m.to
  case false =>
    have hr : R = false := by rw [HR.out, hh, c3]; rfl
    subst hr
    clear HR
    rw [c3] at h3
    have H3 := Lib.hid h3
    clear h3 hh c3 kb
    go_wp2_with fail
    refine (H2.out _).mono ?_
    rintro e w1 ⟨rfl, bb⟩
    have gb := gb.trans (bb.mono gb.size)
    have gW := gW.trans (bb.mono gW.size)
    obtain ⟨t1, t2, t3, t15⟩ := HCL.out w1 gW
    clear bb
    go_wp2_with fail
    refine (H3.out _).mono ?_
    rintro e w2 ⟨rfl, bb⟩
    have gb := gb.trans (bb.mono gb.size)
    have gW := gW.trans (bb.mono gW.size)
    obtain ⟨t1, t2, t3, t15⟩ := HCL.out w2 gW
    clear bb
    go_wp2_with fail
    go_ret
    exact ⟨rfl, gb⟩
  rw [c3] at h3 hh
  have H3 := Lib.hid h3
  clear h3 c3
  by_cases c4 : x.m.frm = x.m.to
  · have hr : R = false := by rw [HR.out, hh, decide_eq_true c4]; rfl
    subst hr
    clear HR
    have hq : ((x.m.frm : Int) == x.m.to) = true := by rw [c4]; simp
    clear hh c4 kb
    go_wp2_with fail
    refine (H2.out _).mono ?_
    rintro e w1 ⟨rfl, bb⟩
    have gb := gb.trans (bb.mono gb.size)
    have gW := gW.trans (bb.mono gW.size)
    obtain ⟨t1, t2, t3, t15⟩ := HCL.out w1 gW
    clear bb
    go_wp2_with fail
    refine (H3.out _).mono ?_
    rintro e w2 ⟨rfl, bb⟩
    have gb := gb.trans (bb.mono gb.size)
    have gW := gW.trans (bb.mono gW.size)
    obtain ⟨t1, t2, t3, t15⟩ := HCL.out w2 gW
    clear bb
    go_wp2_with fail
    go_ret
    exact ⟨rfl, gb⟩
  have hq : ((x.m.frm : Int) == x.m.to) = false := by rw [beq_eq_false_iff_ne]; exact c4
  rw [decide_eq_false c4] at hh
  clear c4
  cases c5 : Ms.membersB x.m.mem
  case false =>
    have hr : R = false := by rw [HR.out, hh, c5]; rfl
    subst hr
    clear HR
    clear hh kb
    go_wp2_with fail
    refine (H2.out _).mono ?_
    rintro e w1 ⟨rfl, bb⟩
    have gb := gb.trans (bb.mono gb.size)
    have gW := gW.trans (bb.mono gW.size)
    obtain ⟨t1, t2, t3, t15⟩ := HCL.out w1 gW
    clear bb
    go_wp2_with fail
    refine (H3.out _).mono ?_
    rintro e w2 ⟨rfl, bb⟩
    have gb := gb.trans (bb.mono gb.size)
    have gW := gW.trans (bb.mono gW.size)
    obtain ⟨t1, t2, t3, t15⟩ := HCL.out w2 gW
    clear bb
    have h5 := H5.out w2 gb
    rw [c5] at h5
    have H6 := Lib.hid h5
    clear h5 c5
    go_wp2_with fail
    refine (H6.out).mono ?_
    rintro e w4 ⟨rfl, bb⟩
    have gb := gb.trans (bb.mono gb.size)
    have gW := gW.trans (bb.mono gW.size)
    obtain ⟨t1, t2, t3, t15⟩ := HCL.out w4 gW
    clear bb
    go_wp2_with fail
    go_ret
    exact ⟨rfl, gb⟩
  rw [c5] at hh
  have hs0 : inB x.m.seq 0 1099511627776 = (decide (0 ≤ x.m.seq) && decide (x.m.seq ≤ 1099511627776)) := rfl
  go_wp2_with fail
  refine (H2.out _).mono ?_
  rintro e w1 ⟨rfl, bb⟩
  have gb := gb.trans (bb.mono gb.size)
  have gW := gW.trans (bb.mono gW.size)
  obtain ⟨t1, t2, t3, t15⟩ := HCL.out w1 gW
  clear bb
  go_wp2_with fail
  refine (H3.out _).mono ?_
  rintro e w2 ⟨rfl, bb⟩
  have gb := gb.trans (bb.mono gb.size)
  have gW := gW.trans (bb.mono gW.size)
  obtain ⟨t1, t2, t3, t15⟩ := HCL.out w2 gW
  clear bb
  have h5 := H5.out w2 gb
  rw [c5] at h5
  have H6 := Lib.hid h5
  clear h5 c5 H2 H3
  go_wp2_with fail
  refine (H6.out).mono ?_
  rintro e w4 ⟨rfl, bb⟩
  have gb := gb.trans (bb.mono gb.size)
  have gW := gW.trans (bb.mono gW.size)
  obtain ⟨t1, t2, t3, t15⟩ := HCL.out w4 gW
  clear bb
  by_cases c6 : x.m.seq < 0
  · have hr : R = false := by rw [HR.out, hh, hs0, decide_eq_false (by omega)]; rfl
    subst hr
    clear HR hh hs0 kb
    go_wp2_with fail
    go_ret
    exact ⟨rfl, gb⟩
  by_cases c7 : (1099511627776 : Int) < x.m.seq
  · have hr : R = false := by rw [HR.out, hh, hs0, decide_eq_true (show 0 ≤ x.m.seq by omega), decide_eq_false (by omega)]; rfl
    subst hr
    clear HR hh hs0 kb
    go_wp2_with fail
    go_ret
    exact ⟨rfl, gb⟩
  have hr : R = kdD x.m := by rw [HR.out, hh, hs0, decide_eq_true (show 0 ≤ x.m.seq by omega), decide_eq_true (show x.m.seq ≤ 1099511627776 by omega)]; rfl
  have HRK2 := Lib.hid hr
  have kb := kb.below gW kb.lt
  have r5 := HU.out _ _ kb
  have k13 : w4.cell? ⟨g, 13, none⟩ = some (.slice x.A1 x.n1 x.c1) := (kb.cell 13).trans HAT.out.2.2.2.2.2.1
  clear hr HR hh hs0 t1 t2 t15 H5 H6 HCL gW
  go_upto_region 3 with fail
  obtain ⟨NSb, hNS⟩ : ∃ b, b = Ms.noSeen x.m := ⟨_, rfl⟩
  have HNS := Lib.hid hNS
  clear hNS
  go_cut [3] (fun s wx => s = .bool NSb ∧ wx = w4)
  case first =>
    by_cases hz : x.m.u = zeros8
    · have hd : decide (x.m.u = zeros8) = true := decide_eq_true hz
      have hres : NSb = ((x.n1 : Int) == 0) := by
        rw [HNS.out, NS.out, hd, Bool.true_and]
        rw [Bool.eq_iff_iff, decide_eq_true_eq, beq_iff_eq]
        constructor
        · intro e; rw [e] at hnm; simp at hnm; omega
        · intro e; exact List.eq_nil_of_length_eq_zero (by omega)
      clear hz hnm
      go_wp2_with first
        | ((with_reducible refine wpList_ldm row8 r5 HUM.out ?_ ?_); rotate_left; (rfl); rw [show (x.m.u.map (Value.int .i64)).toArray = uI x.m.u from rfl])
        | ((with_reducible refine wpList_eq8 (A := x.m.u) (B := zeros8) HUL.out rfl WU.out WZ.out ?_ ?_ ?_); rotate_left; (rfl); (rfl); rw [hd])
      go_meet
      exact ⟨by rw [hres], rfl⟩
    · have hd : decide (x.m.u = zeros8) = false := decide_eq_false hz
      have hres : NSb = false := by rw [HNS.out, NS.out, hd]; rfl
      clear hz hnm
      go_wp2_with first
        | ((with_reducible refine wpList_ldm row8 r5 HUM.out ?_ ?_); rotate_left; (rfl); rw [show (x.m.u.map (Value.int .i64)).toArray = uI x.m.u from rfl])
        | ((with_reducible refine wpList_eq8 (A := x.m.u) (B := zeros8) HUL.out rfl WU.out WZ.out ?_ ?_ ?_); rotate_left; (rfl); (rfl); rw [hd])
      go_meet
      exact ⟨by rw [hres], rfl⟩
  case rest =>
    obtain ⟨rfl, rfl⟩ := hcut
    clear r5 k13 hnm
    have t4 : wc.cell? ⟨g, 4, none⟩ = some (.int .i64 x.m.node) := (kb.cell 4).trans HAT.out.2.2.2.2.1
    have t14 : wc.cell? ⟨g, 14, none⟩ = some (.slice x.A2 x.n2 x.c2) := (kb.cell 14).trans HAT.out.2.2.2.2.2.2.1
    obtain ⟨Zb, hZb⟩ : ∃ b, b = decide (x.m.node = 0) := ⟨_, rfl⟩
    have hz : ((x.m.node : Int) == 0) = Zb := hZb.symm
    obtain ⟨Eb, hEb⟩ : ∃ b, b = decide (x.m.ev = []) := ⟨_, rfl⟩
    have he : ((x.n2 : Int) == 0) = Eb := by
      rw [hEb, Bool.eq_iff_iff, decide_eq_true_eq, beq_iff_eq]
      have := HEL.out
      constructor
      · intro e; exact List.eq_nil_of_length_eq_zero (by omega)
      · intro e; rw [e] at this; simp at this; omega
    have HZ := Lib.hid hZb
    have HE := Lib.hid hEb
    clear hZb hEb
    have hkd : kdD x.m = (if x.m.kind = 1 then Zb && (NSb && Eb) else if x.m.kind = 2 ∨ x.m.kind = 3 then Ms.nodeB x.m.node && (NSb && Eb) else if x.m.kind = 4 then decide (x.m.seq ≤ 1) && (Zb && (rightB x.m.u x.m.more && Eb)) else if x.m.kind = 5 then decide (x.m.seq = 0) && (Zb && (NSb && (decide (x.m.ev.length ≤ 768) && x.m.ev.all rightE))) else false) := by
      rw [HZ.out, HE.out, HNS.out]; rfl
    rw [hkd] at HRK2
    clear hkd
    by_cases k1 : x.m.kind = 1
    · rw [if_pos k1] at HRK2
      have t0 : wc.cell? ⟨g, 0, none⟩ = some (.int .i64 1) := by rw [kb.cell, HAT.out.1, k1]
      clear k1 kb
      cases Zb <;> cases NSb <;> cases Eb
      all_goals (
        go_wp2_with fail
        go_ret
        rw [HRK2.out]
        exact ⟨rfl, gb⟩)
    rw [if_neg k1] at HRK2
    have q1 : ((x.m.kind : Int) == 1) = false := by rw [beq_eq_false_iff_ne]; exact k1
    by_cases k2 : x.m.kind = 2 ∨ x.m.kind = 3
    · rw [if_pos k2] at HRK2
      have hn := HN.out
      generalize Ms.nodeB x.m.node = NB at *
      have HN := Lib.hid hn
      clear hn q1 k1
      rcases k2 with k2 | k2
      · have t0 : wc.cell? ⟨g, 0, none⟩ = some (.int .i64 2) := by rw [kb.cell, HAT.out.1, k2]
        clear k2 kb
        cases NB <;> cases NSb <;> cases Eb
        all_goals (
          go_wp2_with fail
          refine (HN.out _).mono ?_
          rintro e w5 ⟨rfl, b5⟩
          have gb := gb.trans (b5.mono gb.size)
          have t14 : w5.cell? ⟨g, 14, none⟩ = some (.slice x.A2 x.n2 x.c2) := (b5.cell (World.block_lt_of_cell? _ _ t14)).trans t14
          go_wp2_with fail
          go_ret
          rw [HRK2.out]
          exact ⟨rfl, gb⟩)
      · have t0 : wc.cell? ⟨g, 0, none⟩ = some (.int .i64 3) := by rw [kb.cell, HAT.out.1, k2]
        clear k2 kb
        cases NB <;> cases NSb <;> cases Eb
        all_goals (
          go_wp2_with fail
          refine (HN.out _).mono ?_
          rintro e w5 ⟨rfl, b5⟩
          have gb := gb.trans (b5.mono gb.size)
          have t14 : w5.cell? ⟨g, 14, none⟩ = some (.slice x.A2 x.n2 x.c2) := (b5.cell (World.block_lt_of_cell? _ _ t14)).trans t14
          go_wp2_with fail
          go_ret
          rw [HRK2.out]
          exact ⟨rfl, gb⟩)
    rw [if_neg k2] at HRK2
    by_cases k4 : x.m.kind = 4
    · rw [if_pos k4] at HRK2
      have t0 : wc.cell? ⟨g, 0, none⟩ = some (.int .i64 4) := by rw [kb.cell, HAT.out.1, k4]
      clear k4 k2 k1 q1
      by_cases hs : x.m.seq ≤ 1
      · rw [decide_eq_true hs] at HRK2
        cases Zb
        case false =>
          go_wp2_with fail
          go_ret
          rw [HRK2.out]
          exact ⟨rfl, gb⟩
        case true =>
          have h6 := fun (w' : World) (hb : Below w.heap.size w w') => HR6.out w' hb
          generalize rightB x.m.u x.m.more = RB at *
          have H6 := Lib.hid h6
          clear h6 HR6
          cases RB <;> cases Eb
          all_goals (
            go_wp2_with ((with_reducible refine wpList_ldg rowMg kb SZ.out ?_ ?_ ?_); rotate_left; (rfl); (rfl))
            refine (HSET.out _).mono ?_
            rintro e w5 ⟨rfl, b5⟩
            have gb := gb.trans (b5.mono gb.size)
            have kb := kb.below b5 kb.lt
            go_wp2_with fail
            refine (H6.out _ gb).mono ?_
            rintro e w6 ⟨rfl, b6⟩
            have gb := gb.trans (b6.mono gb.size)
            have kb := kb.below b6 kb.lt
            have t14 : w6.cell? ⟨g, 14, none⟩ = some (.slice x.A2 x.n2 x.c2) := (kb.cell 14).trans HAT.out.2.2.2.2.2.2.1
            go_wp2_with fail
            go_ret
            rw [HRK2.out]
            exact ⟨rfl, gb⟩)
      · rw [decide_eq_false hs] at HRK2
        go_wp2_with fail
        go_ret
        rw [HRK2.out]
        exact ⟨rfl, gb⟩
    rw [if_neg k4] at HRK2
    have q2 : ((x.m.kind : Int) == 2) = false := by rw [beq_eq_false_iff_ne]; exact fun e => k2 (.inl e)
    have q3 : ((x.m.kind : Int) == 3) = false := by rw [beq_eq_false_iff_ne]; exact fun e => k2 (.inr e)
    have q4 : ((x.m.kind : Int) == 4) = false := by rw [beq_eq_false_iff_ne]; exact k4
    by_cases k5 : x.m.kind = 5
    · rw [if_pos k5] at HRK2
      have t0 : wc.cell? ⟨g, 0, none⟩ = some (.int .i64 5) := by rw [kb.cell, HAT.out.1, k5]
      clear k5 k4 k2 k1 q1 q2 q3 q4
      by_cases hs : x.m.seq = 0
      · have hs2 : ((x.m.seq : Int) != 0) = false := by rw [hs]; rfl
        rw [decide_eq_true hs] at HRK2
        have hz2 : ((x.m.node : Int) != 0) = !Zb := by rw [← hz]; rfl
        cases Zb
        case false =>
          go_wp2_with fail
          go_ret
          rw [HRK2.out]
          exact ⟨rfl, gb⟩
        case true =>
          cases NSb
          case false =>
            go_wp2_with fail
            go_ret
            rw [HRK2.out]
            exact ⟨rfl, gb⟩
          case true =>
            by_cases hbig : 768 < x.n2
            · rw [decide_eq_false (show ¬ x.m.ev.length ≤ 768 by rw [HEL.out]; omega)] at HRK2
              have hd : decide ((768 : Int) < (x.n2 : Int)) = true := decide_eq_true (by omega)
              go_wp2_with fail
              go_ret
              rw [HRK2.out]
              exact ⟨rfl, gb⟩
            · rw [decide_eq_true (show x.m.ev.length ≤ 768 by rw [HEL.out]; omega)] at HRK2
              have hd : decide ((768 : Int) < (x.n2 : Int)) = false := decide_eq_false (by omega)
              have hr : R = x.m.ev.all rightE := by rw [HRK2.out]; rfl
              rw [HES.out] at hr
              have HR := Lib.hid hr
              clear hr HRK2 kb hs
              go_wp2_with fail
              go_loopw [124] (fun i wr => ∃ k : Nat, k ≤ x.n2 ∧ i = .int .i64 k ∧ (∀ j (h : j < x.xs.length), j < k → rightE (x.xs[j]).e = true) ∧ Below w.heap.size w wr) (fun i _ => x.n2 - (intOf i).toNat)
              case atStart => exact ⟨0, by omega, rfl, fun j _ hj => by omega, gb⟩
              case round =>
                clear gb
                obtain ⟨k, hk, rfl, hall, gb⟩ := hrel
                have HA := Lib.hid hall
                clear hall
                by_cases hlt : k < x.n2
                · have hkl : k < x.xs.length := by rw [← HN2.out]; exact hlt
                  obtain ⟨hok, ad, hA, hab, hcell⟩ := (HRK.out wr gb).2 k _ (List.getElem?_eq_getElem hkl)
                  have HOFF := Lib.hid fun h => all_offE hkl h
                  have HAK := Lib.hid fun (h : rightE (x.xs[k]).e = true) (j : Nat) (hj : j < x.xs.length) (hjk : j < k + 1) => (by
                    by_cases e : j = k
                    · subst e; exact h
                    · exact HA.out j hj (by omega) : rightE (x.xs[j]).e = true)
                  have hright := fun (w' : World) (h : RdD w' w'.heap.size (x.xs[k]).A (x.xs[k]).m (x.xs[k]).e.l) => eright07_any (x.xs[k]).e hok.1 (x.xs[k]).A (x.xs[k]).m (x.xs[k]).c w' h (by have := hok.2.2; omega)
                  generalize x.xs[k] = y at *
                  rw [hA] at *
                  obtain ⟨cs, hcs⟩ : ∃ cs, cs = y.cs := ⟨_, rfl⟩
                  have hec : ec y.e (.slice y.A y.m y.c) = cs := hcs.symm
                  rw [← hcs] at hcell
                  rw [hec] at hright
                  have HSZ := Lib.hid (show cs.size = 14 by rw [hcs]; rfl)
                  have H1C := Lib.hid (show cs.all (·.oneCell') = true by rw [hcs]; exact y.one)
                  have HC := Lib.hid hcell
                  have HRT := Lib.hid hright
                  have HOK := Lib.hid fun (w' : World) (h : Below wr.heap.size wr w') => ((hok.2.1.below (h.mono gb.size)).more (show w.heap.size ≤ w'.heap.size by have := h.size; have := gb.size; omega))
                  have hk0 : (0 : Int) ≤ (k : Int) := by omega
                  have hkm : (k : Int) < (x.n2 : Int) := by omega
                  clear hcs hec hcell hok hright
                  go_upto_region 17 with fail
                  go_upto_region 18 with first
                    | ((with_reducible refine wpList_lda rowE HC.out HSZ.out ?_ ?_); rotate_left; (rfl))
                    | ((with_reducible refine wpList_st rowE (Blk.new _ _ _) HSZ.out ?_ H1C.out ?_ ?_ ?_); (rfl); rotate_left; (rfl); (rfl); intro w6 k6 g6 z6)
                  have bA : Below wr.heap.size wr w6 := new_below g6
                  have gb6 := gb.trans (bA.mono gb.size)
                  have rd6 := HOK.out w6 bA
                  obtain ⟨gr, hgr2⟩ : ∃ gr, gr = wr.heap.size := ⟨_, rfl⟩
                  rw [← hgr2] at k6 ⊢
                  clear hgr2 g6 z6 bA gb
                  cases hx : rightE y.e
                  case false =>
                    have hr : R = false := by rw [HR.out, HOFF.out hx]
                    subst hr
                    have hrt := HRT.out w6 rd6
                    rw [hx] at hrt
                    have HRT2 := Lib.hid hrt
                    clear hx hrt HRT HR
                    go_wp2_with ((with_reducible refine wpList_ld rowE k6 HSZ.out ?_ ?_); rotate_left; (rfl))
                    refine HRT2.out.mono ?_
                    rintro e w7 ⟨rfl, b7⟩
                    have gb7 := gb6.trans (b7.mono gb6.size)
                    go_wp2_with fail
                    go_ret
                    exact ⟨rfl, gb7⟩
                  case true =>
                    have hrt := HRT.out w6 rd6
                    rw [hx] at hrt
                    have HRT2 := Lib.hid hrt
                    have HX := Lib.hid hx
                    clear hx hrt HRT
                    go_wp2_with ((with_reducible refine wpList_ld rowE k6 HSZ.out ?_ ?_); rotate_left; (rfl))
                    refine HRT2.out.mono ?_
                    rintro e w7 ⟨rfl, b7⟩
                    have gb7 := gb6.trans (b7.mono gb6.size)
                    go_wp2_with fail
                    go_roundw
                    case rel => exact ⟨k + 1, by omega, by go_num, HAK.out HX.out, gb7⟩
                    case measure => simp [intOf]; omega
                · have hkd : decide ((k : Int) < (x.n2 : Int)) = false := decide_eq_false (by omega)
                  have hr : R = true := by
                    rw [HR.out, List.all_eq_true]
                    intro e he
                    obtain ⟨y, hy, rfl⟩ := List.mem_map.1 he
                    obtain ⟨i, hi, rfl⟩ := List.getElem_of_mem hy
                    exact HA.out i hi (by have := HN2.out; omega)
                  subst hr
                  go_wp2_with fail
                  go_ret
                  exact ⟨rfl, gb⟩
      · have hs2 : ((x.m.seq : Int) != 0) = true := by rw [bne_iff_ne]; exact hs
        rw [decide_eq_false hs] at HRK2
        go_wp2_with fail
        go_ret
        rw [HRK2.out]
        exact ⟨rfl, gb⟩
    · rw [if_neg k5] at HRK2
      have q5 : ((x.m.kind : Int) == 5) = false := by rw [beq_eq_false_iff_ne]; exact k5
      have t0 : wc.cell? ⟨g, 0, none⟩ = some (.int .i64 x.m.kind) := (kb.cell 0).trans HAT.out.1
      go_wp2_with fail
      go_ret
      rw [HRK2.out]
      exact ⟨rfl, gb⟩
end Go.Proofs.Ytcgalmnllegnbaa

/- The walk of the reference of layer 2: Put. -/
namespace Go.Proofs.Ytcgalmnllegnbaa
set_option linter.unusedVariables false
set_option linter.unusedSimpArgs false
set_option maxRecDepth 100000
open Go.RowKit

theorem rput_bad (A : Option Addr) (n c : Nat) (x : Int) (w : World) (hx : x < 0 ∨ 1099511627776 < x) :
    Calls Try.prog 38 #[.slice A n c, .int .i64 x] w fun e w' => e = .returned (.tuple #[.slice none 0 0, .int .i64 2]) ∧ w = w' := by
  rcases hx with hx | hx
  · have hd : decide (x < 0) = true := decide_eq_true (by omega)
    go_enter Try.func38, Try.ntmps38
    go_wp2_with fail
    go_ret2
    exact ⟨rfl, rfl⟩
  · have hd : decide (x < 0) = false := decide_eq_false (by omega)
    have hd1 : decide (1099511627776 < x) = true := decide_eq_true (by omega)
    go_enter Try.func38, Try.ntmps38
    go_wp2_with fail
    go_ret2
    exact ⟨rfl, rfl⟩
theorem u8_ref (m : Nat) : IntKind.u8.wrap (128 + (m : Int) % 128) = ((UInt8.ofNat (m % 128 + 128)).toNat : Int) := by
  rw [IntKind.wrap_u8', Vint.toNat_ofNat]; omega
set_option maxRecDepth 100000 in
theorem rput_ok (A : Option Addr) (n c : Nat) (bs : List UInt8) (x : Nat) (B : Nat) (w : World) (hb : RdB w B A n bs) (hB : B ≤ w.heap.size) (hl : n ≤ 140737488355000) (hx : x ≤ 1099511627776) :
    Calls Try.prog 38 #[.slice A n c, .int .i64 x] w (GiveBE w (bs ++ Vint.enc x) 0) := by
  have hd : decide ((x : Int) < 0) = false := decide_eq_false (by omega)
  have hd1 : decide (1099511627776 < (x : Int)) = false := decide_eq_false (by omega)
  go_enter Try.func38, Try.ntmps38
  go_wp2_with (at_builtin; refine wpList_appB rfl (.tmp 13) (.tmp 14) rfl rfl (OwnB.made w w.heap.size [] #[] 0 rfl rfl (Nat.le_refl _) (Nat.zero_le _)) rfl (hb.alloc hB _) (by omega) (by simp) ?_)
  intro A1 c1 w1 ho _ _ hbl0
  have hbl : Below w.heap.size w w1 := ((Below.refl _ _).alloc (Nat.le_refl _) _).trans hbl0
  clear hd hd1 hbl0
  have hn1 := ho.1
  have hl1 : bs.length ≤ 140737488355000 := by rw [← hb.1]; exact hl
  have HN1 := Lib.hid hn1
  clear hn1
  go_wp2_with fail
  go_loopw [1, 6] (fun i v wr => ∃ (m f : Nat) (pre : List UInt8) (A' : Option Addr) (n' c' : Nat), i = .int .i64 m ∧ v = .slice A' n' c' ∧ m < 128 ^ (f + 1) ∧ f ≤ 5 ∧ m ≤ 1099511627776 ∧ pre.length + f ≤ 5 ∧ pre ++ Vint.encF f m = Vint.enc x ∧
      OwnB wr w.heap.size A' n' c' (bs ++ pre) ∧ Below w.heap.size w wr) (fun i _ _ => (intOf i).toNat)
  case atStart => exact ⟨x, 5, [], A1, _, c1, rfl, rfl, by have : (128 : Nat) ^ 6 = 4398046511104 := by decide
                                                           show x < 128 ^ 6; omega, by omega, hx, by simp, rfl, by simpa using ho, hbl⟩
  case round =>
    obtain ⟨m, f, pre, A', n', c', rfl, rfl, hm, hf5, hmt, hpf, hpre, hown, hbel⟩ := hrel
    have hlen := hown.1
    rw [List.length_append] at hlen
    have hln : n' ≤ 140737488355005 := by omega
    have HL := Lib.hid hlen
    have HP := Lib.hid hpre
    clear hlen hpre
    by_cases hge : 128 ≤ m
    · have hf : 1 ≤ f := by
        rcases Nat.eq_zero_or_pos f with h0 | h0
        · subst h0; simp at hm; omega
        · exact h0
      obtain ⟨f, rfl⟩ : ∃ f', f = f' + 1 := ⟨f - 1, by omega⟩
      have a1 := u8_ref m
      go_wp2_with (at_builtin; refine wpList_appB rfl (.tmp 18) (.tmp 23) rfl rfl (hown.alloc _) rfl (RdB.made _ [UInt8.ofNat (m % 128 + 128)] _ _ _ ?hx1) ?hx0 ?hx2 ?_)
      case hx0 => show n' + 1 ≤ _; omega
      case hx2 => have := hbel.size; simp; omega
      intro A2 c2 w3 ho2 _ _ hbl2
      have hbel3 : Below w.heap.size w w3 := (hbel.alloc hbel.size _).trans hbl2
      go_wp2_with fail
      go_roundw
      case rel =>
        refine ⟨m / 128, f, pre ++ [UInt8.ofNat (m % 128 + 128)], _, _, _, rfl, rfl, ?_, by omega, by omega, by simp; omega, ?_, by simpa using ho2, hbel3⟩
        · rw [Nat.pow_succ] at hm; omega
        · rw [← HP.out]
          conv => rhs; unfold Vint.encF
          rw [if_neg (by omega)]; simp
      case measure => simp [intOf]; omega
    · have a1 := u8_byte m
      go_wp2_with (at_builtin; refine wpList_appB rfl (.tmp 27) (.tmp 30) rfl rfl (hown.alloc _) rfl (RdB.made _ [UInt8.ofNat m] _ _ _ ?hy1) ?hy0 ?hy2 ?_)
      case hy0 => show n' + 1 ≤ _; omega
      case hy2 => have := hbel.size; simp; omega
      intro A2 c2 w3 ho2 _ _ hbl2
      have hbel3 : Below w.heap.size w w3 := (hbel.alloc hbel.size _).trans hbl2
      go_wp2_with fail
      go_ret2
      refine ⟨_, _, _, rfl, ?_, hbel3⟩
      have e : Vint.encF f m = [UInt8.ofNat m] := by
        cases f with
        | zero => rfl
        | succ f => unfold Vint.encF; rw [if_pos (by omega)]
      rw [← HP.out, e]
      simpa using ho2

end Go.Proofs.Ytcgalmnllegnbaa

/- The walk of the document's Put. -/
namespace Go.Proofs.Ytcgalmnllegnbaa
set_option linter.unusedVariables false
set_option linter.unusedSimpArgs false
set_option maxRecDepth 100000
open Go.RowKit
open Dot
theorem encs_app (a b : List Int) : encs (a ++ b) = encs a ++ encs b := by unfold encs; rw [List.flatMap_append]
theorem encs_one (x : Int) : encs [x] = Vint.enc x.toNat := by simp [encs]
theorem encs_two (x y : Int) : encs [x, y] = Vint.enc x.toNat ++ Vint.enc y.toNat := by simp [encs]
set_option maxRecDepth 100000 in
set_option maxHeartbeats 2000000 in
theorem drput_any (U : List Int) (A0 : Option Addr) (n0 c0 : Nat) (l0 : List Dt) (w : World) (hU : U.length = 8) (hr : RdD w w.heap.size A0 n0 l0) :
    Calls Try.prog 39 #[.agg (uc U (.slice A0 n0 c0))] w (GiveBE w (if rightB U l0 = true then encs (putL U l0) else []) (if rightB U l0 = true then 0 else 2)) := by
  have HU := Lib.hid hU
  have HS := Lib.hid (uc_size hU (.slice A0 n0 c0))
  have hra := fun w' (hb : Below w.heap.size w w') => rright_any U hU A0 n0 c0 l0 w' ((hr.below hb).more hb.size)
  have hix := fun w (k : Nat) (hk : k < 8) => run_index8 w U hU k hk
  have HIX := Lib.hid hix
  have HUL := Lib.hid (show (U.map (Value.int .i64)).length = 8 by rw [List.length_map, hU])
  have HRA := Lib.hid hra
  clear hra hix
  have HN := Lib.hid hr.1
  obtain ⟨sc, hsc⟩ : ∃ sc, sc = uc U (.slice A0 n0 c0) := ⟨_, rfl⟩
  rw [← hsc] at HS HRA ⊢
  have HSC := Lib.hid hsc
  clear hsc
  obtain ⟨BS, hBS⟩ : ∃ BS, BS = if rightB U l0 = true then encs (putL U l0) else [] := ⟨_, rfl⟩
  obtain ⟨E, hE⟩ : ∃ E, E = if rightB U l0 = true then 0 else 2 := ⟨_, rfl⟩
  rw [← hBS, ← hE]
  have HBS := Lib.hid hBS
  have HE := Lib.hid hE
  clear hBS hE
  go_enter Try.func39, Try.ntmps39
  go_upto_region 1 with fail
  refine nameW ?_
  intro wv hwv
  obtain ⟨b, hb⟩ : ∃ b, b = w.heap.size := ⟨_, rfl⟩
  rw [← hb]
  have kb : Blk wv b 84 sc := by rw [hwv, hb]; exact Blk.new w _ _
  have gb : Below w.heap.size w wv := by rw [hwv]; exact (Below.refl _ _).alloc (Nat.le_refl _) _
  have hbw : w.heap.size ≤ b := by omega
  clear hwv hb
  go_wp2_with ((with_reducible refine wpList_ld rowRS kb HS.out ?_ ?_); rotate_left; (rfl))
  refine (HRA.out _ gb).mono ?_
  rintro e w1 ⟨rfl, h1⟩
  replace gb := gb.trans (h1.mono gb.size)
  replace kb := kb.below h1 kb.lt
  clear h1 wv
  rename World => wv
  cases hright : rightB U l0
  case false =>
    have hBS2 : BS = [] := by rw [HBS.out, hright]; rfl
    have hE2 : E = 2 := by rw [HE.out, hright]; rfl
    clear HRA HBS HE
    subst hBS2 hE2
    go_wp2_with fail
    go_ret2
    exact ⟨none, 0, 0, rfl, OwnB.nil _ _, gb⟩
  case true =>
  have hBS2 : BS = encs (putL U l0) := by rw [HBS.out, hright]; rfl
  have hE2 : E = 0 := by rw [HE.out, hright]; rfl
  clear HBS HE
  have HBS := Lib.hid hBS2
  clear hBS2
  subst hE2
  have hbd := putL_bd hright
  have hbe := (right_iff _ _).1 hright
  have hn7 : n0 ≤ 768 := by rw [HN.out]; exact hbe.2.1
  have hub : ∀ x ∈ U, 0 ≤ x ∧ x ≤ 1099511627776 := fun x hx => hbd x (by unfold putL; simp [hx])
  have hnb : ∀ x ∈ nums l0, 0 ≤ x ∧ x ≤ 1099511627776 := fun x hx => hbd x (by unfold putL; simp [hx])
  have HUB := Lib.hid hub
  have HNB := Lib.hid hnb
  clear hbd hbe hright HRA hub hnb
  have hrv := hr.below gb
  have t8 : wv.cell? ⟨b, 8, none⟩ = some (.slice A0 n0 c0) := (kb.cell 8).trans (by rw [HSC.out]; exact uc_last HU.out _)
  have hbv := kb.lt
  rw [HSC.out] at kb
  have hrg := uc_range kb
  have T8 := Lib.hid t8
  clear hr kb t8
  go_upto_region 4 with fail
  go_upto_region 5 with ((with_reducible refine wpList_ldm row8 hrg HUL.out ?_ ?_); rotate_left; (rfl))
  rw [show (U.map (Value.int .i64)).toArray = uI U from rfl]
  clear hrg
  obtain ⟨wo, rfl⟩ : ∃ wo, wo = wv := ⟨_, rfl⟩
  go_loopw [4, 14] (fun t i wr => ∃ (j : Nat) (A : Option Addr) (nb cb : Nat), j ≤ 8 ∧ i = .int .i64 j ∧ t = .slice A nb cb ∧ OwnB wr wo.heap.size A nb cb (encs (U.take j)) ∧ Below wo.heap.size wo wr) (fun _ i _ => 8 - (intOf i).toNat)
  case atStart => exact ⟨0, none, 0, 0, by omega, rfl, rfl, OwnB.nil _ _, Below.refl _ _⟩
  case round =>
  obtain ⟨j, A, nb, cb, hj, rfl, rfl, ob, bl⟩ := hrel
  by_cases hlt : j < 8
  case pos =>
    have hjl : j < U.length := by rw [HU.out]; exact hlt
    have hx1 := fun w => HIX.out w j hlt
    have hgd : U.getD j 0 = U[j] := by rw [List.getD_eq_getElem?_getD, List.getElem?_eq_getElem hjl]; rfl
    simp only [hgd] at hx1
    have hxb := HUB.out _ (List.getElem_mem hjl)
    have hes := encs_snoc U hjl
    have HES := Lib.hid hes
    have hel := encs_len (U.take j)
    have hnb : nb ≤ 48 := by
      have h1 := ob.1
      have h2 : (U.take j).length ≤ j := List.length_take_le _ _
      omega
    clear hes hel hgd
    generalize U[j] = x at *
    obtain ⟨x, rfl⟩ := Int.eq_ofNat_of_zero_le hxb.1
    rw [Int.toNat_natCast] at HES
    have hkd : decide ((j : Int) < 8) = true := decide_eq_true (by omega)
    go_wp2_with fail
    refine (rput_ok A nb cb _ x wr.heap.size wr ob.rd (Nat.le_refl _) (by omega) (by omega)).mono ?_
    rintro e w4 ⟨A4, n4, c4, rfl, o4, b4⟩
    have O4 : OwnB w4 wo.heap.size A4 n4 c4 (encs (U.take (j + 1))) := by rw [HES.out]; exact o4.mono bl.size
    have B4 := bl.trans (b4.mono bl.size)
    have HO := Lib.hid O4
    clear O4 o4 b4 ob bl
    go_wp2_with fail
    go_roundw
    case rel => exact ⟨j + 1, A4, n4, c4, by omega, by go_num, rfl, HO.out, B4⟩
    case measure => simp [intOf]; omega
  case neg =>
  obtain rfl : j = 8 := by omega
  rw [show U.take 8 = U from List.take_of_length_le (by rw [HU.out]; exact Nat.le_refl _)] at ob
  have hnb : nb ≤ 48 := by
    have h1 := ob.1
    have h2 := encs_len U
    rw [HU.out] at h2
    omega
  have t8 : wr.cell? ⟨b, 8, none⟩ = some (.slice A0 n0 c0) := (bl.cell (p := ⟨b, 8, none⟩) hbv).trans T8.out
  go_wp2_with fail
  refine (rput_ok A nb cb _ n0 wr.heap.size wr ob.rd (Nat.le_refl _) (by omega) (by omega)).mono ?_
  rintro e w4 ⟨A4, n4, c4, rfl, o4, b4⟩
  have O4 : OwnB w4 wo.heap.size A4 n4 c4 (encs (U ++ [((n0 : Nat) : Int)] ++ nums (l0.take 0))) := by
    rw [encs_app, encs_app, encs_one, Int.toNat_natCast, show encs (nums (l0.take 0)) = [] from rfl, List.append_nil]
    exact o4.mono bl.size
  have B4 := bl.trans (b4.mono bl.size)
  have t84 : w4.cell? ⟨b, 8, none⟩ = some (.slice A0 n0 c0) := (B4.cell (p := ⟨b, 8, none⟩) hbv).trans T8.out
  have hUl := HU.out
  clear o4 b4 ob bl t8 hnb
  go_wp2_with fail
  clear t84
  go_loopw [4, 35] (fun t i wr => ∃ (k : Nat) (A : Option Addr) (nb cb : Nat), k ≤ n0 ∧ i = .int .i64 k ∧ t = .slice A nb cb ∧ OwnB wr wo.heap.size A nb cb (encs (U ++ [((n0 : Nat) : Int)] ++ nums (l0.take k))) ∧ Below wo.heap.size wo wr) (fun _ i _ => n0 - (intOf i).toNat)
  case atStart => exact ⟨0, A4, n4, c4, by omega, rfl, rfl, O4, B4⟩
  case round =>
    clear O4 B4
    obtain ⟨k, A, nb, cb, hk, rfl, rfl, ob, bl⟩ := hrel
    by_cases hlt : k < n0
    · have hkl : k < l0.length := by rw [← HN.out]; exact hlt
      obtain ⟨ad, rfl, hdt⟩ := (hrv.below (bl.mono gb.size)).2 k _ (List.getElem?_eq_getElem hkl)
      have hsn : nums (l0.take (k + 1)) = nums (l0.take k) ++ [l0[k].1, l0[k].2] := by rw [take_snoc l0 hkl, nums_snoc]
      have hm1 : l0[k].1 ∈ nums l0 := by unfold nums; rw [List.mem_flatMap]; exact ⟨_, List.getElem_mem hkl, by simp⟩
      have hm2 : l0[k].2 ∈ nums l0 := by unfold nums; rw [List.mem_flatMap]; exact ⟨_, List.getElem_mem hkl, by simp⟩
      have hx1 := HNB.out _ hm1
      have hx2 := HNB.out _ hm2
      have hel := encs_len (U ++ [((n0 : Nat) : Int)] ++ nums (l0.take k))
      have hnb : nb ≤ 15000 := by
        have h1 := ob.1
        rw [List.length_append, List.length_append, nums_len, HU.out] at hel
        have h2 : (l0.take k).length ≤ k := List.length_take_le _ _
        rw [List.length_singleton] at hel
        omega
      clear hm1 hm2 hel
      generalize l0[k] = d at *
      obtain ⟨x, q⟩ := d
      obtain ⟨q5, q0, q1⟩ := hdt
      simp only at q0 q1 hsn hx1 hx2
      obtain ⟨x, rfl⟩ := Int.eq_ofNat_of_zero_le hx1.1
      obtain ⟨q, rfl⟩ := Int.eq_ofNat_of_zero_le hx2.1
      have HSN := Lib.hid hsn
      clear hsn
      obtain ⟨wn, hwn⟩ : ∃ wn, wn = wr.alloc (.cells #[.int .i64 (x : Nat), .int .i64 (q : Nat)] 46) := ⟨_, rfl⟩
      obtain ⟨gd, hgd⟩ : ∃ gd, gd = wr.heap.size := ⟨_, rfl⟩
      have kn : Blk wn gd 46 #[.int .i64 (x : Nat), .int .i64 (q : Nat)] := by rw [hwn, hgd]; exact Blk.new wr _ _
      have o1 : OwnB wn wo.heap.size A nb cb (encs (U ++ [((n0 : Nat) : Int)] ++ nums (l0.take k))) := by rw [hwn]; exact ob.alloc _
      have b1 : Below wo.heap.size wo wn := by rw [hwn]; exact bl.alloc bl.size _
      have HW := Lib.hid hwn
      have HGD := Lib.hid hgd
      have hk0 : (0 : Int) ≤ (k : Int) := by omega
      have hk1 : (k : Int) < (n0 : Int) := by omega
      clear hwn hgd ob bl
      go_upto_region 13 with fail
      rw [← HW.out, ← HGD.out]
      have t0 : wn.cell? ⟨gd, 0, none⟩ = some (.int .i64 (x : Nat)) := kn.cell 0
      clear q0 q1 q5
      go_wp2_with fail
      refine (rput_ok A nb cb _ x wn.heap.size wn o1.rd (Nat.le_refl _) (by omega) (by omega)).mono ?_
      rintro e w4 ⟨A4, n4, c4, rfl, o4, b4⟩
      have kn4 := kn.below b4 kn.lt
      have t1 : w4.cell? ⟨gd, 1, none⟩ = some (.int .i64 (q : Nat)) := kn4.cell 1
      have hn4 : n4 ≤ 15010 := by
        have h1 := o4.1
        have h2 := o1.1
        have h3 := Vint.enc_length x
        rw [List.length_append] at h1
        omega
      have bw4 := b1.trans (b4.mono b1.size)
      clear kn b4 t0 o1
      go_wp2_with fail
      refine (rput_ok A4 n4 c4 _ q w4.heap.size w4 o4.rd (Nat.le_refl _) (by omega) (by omega)).mono ?_
      rintro e w5 ⟨A5, n5, c5, rfl, o5, b5⟩
      have O5 : OwnB w5 wo.heap.size A5 n5 c5 (encs (U ++ [((n0 : Nat) : Int)] ++ nums (l0.take (k + 1)))) := by
        rw [HSN.out, ← List.append_assoc, encs_app, encs_two, Int.toNat_natCast, Int.toNat_natCast, ← List.append_assoc]
        exact o5.mono bw4.size
      have B5 := bw4.trans (b5.mono bw4.size)
      have HO := Lib.hid O5
      clear O5 o5 b5 t1 kn4 o4 bw4 b1
      go_wp2_with fail
      go_roundw
      case rel => exact ⟨k + 1, A5, n5, c5, by omega, by go_num, rfl, HO.out, B5⟩
      case measure => simp [intOf]; omega
    · obtain rfl : k = n0 := by omega
      rw [List.take_of_length_le (l := l0) (by have := HN.out; omega)] at ob
      go_wp2_with fail
      go_ret2
      exact ⟨A, nb, cb, rfl, by rw [HBS.out]; unfold putL; rw [← HN.out]; exact ob.mono gb.size, gb.trans (bl.mono gb.size)⟩
end Go.Proofs.Ytcgalmnllegnbaa

/- The walk of the document's numbers. -/
namespace Go.Proofs.Ytcgalmnllegnbaa
set_option linter.unusedVariables false
set_option linter.unusedSimpArgs false
set_option maxRecDepth 100000
open Go.RowKit
open Dot Evt
set_option maxRecDepth 100000 in
set_option maxHeartbeats 4000000 in
theorem rnums_any (x : Ev) (hp : x.p.length = 7) (A : Option Addr) (m c : Nat) (w : World) (hl : RdD w w.heap.size A m x.l) (h96 : m ≤ 96) :
    Calls Try.prog 107 #[.agg (ec x (.slice A m c))] w fun e w' => ∃ A' n' c', e = .returned (.slice A' n' c') ∧ OwnI w' w.heap.size A' n' c' (numsE x) ∧ Below w.heap.size w w' := by
  obtain ⟨⟨n, q⟩, t, k, wk, v, p, l⟩ := x
  simp only at hl hp
  have hE : numsE ⟨(n, q), t, k, wk, v, p, l⟩ = [n, q, t, k, wk] ++ (if k = 1 then [v] else (if k = 2 then [p.getD 0 0, p.getD 1 0, p.getD 2 0, p.getD 3 0, p.getD 4 0, p.getD 5 0, p.getD 6 0] else []) ++ [(m : Int)] ++ dotNums l) := by
    unfold numsE
    match p, hp with
    | [a, b, c, d, e, f, g], _ => rw [hl.1]; rfl
  obtain ⟨R, hR⟩ : ∃ R, R = numsE ⟨(n, q), t, k, wk, v, p, l⟩ := ⟨_, rfl⟩
  rw [← hR]
  rw [hE] at hR
  clear hE
  have HM := Lib.hid hl.1
  unfold ec
  simp only
  generalize p.getD 0 0 = p0, p.getD 1 0 = p1, p.getD 2 0 = p2, p.getD 3 0 = p3, p.getD 4 0 = p4, p.getD 5 0 = p5, p.getD 6 0 = p6 at *
  have HR := Lib.hid hR
  have HL := Lib.hid hl
  have H96 := Lib.hid h96
  clear hR hl h96 hp
  go_enter Try.func107, Try.ntmps107
  go_upto_region 1 with fail
  refine nameW ?_
  intro wv hwv
  obtain ⟨b, hb⟩ : ∃ b, b = w.heap.size := ⟨_, rfl⟩
  rw [← hb]
  have kb : Blk wv b 50 #[.int .i64 n, .int .i64 q, .int .i64 t, .int .i64 k, .int .i64 wk, .int .i64 v, .int .i64 p0, .int .i64 p1, .int .i64 p2, .int .i64 p3, .int .i64 p4, .int .i64 p5, .int .i64 p6, .slice A m c] := by rw [hwv, hb]; exact Blk.new _ _ _
  have gb : Below b w wv := by rw [hwv, hb]; exact (Below.refl _ _).alloc (Nat.le_refl _) _
  have hl : RdD wv b A m l := by
    rw [hb]
    exact HL.out.below (by rw [← hb]; exact gb)
  have HB := Lib.hid hb
  clear hwv hb HL
  obtain ⟨c0, c1, c2, c3, c4, c5, c6, c7, c8, c9, c10, c11, c12, c13⟩ := ecells kb
  have hbl := kb.lt
  go_upto_region 3 with fail
  refine nameW ?_
  intro w1 hw1
  obtain ⟨g5, hg5⟩ : ∃ g5, g5 = wv.heap.size := ⟨_, rfl⟩
  rw [← hg5]
  have o5 : OwnI w1 (b + 1) (some ⟨g5, 0, none⟩) 5 5 [n, q, t, k, wk] := by
    rw [hw1, hg5]
    exact (OwnI.made wv (b + 1) [n, q, t, k, wk] _ 5 rfl rfl (by have := kb.lt; omega) (by unfold maxLen; omega)).alloc _
  have kp : Blk w1 (g5 + 1) 48 #[.int .i64 p0, .int .i64 p1, .int .i64 p2, .int .i64 p3, .int .i64 p4, .int .i64 p5, .int .i64 p6] := by
    have h := Blk.new (wv.alloc (.cells #[.int .i64 n, .int .i64 q, .int .i64 t, .int .i64 k, .int .i64 wk] 3)) 48 #[.int .i64 p0, .int .i64 p1, .int .i64 p2, .int .i64 p3, .int .i64 p4, .int .i64 p5, .int .i64 p6]
    rw [show (wv.alloc (.cells #[.int .i64 n, .int .i64 q, .int .i64 t, .int .i64 k, .int .i64 wk] 3)).heap.size = wv.heap.size + 1 by simp] at h
    rw [hw1, hg5]
    exact h
  have bA : Below wv.heap.size wv w1 := by rw [hw1]; exact ((Below.refl _ _).alloc (Nat.le_refl _) _).alloc (by simp) _
  have kb1 := kb.below bA kb.lt
  have gb1 := gb.trans (bA.mono (by have := kb.lt; omega))
  have hl1 := hl.below (bA.mono (by have := kb.lt; omega))
  have hbg : b < g5 := by have := kb.lt; omega
  clear hw1 hg5 bA kb gb hl c0 c1 c2 c3 c4 c5 c6 c7 c8 c9 c10 c11 c12 c13
  obtain ⟨c0, c1, c2, c3, c4, c5, c6, c7, c8, c9, c10, c11, c12, c13⟩ := ecells kb1
  have hs1 := kp.lt
  by_cases k1 : k = 1
  · have hq : (k == (1 : Int)) = true := by rw [beq_iff_eq]; exact k1
    have hf := HR.out
    rw [if_pos k1] at hf
    have HF := Lib.hid hf
    clear hf HR k1 kp
    go_wp2_with (at_builtin; refine wpList_appI rfl (.tmp 26) (.tmp 29) rfl rfl (o5.alloc _) (news := [v]) rfl ⟨rfl, Rd.made _ _ _ _⟩ ?h2 ?h3 ?h4)
    case h2 => omega
    case h3 => simp; omega
    intro A' c' w2 o2 g2 m2 b2
    have gb2 := (gb1.alloc (by have := gb1.size; have := HB.out; omega) (.cells #[.int .i64 v] 3)).trans (b2.mono (by omega))
    have HO := Lib.hid (o2.mono (base' := b) (by omega))
    have HG := Lib.hid gb2
    clear o2 g2 m2 b2 gb2 o5
    go_wp2_with fail
    go_ret
    exact ⟨A', _, c', rfl, by rw [HF.out, ← HB.out]; exact HO.out, by rw [← HB.out]; exact HG.out⟩
  have hq : (k == (1 : Int)) = false := by rw [beq_eq_false_iff_ne]; exact k1
  have hf := HR.out
  rw [if_neg k1] at hf
  have HF := Lib.hid hf
  clear hf HR k1
  by_cases k2 : k = 2
  · have hq2 : (k == (2 : Int)) = true := by rw [beq_iff_eq]; exact k2
    have hf := HF.out
    rw [if_pos k2] at hf
    clear HF
    have HF := Lib.hid hf
    clear hf k2
    have hp0 : w1.cell? ⟨g5 + 1, 0, none⟩ = some (.int .i64 p0) := kp.cell 0
    have hp1 : w1.cell? ⟨g5 + 1, 1, none⟩ = some (.int .i64 p1) := kp.cell 1
    have hp2 : w1.cell? ⟨g5 + 1, 2, none⟩ = some (.int .i64 p2) := kp.cell 2
    have hp3 : w1.cell? ⟨g5 + 1, 3, none⟩ = some (.int .i64 p3) := kp.cell 3
    have hp4 : w1.cell? ⟨g5 + 1, 4, none⟩ = some (.int .i64 p4) := kp.cell 4
    have hp5 : w1.cell? ⟨g5 + 1, 5, none⟩ = some (.int .i64 p5) := kp.cell 5
    have hp6 : w1.cell? ⟨g5 + 1, 6, none⟩ = some (.int .i64 p6) := kp.cell 6
    go_wp2_with (at_builtin; refine wpList_appI rfl (.tmp 33) (.tmp 48) rfl rfl (o5.alloc _) (news := [p0, p1, p2, p3, p4, p5, p6]) rfl ⟨rfl, Rd.made _ _ _ _⟩ ?h12 ?h13 ?h14)
    case h12 => omega
    case h13 => simp; omega
    intro A2 c2' w2 o2 g2 m2 b2
    have bx : Below (b + 1) w1 w2 := ((Below.refl _ _).alloc (by omega) (.cells #[.int .i64 p0, .int .i64 p1, .int .i64 p2, .int .i64 p3, .int .i64 p4, .int .i64 p5, .int .i64 p6] 3)).trans b2
    have kb2 := kb1.below bx (by omega)
    have hl2 := hl1.below (bx.mono (by omega))
    have gb2 := gb1.trans (bx.mono (by omega))
    clear g2 m2 b2 bx kb1 hl1 gb1 o5 hp0 hp1 hp2 hp3 hp4 hp5 hp6 kp c0 c1 c2 c3 c4 c5 c6 c7 c8 c9 c10 c11 c12 c13
    have s13 : w2.cell? ⟨b, 13, none⟩ = some (.slice A m c) := kb2.cell 13
    have hsz : b + 1 ≤ w2.heap.size := kb2.lt
    go_wp2_with (at_builtin; refine wpList_appI rfl (.tmp 50) (.tmp 54) rfl rfl (o2.alloc _) (news := [(m : Int)]) rfl ⟨rfl, Rd.made _ _ _ _⟩ ?h5_2 ?h6_2 ?h7_2)
    case h5_2 => omega
    case h6_2 => simp; omega
    intro A3 c3' w3 o3 g3 m3 b3
    have bx : Below (b + 1) w2 w3 := ((Below.refl _ _).alloc hsz (.cells #[.int .i64 m] 3)).trans b3
    have kb3 := kb2.below bx (by omega)
    have hl3 := hl2.below (bx.mono (by omega))
    have gb3 := gb2.trans (bx.mono (by omega))
    have s13 : w3.cell? ⟨b, 13, none⟩ = some (.slice A m c) := kb3.cell 13
    obtain ⟨pr, hpr⟩ : ∃ pr, pr = [n, q, t, k, wk, p0, p1, p2, p3, p4, p5, p6, (m : Int)] := ⟨_, rfl⟩
    rw [← hpr] at o3
    have HPR := Lib.hid hpr
    have HPL := Lib.hid (show pr.length ≤ 13 by rw [hpr]; simp)
    clear g3 m3 b3 bx hpr kb2 hl2 gb2 o2 hsz
    go_wp2_with fail
    go_loopw [3, 59] (fun s i wr => ∃ (j : Nat) (A' : Option Addr) (n' c' : Nat), j ≤ m ∧ i = .int .i64 j ∧ s = .slice A' n' c' ∧ OwnI wr (b + 1) A' n' c' (pr ++ dotNums (l.take j)) ∧ Blk wr b 50 #[.int .i64 n, .int .i64 q, .int .i64 t, .int .i64 k, .int .i64 wk, .int .i64 v, .int .i64 p0, .int .i64 p1, .int .i64 p2, .int .i64 p3, .int .i64 p4, .int .i64 p5, .int .i64 p6, .slice A m c] ∧ RdD wr b A m l ∧ Below b w wr) (fun _ i _ => m - (intOf i).toNat)
    case atStart => exact ⟨0, A3, _, c3', by omega, rfl, rfl, by simpa [dotNums] using o3, kb3, hl3, gb3⟩
    case round =>
      clear o3 kb3 hl3 gb3 s13
      obtain ⟨j, A', n', c', hj, rfl, rfl, ho, kb, hl, gb⟩ := hrel
      by_cases hlt : j < m
      · have hjl : j < l.length := by rw [← HM.out]; exact hlt
        obtain ⟨ad, rfl, q5, q0, q1⟩ := hl.2 j _ (List.getElem?_eq_getElem hjl)
        have hsn := take_snoc l hjl
        have hnl := ho.1
        rw [List.length_append] at hnl
        have hdl : (dotNums (l.take j)).length = 2 * j := by rw [← List.length_map (f := Int.toNat), dotNums_nat, dotN_len, List.length_take]; omega
        have HNL := Lib.hid (show n' ≤ 1000 by have := HPL.out; have := H96.out; omega)
        generalize l[j] = d at *
        obtain ⟨x, y⟩ := d
        simp only at q0 q1
        have HSN := Lib.hid hsn
        have hj0 : (0 : Int) ≤ (j : Int) := by omega
        have hjm : (j : Int) < (m : Int) := by omega
        have hsz : b + 1 ≤ wr.heap.size := kb.lt
        have hmd : RdI ((wr.alloc (.cells #[.int .i64 x, .int .i64 y] 46)).alloc (.cells #[.int .i64 x, .int .i64 y] 3)) (wr.heap.size + 1 + 1) (some ⟨wr.heap.size + 1, 0, none⟩) 2 [x, y] := by
          have h := RdI.made (wr.alloc (.cells #[.int .i64 x, .int .i64 y] 46)) [x, y] #[.int .i64 x, .int .i64 y] 3 (0, 0) rfl
          rw [show (wr.alloc (.cells #[.int .i64 x, .int .i64 y] 46)).heap.size = wr.heap.size + 1 by simp] at h
          exact h
        have HMD := Lib.hid hmd
        clear hsn hnl hdl hmd
        go_wp2_with (at_builtin; refine wpList_appI rfl (.tmp 63) (.tmp 68) rfl rfl ((ho.alloc _).alloc _) (news := [x, y]) rfl HMD.out ?h8_2 ?h9_2 ?h10_2)
        case h8_2 => have := HNL.out; omega
        case h9_2 => simp; omega
        intro A4 c4' w4 o4 g4 m4 b4
        have bx : Below (b + 1) wr w4 := (((Below.refl _ _).alloc hsz (.cells #[.int .i64 x, .int .i64 y] 46)).alloc (by simp; omega) (.cells #[.int .i64 x, .int .i64 y] 3)).trans b4
        have kb4 := kb.below bx (by omega)
        have hl4 := hl.below (bx.mono (by omega))
        have gb4 := gb.trans (bx.mono (by omega))
        clear g4 m4 b4 bx
        go_wp2_with fail
        go_roundw
        case rel => exact ⟨j + 1, A4, _, c4', by omega, num_succ j (by have := H96.out; omega), rfl, by rw [HSN.out]; simpa [dotNums] using o4, kb4, hl4, gb4⟩
        case measure => exact meas_succ j m hlt (by have := H96.out; omega)
      · have hje : l.take j = l := List.take_of_length_le (by rw [← HM.out]; omega)
        rw [hje] at ho
        have HO := Lib.hid (ho.mono (base' := b) (by omega))
        have hkd : decide ((j : Int) < (m : Int)) = false := decide_eq_false (by omega)
        clear hje ho
        go_wp2_with fail
        go_ret
        refine ⟨A', n', c', rfl, ?_, by rw [← HB.out]; exact gb⟩
        rw [HF.out, ← HB.out]
        have e : [n, q, t, k, wk] ++ ([p0, p1, p2, p3, p4, p5, p6] ++ [(m : Int)] ++ dotNums l) = pr ++ dotNums l := by rw [HPR.out]; simp
        rw [e]
        exact HO.out
  have hq2 : (k == (2 : Int)) = false := by rw [beq_eq_false_iff_ne]; exact k2
  have hf := HF.out
  rw [if_neg k2] at hf
  clear HF
  have HF := Lib.hid hf
  clear hf k2
  have s13 : w1.cell? ⟨b, 13, none⟩ = some (.slice A m c) := kb1.cell 13
  have hsz : b + 1 ≤ w1.heap.size := kb1.lt
  go_wp2_with (at_builtin; refine wpList_appI rfl (.tmp 50) (.tmp 54) rfl rfl (o5.alloc _) (news := [(m : Int)]) rfl ⟨rfl, Rd.made _ _ _ _⟩ ?h5_1 ?h6_1 ?h7_1)
  case h5_1 => omega
  case h6_1 => simp; omega
  intro A3 c3' w3 o3 g3 m3 b3
  have bx : Below (b + 1) w1 w3 := ((Below.refl _ _).alloc hsz (.cells #[.int .i64 m] 3)).trans b3
  have kb3 := kb1.below bx (by omega)
  have hl3 := hl1.below (bx.mono (by omega))
  have gb3 := gb1.trans (bx.mono (by omega))
  have s13 : w3.cell? ⟨b, 13, none⟩ = some (.slice A m c) := kb3.cell 13
  obtain ⟨pr, hpr⟩ : ∃ pr, pr = [n, q, t, k, wk, (m : Int)] := ⟨_, rfl⟩
  rw [← hpr] at o3
  have HPR := Lib.hid hpr
  have HPL := Lib.hid (show pr.length ≤ 13 by rw [hpr]; simp)
  clear g3 m3 b3 bx hpr kb1 hl1 gb1 o5 hsz
  go_wp2_with fail
  go_loopw [3, 59] (fun s i wr => ∃ (j : Nat) (A' : Option Addr) (n' c' : Nat), j ≤ m ∧ i = .int .i64 j ∧ s = .slice A' n' c' ∧ OwnI wr (b + 1) A' n' c' (pr ++ dotNums (l.take j)) ∧ Blk wr b 50 #[.int .i64 n, .int .i64 q, .int .i64 t, .int .i64 k, .int .i64 wk, .int .i64 v, .int .i64 p0, .int .i64 p1, .int .i64 p2, .int .i64 p3, .int .i64 p4, .int .i64 p5, .int .i64 p6, .slice A m c] ∧ RdD wr b A m l ∧ Below b w wr) (fun _ i _ => m - (intOf i).toNat)
  case atStart => exact ⟨0, A3, _, c3', by omega, rfl, rfl, by simpa [dotNums] using o3, kb3, hl3, gb3⟩
  case round =>
    clear o3 kb3 hl3 gb3 s13
    obtain ⟨j, A', n', c', hj, rfl, rfl, ho, kb, hl, gb⟩ := hrel
    by_cases hlt : j < m
    · have hjl : j < l.length := by rw [← HM.out]; exact hlt
      obtain ⟨ad, rfl, q5, q0, q1⟩ := hl.2 j _ (List.getElem?_eq_getElem hjl)
      have hsn := take_snoc l hjl
      have hnl := ho.1
      rw [List.length_append] at hnl
      have hdl : (dotNums (l.take j)).length = 2 * j := by rw [← List.length_map (f := Int.toNat), dotNums_nat, dotN_len, List.length_take]; omega
      have HNL := Lib.hid (show n' ≤ 1000 by have := HPL.out; have := H96.out; omega)
      generalize l[j] = d at *
      obtain ⟨x, y⟩ := d
      simp only at q0 q1
      have HSN := Lib.hid hsn
      have hj0 : (0 : Int) ≤ (j : Int) := by omega
      have hjm : (j : Int) < (m : Int) := by omega
      have hsz : b + 1 ≤ wr.heap.size := kb.lt
      have hmd : RdI ((wr.alloc (.cells #[.int .i64 x, .int .i64 y] 46)).alloc (.cells #[.int .i64 x, .int .i64 y] 3)) (wr.heap.size + 1 + 1) (some ⟨wr.heap.size + 1, 0, none⟩) 2 [x, y] := by
        have h := RdI.made (wr.alloc (.cells #[.int .i64 x, .int .i64 y] 46)) [x, y] #[.int .i64 x, .int .i64 y] 3 (0, 0) rfl
        rw [show (wr.alloc (.cells #[.int .i64 x, .int .i64 y] 46)).heap.size = wr.heap.size + 1 by simp] at h
        exact h
      have HMD := Lib.hid hmd
      clear hsn hnl hdl hmd
      go_wp2_with (at_builtin; refine wpList_appI rfl (.tmp 63) (.tmp 68) rfl rfl ((ho.alloc _).alloc _) (news := [x, y]) rfl HMD.out ?h8_1 ?h9_1 ?h10_1)
      case h8_1 => have := HNL.out; omega
      case h9_1 => simp; omega
      intro A4 c4' w4 o4 g4 m4 b4
      have bx : Below (b + 1) wr w4 := (((Below.refl _ _).alloc hsz (.cells #[.int .i64 x, .int .i64 y] 46)).alloc (by simp; omega) (.cells #[.int .i64 x, .int .i64 y] 3)).trans b4
      have kb4 := kb.below bx (by omega)
      have hl4 := hl.below (bx.mono (by omega))
      have gb4 := gb.trans (bx.mono (by omega))
      clear g4 m4 b4 bx
      go_wp2_with fail
      go_roundw
      case rel => exact ⟨j + 1, A4, _, c4', by omega, num_succ j (by have := H96.out; omega), rfl, by rw [HSN.out]; simpa [dotNums] using o4, kb4, hl4, gb4⟩
      case measure => exact meas_succ j m hlt (by have := H96.out; omega)
    · have hje : l.take j = l := List.take_of_length_le (by rw [← HM.out]; omega)
      rw [hje] at ho
      have HO := Lib.hid (ho.mono (base' := b) (by omega))
      have hkd : decide ((j : Int) < (m : Int)) = false := decide_eq_false (by omega)
      clear hje ho
      go_wp2_with fail
      go_ret
      refine ⟨A', n', c', rfl, ?_, by rw [← HB.out]; exact gb⟩
      rw [HF.out, ← HB.out]
      have e : [n, q, t, k, wk] ++ ([] ++ [(m : Int)] ++ dotNums l) = pr ++ dotNums l := by rw [HPR.out]; simp
      rw [e]
      exact HO.out
end Go.Proofs.Ytcgalmnllegnbaa

/- The walks of the reference of layer 2: Put, Same, Lent, Kept. -/
namespace Go.Proofs.Ytcgalmnllegnbaa
set_option linter.unusedVariables false
set_option linter.unusedSimpArgs false
set_option maxRecDepth 100000
open Go.RowKit

/-- n zero bytes, as cells -/
def zerosB (n : Nat) : List Value := List.replicate n (bv 0)
theorem run_makeB (W : World) (n c : Nat) (hnc : n ≤ c) (hc : c ≤ 281474976710656) : (Instr.makeSlice 31 (.int .i64 (n : Int)) (.int .i64 (c : Int))).run Try.prog W = .ok (.slice (some ⟨W.heap.size, 0, none⟩) n c) (W.alloc (.cells (zerosB c).toArray 5)) := by
  obtain ⟨i0, hi, hz0, hz1, hz2⟩ := info_parts infoB
  have h := run_make (P := Try.prog) (w := W) 31 5 i0 (.int .u8 0) Try.underlying31 hi hz0 .i64 .i64 n c (by omega) (by omega) (by rw [hz2]; omega) (by omega)
  rw [hz1] at h
  simp only [Int.toNat_natCast, Nat.mul_one] at h
  rw [h]
  have e : madeCells (Value.int IntKind.u8 0).cells c = (zerosB c).toArray := by
    apply Array.toList_inj.1
    exact toList_madeCells_one (.int .u8 0) c
  rw [e]
theorem sizeB : (Try.prog.info? 5).map (·.size) = some 1 := by kernel_rfl
/-- a lent copy, k of its spare bytes marked -/
def lentL (bs : List UInt8) (k : Nat) : List Value := bs.map bv ++ (List.replicate k (bv 171) ++ List.replicate (4 - k) (bv 0))
theorem lentL_next (bs : List UInt8) (k : Nat) (hk : k < 4) : (lentL bs k).toArray.setIfInBounds (bs.length + k) (bv 171) = (lentL bs (k + 1)).toArray := by
  apply Array.toList_inj.1
  rw [Array.toList_setIfInBounds]
  show (lentL bs k).set _ _ = lentL bs (k + 1)
  unfold lentL
  rw [List.set_append, if_neg (by simp), List.length_map, Nat.add_sub_cancel_left]
  congr 1
  match k, hk with
  | 0, _ => rfl
  | 1, _ => rfl
  | 2, _ => rfl
  | 3, _ => rfl
def Lends (w : World) (bs : List UInt8) (e : Ending) (w' : World) : Prop :=
  ∃ g, e = .returned (.slice (some ⟨g, 0, none⟩) bs.length (bs.length + 4)) ∧ w.heap.size ≤ g ∧ Blk w' g 5 (lentL bs 4).toArray ∧ Below w.heap.size w w'
theorem lent_rd {w : World} {g : Nat} {bs : List UInt8} {k : Nat} (h1 : Blk w g 5 (lentL bs k).toArray) : RdB w w.heap.size (some ⟨g, 0, none⟩) bs.length bs := ⟨rfl, fun j u hu => ⟨_, rfl, h1.lt, by
    rw [add_mk, Nat.zero_add, h1.cell]
    have hj : j < (bs.map bv).length := by
      false_or_by_contra
      rw [List.getElem?_eq_none (by omega)] at hu; cases hu
    show (lentL bs k).toArray[j]? = _
    rw [List.getElem?_toArray]
    show (bs.map bv ++ _)[j]? = _
    rw [List.getElem?_append_left hj, hu]⟩⟩
theorem u8_next (z : UInt8) : IntKind.u8.wrap ((z.toNat : Int) + 1) = ((UInt8.ofNat (z.toNat + 1)).toNat : Int) := u8_byte (z.toNat + 1)
end Go.Proofs.Ytcgalmnllegnbaa

/- The walks of the document's Put and PutAll. -/
namespace Go.Proofs.Ytcgalmnllegnbaa
set_option linter.unusedVariables false
set_option linter.unusedSimpArgs false
set_option maxRecDepth 100000
open Go.RowKit
open Dot Evt
theorem encN_take (l : List Int) {k : Nat} (h : k < l.length) : encN ((l.take (k + 1)).map Int.toNat) = encN ((l.take k).map Int.toNat) ++ Vint.enc (l[k]).toNat := by
  rw [take_snoc l h, List.map_append, encN_app]
  simp [encN]
set_option maxRecDepth 100000 in
set_option maxHeartbeats 2000000 in
theorem rput07_any (x : Ev) (hp : x.p.length = 7) (A : Option Addr) (m c : Nat) (w : World) (hl : RdD w w.heap.size A m x.l) (hmb : m ≤ 10000000000000) :
    Calls Try.prog 78 #[.agg (ec x (.slice A m c))] w (GiveBE w (putE x).1 (putE x).2) := by
  obtain ⟨cs, hcs⟩ : ∃ cs, cs = ec x (.slice A m c) := ⟨_, rfl⟩
  have hright := fun (w' : World) (h : Below w.heap.size w w') => eright07_any x hp A m c w' (hl.below h).size (by omega)
  have hnums := fun (w' : World) (h : Below w.heap.size w w') (h96 : m ≤ 96) => rnums_any x hp A m c w' (hl.below h).size h96
  have hcz : cs.size = 14 := by rw [hcs]; rfl
  rw [← hcs] at hright hnums ⊢
  have HRT := Lib.hid hright
  have HNU := Lib.hid hnums
  have HCZ := Lib.hid hcz
  have HM := Lib.hid hl.1
  have HP := Lib.hid hp
  clear hright hnums hcz hcs hl hp
  go_enter Try.func78, Try.ntmps78
  go_upto_region 1 with fail
  refine nameW ?_
  intro wv hwv
  obtain ⟨b, hb⟩ : ∃ b, b = w.heap.size := ⟨_, rfl⟩
  rw [← hb]
  have kb : Blk wv b 50 cs := by rw [hwv, hb]; exact Blk.new _ _ _
  have gb : Below w.heap.size w wv := by rw [hwv]; exact (Below.refl _ _).alloc (Nat.le_refl _) _
  have HB := Lib.hid hb
  clear hwv hb
  have hr := HRT.out wv gb
  cases hx : rightE x
  case false =>
    rw [hx] at hr
    have he : putE x = ([], 2) := by unfold putE; rw [hx]; rfl
    have HE := Lib.hid he
    have HR := Lib.hid hr
    clear hr hx he
    go_wp2_with first
      | ((with_reducible refine wpList_ld rowE kb HCZ.out ?_ ?_); rotate_left; (rfl))
    refine HR.out.mono ?_
    rintro e w1 ⟨rfl, b1⟩
    go_wp2_with fail
    go_ret2
    exact ⟨none, 0, 0, by rw [HE.out]; rfl, by rw [HE.out]; exact OwnB.nil _ _, gb.trans (b1.mono gb.size)⟩
  case true =>
    rw [hx] at hr
    have he : putE x = (encE x, 0) := by unfold putE; rw [hx]; rfl
    have HE := Lib.hid he
    have hf := right_facts HP.out hx
    have hbd := numsE_bd HP.out hx
    have hlen := numsE_len x HP.out
    have h96 : m ≤ 96 := by rw [HM.out]; exact hf.2.2.1
    have HNL := Lib.hid (show (numsE x).length ≤ 205 by have := hf.2.2.1; omega)
    have hEE : encE x = encN ((numsE x).map Int.toNat) := rfl
    obtain ⟨L, hL⟩ : ∃ L, L = numsE x := ⟨_, rfl⟩
    have hnu := fun w' h => HNU.out w' h h96
    rw [← hL] at hbd HNL hnu
    rw [← hL] at hEE
    have HEE := Lib.hid hEE
    have HR := Lib.hid hr
    have HBD := Lib.hid hbd
    have HN2 := Lib.hid hnu
    clear hr hx he hf hbd hlen h96 hEE hL HNU hnu
    go_wp2_with first
      | ((with_reducible refine wpList_ld rowE kb HCZ.out ?_ ?_); rotate_left; (rfl))
    refine HR.out.mono ?_
    rintro e w1 ⟨rfl, b1⟩
    have kb1 := kb.below b1 kb.lt
    have gb1 := gb.trans (b1.mono gb.size)
    clear HR kb gb b1
    go_wp2_with first
      | ((with_reducible refine wpList_ld rowE kb1 HCZ.out ?_ ?_); rotate_left; (rfl))
    refine (HN2.out w1 gb1).mono ?_
    rintro e w2 ⟨A2, n2, c2, rfl, ho, b2⟩
    have gb2 := gb1.trans (b2.mono gb1.size)
    have hrd := ho.rd
    have HN := Lib.hid ho.1
    clear HN2 gb1 b2 ho kb1
    go_wp2_with fail
    go_loopw [4, 13] (fun s i wr => ∃ (j : Nat) (A' : Option Addr) (n' c' : Nat), j ≤ n2 ∧ i = .int .i64 j ∧ s = .slice A' n' c' ∧ OwnB wr w.heap.size A' n' c' (encN ((L.take j).map Int.toNat)) ∧ Below w2.heap.size w2 wr) (fun _ i _ => n2 - (intOf i).toNat)
    case atStart => exact ⟨0, none, 0, 0, by omega, rfl, rfl, by simpa [encN] using OwnB.nil w2 w.heap.size, Below.refl _ _⟩
    case round =>
      obtain ⟨j, A', n', c', hj, rfl, rfl, ho, gb⟩ := hrel
      by_cases hlt : j < n2
      · have hjl : j < L.length := by rw [← HN.out]; exact hlt
        obtain ⟨ad, hA, hab, hc⟩ := (hrd.below gb).at_ hjl
        have hst := encN_take L hjl
        have hz := HBD.out _ (List.getElem_mem hjl)
        generalize L[j] = z at *
        obtain ⟨z, rfl⟩ := Int.eq_ofNat_of_zero_le hz.1
        have HZ := Lib.hid (show z ≤ 1099511627776 by have := hz.2; unfold top at this; omega)
        rw [Int.toNat_natCast] at hst
        have HST := Lib.hid hst
        have hln := encN_len ((L.take j).map Int.toNat)
        rw [List.length_map, List.length_take] at hln
        have HLN := Lib.hid (show n' ≤ 140737488355000 by rw [ho.1]; have := HNL.out; omega)
        have hj0 : (0 : Int) ≤ (j : Int) := by omega
        have hjm : (j : Int) < (n2 : Int) := by omega
        have hc' : wr.cell? (ad.add j) = some (.int .i64 (z : Int)) := hc
        subst hA
        have HO := Lib.hid ho
        have HRP := Lib.hid (rput_ok A' n' c' _ z wr.heap.size wr ho.rd (Nat.le_refl _) HLN.out HZ.out)
        clear hz hst hln hc ho
        go_wp2_with fail
        refine HRP.out.mono ?_
        rintro e w3 ⟨A3, n3, c3, rfl, o3, b3⟩
        have gb3 := gb.trans (b3.mono gb.size)
        go_wp2_with fail
        go_roundw
        case rel => exact ⟨j + 1, A3, n3, c3, by omega, num_succ j (by have := HN.out; have := HNL.out; omega), rfl, by rw [HST.out]; exact o3.mono (by have := gb.size; have := gb2.size; omega), gb3⟩
        case measure => exact meas_succ j n2 hlt (by have := HN.out; have := HNL.out; omega)
      · rw [List.take_of_length_le (by rw [← HN.out]; omega)] at ho
        have HO := Lib.hid ho
        have hkd : decide ((j : Int) < (n2 : Int)) = false := decide_eq_false (by omega)
        clear ho
        go_wp2_with fail
        go_ret2
        exact ⟨A', n', c', by rw [HE.out]; rfl, by rw [HE.out, HEE.out]; exact HO.out, gb2.trans (gb.mono gb2.size)⟩
set_option maxRecDepth 100000 in
set_option maxHeartbeats 2000000 in
theorem rputAll07_any (A : Option Addr) (n c : Nat) (xs : List EvV) (w : World) (hn : n ≤ 10000000000000) (hR : RowEv w w.heap.size A n xs) :
    Calls Try.prog 41 #[.slice A n c] w (GiveBE w (putAllE xs).1 (putAllE xs).2) := by
  have HN := Lib.hid hR.1
  have HRK := Lib.hid fun (w' : World) (hb : Below w.heap.size w w') => hR.below hb
  have HNB := Lib.hid hn
  clear hR
  obtain ⟨B, hB⟩ : ∃ B, B = w.heap.size := ⟨_, rfl⟩
  have HB := Lib.hid hB
  rw [← hB] at HRK
  clear hB
  by_cases hbig : 768 < n
  · have hd : decide ((768 : Int) < (n : Int)) = true := decide_eq_true (by omega)
    have he : putAllE xs = ([], 6) := by unfold putAllE; rw [if_pos (by rw [← HN.out]; exact hbig)]
    have HE := Lib.hid he
    clear hbig he
    go_enter Try.func41, Try.ntmps41
    go_wp2_with fail
    go_ret2
    exact ⟨none, 0, 0, by rw [HE.out]; rfl, by rw [HE.out]; exact OwnB.nil _ _, Below.refl _ _⟩
  have hd : decide ((768 : Int) < (n : Int)) = false := decide_eq_false (by omega)
  have H768 := Lib.hid (show n ≤ 768 by omega)
  have HP := Lib.hid (rput_ok none 0 0 [] n w.heap.size w (RdB.nil _ _ _) (Nat.le_refl _) (by omega) (by omega))
  clear hbig
  go_enter Try.func41, Try.ntmps41
  go_wp2_with fail
  refine HP.out.mono ?_
  rintro e w1 ⟨A1, n1, c1, rfl, o1, b1⟩
  rw [← HB.out] at o1 b1
  clear hd HP
  go_wp2_with fail
  go_loopw [4, 21] (fun s i wr => ∃ (k : Nat) (A' : Option Addr) (n' c' : Nat), k ≤ n ∧ i = .int .i64 k ∧ s = .slice A' n' c' ∧ (∀ j x, j < k → xs[j]? = some x → rightE x.e = true) ∧ OwnB wr B A' n' c' (Vint.enc n ++ (xs.take k).flatMap fun x => encE x.e) ∧ Below B w wr) (fun _ i _ => n - (intOf i).toNat)
  case atStart => exact ⟨0, A1, n1, c1, by omega, rfl, rfl, fun j x hj => by omega, by simpa using o1, b1⟩
  case round =>
    clear o1 b1
    obtain ⟨k, A', n', c', hk, rfl, rfl, hall, ho, gb⟩ := hrel
    have HA := Lib.hid hall
    clear hall
    have hgs : B ≤ wr.heap.size := by have := gb.size; have := HB.out; omega
    by_cases hlt : k < n
    · have hkl : k < xs.length := by rw [← HN.out]; exact hlt
      obtain ⟨hok, ad, hA, hab, hcell⟩ := (HRK.out wr gb).2 k _ (List.getElem?_eq_getElem hkl)
      have hsn := take_snoc xs hkl
      have hkg := List.getElem?_eq_getElem hkl
      generalize xs[k] = x at *
      have hpr : ∀ y ∈ xs.take k, y.e.p.length = 7 ∧ rightE y.e = true := fun y hy => by
        obtain ⟨i, hi, rfl⟩ := List.getElem_of_mem hy
        rw [List.length_take] at hi
        have e1 : xs[i]? = some (xs.take k)[i] := by rw [List.getElem_take, List.getElem?_eq_getElem]
        exact ⟨((HRK.out wr gb).2 i _ e1).1.1, HA.out i _ (by omega) e1⟩
      have hlen := encAll_len _ hpr
      rw [List.length_take] at hlen
      have hl6 := enc_len6 n
      have HLL := Lib.hid (show n' ≤ 140737488350000 by rw [ho.1, List.length_append]; have := H768.out; omega)
      subst hA
      obtain ⟨cs, hcs⟩ : ∃ cs, cs = x.cs := ⟨_, rfl⟩
      have hec : ec x.e (.slice x.A x.m x.c) = cs := hcs.symm
      rw [← hcs] at hcell
      have HSZ := Lib.hid (show cs.size = 14 by rw [hcs]; rfl)
      have H1C := Lib.hid (show cs.all (·.oneCell') = true by rw [hcs]; exact x.one)
      have HC := Lib.hid hcell
      have HOK := Lib.hid hok
      have HSN := Lib.hid hsn
      have HKG := Lib.hid hkg
      have HEC := Lib.hid hec
      have hk0 : (0 : Int) ≤ (k : Int) := by omega
      have hkm : (k : Int) < (n : Int) := by omega
      clear hcs hec hcell hok hsn hkg hlen hl6 hpr
      go_upto_region 6 with fail
      go_upto_region 7 with first
        | ((with_reducible refine wpList_lda rowE HC.out HSZ.out ?_ ?_); rotate_left; (rfl))
        | ((with_reducible refine wpList_st rowE (Blk.new _ _ _) HSZ.out ?_ H1C.out ?_ ?_ ?_); (rfl); rotate_left; (rfl); (rfl); intro w6 k6 g6 z6)
      have bA : Below wr.heap.size wr w6 := (((Below.refl _ _).alloc (Nat.le_refl _) _).grown g6 (by simp) (fun q hq => by injection hq with hq; omega))
      have gb6 := gb.trans (bA.mono hgs)
      have o6 := ho.below bA (Nat.le_refl _)
      have hok6 := HOK.out.below (bA.mono hgs)
      obtain ⟨gr, hgr2⟩ : ∃ gr, gr = wr.heap.size := ⟨_, rfl⟩
      rw [← hgr2] at k6 ⊢
      have hs6 : B ≤ w6.heap.size := by have := gb6.size; have := HB.out; omega
      have hrp := rput07_any x.e hok6.1 x.A x.m x.c w6 (hok6.more hs6).2.1 (hok6.2.2)
      rw [HEC.out] at hrp
      have HRP := Lib.hid hrp
      clear hgr2 g6 z6 bA gb ho hok6 hrp
      go_wp2_with first
        | ((with_reducible refine wpList_ld rowE k6 HSZ.out ?_ ?_); rotate_left; (rfl))
      refine HRP.out.mono ?_
      rintro e w7 ⟨A7, n7, c7, rfl, o7, b7⟩
      have gb7 := gb6.trans (b7.mono hs6)
      have o67 := o6.below b7 (Nat.le_refl _)
      cases hx : rightE x.e
      case false =>
        have he : putAllE xs = ([], 2) := by
          unfold putAllE
          rw [if_neg (by rw [← HN.out]; have := H768.out; omega), if_neg]
          intro h
          have := List.all_eq_true.1 h x (List.mem_of_getElem? HKG.out)
          rw [hx] at this
          cases this
        have he2 : (putE x.e).2 = 2 := by unfold putE; rw [hx]; rfl
        have HE := Lib.hid he
        rw [he2]
        clear he hx he2 o7 b7
        go_wp2_with fail
        go_ret2
        exact ⟨none, 0, 0, by rw [HE.out]; rfl, by rw [HE.out]; exact OwnB.nil _ _, by rw [← HB.out]; exact gb7⟩
      case true =>
        have he2 : putE x.e = (encE x.e, 0) := by unfold putE; rw [hx]; rfl
        rw [he2] at o7 ⊢
        have hle := encE_len HOK.out.1 hx
        have HO7 := Lib.hid (show RdB w7 w7.heap.size A7 n7 (encE x.e) from o7.rd)
        have H7 := Lib.hid (show n7 ≤ 1230 by rw [o7.1]; exact hle)
        have HX := Lib.hid hx
        have hs7 : B ≤ w7.heap.size := by have := gb7.size; have := HB.out; omega
        clear hx he2 hle o7 b7
        go_wp2_with (at_builtin; refine wpList_appB rfl (.tmp 33) (.tmp 34) rfl rfl o67 rfl HO7.out ?he1 ?he2 ?_)
        case he1 => have := HLL.out; have := H7.out; omega
        case he2 => exact hs7
        intro A8 c8 w8 o8 g8 m8 b8
        have gb8 := gb7.trans b8
        clear g8 m8 b8
        go_wp2_with fail
        go_roundw
        case rel => exact ⟨k + 1, A8, _, c8, by omega, by go_num, rfl, fun j y hj hy => by
          by_cases e : j = k
          · subst e; rw [HKG.out] at hy; injection hy with hy; rw [← hy]; exact HX.out
          · exact HA.out j y (by omega) hy, by rw [HSN.out, List.flatMap_append]; simpa using o8, gb8⟩
        case measure => simp [intOf]; omega
    · have he : putAllE xs = (Vint.enc n ++ xs.flatMap fun x => encE x.e, 0) := by
        unfold putAllE
        rw [if_neg (by rw [← HN.out]; have := H768.out; omega), if_pos, ← HN.out]
        rw [List.all_eq_true]
        intro x hx
        obtain ⟨i, hi, rfl⟩ := List.getElem_of_mem hx
        exact HA.out i _ (by have := HN.out; omega) (List.getElem?_eq_getElem hi)
      have HE := Lib.hid he
      rw [List.take_of_length_le (by rw [← HN.out]; omega)] at ho
      have hkd : decide ((k : Int) < (n : Int)) = false := decide_eq_false (by omega)
      have HO := Lib.hid ho
      clear he ho
      go_wp2_with fail
      go_ret2
      exact ⟨A', n', c', by rw [HE.out]; rfl, by rw [HE.out, ← HB.out]; exact HO.out, by rw [← HB.out]; exact gb⟩
end Go.Proofs.Ytcgalmnllegnbaa

/- The walks of the document's Put of frames. -/
namespace Go.Proofs.Ytcgalmnllegnbaa
set_option linter.unusedVariables false
set_option linter.unusedSimpArgs false
set_option maxRecDepth 100000
open Go.RowKit
namespace Frame
theorem rput_long (A : Option Addr) (n c : Nat) (w : World) (hl : 4096 < n) :
    Calls Try.prog 42 #[.slice A n c] w fun e w' => e = .returned (.tuple #[.slice none 0 0, .int .i64 6]) ∧ w = w' := by
  have hd : decide ((4096 : Int) < (n : Int)) = true := decide_eq_true (by omega)
  go_enter Try.func42, Try.ntmps42
  go_wp2_with fail
  go_ret2
  exact ⟨rfl, rfl⟩
theorem rput_ok (A : Option Addr) (n c : Nat) (bs : List UInt8) (B : Nat) (w : World) (hb : RdB w B A n bs) (hB : B ≤ w.heap.size) (hl : n ≤ 4096) :
    Calls Try.prog 42 #[.slice A n c] w (GiveBE w (frm bs) 0) := by
  obtain rfl := hb.1
  have hd : decide ((4096 : Int) < (bs.length : Int)) = false := decide_eq_false (by omega)
  have hel := Vint.enc_length bs.length
  go_enter Try.func42, Try.ntmps42
  go_wp2_with fail
  refine (Go.Proofs.Ytcgalmnllegnbaa.rput_ok _ _ _ [1] bs.length _ _ (RdB.made _ [1] _ _ _ ?hx1) (by simp) (by simp) (by omega)).mono ?_
  case hx1 => rfl
  rintro e w1 ⟨A1, n1, c1, rfl, ho1, hb1⟩
  have hbl1 : Below w.heap.size w w1 := ((Below.refl _ _).alloc (Nat.le_refl _) _).trans (hb1.mono (by simp))
  have hr1 := (hb.more hB).below hbl1
  have ho1' := ho1.mono (base' := w.heap.size) (by simp)
  have hn1 := ho1.1
  rw [List.length_append] at hn1
  simp only [List.length_cons, List.length_nil] at hn1
  have hn7 : n1 ≤ 7 := by omega
  clear ho1 hel hn1
  go_wp2_with (at_builtin; refine wpList_appB rfl (.tmp 17) (.tmp 18) rfl rfl ho1' rfl hr1 ?hy0 hbl1.size ?_)
  case hy0 => omega
  intro A2 c2 w2 ho2 _ _ hbl2
  have hb2 := hbl1.trans hbl2
  have hd2 : OwnB w2 w.heap.size A2 (n1 + bs.length) c2 (head bs) := ho2
  clear ho2
  go_wp2_with fail
  refine (Crc.rsum_any _ _ _ _ _ _ hd2.rd (by unfold maxLen; omega)).mono ?_
  rintro e w3 ⟨rfl, rfl⟩
  have hs := Crc.sum_lt (head bs)
  obtain ⟨s, hs0⟩ : ∃ s, s = Crc.sum (head bs) := ⟨_, rfl⟩
  rw [← hs0] at hs ⊢
  have HS0 := Lib.hid hs0
  clear hs0
  go_wp2_with (at_builtin; refine wpList_appB rfl (.tmp 22) (.tmp 34) rfl rfl (hd2.alloc _) rfl (RdB.made _ (be s) _ _ _ ?hz1) ?hz0 ?hz2 ?_)
  case hz1 => simp [be, bv, Vint.toNat_ofNat]; omega
  case hz0 => show n1 + bs.length + 4 ≤ _; omega
  case hz2 => have := hb2.size; simp; omega
  intro A4 c4 w4 ho4 _ _ hbl4
  have hb4 := (hb2.alloc hb2.size _).trans hbl4
  go_wp2_with fail
  go_ret2
  refine ⟨_, _, _, rfl, ?_, hb4⟩
  rw [HS0.out] at ho4
  exact ho4
end Frame
end Go.Proofs.Ytcgalmnllegnbaa

/- The walk of the document's Put of a message, a kind at a time (printed by wip/gen/msgrput.py). -/
namespace Go.Proofs.Ytcgalmnllegnbaa
set_option linter.unusedVariables false
set_option linter.unusedSimpArgs false
set_option maxRecDepth 100000
open Go.RowKit
open Dot Evt
open Ms (Mem)
theorem rput17_bad (x : MgV) (w : World) (h : MgIn w x) (hR : Ms.rightM x.m = false) : Calls Try.prog 12 #[.agg x.cs] w (GiveBE w (Ms.putM x.m).1 (Ms.putM x.m).2) := by
  have HAT := Lib.hid (mgv_at x)
  have SZ := Lib.hid x.size
  have HRT := Lib.hid fun (w' : World) (hb : Below w.heap.size w w') => rright17_any x w' (h.below hb)
  have hp : Ms.putM x.m = ([], 2) := by unfold Ms.putM; rw [hR, if_neg (by decide)]
  have HP := Lib.hid hp
  rw [hR] at HRT
  clear hp h hR
  generalize hC : x.cs = C at *
  clear hC
  go_enter Try.func12, Try.ntmps12
  go_upto_region 1 with fail
  refine nameW ?_
  intro W hW
  obtain ⟨g, hg⟩ : ∃ g, g = w.heap.size := ⟨_, rfl⟩
  rw [← hg]
  have kb : Blk W g 27 C := by rw [hW, hg]; exact Blk.new w _ _
  have gb : Below w.heap.size w W := by rw [hW]; exact (Below.refl _ _).alloc (Nat.le_refl _) _
  have hge : w.heap.size ≤ g := by omega
  clear hW hg
  go_wp2_with ((with_reducible refine wpList_ld rowMg kb SZ.out ?_ ?_); rotate_left; (rfl))
  refine (HRT.out W gb).mono ?_
  rintro e w1 ⟨rfl, b1⟩
  have kb := kb.below b1 kb.lt
  have gb := gb.trans (b1.mono gb.size)
  clear b1
  go_wp2_with fail
  go_ret2
  rw [HP.out]
  exact ⟨none, 0, 0, rfl, OwnB.nil _ _, gb⟩
set_option maxHeartbeats 4000000 in
theorem rput17_k1 (x : MgV) (w : World) (h : MgIn w x) (hk : x.m.kind = 1) (hR : Ms.rightM x.m = true) : Calls Try.prog 12 #[.agg x.cs] w (GiveBE w (Ms.putM x.m).1 (Ms.putM x.m).2) := by
  have HAT := Lib.hid (mgv_at x)
  have SZ := Lib.hid x.size
  have HRT := Lib.hid fun (w' : World) (hb : Below w.heap.size w w') => rright17_any x w' (h.below hb)
  have HMB := Lib.hid fun (w' : World) (hb : Below w.heap.size w w') => (h.below hb).ok.mem
  have HN3 := Lib.hid (h.ok.mem.1)
  have hrh := Ms.right_head hR
  have hml := Ms.members_len hrh.2.2.2.1
  have HBD := Lib.hid (Ms.headN_bd hR)
  have HHL := Lib.hid (Ms.headN_len hR)
  have HRR := Lib.hid hR
  have HTN := Lib.hid (tail_len h.ok.ev h.ok.es h.ok.u hR)
  have hasks := ((Ms.right_iff x.m).1 hR).2.2.2
  have htm : Ms.tailM x.m = [] := by unfold Ms.tailM; rw [if_neg (by omega), if_neg (by omega)]
  have HTM := Lib.hid htm
  have hHN : Ms.headN x.m = [x.m.kind, x.m.frm, x.m.to, (x.n3 : Int)] ++ (x.m.mem.flatMap fun v : Mem => [v.1, v.2.1, v.2.2]) ++ [x.m.seq] ++ [] := by
    rw [Ms.headN_eq, HN3.out, if_pos (by omega), if_neg (by omega)]
  have HHN := Lib.hid hHN
  have hn38 : x.n3 ≤ 8 := by rw [HN3.out]; exact hml
  have HN8 := Lib.hid hn38
  rw [hR] at HRT
  have HK := Lib.hid hk
  clear h hR hrh hml hn38 hasks hHN hk
  clear htm
  generalize hC : x.cs = C at *
  clear hC
  go_enter Try.func12, Try.ntmps12
  go_upto_region 1 with fail
  refine nameW ?_
  intro W hW
  obtain ⟨g, hg⟩ : ∃ g, g = w.heap.size := ⟨_, rfl⟩
  rw [← hg]
  have kb : Blk W g 27 C := by rw [hW, hg]; exact Blk.new w _ _
  have gb : Below w.heap.size w W := by rw [hW]; exact (Below.refl _ _).alloc (Nat.le_refl _) _
  have hge : w.heap.size ≤ g := by omega
  clear hW hg
  go_wp2_with ((with_reducible refine wpList_ld rowMg kb SZ.out ?_ ?_); rotate_left; (rfl))
  refine (HRT.out W gb).mono ?_
  rintro e w1 ⟨rfl, b1⟩
  have kb := kb.below b1 kb.lt
  have gb := gb.trans (b1.mono gb.size)
  have t0 : w1.cell? ⟨g, 0, none⟩ = some (.int .i64 1) := by rw [kb.cell, HAT.out.1, HK.out]
  have t1 : w1.cell? ⟨g, 1, none⟩ = some (.int .i64 x.m.frm) := (kb.cell 1).trans HAT.out.2.1
  have t2 : w1.cell? ⟨g, 2, none⟩ = some (.int .i64 x.m.to) := (kb.cell 2).trans HAT.out.2.2.1
  have t15 : w1.cell? ⟨g, 15, none⟩ = some (.slice x.A3 x.n3 x.c3) := (kb.cell 15).trans HAT.out.2.2.2.2.2.2.2
  clear b1
  go_upto_region 4 with fail
  have o0 := OwnI.made w1 w1.heap.size [1, x.m.frm, x.m.to, (x.n3 : Int)] #[.int .i64 1, .int .i64 x.m.frm, .int .i64 x.m.to, .int .i64 x.n3] 4 rfl rfl (Nat.le_refl _) (by unfold maxLen; omega)
  have bn : Below w1.heap.size w1 (w1.alloc (.cells #[.int .i64 1, .int .i64 x.m.frm, .int .i64 x.m.to, .int .i64 x.n3] 3)) := (Below.refl _ _).alloc (Nat.le_refl _) _
  obtain ⟨D, hD⟩ : ∃ D, D = w1.heap.size := ⟨_, rfl⟩
  have hgD : g < D := by rw [hD]; exact kb.lt
  have k4 := kb.below bn kb.lt
  have gb4 := gb.trans (bn.mono gb.size)
  rw [← hD] at o0 bn ⊢
  have hDs : D ≤ (w1.alloc (.cells #[.int .i64 1, .int .i64 x.m.frm, .int .i64 x.m.to, .int .i64 x.n3] 3)).heap.size := by rw [hD]; simp
  generalize w1.alloc (.cells #[.int .i64 1, .int .i64 x.m.frm, .int .i64 x.m.to, .int .i64 x.n3] 3) = w4 at *
  have t15 : w4.cell? ⟨g, 15, none⟩ = some (.slice x.A3 x.n3 x.c3) := (k4.cell 15).trans HAT.out.2.2.2.2.2.2.2
  have hwD : w.heap.size ≤ D := by omega
  have HKB := Lib.hid (And.intro k4 gb4)
  have HO0 := Lib.hid o0
  clear bn hD o0 t0 t1 t2 kb gb k4 gb4
  go_wp2_with fail
  go_loopw [4, 30] (fun s i wr => ∃ (k : Nat) (A : Option Addr) (nc cc : Nat), k ≤ x.n3 ∧ i = .int .i64 (k : Nat) ∧ s = .slice A nc cc ∧ OwnI wr D A nc cc ([1, x.m.frm, x.m.to, (x.n3 : Int)] ++ (x.m.mem.take k).flatMap fun v => [v.1, v.2.1, v.2.2]) ∧ Below D w4 wr) (fun _ i _ => x.n3 - (intOf i).toNat)
  case atStart => exact ⟨0, _, 4, 4, by omega, rfl, rfl, by simpa using HO0.out, Below.refl _ _⟩
  case round =>
    obtain ⟨k, A5, n5, c5, hk, rfl, rfl, ho, bk⟩ := hrel
    have hm8 := HN8.out
    have hn5 : n5 ≤ 28 := by
      rw [ho.1, List.length_append, Ms.trip_len, List.length_take]
      simp only [List.length_cons, List.length_nil]
      omega
    by_cases hlt : k < x.n3
    · have hkl : k < x.m.mem.length := by rw [← HN3.out]; exact hlt
      obtain ⟨ad, hA, q5, q0, q1, q2⟩ := (HMB.out wr (HKB.out.2.trans (bk.mono hwD))).2 k _ (List.getElem?_eq_getElem hkl)
      have hst := Ms.trip_snoc x.m.mem hkl
      have hk0 : (0 : Int) ≤ (k : Int) := by omega
      have hkn : (k : Int) < (x.n3 : Int) := by omega
      have HO5 := Lib.hid ho
      generalize x.m.mem[k] = d at *
      obtain ⟨a1, a2, a3⟩ := d
      simp only at q0 q1 q2 hst
      have HST := Lib.hid hst
      clear hst ho
      rw [hA]
      go_upto_region 7 with ((with_reducible refine wpList_st (cs := #[.int .i64 a1, .int .i64 a2, .int .i64 a3]) rowMb (Blk.new _ _ _) (th_sizeM _ _ _) ?_ (th_oneM _ _ _) ?_ ?_ ?_); (rfl); rotate_left; (rfl); (rfl); intro w7 kq g7 z7)
      have bq : Below wr.heap.size wr w7 := new_below g7
      have HO6 := Lib.hid (HO5.out.below bq (Nat.le_refl _))
      have hDr : D ≤ wr.heap.size := Nat.le_trans hDs bk.size
      have b7 := bk.trans (bq.mono hDr)
      have hD7 : D ≤ w7.heap.size := Nat.le_trans hDr bq.size
      have d0 := kq.cell 0
      have d1 := kq.cell 1
      have d2 := kq.cell 2
      clear g7 z7 bq bk HO5 q5 q0 q1 q2
      go_wp2_with (at_builtin; refine stop ?_)
      unfold Stop
      have ba := b7.alloc hD7 (.cells #[.int .i64 a1, .int .i64 a2, .int .i64 a3] 3)
      refine wpList_appI rfl (.tmp 34) (.tmp 41) rfl (by rfl) (HO6.out.alloc _) (by rfl) (RdI.made w7 [a1, a2, a3] _ _ _ rfl) (by simp; omega) (Nat.le_trans hD7 (by simp)) ?_
      intro A8 c8 w8 ho8 _ _ b8
      have HO8 := Lib.hid ho8
      have b9 := ba.trans b8
      clear ho8 b8 ba b7
      go_wp2_with fail
      go_roundw
      case rel => exact ⟨k + 1, A8, _, c8, by omega, by go_num, rfl, by rw [HST.out, ← List.append_assoc]; exact HO8.out, b9⟩
      case measure => simp [intOf]; omega
    · obtain rfl : k = x.n3 := by omega
      have hfull : x.m.mem.take x.n3 = x.m.mem := List.take_of_length_le (by rw [← HN3.out]; omega)
      rw [hfull] at ho
      have hkd : decide ((x.n3 : Int) < (x.n3 : Int)) = false := decide_eq_false (by omega)
      have kb := HKB.out.1.below bk hgD
      have gb := HKB.out.2.trans (bk.mono hwD)
      have hDr : D ≤ wr.heap.size := Nat.le_trans hDs bk.size
      obtain ⟨L1, hL1⟩ : ∃ L1, L1 = [(1 : Int), x.m.frm, x.m.to, (x.n3 : Int)] ++ x.m.mem.flatMap fun v : Mem => [v.1, v.2.1, v.2.2] := ⟨_, rfl⟩
      rw [← hL1] at ho
      have hh2 : Ms.headN x.m = L1 ++ [x.m.seq] ++ [] := by rw [HHN.out, hL1, HK.out]
      have HHN2 := Lib.hid hh2
      obtain ⟨ws, hws⟩ : ∃ ws, ws = wr := ⟨_, rfl⟩
      have t0 : wr.cell? ⟨g, 0, none⟩ = some (.int .i64 1) := by rw [kb.cell, HAT.out.1, HK.out]
      have s3 : wr.cell? ⟨g, 3, none⟩ = some (.int .i64 x.m.seq) := (kb.cell 3).trans HAT.out.2.2.2.1
      have hnn : n5 ≤ 28 := hn5
      clear hfull hL1 hh2 bk hlt hk HKB HO0 HMB t15 hws hn5
      go_wp2_with (at_builtin; refine stop ?_)
      unfold Stop
      have ba := (Below.refl D wr).alloc hDr (.cells #[.int .i64 x.m.seq] 3)
      refine wpList_appI rfl (.tmp 47) (.tmp 50) rfl (by rfl) (ho.alloc _) (by rfl) (RdI.made wr [x.m.seq] _ _ _ rfl) (by simp; omega) (Nat.le_trans hDr (by simp)) ?_
      intro wuA wuc wu wuo _ _ wub
      have hq : n5 + [x.m.seq].length = (L1 ++ [x.m.seq]).length := wuo.1
      have hq2 : n5 + 1 = (L1 ++ [x.m.seq]).length := hq
      rw [hq] at wuo ⊢
      obtain ⟨L2, hL2⟩ : ∃ L2, L2 = L1 ++ [x.m.seq] := ⟨_, rfl⟩
      rw [← hL2] at wuo hq2 ⊢
      generalize hn8 : L2.length = n8 at wuo hq2 ⊢
      have hnn : n8 ≤ 29 := by omega
      have bb := ba.trans wub
      have kb := kb.below bb hgD
      have gb := gb.trans (bb.mono hwD)
      have hDr : D ≤ wu.heap.size := Nat.le_trans hDr bb.size
      have ho := wuo
      have t0 : wu.cell? ⟨g, 0, none⟩ = some (.int .i64 1) := by rw [kb.cell, HAT.out.1, HK.out]
      have s4 : wu.cell? ⟨g, 4, none⟩ = some (.int .i64 x.m.node) := (kb.cell 4).trans HAT.out.2.2.2.2.1
      clear ba bb wub wuo hq hn8 hq2
      have hms : L2 = Ms.headN x.m := by rw [HHN2.out, hL2, List.append_nil]
      have HMS := Lib.hid hms
      have HBD2 := Lib.hid (show ∀ z ∈ L2, 0 ≤ z ∧ z ≤ 1099511627776 by rw [hms]; exact HBD.out)
      have hg6 : g < wu.heap.size := kb.lt
      have hww : w.heap.size ≤ wu.heap.size := by omega
      have HKB := Lib.hid (And.intro kb gb)
      have HO := Lib.hid ho
      clear hms HBD HHN HHN2 kb gb ho s4 s3
      go_wp2_with fail
      go_loopw [7, 67] (fun s i wq => ∃ (j : Nat) (A' : Option Addr) (nc cc : Nat), j ≤ n8 ∧ i = .int .i64 (j : Nat) ∧ s = .slice A' nc cc ∧ OwnB wq wu.heap.size A' nc cc (encs (L2.take j)) ∧ Below wu.heap.size wu wq) (fun _ i _ => n8 - (intOf i).toNat)
      case atStart => exact ⟨0, none, 0, 0, by omega, rfl, rfl, OwnB.nil _ _, Below.refl _ _⟩
      case round =>
        obtain ⟨j, A', nc, cc, hj, rfl, rfl, ob, bl⟩ := hrel
        by_cases hjm : j < n8
        · have hjl : j < L2.length := by rw [← HO.out.1]; exact hjm
          obtain ⟨ad, hA7, _, c1⟩ := (HO.out.rd.below bl).at_ hjl
          have hxb := HBD2.out _ (List.getElem_mem hjl)
          have hes := encs_snoc L2 hjl
          have HES := Lib.hid hes
          have hel := encs_len (L2.take j)
          have hnb : nc ≤ 600 := by
            have h1 := ob.1
            have h2 : (L2.take j).length ≤ j := List.length_take_le _ _
            omega
          clear hes hel
          generalize L2[j] = z at *
          obtain ⟨z, rfl⟩ := Int.eq_ofNat_of_zero_le hxb.1
          rw [Int.toNat_natCast] at HES
          have hj0 : (0 : Int) ≤ (j : Int) := by omega
          have hj1 : (j : Int) < (n8 : Int) := by omega
          have HOB := Lib.hid ob
          clear ob
          rw [hA7]
          go_wp2_with fail
          refine (rput_ok A' nc cc _ z _ _ HOB.out.rd (Nat.le_refl _) (by omega) (by omega)).mono ?_
          rintro e w7 ⟨A8, n8', c8, rfl, o8, b8⟩
          have o9 : OwnB w7 wu.heap.size A8 n8' c8 (encs (L2.take (j + 1))) := by rw [HES.out]; exact o8.mono bl.size
          have B9 := bl.trans (b8.mono bl.size)
          have H9 := Lib.hid (And.intro o9 B9)
          clear o9 B9 o8 b8 HOB
          go_wp2_with fail
          go_roundw
          case rel => exact ⟨j + 1, A8, n8', c8, by omega, by go_num, rfl, H9.out⟩
          case measure => simp [intOf]; omega
        · have hfull : L2.take j = L2 := List.take_of_length_le (by rw [← HO.out.1]; omega)
          rw [hfull, HMS.out] at ob
          have hnb : nc ≤ 180 := by
            have h1 := ob.1
            have h2 := encs_len (Ms.headN x.m)
            have h3 := HHL.out
            omega
          have hkd : decide ((j : Int) < (n8 : Int)) = false := decide_eq_false (by omega)
          obtain ⟨w7, rfl⟩ : ∃ w7, w7 = wr := ⟨_, rfl⟩
          have kb := HKB.out.1.below bl hg6
          have gb := HKB.out.2.trans (bl.mono hww)
          have t0 : w7.cell? ⟨g, 0, none⟩ = some (.int .i64 1) := by rw [kb.cell, HAT.out.1, HK.out]
          have hb9 : wu.heap.size ≤ w7.heap.size := bl.size
          clear hfull HKB HO
          have hbody : encs (Ms.headN x.m) = Ms.bodyM x.m := by show _ = encs (Ms.headN x.m) ++ Ms.tailM x.m; rw [HTM.out, List.append_nil]
          rw [hbody] at ob
          have hla : nc = (Ms.bodyM x.m).length := ob.1
          have HOa := Lib.hid ob
          clear ob hbody
          by_cases hlong : nc ≤ 4096
          · have hp : Ms.putM x.m = (Frame.frm (Ms.bodyM x.m), 0) := by unfold Ms.putM; rw [if_pos HRR.out, if_pos (by rw [← hla]; exact hlong)]
            have HP := Lib.hid hp
            clear hp hla
            go_wp2_with fail
            refine (Frame.rput_ok _ _ _ (Ms.bodyM x.m) w7.heap.size w7 HOa.out.rd (Nat.le_refl _) hlong).mono ?_
            rintro e wf ⟨Af, nf, cf, rfl, of, bf⟩
            have gbf := gb.trans (bf.mono gb.size)
            have of' := of.mono (base' := w.heap.size) gb.size
            clear of bf
            go_wp2_with fail
            go_ret2
            rw [HP.out]
            exact ⟨Af, nf, cf, rfl, of', gbf⟩
          · exact absurd (show nc ≤ 4096 by omega) hlong
set_option maxHeartbeats 4000000 in
theorem rput17_k2 (x : MgV) (w : World) (h : MgIn w x) (hk : x.m.kind = 2) (hR : Ms.rightM x.m = true) : Calls Try.prog 12 #[.agg x.cs] w (GiveBE w (Ms.putM x.m).1 (Ms.putM x.m).2) := by
  have HAT := Lib.hid (mgv_at x)
  have SZ := Lib.hid x.size
  have HRT := Lib.hid fun (w' : World) (hb : Below w.heap.size w w') => rright17_any x w' (h.below hb)
  have HMB := Lib.hid fun (w' : World) (hb : Below w.heap.size w w') => (h.below hb).ok.mem
  have HN3 := Lib.hid (h.ok.mem.1)
  have hrh := Ms.right_head hR
  have hml := Ms.members_len hrh.2.2.2.1
  have HBD := Lib.hid (Ms.headN_bd hR)
  have HHL := Lib.hid (Ms.headN_len hR)
  have HRR := Lib.hid hR
  have HTN := Lib.hid (tail_len h.ok.ev h.ok.es h.ok.u hR)
  have hasks := ((Ms.right_iff x.m).1 hR).2.2.2
  have htm : Ms.tailM x.m = [] := by unfold Ms.tailM; rw [if_neg (by omega), if_neg (by omega)]
  have HTM := Lib.hid htm
  have hHN : Ms.headN x.m = [x.m.kind, x.m.frm, x.m.to, (x.n3 : Int)] ++ (x.m.mem.flatMap fun v : Mem => [v.1, v.2.1, v.2.2]) ++ [x.m.seq] ++ [x.m.node] := by
    rw [Ms.headN_eq, HN3.out, if_pos (by omega), if_pos (by omega)]
  have HHN := Lib.hid hHN
  have hn38 : x.n3 ≤ 8 := by rw [HN3.out]; exact hml
  have HN8 := Lib.hid hn38
  rw [hR] at HRT
  have HK := Lib.hid hk
  clear h hR hrh hml hn38 hasks hHN hk
  clear htm
  generalize hC : x.cs = C at *
  clear hC
  go_enter Try.func12, Try.ntmps12
  go_upto_region 1 with fail
  refine nameW ?_
  intro W hW
  obtain ⟨g, hg⟩ : ∃ g, g = w.heap.size := ⟨_, rfl⟩
  rw [← hg]
  have kb : Blk W g 27 C := by rw [hW, hg]; exact Blk.new w _ _
  have gb : Below w.heap.size w W := by rw [hW]; exact (Below.refl _ _).alloc (Nat.le_refl _) _
  have hge : w.heap.size ≤ g := by omega
  clear hW hg
  go_wp2_with ((with_reducible refine wpList_ld rowMg kb SZ.out ?_ ?_); rotate_left; (rfl))
  refine (HRT.out W gb).mono ?_
  rintro e w1 ⟨rfl, b1⟩
  have kb := kb.below b1 kb.lt
  have gb := gb.trans (b1.mono gb.size)
  have t0 : w1.cell? ⟨g, 0, none⟩ = some (.int .i64 2) := by rw [kb.cell, HAT.out.1, HK.out]
  have t1 : w1.cell? ⟨g, 1, none⟩ = some (.int .i64 x.m.frm) := (kb.cell 1).trans HAT.out.2.1
  have t2 : w1.cell? ⟨g, 2, none⟩ = some (.int .i64 x.m.to) := (kb.cell 2).trans HAT.out.2.2.1
  have t15 : w1.cell? ⟨g, 15, none⟩ = some (.slice x.A3 x.n3 x.c3) := (kb.cell 15).trans HAT.out.2.2.2.2.2.2.2
  clear b1
  go_upto_region 4 with fail
  have o0 := OwnI.made w1 w1.heap.size [2, x.m.frm, x.m.to, (x.n3 : Int)] #[.int .i64 2, .int .i64 x.m.frm, .int .i64 x.m.to, .int .i64 x.n3] 4 rfl rfl (Nat.le_refl _) (by unfold maxLen; omega)
  have bn : Below w1.heap.size w1 (w1.alloc (.cells #[.int .i64 2, .int .i64 x.m.frm, .int .i64 x.m.to, .int .i64 x.n3] 3)) := (Below.refl _ _).alloc (Nat.le_refl _) _
  obtain ⟨D, hD⟩ : ∃ D, D = w1.heap.size := ⟨_, rfl⟩
  have hgD : g < D := by rw [hD]; exact kb.lt
  have k4 := kb.below bn kb.lt
  have gb4 := gb.trans (bn.mono gb.size)
  rw [← hD] at o0 bn ⊢
  have hDs : D ≤ (w1.alloc (.cells #[.int .i64 2, .int .i64 x.m.frm, .int .i64 x.m.to, .int .i64 x.n3] 3)).heap.size := by rw [hD]; simp
  generalize w1.alloc (.cells #[.int .i64 2, .int .i64 x.m.frm, .int .i64 x.m.to, .int .i64 x.n3] 3) = w4 at *
  have t15 : w4.cell? ⟨g, 15, none⟩ = some (.slice x.A3 x.n3 x.c3) := (k4.cell 15).trans HAT.out.2.2.2.2.2.2.2
  have hwD : w.heap.size ≤ D := by omega
  have HKB := Lib.hid (And.intro k4 gb4)
  have HO0 := Lib.hid o0
  clear bn hD o0 t0 t1 t2 kb gb k4 gb4
  go_wp2_with fail
  go_loopw [4, 30] (fun s i wr => ∃ (k : Nat) (A : Option Addr) (nc cc : Nat), k ≤ x.n3 ∧ i = .int .i64 (k : Nat) ∧ s = .slice A nc cc ∧ OwnI wr D A nc cc ([2, x.m.frm, x.m.to, (x.n3 : Int)] ++ (x.m.mem.take k).flatMap fun v => [v.1, v.2.1, v.2.2]) ∧ Below D w4 wr) (fun _ i _ => x.n3 - (intOf i).toNat)
  case atStart => exact ⟨0, _, 4, 4, by omega, rfl, rfl, by simpa using HO0.out, Below.refl _ _⟩
  case round =>
    obtain ⟨k, A5, n5, c5, hk, rfl, rfl, ho, bk⟩ := hrel
    have hm8 := HN8.out
    have hn5 : n5 ≤ 28 := by
      rw [ho.1, List.length_append, Ms.trip_len, List.length_take]
      simp only [List.length_cons, List.length_nil]
      omega
    by_cases hlt : k < x.n3
    · have hkl : k < x.m.mem.length := by rw [← HN3.out]; exact hlt
      obtain ⟨ad, hA, q5, q0, q1, q2⟩ := (HMB.out wr (HKB.out.2.trans (bk.mono hwD))).2 k _ (List.getElem?_eq_getElem hkl)
      have hst := Ms.trip_snoc x.m.mem hkl
      have hk0 : (0 : Int) ≤ (k : Int) := by omega
      have hkn : (k : Int) < (x.n3 : Int) := by omega
      have HO5 := Lib.hid ho
      generalize x.m.mem[k] = d at *
      obtain ⟨a1, a2, a3⟩ := d
      simp only at q0 q1 q2 hst
      have HST := Lib.hid hst
      clear hst ho
      rw [hA]
      go_upto_region 7 with ((with_reducible refine wpList_st (cs := #[.int .i64 a1, .int .i64 a2, .int .i64 a3]) rowMb (Blk.new _ _ _) (th_sizeM _ _ _) ?_ (th_oneM _ _ _) ?_ ?_ ?_); (rfl); rotate_left; (rfl); (rfl); intro w7 kq g7 z7)
      have bq : Below wr.heap.size wr w7 := new_below g7
      have HO6 := Lib.hid (HO5.out.below bq (Nat.le_refl _))
      have hDr : D ≤ wr.heap.size := Nat.le_trans hDs bk.size
      have b7 := bk.trans (bq.mono hDr)
      have hD7 : D ≤ w7.heap.size := Nat.le_trans hDr bq.size
      have d0 := kq.cell 0
      have d1 := kq.cell 1
      have d2 := kq.cell 2
      clear g7 z7 bq bk HO5 q5 q0 q1 q2
      go_wp2_with (at_builtin; refine stop ?_)
      unfold Stop
      have ba := b7.alloc hD7 (.cells #[.int .i64 a1, .int .i64 a2, .int .i64 a3] 3)
      refine wpList_appI rfl (.tmp 34) (.tmp 41) rfl (by rfl) (HO6.out.alloc _) (by rfl) (RdI.made w7 [a1, a2, a3] _ _ _ rfl) (by simp; omega) (Nat.le_trans hD7 (by simp)) ?_
      intro A8 c8 w8 ho8 _ _ b8
      have HO8 := Lib.hid ho8
      have b9 := ba.trans b8
      clear ho8 b8 ba b7
      go_wp2_with fail
      go_roundw
      case rel => exact ⟨k + 1, A8, _, c8, by omega, by go_num, rfl, by rw [HST.out, ← List.append_assoc]; exact HO8.out, b9⟩
      case measure => simp [intOf]; omega
    · obtain rfl : k = x.n3 := by omega
      have hfull : x.m.mem.take x.n3 = x.m.mem := List.take_of_length_le (by rw [← HN3.out]; omega)
      rw [hfull] at ho
      have hkd : decide ((x.n3 : Int) < (x.n3 : Int)) = false := decide_eq_false (by omega)
      have kb := HKB.out.1.below bk hgD
      have gb := HKB.out.2.trans (bk.mono hwD)
      have hDr : D ≤ wr.heap.size := Nat.le_trans hDs bk.size
      obtain ⟨L1, hL1⟩ : ∃ L1, L1 = [(2 : Int), x.m.frm, x.m.to, (x.n3 : Int)] ++ x.m.mem.flatMap fun v : Mem => [v.1, v.2.1, v.2.2] := ⟨_, rfl⟩
      rw [← hL1] at ho
      have hh2 : Ms.headN x.m = L1 ++ [x.m.seq] ++ [x.m.node] := by rw [HHN.out, hL1, HK.out]
      have HHN2 := Lib.hid hh2
      obtain ⟨ws, hws⟩ : ∃ ws, ws = wr := ⟨_, rfl⟩
      have t0 : wr.cell? ⟨g, 0, none⟩ = some (.int .i64 2) := by rw [kb.cell, HAT.out.1, HK.out]
      have s3 : wr.cell? ⟨g, 3, none⟩ = some (.int .i64 x.m.seq) := (kb.cell 3).trans HAT.out.2.2.2.1
      have hnn : n5 ≤ 28 := hn5
      clear hfull hL1 hh2 bk hlt hk HKB HO0 HMB t15 hws hn5
      go_wp2_with (at_builtin; refine stop ?_)
      unfold Stop
      have ba := (Below.refl D wr).alloc hDr (.cells #[.int .i64 x.m.seq] 3)
      refine wpList_appI rfl (.tmp 47) (.tmp 50) rfl (by rfl) (ho.alloc _) (by rfl) (RdI.made wr [x.m.seq] _ _ _ rfl) (by simp; omega) (Nat.le_trans hDr (by simp)) ?_
      intro wuA wuc wu wuo _ _ wub
      have hq : n5 + [x.m.seq].length = (L1 ++ [x.m.seq]).length := wuo.1
      have hq2 : n5 + 1 = (L1 ++ [x.m.seq]).length := hq
      rw [hq] at wuo ⊢
      obtain ⟨L2, hL2⟩ : ∃ L2, L2 = L1 ++ [x.m.seq] := ⟨_, rfl⟩
      rw [← hL2] at wuo hq2 ⊢
      generalize hn8 : L2.length = n8 at wuo hq2 ⊢
      have hnn : n8 ≤ 29 := by omega
      have bb := ba.trans wub
      have kb := kb.below bb hgD
      have gb := gb.trans (bb.mono hwD)
      have hDr : D ≤ wu.heap.size := Nat.le_trans hDr bb.size
      have ho := wuo
      have t0 : wu.cell? ⟨g, 0, none⟩ = some (.int .i64 2) := by rw [kb.cell, HAT.out.1, HK.out]
      have s4 : wu.cell? ⟨g, 4, none⟩ = some (.int .i64 x.m.node) := (kb.cell 4).trans HAT.out.2.2.2.2.1
      clear ba bb wub wuo hq hn8 hq2
      go_wp2_with (at_builtin; refine stop ?_)
      unfold Stop
      have ba := (Below.refl D wu).alloc hDr (.cells #[.int .i64 x.m.node] 3)
      refine wpList_appI rfl (.tmp 60) (.tmp 63) rfl (by rfl) (ho.alloc _) (by rfl) (RdI.made wu [x.m.node] _ _ _ rfl) (by simp; omega) (Nat.le_trans hDr (by simp)) ?_
      intro wvA wvc wv wvo _ _ wvb
      have hq : n8 + [x.m.node].length = (L2 ++ [x.m.node]).length := wvo.1
      have hq2 : n8 + 1 = (L2 ++ [x.m.node]).length := hq
      rw [hq] at wvo ⊢
      obtain ⟨L3, hL3⟩ : ∃ L3, L3 = L2 ++ [x.m.node] := ⟨_, rfl⟩
      rw [← hL3] at wvo hq2 ⊢
      generalize hn9 : L3.length = n9 at wvo hq2 ⊢
      have hnn : n9 ≤ 30 := by omega
      have bb := ba.trans wvb
      have kb := kb.below bb hgD
      have gb := gb.trans (bb.mono hwD)
      have hDr : D ≤ wv.heap.size := Nat.le_trans hDr bb.size
      have ho := wvo
      have t0 : wv.cell? ⟨g, 0, none⟩ = some (.int .i64 2) := by rw [kb.cell, HAT.out.1, HK.out]
      have s4 : wv.cell? ⟨g, 4, none⟩ = some (.int .i64 x.m.node) := (kb.cell 4).trans HAT.out.2.2.2.2.1
      clear ba bb wvb wvo hq hn9 hq2
      have hms : L3 = Ms.headN x.m := by rw [HHN2.out, hL3, hL2]
      have HMS := Lib.hid hms
      have HBD2 := Lib.hid (show ∀ z ∈ L3, 0 ≤ z ∧ z ≤ 1099511627776 by rw [hms]; exact HBD.out)
      have hg6 : g < wv.heap.size := kb.lt
      have hww : w.heap.size ≤ wv.heap.size := by omega
      have HKB := Lib.hid (And.intro kb gb)
      have HO := Lib.hid ho
      clear hms HBD HHN HHN2 kb gb ho s4 s3
      go_wp2_with fail
      go_loopw [7, 67] (fun s i wq => ∃ (j : Nat) (A' : Option Addr) (nc cc : Nat), j ≤ n9 ∧ i = .int .i64 (j : Nat) ∧ s = .slice A' nc cc ∧ OwnB wq wv.heap.size A' nc cc (encs (L3.take j)) ∧ Below wv.heap.size wv wq) (fun _ i _ => n9 - (intOf i).toNat)
      case atStart => exact ⟨0, none, 0, 0, by omega, rfl, rfl, OwnB.nil _ _, Below.refl _ _⟩
      case round =>
        obtain ⟨j, A', nc, cc, hj, rfl, rfl, ob, bl⟩ := hrel
        by_cases hjm : j < n9
        · have hjl : j < L3.length := by rw [← HO.out.1]; exact hjm
          obtain ⟨ad, hA7, _, c1⟩ := (HO.out.rd.below bl).at_ hjl
          have hxb := HBD2.out _ (List.getElem_mem hjl)
          have hes := encs_snoc L3 hjl
          have HES := Lib.hid hes
          have hel := encs_len (L3.take j)
          have hnb : nc ≤ 600 := by
            have h1 := ob.1
            have h2 : (L3.take j).length ≤ j := List.length_take_le _ _
            omega
          clear hes hel
          generalize L3[j] = z at *
          obtain ⟨z, rfl⟩ := Int.eq_ofNat_of_zero_le hxb.1
          rw [Int.toNat_natCast] at HES
          have hj0 : (0 : Int) ≤ (j : Int) := by omega
          have hj1 : (j : Int) < (n9 : Int) := by omega
          have HOB := Lib.hid ob
          clear ob
          rw [hA7]
          go_wp2_with fail
          refine (rput_ok A' nc cc _ z _ _ HOB.out.rd (Nat.le_refl _) (by omega) (by omega)).mono ?_
          rintro e w7 ⟨A8, n8', c8, rfl, o8, b8⟩
          have o9 : OwnB w7 wv.heap.size A8 n8' c8 (encs (L3.take (j + 1))) := by rw [HES.out]; exact o8.mono bl.size
          have B9 := bl.trans (b8.mono bl.size)
          have H9 := Lib.hid (And.intro o9 B9)
          clear o9 B9 o8 b8 HOB
          go_wp2_with fail
          go_roundw
          case rel => exact ⟨j + 1, A8, n8', c8, by omega, by go_num, rfl, H9.out⟩
          case measure => simp [intOf]; omega
        · have hfull : L3.take j = L3 := List.take_of_length_le (by rw [← HO.out.1]; omega)
          rw [hfull, HMS.out] at ob
          have hnb : nc ≤ 180 := by
            have h1 := ob.1
            have h2 := encs_len (Ms.headN x.m)
            have h3 := HHL.out
            omega
          have hkd : decide ((j : Int) < (n9 : Int)) = false := decide_eq_false (by omega)
          obtain ⟨w7, rfl⟩ : ∃ w7, w7 = wr := ⟨_, rfl⟩
          have kb := HKB.out.1.below bl hg6
          have gb := HKB.out.2.trans (bl.mono hww)
          have t0 : w7.cell? ⟨g, 0, none⟩ = some (.int .i64 2) := by rw [kb.cell, HAT.out.1, HK.out]
          have hb9 : wv.heap.size ≤ w7.heap.size := bl.size
          clear hfull HKB HO
          have hbody : encs (Ms.headN x.m) = Ms.bodyM x.m := by show _ = encs (Ms.headN x.m) ++ Ms.tailM x.m; rw [HTM.out, List.append_nil]
          rw [hbody] at ob
          have hla : nc = (Ms.bodyM x.m).length := ob.1
          have HOa := Lib.hid ob
          clear ob hbody
          by_cases hlong : nc ≤ 4096
          · have hp : Ms.putM x.m = (Frame.frm (Ms.bodyM x.m), 0) := by unfold Ms.putM; rw [if_pos HRR.out, if_pos (by rw [← hla]; exact hlong)]
            have HP := Lib.hid hp
            clear hp hla
            go_wp2_with fail
            refine (Frame.rput_ok _ _ _ (Ms.bodyM x.m) w7.heap.size w7 HOa.out.rd (Nat.le_refl _) hlong).mono ?_
            rintro e wf ⟨Af, nf, cf, rfl, of, bf⟩
            have gbf := gb.trans (bf.mono gb.size)
            have of' := of.mono (base' := w.heap.size) gb.size
            clear of bf
            go_wp2_with fail
            go_ret2
            rw [HP.out]
            exact ⟨Af, nf, cf, rfl, of', gbf⟩
          · exact absurd (show nc ≤ 4096 by omega) hlong
set_option maxHeartbeats 4000000 in
theorem rput17_k3 (x : MgV) (w : World) (h : MgIn w x) (hk : x.m.kind = 3) (hR : Ms.rightM x.m = true) : Calls Try.prog 12 #[.agg x.cs] w (GiveBE w (Ms.putM x.m).1 (Ms.putM x.m).2) := by
  have HAT := Lib.hid (mgv_at x)
  have SZ := Lib.hid x.size
  have HRT := Lib.hid fun (w' : World) (hb : Below w.heap.size w w') => rright17_any x w' (h.below hb)
  have HMB := Lib.hid fun (w' : World) (hb : Below w.heap.size w w') => (h.below hb).ok.mem
  have HN3 := Lib.hid (h.ok.mem.1)
  have hrh := Ms.right_head hR
  have hml := Ms.members_len hrh.2.2.2.1
  have HBD := Lib.hid (Ms.headN_bd hR)
  have HHL := Lib.hid (Ms.headN_len hR)
  have HRR := Lib.hid hR
  have HTN := Lib.hid (tail_len h.ok.ev h.ok.es h.ok.u hR)
  have hasks := ((Ms.right_iff x.m).1 hR).2.2.2
  have htm : Ms.tailM x.m = [] := by unfold Ms.tailM; rw [if_neg (by omega), if_neg (by omega)]
  have HTM := Lib.hid htm
  have hHN : Ms.headN x.m = [x.m.kind, x.m.frm, x.m.to, (x.n3 : Int)] ++ (x.m.mem.flatMap fun v : Mem => [v.1, v.2.1, v.2.2]) ++ [x.m.seq] ++ [x.m.node] := by
    rw [Ms.headN_eq, HN3.out, if_pos (by omega), if_pos (by omega)]
  have HHN := Lib.hid hHN
  have hn38 : x.n3 ≤ 8 := by rw [HN3.out]; exact hml
  have HN8 := Lib.hid hn38
  rw [hR] at HRT
  have HK := Lib.hid hk
  clear h hR hrh hml hn38 hasks hHN hk
  clear htm
  generalize hC : x.cs = C at *
  clear hC
  go_enter Try.func12, Try.ntmps12
  go_upto_region 1 with fail
  refine nameW ?_
  intro W hW
  obtain ⟨g, hg⟩ : ∃ g, g = w.heap.size := ⟨_, rfl⟩
  rw [← hg]
  have kb : Blk W g 27 C := by rw [hW, hg]; exact Blk.new w _ _
  have gb : Below w.heap.size w W := by rw [hW]; exact (Below.refl _ _).alloc (Nat.le_refl _) _
  have hge : w.heap.size ≤ g := by omega
  clear hW hg
  go_wp2_with ((with_reducible refine wpList_ld rowMg kb SZ.out ?_ ?_); rotate_left; (rfl))
  refine (HRT.out W gb).mono ?_
  rintro e w1 ⟨rfl, b1⟩
  have kb := kb.below b1 kb.lt
  have gb := gb.trans (b1.mono gb.size)
  have t0 : w1.cell? ⟨g, 0, none⟩ = some (.int .i64 3) := by rw [kb.cell, HAT.out.1, HK.out]
  have t1 : w1.cell? ⟨g, 1, none⟩ = some (.int .i64 x.m.frm) := (kb.cell 1).trans HAT.out.2.1
  have t2 : w1.cell? ⟨g, 2, none⟩ = some (.int .i64 x.m.to) := (kb.cell 2).trans HAT.out.2.2.1
  have t15 : w1.cell? ⟨g, 15, none⟩ = some (.slice x.A3 x.n3 x.c3) := (kb.cell 15).trans HAT.out.2.2.2.2.2.2.2
  clear b1
  go_upto_region 4 with fail
  have o0 := OwnI.made w1 w1.heap.size [3, x.m.frm, x.m.to, (x.n3 : Int)] #[.int .i64 3, .int .i64 x.m.frm, .int .i64 x.m.to, .int .i64 x.n3] 4 rfl rfl (Nat.le_refl _) (by unfold maxLen; omega)
  have bn : Below w1.heap.size w1 (w1.alloc (.cells #[.int .i64 3, .int .i64 x.m.frm, .int .i64 x.m.to, .int .i64 x.n3] 3)) := (Below.refl _ _).alloc (Nat.le_refl _) _
  obtain ⟨D, hD⟩ : ∃ D, D = w1.heap.size := ⟨_, rfl⟩
  have hgD : g < D := by rw [hD]; exact kb.lt
  have k4 := kb.below bn kb.lt
  have gb4 := gb.trans (bn.mono gb.size)
  rw [← hD] at o0 bn ⊢
  have hDs : D ≤ (w1.alloc (.cells #[.int .i64 3, .int .i64 x.m.frm, .int .i64 x.m.to, .int .i64 x.n3] 3)).heap.size := by rw [hD]; simp
  generalize w1.alloc (.cells #[.int .i64 3, .int .i64 x.m.frm, .int .i64 x.m.to, .int .i64 x.n3] 3) = w4 at *
  have t15 : w4.cell? ⟨g, 15, none⟩ = some (.slice x.A3 x.n3 x.c3) := (k4.cell 15).trans HAT.out.2.2.2.2.2.2.2
  have hwD : w.heap.size ≤ D := by omega
  have HKB := Lib.hid (And.intro k4 gb4)
  have HO0 := Lib.hid o0
  clear bn hD o0 t0 t1 t2 kb gb k4 gb4
  go_wp2_with fail
  go_loopw [4, 30] (fun s i wr => ∃ (k : Nat) (A : Option Addr) (nc cc : Nat), k ≤ x.n3 ∧ i = .int .i64 (k : Nat) ∧ s = .slice A nc cc ∧ OwnI wr D A nc cc ([3, x.m.frm, x.m.to, (x.n3 : Int)] ++ (x.m.mem.take k).flatMap fun v => [v.1, v.2.1, v.2.2]) ∧ Below D w4 wr) (fun _ i _ => x.n3 - (intOf i).toNat)
  case atStart => exact ⟨0, _, 4, 4, by omega, rfl, rfl, by simpa using HO0.out, Below.refl _ _⟩
  case round =>
    obtain ⟨k, A5, n5, c5, hk, rfl, rfl, ho, bk⟩ := hrel
    have hm8 := HN8.out
    have hn5 : n5 ≤ 28 := by
      rw [ho.1, List.length_append, Ms.trip_len, List.length_take]
      simp only [List.length_cons, List.length_nil]
      omega
    by_cases hlt : k < x.n3
    · have hkl : k < x.m.mem.length := by rw [← HN3.out]; exact hlt
      obtain ⟨ad, hA, q5, q0, q1, q2⟩ := (HMB.out wr (HKB.out.2.trans (bk.mono hwD))).2 k _ (List.getElem?_eq_getElem hkl)
      have hst := Ms.trip_snoc x.m.mem hkl
      have hk0 : (0 : Int) ≤ (k : Int) := by omega
      have hkn : (k : Int) < (x.n3 : Int) := by omega
      have HO5 := Lib.hid ho
      generalize x.m.mem[k] = d at *
      obtain ⟨a1, a2, a3⟩ := d
      simp only at q0 q1 q2 hst
      have HST := Lib.hid hst
      clear hst ho
      rw [hA]
      go_upto_region 7 with ((with_reducible refine wpList_st (cs := #[.int .i64 a1, .int .i64 a2, .int .i64 a3]) rowMb (Blk.new _ _ _) (th_sizeM _ _ _) ?_ (th_oneM _ _ _) ?_ ?_ ?_); (rfl); rotate_left; (rfl); (rfl); intro w7 kq g7 z7)
      have bq : Below wr.heap.size wr w7 := new_below g7
      have HO6 := Lib.hid (HO5.out.below bq (Nat.le_refl _))
      have hDr : D ≤ wr.heap.size := Nat.le_trans hDs bk.size
      have b7 := bk.trans (bq.mono hDr)
      have hD7 : D ≤ w7.heap.size := Nat.le_trans hDr bq.size
      have d0 := kq.cell 0
      have d1 := kq.cell 1
      have d2 := kq.cell 2
      clear g7 z7 bq bk HO5 q5 q0 q1 q2
      go_wp2_with (at_builtin; refine stop ?_)
      unfold Stop
      have ba := b7.alloc hD7 (.cells #[.int .i64 a1, .int .i64 a2, .int .i64 a3] 3)
      refine wpList_appI rfl (.tmp 34) (.tmp 41) rfl (by rfl) (HO6.out.alloc _) (by rfl) (RdI.made w7 [a1, a2, a3] _ _ _ rfl) (by simp; omega) (Nat.le_trans hD7 (by simp)) ?_
      intro A8 c8 w8 ho8 _ _ b8
      have HO8 := Lib.hid ho8
      have b9 := ba.trans b8
      clear ho8 b8 ba b7
      go_wp2_with fail
      go_roundw
      case rel => exact ⟨k + 1, A8, _, c8, by omega, by go_num, rfl, by rw [HST.out, ← List.append_assoc]; exact HO8.out, b9⟩
      case measure => simp [intOf]; omega
    · obtain rfl : k = x.n3 := by omega
      have hfull : x.m.mem.take x.n3 = x.m.mem := List.take_of_length_le (by rw [← HN3.out]; omega)
      rw [hfull] at ho
      have hkd : decide ((x.n3 : Int) < (x.n3 : Int)) = false := decide_eq_false (by omega)
      have kb := HKB.out.1.below bk hgD
      have gb := HKB.out.2.trans (bk.mono hwD)
      have hDr : D ≤ wr.heap.size := Nat.le_trans hDs bk.size
      obtain ⟨L1, hL1⟩ : ∃ L1, L1 = [(3 : Int), x.m.frm, x.m.to, (x.n3 : Int)] ++ x.m.mem.flatMap fun v : Mem => [v.1, v.2.1, v.2.2] := ⟨_, rfl⟩
      rw [← hL1] at ho
      have hh2 : Ms.headN x.m = L1 ++ [x.m.seq] ++ [x.m.node] := by rw [HHN.out, hL1, HK.out]
      have HHN2 := Lib.hid hh2
      obtain ⟨ws, hws⟩ : ∃ ws, ws = wr := ⟨_, rfl⟩
      have t0 : wr.cell? ⟨g, 0, none⟩ = some (.int .i64 3) := by rw [kb.cell, HAT.out.1, HK.out]
      have s3 : wr.cell? ⟨g, 3, none⟩ = some (.int .i64 x.m.seq) := (kb.cell 3).trans HAT.out.2.2.2.1
      have hnn : n5 ≤ 28 := hn5
      clear hfull hL1 hh2 bk hlt hk HKB HO0 HMB t15 hws hn5
      go_wp2_with (at_builtin; refine stop ?_)
      unfold Stop
      have ba := (Below.refl D wr).alloc hDr (.cells #[.int .i64 x.m.seq] 3)
      refine wpList_appI rfl (.tmp 47) (.tmp 50) rfl (by rfl) (ho.alloc _) (by rfl) (RdI.made wr [x.m.seq] _ _ _ rfl) (by simp; omega) (Nat.le_trans hDr (by simp)) ?_
      intro wuA wuc wu wuo _ _ wub
      have hq : n5 + [x.m.seq].length = (L1 ++ [x.m.seq]).length := wuo.1
      have hq2 : n5 + 1 = (L1 ++ [x.m.seq]).length := hq
      rw [hq] at wuo ⊢
      obtain ⟨L2, hL2⟩ : ∃ L2, L2 = L1 ++ [x.m.seq] := ⟨_, rfl⟩
      rw [← hL2] at wuo hq2 ⊢
      generalize hn8 : L2.length = n8 at wuo hq2 ⊢
      have hnn : n8 ≤ 29 := by omega
      have bb := ba.trans wub
      have kb := kb.below bb hgD
      have gb := gb.trans (bb.mono hwD)
      have hDr : D ≤ wu.heap.size := Nat.le_trans hDr bb.size
      have ho := wuo
      have t0 : wu.cell? ⟨g, 0, none⟩ = some (.int .i64 3) := by rw [kb.cell, HAT.out.1, HK.out]
      have s4 : wu.cell? ⟨g, 4, none⟩ = some (.int .i64 x.m.node) := (kb.cell 4).trans HAT.out.2.2.2.2.1
      clear ba bb wub wuo hq hn8 hq2
      go_wp2_with (at_builtin; refine stop ?_)
      unfold Stop
      have ba := (Below.refl D wu).alloc hDr (.cells #[.int .i64 x.m.node] 3)
      refine wpList_appI rfl (.tmp 60) (.tmp 63) rfl (by rfl) (ho.alloc _) (by rfl) (RdI.made wu [x.m.node] _ _ _ rfl) (by simp; omega) (Nat.le_trans hDr (by simp)) ?_
      intro wvA wvc wv wvo _ _ wvb
      have hq : n8 + [x.m.node].length = (L2 ++ [x.m.node]).length := wvo.1
      have hq2 : n8 + 1 = (L2 ++ [x.m.node]).length := hq
      rw [hq] at wvo ⊢
      obtain ⟨L3, hL3⟩ : ∃ L3, L3 = L2 ++ [x.m.node] := ⟨_, rfl⟩
      rw [← hL3] at wvo hq2 ⊢
      generalize hn9 : L3.length = n9 at wvo hq2 ⊢
      have hnn : n9 ≤ 30 := by omega
      have bb := ba.trans wvb
      have kb := kb.below bb hgD
      have gb := gb.trans (bb.mono hwD)
      have hDr : D ≤ wv.heap.size := Nat.le_trans hDr bb.size
      have ho := wvo
      have t0 : wv.cell? ⟨g, 0, none⟩ = some (.int .i64 3) := by rw [kb.cell, HAT.out.1, HK.out]
      have s4 : wv.cell? ⟨g, 4, none⟩ = some (.int .i64 x.m.node) := (kb.cell 4).trans HAT.out.2.2.2.2.1
      clear ba bb wvb wvo hq hn9 hq2
      have hms : L3 = Ms.headN x.m := by rw [HHN2.out, hL3, hL2]
      have HMS := Lib.hid hms
      have HBD2 := Lib.hid (show ∀ z ∈ L3, 0 ≤ z ∧ z ≤ 1099511627776 by rw [hms]; exact HBD.out)
      have hg6 : g < wv.heap.size := kb.lt
      have hww : w.heap.size ≤ wv.heap.size := by omega
      have HKB := Lib.hid (And.intro kb gb)
      have HO := Lib.hid ho
      clear hms HBD HHN HHN2 kb gb ho s4 s3
      go_wp2_with fail
      go_loopw [7, 67] (fun s i wq => ∃ (j : Nat) (A' : Option Addr) (nc cc : Nat), j ≤ n9 ∧ i = .int .i64 (j : Nat) ∧ s = .slice A' nc cc ∧ OwnB wq wv.heap.size A' nc cc (encs (L3.take j)) ∧ Below wv.heap.size wv wq) (fun _ i _ => n9 - (intOf i).toNat)
      case atStart => exact ⟨0, none, 0, 0, by omega, rfl, rfl, OwnB.nil _ _, Below.refl _ _⟩
      case round =>
        obtain ⟨j, A', nc, cc, hj, rfl, rfl, ob, bl⟩ := hrel
        by_cases hjm : j < n9
        · have hjl : j < L3.length := by rw [← HO.out.1]; exact hjm
          obtain ⟨ad, hA7, _, c1⟩ := (HO.out.rd.below bl).at_ hjl
          have hxb := HBD2.out _ (List.getElem_mem hjl)
          have hes := encs_snoc L3 hjl
          have HES := Lib.hid hes
          have hel := encs_len (L3.take j)
          have hnb : nc ≤ 600 := by
            have h1 := ob.1
            have h2 : (L3.take j).length ≤ j := List.length_take_le _ _
            omega
          clear hes hel
          generalize L3[j] = z at *
          obtain ⟨z, rfl⟩ := Int.eq_ofNat_of_zero_le hxb.1
          rw [Int.toNat_natCast] at HES
          have hj0 : (0 : Int) ≤ (j : Int) := by omega
          have hj1 : (j : Int) < (n9 : Int) := by omega
          have HOB := Lib.hid ob
          clear ob
          rw [hA7]
          go_wp2_with fail
          refine (rput_ok A' nc cc _ z _ _ HOB.out.rd (Nat.le_refl _) (by omega) (by omega)).mono ?_
          rintro e w7 ⟨A8, n8', c8, rfl, o8, b8⟩
          have o9 : OwnB w7 wv.heap.size A8 n8' c8 (encs (L3.take (j + 1))) := by rw [HES.out]; exact o8.mono bl.size
          have B9 := bl.trans (b8.mono bl.size)
          have H9 := Lib.hid (And.intro o9 B9)
          clear o9 B9 o8 b8 HOB
          go_wp2_with fail
          go_roundw
          case rel => exact ⟨j + 1, A8, n8', c8, by omega, by go_num, rfl, H9.out⟩
          case measure => simp [intOf]; omega
        · have hfull : L3.take j = L3 := List.take_of_length_le (by rw [← HO.out.1]; omega)
          rw [hfull, HMS.out] at ob
          have hnb : nc ≤ 180 := by
            have h1 := ob.1
            have h2 := encs_len (Ms.headN x.m)
            have h3 := HHL.out
            omega
          have hkd : decide ((j : Int) < (n9 : Int)) = false := decide_eq_false (by omega)
          obtain ⟨w7, rfl⟩ : ∃ w7, w7 = wr := ⟨_, rfl⟩
          have kb := HKB.out.1.below bl hg6
          have gb := HKB.out.2.trans (bl.mono hww)
          have t0 : w7.cell? ⟨g, 0, none⟩ = some (.int .i64 3) := by rw [kb.cell, HAT.out.1, HK.out]
          have hb9 : wv.heap.size ≤ w7.heap.size := bl.size
          clear hfull HKB HO
          have hbody : encs (Ms.headN x.m) = Ms.bodyM x.m := by show _ = encs (Ms.headN x.m) ++ Ms.tailM x.m; rw [HTM.out, List.append_nil]
          rw [hbody] at ob
          have hla : nc = (Ms.bodyM x.m).length := ob.1
          have HOa := Lib.hid ob
          clear ob hbody
          by_cases hlong : nc ≤ 4096
          · have hp : Ms.putM x.m = (Frame.frm (Ms.bodyM x.m), 0) := by unfold Ms.putM; rw [if_pos HRR.out, if_pos (by rw [← hla]; exact hlong)]
            have HP := Lib.hid hp
            clear hp hla
            go_wp2_with fail
            refine (Frame.rput_ok _ _ _ (Ms.bodyM x.m) w7.heap.size w7 HOa.out.rd (Nat.le_refl _) hlong).mono ?_
            rintro e wf ⟨Af, nf, cf, rfl, of, bf⟩
            have gbf := gb.trans (bf.mono gb.size)
            have of' := of.mono (base' := w.heap.size) gb.size
            clear of bf
            go_wp2_with fail
            go_ret2
            rw [HP.out]
            exact ⟨Af, nf, cf, rfl, of', gbf⟩
          · exact absurd (show nc ≤ 4096 by omega) hlong
set_option maxHeartbeats 4000000 in
theorem rput17_k4 (x : MgV) (w : World) (h : MgIn w x) (hk : x.m.kind = 4) (hR : Ms.rightM x.m = true) : Calls Try.prog 12 #[.agg x.cs] w (GiveBE w (Ms.putM x.m).1 (Ms.putM x.m).2) := by
  have HAT := Lib.hid (mgv_at x)
  have SZ := Lib.hid x.size
  have HRT := Lib.hid fun (w' : World) (hb : Below w.heap.size w w') => rright17_any x w' (h.below hb)
  have HSN := Lib.hid fun (w' : World) => rset_any x h.ok.u w'
  have HDP := Lib.hid fun (w' : World) (hb : Below w.heap.size w w') => drput_any x.m.u x.A1 x.n1 x.c1 x.m.more w' h.ok.u (h.below hb).ok.more
  have HMB := Lib.hid fun (w' : World) (hb : Below w.heap.size w w') => (h.below hb).ok.mem
  have HN3 := Lib.hid (h.ok.mem.1)
  have hrh := Ms.right_head hR
  have hml := Ms.members_len hrh.2.2.2.1
  have HBD := Lib.hid (Ms.headN_bd hR)
  have HHL := Lib.hid (Ms.headN_len hR)
  have HRR := Lib.hid hR
  have HTN := Lib.hid (tail_len h.ok.ev h.ok.es h.ok.u hR)
  have hasks := ((Ms.right_iff x.m).1 hR).2.2.2
  have hrb : rightB x.m.u x.m.more = true := by have := hasks.1; unfold Ms.askSeen at this; rwa [if_pos hk] at this
  have htm : Ms.tailM x.m = encs (putL x.m.u x.m.more) := by unfold Ms.tailM; rw [if_pos hk]
  simp only [hrb, if_true] at HDP
  rw [← htm] at HDP
  have hHN : Ms.headN x.m = [x.m.kind, x.m.frm, x.m.to, (x.n3 : Int)] ++ (x.m.mem.flatMap fun v : Mem => [v.1, v.2.1, v.2.2]) ++ [x.m.seq] ++ [] := by
    rw [Ms.headN_eq, HN3.out, if_pos (by omega), if_neg (by omega)]
  have HHN := Lib.hid hHN
  have hn38 : x.n3 ≤ 8 := by rw [HN3.out]; exact hml
  have HN8 := Lib.hid hn38
  rw [hR] at HRT
  have HK := Lib.hid hk
  clear h hR hrh hml hn38 hasks hHN hk
  clear hrb htm
  generalize hC : x.cs = C at *
  clear hC
  go_enter Try.func12, Try.ntmps12
  go_upto_region 1 with fail
  refine nameW ?_
  intro W hW
  obtain ⟨g, hg⟩ : ∃ g, g = w.heap.size := ⟨_, rfl⟩
  rw [← hg]
  have kb : Blk W g 27 C := by rw [hW, hg]; exact Blk.new w _ _
  have gb : Below w.heap.size w W := by rw [hW]; exact (Below.refl _ _).alloc (Nat.le_refl _) _
  have hge : w.heap.size ≤ g := by omega
  clear hW hg
  go_wp2_with ((with_reducible refine wpList_ld rowMg kb SZ.out ?_ ?_); rotate_left; (rfl))
  refine (HRT.out W gb).mono ?_
  rintro e w1 ⟨rfl, b1⟩
  have kb := kb.below b1 kb.lt
  have gb := gb.trans (b1.mono gb.size)
  have t0 : w1.cell? ⟨g, 0, none⟩ = some (.int .i64 4) := by rw [kb.cell, HAT.out.1, HK.out]
  have t1 : w1.cell? ⟨g, 1, none⟩ = some (.int .i64 x.m.frm) := (kb.cell 1).trans HAT.out.2.1
  have t2 : w1.cell? ⟨g, 2, none⟩ = some (.int .i64 x.m.to) := (kb.cell 2).trans HAT.out.2.2.1
  have t15 : w1.cell? ⟨g, 15, none⟩ = some (.slice x.A3 x.n3 x.c3) := (kb.cell 15).trans HAT.out.2.2.2.2.2.2.2
  clear b1
  go_upto_region 4 with fail
  have o0 := OwnI.made w1 w1.heap.size [4, x.m.frm, x.m.to, (x.n3 : Int)] #[.int .i64 4, .int .i64 x.m.frm, .int .i64 x.m.to, .int .i64 x.n3] 4 rfl rfl (Nat.le_refl _) (by unfold maxLen; omega)
  have bn : Below w1.heap.size w1 (w1.alloc (.cells #[.int .i64 4, .int .i64 x.m.frm, .int .i64 x.m.to, .int .i64 x.n3] 3)) := (Below.refl _ _).alloc (Nat.le_refl _) _
  obtain ⟨D, hD⟩ : ∃ D, D = w1.heap.size := ⟨_, rfl⟩
  have hgD : g < D := by rw [hD]; exact kb.lt
  have k4 := kb.below bn kb.lt
  have gb4 := gb.trans (bn.mono gb.size)
  rw [← hD] at o0 bn ⊢
  have hDs : D ≤ (w1.alloc (.cells #[.int .i64 4, .int .i64 x.m.frm, .int .i64 x.m.to, .int .i64 x.n3] 3)).heap.size := by rw [hD]; simp
  generalize w1.alloc (.cells #[.int .i64 4, .int .i64 x.m.frm, .int .i64 x.m.to, .int .i64 x.n3] 3) = w4 at *
  have t15 : w4.cell? ⟨g, 15, none⟩ = some (.slice x.A3 x.n3 x.c3) := (k4.cell 15).trans HAT.out.2.2.2.2.2.2.2
  have hwD : w.heap.size ≤ D := by omega
  have HKB := Lib.hid (And.intro k4 gb4)
  have HO0 := Lib.hid o0
  clear bn hD o0 t0 t1 t2 kb gb k4 gb4
  go_wp2_with fail
  go_loopw [4, 30] (fun s i wr => ∃ (k : Nat) (A : Option Addr) (nc cc : Nat), k ≤ x.n3 ∧ i = .int .i64 (k : Nat) ∧ s = .slice A nc cc ∧ OwnI wr D A nc cc ([4, x.m.frm, x.m.to, (x.n3 : Int)] ++ (x.m.mem.take k).flatMap fun v => [v.1, v.2.1, v.2.2]) ∧ Below D w4 wr) (fun _ i _ => x.n3 - (intOf i).toNat)
  case atStart => exact ⟨0, _, 4, 4, by omega, rfl, rfl, by simpa using HO0.out, Below.refl _ _⟩
  case round =>
    obtain ⟨k, A5, n5, c5, hk, rfl, rfl, ho, bk⟩ := hrel
    have hm8 := HN8.out
    have hn5 : n5 ≤ 28 := by
      rw [ho.1, List.length_append, Ms.trip_len, List.length_take]
      simp only [List.length_cons, List.length_nil]
      omega
    by_cases hlt : k < x.n3
    · have hkl : k < x.m.mem.length := by rw [← HN3.out]; exact hlt
      obtain ⟨ad, hA, q5, q0, q1, q2⟩ := (HMB.out wr (HKB.out.2.trans (bk.mono hwD))).2 k _ (List.getElem?_eq_getElem hkl)
      have hst := Ms.trip_snoc x.m.mem hkl
      have hk0 : (0 : Int) ≤ (k : Int) := by omega
      have hkn : (k : Int) < (x.n3 : Int) := by omega
      have HO5 := Lib.hid ho
      generalize x.m.mem[k] = d at *
      obtain ⟨a1, a2, a3⟩ := d
      simp only at q0 q1 q2 hst
      have HST := Lib.hid hst
      clear hst ho
      rw [hA]
      go_upto_region 7 with ((with_reducible refine wpList_st (cs := #[.int .i64 a1, .int .i64 a2, .int .i64 a3]) rowMb (Blk.new _ _ _) (th_sizeM _ _ _) ?_ (th_oneM _ _ _) ?_ ?_ ?_); (rfl); rotate_left; (rfl); (rfl); intro w7 kq g7 z7)
      have bq : Below wr.heap.size wr w7 := new_below g7
      have HO6 := Lib.hid (HO5.out.below bq (Nat.le_refl _))
      have hDr : D ≤ wr.heap.size := Nat.le_trans hDs bk.size
      have b7 := bk.trans (bq.mono hDr)
      have hD7 : D ≤ w7.heap.size := Nat.le_trans hDr bq.size
      have d0 := kq.cell 0
      have d1 := kq.cell 1
      have d2 := kq.cell 2
      clear g7 z7 bq bk HO5 q5 q0 q1 q2
      go_wp2_with (at_builtin; refine stop ?_)
      unfold Stop
      have ba := b7.alloc hD7 (.cells #[.int .i64 a1, .int .i64 a2, .int .i64 a3] 3)
      refine wpList_appI rfl (.tmp 34) (.tmp 41) rfl (by rfl) (HO6.out.alloc _) (by rfl) (RdI.made w7 [a1, a2, a3] _ _ _ rfl) (by simp; omega) (Nat.le_trans hD7 (by simp)) ?_
      intro A8 c8 w8 ho8 _ _ b8
      have HO8 := Lib.hid ho8
      have b9 := ba.trans b8
      clear ho8 b8 ba b7
      go_wp2_with fail
      go_roundw
      case rel => exact ⟨k + 1, A8, _, c8, by omega, by go_num, rfl, by rw [HST.out, ← List.append_assoc]; exact HO8.out, b9⟩
      case measure => simp [intOf]; omega
    · obtain rfl : k = x.n3 := by omega
      have hfull : x.m.mem.take x.n3 = x.m.mem := List.take_of_length_le (by rw [← HN3.out]; omega)
      rw [hfull] at ho
      have hkd : decide ((x.n3 : Int) < (x.n3 : Int)) = false := decide_eq_false (by omega)
      have kb := HKB.out.1.below bk hgD
      have gb := HKB.out.2.trans (bk.mono hwD)
      have hDr : D ≤ wr.heap.size := Nat.le_trans hDs bk.size
      obtain ⟨L1, hL1⟩ : ∃ L1, L1 = [(4 : Int), x.m.frm, x.m.to, (x.n3 : Int)] ++ x.m.mem.flatMap fun v : Mem => [v.1, v.2.1, v.2.2] := ⟨_, rfl⟩
      rw [← hL1] at ho
      have hh2 : Ms.headN x.m = L1 ++ [x.m.seq] ++ [] := by rw [HHN.out, hL1, HK.out]
      have HHN2 := Lib.hid hh2
      obtain ⟨ws, hws⟩ : ∃ ws, ws = wr := ⟨_, rfl⟩
      have t0 : wr.cell? ⟨g, 0, none⟩ = some (.int .i64 4) := by rw [kb.cell, HAT.out.1, HK.out]
      have s3 : wr.cell? ⟨g, 3, none⟩ = some (.int .i64 x.m.seq) := (kb.cell 3).trans HAT.out.2.2.2.1
      have hnn : n5 ≤ 28 := hn5
      clear hfull hL1 hh2 bk hlt hk HKB HO0 HMB t15 hws hn5
      go_wp2_with (at_builtin; refine stop ?_)
      unfold Stop
      have ba := (Below.refl D wr).alloc hDr (.cells #[.int .i64 x.m.seq] 3)
      refine wpList_appI rfl (.tmp 47) (.tmp 50) rfl (by rfl) (ho.alloc _) (by rfl) (RdI.made wr [x.m.seq] _ _ _ rfl) (by simp; omega) (Nat.le_trans hDr (by simp)) ?_
      intro wuA wuc wu wuo _ _ wub
      have hq : n5 + [x.m.seq].length = (L1 ++ [x.m.seq]).length := wuo.1
      have hq2 : n5 + 1 = (L1 ++ [x.m.seq]).length := hq
      rw [hq] at wuo ⊢
      obtain ⟨L2, hL2⟩ : ∃ L2, L2 = L1 ++ [x.m.seq] := ⟨_, rfl⟩
      rw [← hL2] at wuo hq2 ⊢
      generalize hn8 : L2.length = n8 at wuo hq2 ⊢
      have hnn : n8 ≤ 29 := by omega
      have bb := ba.trans wub
      have kb := kb.below bb hgD
      have gb := gb.trans (bb.mono hwD)
      have hDr : D ≤ wu.heap.size := Nat.le_trans hDr bb.size
      have ho := wuo
      have t0 : wu.cell? ⟨g, 0, none⟩ = some (.int .i64 4) := by rw [kb.cell, HAT.out.1, HK.out]
      have s4 : wu.cell? ⟨g, 4, none⟩ = some (.int .i64 x.m.node) := (kb.cell 4).trans HAT.out.2.2.2.2.1
      clear ba bb wub wuo hq hn8 hq2
      have hms : L2 = Ms.headN x.m := by rw [HHN2.out, hL2, List.append_nil]
      have HMS := Lib.hid hms
      have HBD2 := Lib.hid (show ∀ z ∈ L2, 0 ≤ z ∧ z ≤ 1099511627776 by rw [hms]; exact HBD.out)
      have hg6 : g < wu.heap.size := kb.lt
      have hww : w.heap.size ≤ wu.heap.size := by omega
      have HKB := Lib.hid (And.intro kb gb)
      have HO := Lib.hid ho
      clear hms HBD HHN HHN2 kb gb ho s4 s3
      go_wp2_with fail
      go_loopw [7, 67] (fun s i wq => ∃ (j : Nat) (A' : Option Addr) (nc cc : Nat), j ≤ n8 ∧ i = .int .i64 (j : Nat) ∧ s = .slice A' nc cc ∧ OwnB wq wu.heap.size A' nc cc (encs (L2.take j)) ∧ Below wu.heap.size wu wq) (fun _ i _ => n8 - (intOf i).toNat)
      case atStart => exact ⟨0, none, 0, 0, by omega, rfl, rfl, OwnB.nil _ _, Below.refl _ _⟩
      case round =>
        obtain ⟨j, A', nc, cc, hj, rfl, rfl, ob, bl⟩ := hrel
        by_cases hjm : j < n8
        · have hjl : j < L2.length := by rw [← HO.out.1]; exact hjm
          obtain ⟨ad, hA7, _, c1⟩ := (HO.out.rd.below bl).at_ hjl
          have hxb := HBD2.out _ (List.getElem_mem hjl)
          have hes := encs_snoc L2 hjl
          have HES := Lib.hid hes
          have hel := encs_len (L2.take j)
          have hnb : nc ≤ 600 := by
            have h1 := ob.1
            have h2 : (L2.take j).length ≤ j := List.length_take_le _ _
            omega
          clear hes hel
          generalize L2[j] = z at *
          obtain ⟨z, rfl⟩ := Int.eq_ofNat_of_zero_le hxb.1
          rw [Int.toNat_natCast] at HES
          have hj0 : (0 : Int) ≤ (j : Int) := by omega
          have hj1 : (j : Int) < (n8 : Int) := by omega
          have HOB := Lib.hid ob
          clear ob
          rw [hA7]
          go_wp2_with fail
          refine (rput_ok A' nc cc _ z _ _ HOB.out.rd (Nat.le_refl _) (by omega) (by omega)).mono ?_
          rintro e w7 ⟨A8, n8', c8, rfl, o8, b8⟩
          have o9 : OwnB w7 wu.heap.size A8 n8' c8 (encs (L2.take (j + 1))) := by rw [HES.out]; exact o8.mono bl.size
          have B9 := bl.trans (b8.mono bl.size)
          have H9 := Lib.hid (And.intro o9 B9)
          clear o9 B9 o8 b8 HOB
          go_wp2_with fail
          go_roundw
          case rel => exact ⟨j + 1, A8, n8', c8, by omega, by go_num, rfl, H9.out⟩
          case measure => simp [intOf]; omega
        · have hfull : L2.take j = L2 := List.take_of_length_le (by rw [← HO.out.1]; omega)
          rw [hfull, HMS.out] at ob
          have hnb : nc ≤ 180 := by
            have h1 := ob.1
            have h2 := encs_len (Ms.headN x.m)
            have h3 := HHL.out
            omega
          have hkd : decide ((j : Int) < (n8 : Int)) = false := decide_eq_false (by omega)
          obtain ⟨w7, rfl⟩ : ∃ w7, w7 = wr := ⟨_, rfl⟩
          have kb := HKB.out.1.below bl hg6
          have gb := HKB.out.2.trans (bl.mono hww)
          have t0 : w7.cell? ⟨g, 0, none⟩ = some (.int .i64 4) := by rw [kb.cell, HAT.out.1, HK.out]
          have hb9 : wu.heap.size ≤ w7.heap.size := bl.size
          clear hfull HKB HO
          have HOB := Lib.hid ob
          clear ob
          go_wp2_with ((with_reducible refine wpList_ld rowMg kb SZ.out ?_ ?_); rotate_left; (rfl))
          refine (HSN.out _).mono ?_
          rintro e w8 ⟨rfl, b8⟩
          have ob8 := HOB.out.below b8 (Nat.le_refl _)
          have gb8 := gb.trans (b8.mono gb.size)
          have kb8 := kb.below b8 kb.lt
          go_wp2_with fail
          refine (HDP.out w8 gb8).mono ?_
          rintro e wg ⟨At, nt, ct, rfl, ot, bt⟩
          have ob := ob8.below bt (Nat.le_refl _)
          have gb := gb8.trans (bt.mono gb8.size)
          have kb := kb8.below bt kb8.lt
          have hb9 : wu.heap.size ≤ wg.heap.size := by have := b8.size; have := bt.size; omega
          clear b8 bt ob8 gb8 kb8
          have t0 : wg.cell? ⟨g, 0, none⟩ = some (.int .i64 4) := by rw [kb.cell, HAT.out.1, HK.out]
          have htl : nt ≤ 10000000 := by rw [ot.1]; exact HTN.out
          have HOb := Lib.hid ob
          have HOt := Lib.hid ot
          clear ob ot
          go_wp2_with (at_builtin; refine stop ?_)
          unfold Stop
          refine wpList_appB rfl (.tmp 87) (.tmp 88) rfl (by rfl) HOb.out (by rfl) HOt.out.rd (by omega) hb9 ?_
          intro Ac cc' wa oa _ _ ba
          have hbody : encs (Ms.headN x.m) ++ Ms.tailM x.m = Ms.bodyM x.m := rfl
          rw [hbody] at oa
          have hla : nc + nt = (Ms.bodyM x.m).length := oa.1
          rw [hla] at oa ⊢
          have kb := kb.below ba hg6
          have gb := gb.trans (ba.mono hww)
          have t0 : wa.cell? ⟨g, 0, none⟩ = some (.int .i64 4) := by rw [kb.cell, HAT.out.1, HK.out]
          have HOa := Lib.hid oa
          clear ba oa hla
          by_cases hlong : (Ms.bodyM x.m).length ≤ 4096
          · have hp : Ms.putM x.m = (Frame.frm (Ms.bodyM x.m), 0) := by unfold Ms.putM; rw [if_pos HRR.out, if_pos (by exact hlong)]
            have HP := Lib.hid hp
            clear hp
            go_wp2_with fail
            refine (Frame.rput_ok _ _ _ (Ms.bodyM x.m) wa.heap.size wa HOa.out.rd (Nat.le_refl _) hlong).mono ?_
            rintro e wf ⟨Af, nf, cf, rfl, of, bf⟩
            have gbf := gb.trans (bf.mono gb.size)
            have of' := of.mono (base' := w.heap.size) gb.size
            clear of bf
            go_wp2_with fail
            go_ret2
            rw [HP.out]
            exact ⟨Af, nf, cf, rfl, of', gbf⟩
          · have hp : Ms.putM x.m = ([], 6) := by unfold Ms.putM; rw [if_pos HRR.out, if_neg (by exact hlong)]
            have HP := Lib.hid hp
            clear hp
            go_wp2_with fail
            refine (Frame.rput_long _ _ _ wa (by omega)).mono ?_
            rintro e wf ⟨rfl, rfl⟩
            go_wp2_with fail
            go_ret2
            rw [HP.out]
            exact ⟨none, 0, 0, rfl, OwnB.nil _ _, gb⟩
set_option maxHeartbeats 4000000 in
theorem rput17_k5 (x : MgV) (w : World) (h : MgIn w x) (hk : x.m.kind = 5) (hR : Ms.rightM x.m = true) : Calls Try.prog 12 #[.agg x.cs] w (GiveBE w (Ms.putM x.m).1 (Ms.putM x.m).2) := by
  have HAT := Lib.hid (mgv_at x)
  have SZ := Lib.hid x.size
  have HRT := Lib.hid fun (w' : World) (hb : Below w.heap.size w w') => rright17_any x w' (h.below hb)
  have HDP := Lib.hid fun (w' : World) (hb : Below w.heap.size w w') => rputAll07_any x.A2 x.n2 x.c2 x.xs w' h.b2 (h.below hb).ok.ev
  have HMB := Lib.hid fun (w' : World) (hb : Below w.heap.size w w') => (h.below hb).ok.mem
  have HN3 := Lib.hid (h.ok.mem.1)
  have hrh := Ms.right_head hR
  have hml := Ms.members_len hrh.2.2.2.1
  have HBD := Lib.hid (Ms.headN_bd hR)
  have HHL := Lib.hid (Ms.headN_len hR)
  have HRR := Lib.hid hR
  have HTN := Lib.hid (tail_len h.ok.ev h.ok.es h.ok.u hR)
  have hasks := ((Ms.right_iff x.m).1 hR).2.2.2
  have hrb : putAllE x.xs = (Ms.tailM x.m, 0) := by
    have h5 := hasks.2
    unfold Ms.askEv at h5
    rw [if_pos hk, h.ok.es, Bool.and_eq_true] at h5
    have h2 := of_decide_eq_true h5.2
    rw [List.length_map] at h2
    unfold putAllE Ms.tailM
    rw [if_neg (by omega), if_pos, if_neg (by omega), if_pos hk, h.ok.es, List.length_map, List.flatMap_map]
    rw [List.all_eq_true]
    intro y hy
    exact List.all_eq_true.1 h5.1 _ (List.mem_map.2 ⟨y, hy, rfl⟩)
  simp only [hrb] at HDP
  have hHN : Ms.headN x.m = [x.m.kind, x.m.frm, x.m.to, (x.n3 : Int)] ++ (x.m.mem.flatMap fun v : Mem => [v.1, v.2.1, v.2.2]) ++ [] ++ [] := by
    rw [Ms.headN_eq, HN3.out, if_neg (by omega), if_neg (by omega)]
  have HHN := Lib.hid hHN
  have hn38 : x.n3 ≤ 8 := by rw [HN3.out]; exact hml
  have HN8 := Lib.hid hn38
  rw [hR] at HRT
  have HK := Lib.hid hk
  clear h hR hrh hml hn38 hasks hHN hk
  clear hrb
  generalize hC : x.cs = C at *
  clear hC
  go_enter Try.func12, Try.ntmps12
  go_upto_region 1 with fail
  refine nameW ?_
  intro W hW
  obtain ⟨g, hg⟩ : ∃ g, g = w.heap.size := ⟨_, rfl⟩
  rw [← hg]
  have kb : Blk W g 27 C := by rw [hW, hg]; exact Blk.new w _ _
  have gb : Below w.heap.size w W := by rw [hW]; exact (Below.refl _ _).alloc (Nat.le_refl _) _
  have hge : w.heap.size ≤ g := by omega
  clear hW hg
  go_wp2_with ((with_reducible refine wpList_ld rowMg kb SZ.out ?_ ?_); rotate_left; (rfl))
  refine (HRT.out W gb).mono ?_
  rintro e w1 ⟨rfl, b1⟩
  have kb := kb.below b1 kb.lt
  have gb := gb.trans (b1.mono gb.size)
  have t0 : w1.cell? ⟨g, 0, none⟩ = some (.int .i64 5) := by rw [kb.cell, HAT.out.1, HK.out]
  have t1 : w1.cell? ⟨g, 1, none⟩ = some (.int .i64 x.m.frm) := (kb.cell 1).trans HAT.out.2.1
  have t2 : w1.cell? ⟨g, 2, none⟩ = some (.int .i64 x.m.to) := (kb.cell 2).trans HAT.out.2.2.1
  have t15 : w1.cell? ⟨g, 15, none⟩ = some (.slice x.A3 x.n3 x.c3) := (kb.cell 15).trans HAT.out.2.2.2.2.2.2.2
  clear b1
  go_upto_region 4 with fail
  have o0 := OwnI.made w1 w1.heap.size [5, x.m.frm, x.m.to, (x.n3 : Int)] #[.int .i64 5, .int .i64 x.m.frm, .int .i64 x.m.to, .int .i64 x.n3] 4 rfl rfl (Nat.le_refl _) (by unfold maxLen; omega)
  have bn : Below w1.heap.size w1 (w1.alloc (.cells #[.int .i64 5, .int .i64 x.m.frm, .int .i64 x.m.to, .int .i64 x.n3] 3)) := (Below.refl _ _).alloc (Nat.le_refl _) _
  obtain ⟨D, hD⟩ : ∃ D, D = w1.heap.size := ⟨_, rfl⟩
  have hgD : g < D := by rw [hD]; exact kb.lt
  have k4 := kb.below bn kb.lt
  have gb4 := gb.trans (bn.mono gb.size)
  rw [← hD] at o0 bn ⊢
  have hDs : D ≤ (w1.alloc (.cells #[.int .i64 5, .int .i64 x.m.frm, .int .i64 x.m.to, .int .i64 x.n3] 3)).heap.size := by rw [hD]; simp
  generalize w1.alloc (.cells #[.int .i64 5, .int .i64 x.m.frm, .int .i64 x.m.to, .int .i64 x.n3] 3) = w4 at *
  have t15 : w4.cell? ⟨g, 15, none⟩ = some (.slice x.A3 x.n3 x.c3) := (k4.cell 15).trans HAT.out.2.2.2.2.2.2.2
  have hwD : w.heap.size ≤ D := by omega
  have HKB := Lib.hid (And.intro k4 gb4)
  have HO0 := Lib.hid o0
  clear bn hD o0 t0 t1 t2 kb gb k4 gb4
  go_wp2_with fail
  go_loopw [4, 30] (fun s i wr => ∃ (k : Nat) (A : Option Addr) (nc cc : Nat), k ≤ x.n3 ∧ i = .int .i64 (k : Nat) ∧ s = .slice A nc cc ∧ OwnI wr D A nc cc ([5, x.m.frm, x.m.to, (x.n3 : Int)] ++ (x.m.mem.take k).flatMap fun v => [v.1, v.2.1, v.2.2]) ∧ Below D w4 wr) (fun _ i _ => x.n3 - (intOf i).toNat)
  case atStart => exact ⟨0, _, 4, 4, by omega, rfl, rfl, by simpa using HO0.out, Below.refl _ _⟩
  case round =>
    obtain ⟨k, A5, n5, c5, hk, rfl, rfl, ho, bk⟩ := hrel
    have hm8 := HN8.out
    have hn5 : n5 ≤ 28 := by
      rw [ho.1, List.length_append, Ms.trip_len, List.length_take]
      simp only [List.length_cons, List.length_nil]
      omega
    by_cases hlt : k < x.n3
    · have hkl : k < x.m.mem.length := by rw [← HN3.out]; exact hlt
      obtain ⟨ad, hA, q5, q0, q1, q2⟩ := (HMB.out wr (HKB.out.2.trans (bk.mono hwD))).2 k _ (List.getElem?_eq_getElem hkl)
      have hst := Ms.trip_snoc x.m.mem hkl
      have hk0 : (0 : Int) ≤ (k : Int) := by omega
      have hkn : (k : Int) < (x.n3 : Int) := by omega
      have HO5 := Lib.hid ho
      generalize x.m.mem[k] = d at *
      obtain ⟨a1, a2, a3⟩ := d
      simp only at q0 q1 q2 hst
      have HST := Lib.hid hst
      clear hst ho
      rw [hA]
      go_upto_region 7 with ((with_reducible refine wpList_st (cs := #[.int .i64 a1, .int .i64 a2, .int .i64 a3]) rowMb (Blk.new _ _ _) (th_sizeM _ _ _) ?_ (th_oneM _ _ _) ?_ ?_ ?_); (rfl); rotate_left; (rfl); (rfl); intro w7 kq g7 z7)
      have bq : Below wr.heap.size wr w7 := new_below g7
      have HO6 := Lib.hid (HO5.out.below bq (Nat.le_refl _))
      have hDr : D ≤ wr.heap.size := Nat.le_trans hDs bk.size
      have b7 := bk.trans (bq.mono hDr)
      have hD7 : D ≤ w7.heap.size := Nat.le_trans hDr bq.size
      have d0 := kq.cell 0
      have d1 := kq.cell 1
      have d2 := kq.cell 2
      clear g7 z7 bq bk HO5 q5 q0 q1 q2
      go_wp2_with (at_builtin; refine stop ?_)
      unfold Stop
      have ba := b7.alloc hD7 (.cells #[.int .i64 a1, .int .i64 a2, .int .i64 a3] 3)
      refine wpList_appI rfl (.tmp 34) (.tmp 41) rfl (by rfl) (HO6.out.alloc _) (by rfl) (RdI.made w7 [a1, a2, a3] _ _ _ rfl) (by simp; omega) (Nat.le_trans hD7 (by simp)) ?_
      intro A8 c8 w8 ho8 _ _ b8
      have HO8 := Lib.hid ho8
      have b9 := ba.trans b8
      clear ho8 b8 ba b7
      go_wp2_with fail
      go_roundw
      case rel => exact ⟨k + 1, A8, _, c8, by omega, by go_num, rfl, by rw [HST.out, ← List.append_assoc]; exact HO8.out, b9⟩
      case measure => simp [intOf]; omega
    · obtain rfl : k = x.n3 := by omega
      have hfull : x.m.mem.take x.n3 = x.m.mem := List.take_of_length_le (by rw [← HN3.out]; omega)
      rw [hfull] at ho
      have hkd : decide ((x.n3 : Int) < (x.n3 : Int)) = false := decide_eq_false (by omega)
      have kb := HKB.out.1.below bk hgD
      have gb := HKB.out.2.trans (bk.mono hwD)
      have hDr : D ≤ wr.heap.size := Nat.le_trans hDs bk.size
      obtain ⟨L1, hL1⟩ : ∃ L1, L1 = [(5 : Int), x.m.frm, x.m.to, (x.n3 : Int)] ++ x.m.mem.flatMap fun v : Mem => [v.1, v.2.1, v.2.2] := ⟨_, rfl⟩
      rw [← hL1] at ho
      have hh2 : Ms.headN x.m = L1 ++ [] ++ [] := by rw [HHN.out, hL1, HK.out]
      have HHN2 := Lib.hid hh2
      obtain ⟨ws, hws⟩ : ∃ ws, ws = wr := ⟨_, rfl⟩
      have t0 : wr.cell? ⟨g, 0, none⟩ = some (.int .i64 5) := by rw [kb.cell, HAT.out.1, HK.out]
      have s3 : wr.cell? ⟨g, 3, none⟩ = some (.int .i64 x.m.seq) := (kb.cell 3).trans HAT.out.2.2.2.1
      have hnn : n5 ≤ 28 := hn5
      clear hfull hL1 hh2 bk hlt hk HKB HO0 HMB t15 hws hn5
      obtain ⟨wu, rfl⟩ : ∃ wu, wu = wr := ⟨_, rfl⟩
      have hms : L1 = Ms.headN x.m := by rw [HHN2.out, List.append_nil, List.append_nil]
      have HMS := Lib.hid hms
      have HBD2 := Lib.hid (show ∀ z ∈ L1, 0 ≤ z ∧ z ≤ 1099511627776 by rw [hms]; exact HBD.out)
      have hg6 : g < wu.heap.size := kb.lt
      have hww : w.heap.size ≤ wu.heap.size := by omega
      have HKB := Lib.hid (And.intro kb gb)
      have HO := Lib.hid ho
      clear hms HBD HHN HHN2 kb gb ho s3
      go_wp2_with fail
      go_loopw [7, 67] (fun s i wq => ∃ (j : Nat) (A' : Option Addr) (nc cc : Nat), j ≤ n5 ∧ i = .int .i64 (j : Nat) ∧ s = .slice A' nc cc ∧ OwnB wq wu.heap.size A' nc cc (encs (L1.take j)) ∧ Below wu.heap.size wu wq) (fun _ i _ => n5 - (intOf i).toNat)
      case atStart => exact ⟨0, none, 0, 0, by omega, rfl, rfl, OwnB.nil _ _, Below.refl _ _⟩
      case round =>
        obtain ⟨j, A', nc, cc, hj, rfl, rfl, ob, bl⟩ := hrel
        by_cases hjm : j < n5
        · have hjl : j < L1.length := by rw [← HO.out.1]; exact hjm
          obtain ⟨ad, hA7, _, c1⟩ := (HO.out.rd.below bl).at_ hjl
          have hxb := HBD2.out _ (List.getElem_mem hjl)
          have hes := encs_snoc L1 hjl
          have HES := Lib.hid hes
          have hel := encs_len (L1.take j)
          have hnb : nc ≤ 600 := by
            have h1 := ob.1
            have h2 : (L1.take j).length ≤ j := List.length_take_le _ _
            omega
          clear hes hel
          generalize L1[j] = z at *
          obtain ⟨z, rfl⟩ := Int.eq_ofNat_of_zero_le hxb.1
          rw [Int.toNat_natCast] at HES
          have hj0 : (0 : Int) ≤ (j : Int) := by omega
          have hj1 : (j : Int) < (n5 : Int) := by omega
          have HOB := Lib.hid ob
          clear ob
          rw [hA7]
          go_wp2_with fail
          refine (rput_ok A' nc cc _ z _ _ HOB.out.rd (Nat.le_refl _) (by omega) (by omega)).mono ?_
          rintro e w7 ⟨A8, n8', c8, rfl, o8, b8⟩
          have o9 : OwnB w7 wu.heap.size A8 n8' c8 (encs (L1.take (j + 1))) := by rw [HES.out]; exact o8.mono bl.size
          have B9 := bl.trans (b8.mono bl.size)
          have H9 := Lib.hid (And.intro o9 B9)
          clear o9 B9 o8 b8 HOB
          go_wp2_with fail
          go_roundw
          case rel => exact ⟨j + 1, A8, n8', c8, by omega, by go_num, rfl, H9.out⟩
          case measure => simp [intOf]; omega
        · have hfull : L1.take j = L1 := List.take_of_length_le (by rw [← HO.out.1]; omega)
          rw [hfull, HMS.out] at ob
          have hnb : nc ≤ 180 := by
            have h1 := ob.1
            have h2 := encs_len (Ms.headN x.m)
            have h3 := HHL.out
            omega
          have hkd : decide ((j : Int) < (n5 : Int)) = false := decide_eq_false (by omega)
          obtain ⟨w7, rfl⟩ : ∃ w7, w7 = wr := ⟨_, rfl⟩
          have kb := HKB.out.1.below bl hg6
          have gb := HKB.out.2.trans (bl.mono hww)
          have t0 : w7.cell? ⟨g, 0, none⟩ = some (.int .i64 5) := by rw [kb.cell, HAT.out.1, HK.out]
          have hb9 : wu.heap.size ≤ w7.heap.size := bl.size
          clear hfull HKB HO
          have HOB := Lib.hid ob
          have s14 : w7.cell? ⟨g, 14, none⟩ = some (.slice x.A2 x.n2 x.c2) := (kb.cell 14).trans HAT.out.2.2.2.2.2.2.1
          clear ob
          go_wp2_with fail
          refine (HDP.out w7 gb).mono ?_
          rintro e wg ⟨At, nt, ct, rfl, ot, bt⟩
          have ob := HOB.out.below bt (Nat.le_refl _)
          have kb := kb.below bt kb.lt
          have gb := gb.trans (bt.mono gb.size)
          have hb9 : wu.heap.size ≤ wg.heap.size := by have := bt.size; omega
          clear bt
          have t0 : wg.cell? ⟨g, 0, none⟩ = some (.int .i64 5) := by rw [kb.cell, HAT.out.1, HK.out]
          have htl : nt ≤ 10000000 := by rw [ot.1]; exact HTN.out
          have HOb := Lib.hid ob
          have HOt := Lib.hid ot
          clear ob ot
          go_wp2_with (at_builtin; refine stop ?_)
          unfold Stop
          refine wpList_appB rfl (.tmp 99) (.tmp 100) rfl (by rfl) HOb.out (by rfl) HOt.out.rd (by omega) hb9 ?_
          intro Ac cc' wa oa _ _ ba
          have hbody : encs (Ms.headN x.m) ++ Ms.tailM x.m = Ms.bodyM x.m := rfl
          rw [hbody] at oa
          have hla : nc + nt = (Ms.bodyM x.m).length := oa.1
          rw [hla] at oa ⊢
          have kb := kb.below ba hg6
          have gb := gb.trans (ba.mono hww)
          have t0 : wa.cell? ⟨g, 0, none⟩ = some (.int .i64 5) := by rw [kb.cell, HAT.out.1, HK.out]
          have HOa := Lib.hid oa
          clear ba oa hla
          by_cases hlong : (Ms.bodyM x.m).length ≤ 4096
          · have hp : Ms.putM x.m = (Frame.frm (Ms.bodyM x.m), 0) := by unfold Ms.putM; rw [if_pos HRR.out, if_pos (by exact hlong)]
            have HP := Lib.hid hp
            clear hp
            go_wp2_with fail
            refine (Frame.rput_ok _ _ _ (Ms.bodyM x.m) wa.heap.size wa HOa.out.rd (Nat.le_refl _) hlong).mono ?_
            rintro e wf ⟨Af, nf, cf, rfl, of, bf⟩
            have gbf := gb.trans (bf.mono gb.size)
            have of' := of.mono (base' := w.heap.size) gb.size
            clear of bf
            go_wp2_with fail
            go_ret2
            rw [HP.out]
            exact ⟨Af, nf, cf, rfl, of', gbf⟩
          · have hp : Ms.putM x.m = ([], 6) := by unfold Ms.putM; rw [if_pos HRR.out, if_neg (by exact hlong)]
            have HP := Lib.hid hp
            clear hp
            go_wp2_with fail
            refine (Frame.rput_long _ _ _ wa (by omega)).mono ?_
            rintro e wf ⟨rfl, rfl⟩
            go_wp2_with fail
            go_ret2
            rw [HP.out]
            exact ⟨none, 0, 0, rfl, OwnB.nil _ _, gb⟩
theorem rput17_any (x : MgV) (w : World) (h : MgIn w x) : Calls Try.prog 12 #[.agg x.cs] w (GiveBE w (Ms.putM x.m).1 (Ms.putM x.m).2) := by
  cases hR : Ms.rightM x.m with
  | false => exact rput17_bad x w h hR
  | true =>
    have hk := (Ms.right_head hR).1
    obtain h1 | h1 | h1 | h1 | h1 : x.m.kind = 1 ∨ x.m.kind = 2 ∨ x.m.kind = 3 ∨ x.m.kind = 4 ∨ x.m.kind = 5 := by omega
    · exact rput17_k1 x w h h1 hR
    · exact rput17_k2 x w h h1 hR
    · exact rput17_k3 x w h h1 hR
    · exact rput17_k4 x w h h1 hR
    · exact rput17_k5 x w h h1 hR
end Go.Proofs.Ytcgalmnllegnbaa

/- What the rows' proofs share: how an argument that came in reads. -/
namespace Go.Proofs.Ytcgalmnllegnbaa
set_option linter.unusedVariables false
set_option linter.unusedSimpArgs false
open Go.ChangeShapes Go.WideShapes Go.ChangeAt Go.RowKit

theorem own : ownKnob Try.prog.godebug = none := by kernel_rfl
theorem laidOut : laidOutB Try.prog = true := by kernel_rfl
/-- What a byte slice's cell reads as. -/
theorem rd_bytes {H : Type} {enc : TypeId × Value → H} {W : World} {base : Nat} {sp : Nat → Bool} {held : Bool} {fuel : Nat} {cs : List Value} {x : DataW H × List MemPlace}
    (hf : DataW.trod enc Try.prog W base sp held fuel 31 cs = some x) :
    ∃ (a : Option Addr) (n cap : Nat) (bs : List UInt8), cs = [.slice a n cap] ∧ RdB W W.heap.size a n bs ∧ n ≤ cap ∧ cap ≤ maxLen := by
  rcases open_ints Try.underlying31 Try.underlying5 (by kernel_rfl) hf with ⟨hcs, _⟩ | ⟨x, len0, cap0, zs, hcs, _, hl, hm, hz, _, hcell, hwz⟩
  · exact ⟨_, _, _, [], hcs, RdB.nil _ _ _, Nat.le_refl _, Nat.zero_le _⟩
  · have hz' : len0 ≤ zs.length := by rw [hz]; split <;> omega
    have hlen : ((zs.take len0).map fun z => UInt8.ofNat z.toNat).length = len0 := by simp; omega
    refine ⟨_, len0, cap0, (zs.take len0).map fun z => UInt8.ofNat z.toNat, hcs, ⟨hlen.symm, ?_⟩, hl, hm⟩
    intro j u hu
    simp only [List.getElem?_map, List.getElem?_take] at hu
    by_cases hj : j < len0
    · rw [if_pos hj] at hu
      have hjz : j < zs.length := by omega
      have hw := hwz zs[j] (List.getElem_mem hjz)
      have hw2 : 0 ≤ zs[j] ∧ zs[j] < 256 := by
        have hmin : IntKind.u8.min = 0 := rfl
        have hmax : IntKind.u8.max = 255 := rfl
        simp only [Lit.wf, Bool.and_eq_true, decide_eq_true_eq] at hw
        omega
      have hcj := hcell j hjz
      rw [List.getD_eq_getElem?_getD, List.getElem?_eq_getElem hjz] at hcj
      rw [List.getElem?_eq_getElem hjz] at hu
      simp only [Option.map_some, Option.some.injEq] at hu
      refine ⟨x, rfl, ?_, ?_⟩
      · have := World.block_lt_of_cell? W _ hcj
        rwa [block_add] at this
      · rw [hcj, ← hu]
        show some (Value.int .u8 zs[j]) = some (Value.int .u8 _)
        have : ((UInt8.ofNat zs[j].toNat).toNat : Int) = zs[j] := by
          rw [UInt8.toNat_ofNat']
          omega
        rw [this]
    · rw [if_neg hj] at hu; simp at hu
set_option maxRecDepth 100000
/-- A slice of bytes that came in. -/
theorem open_bytesC {H : Type} {enc : TypeId × Value → H} {W : World} {base : Nat} {sp : Nat → Bool} {held : Bool} {r : Reach} {b0 : Nat} {v : Value} {d : DataW H} {p : List MemPlace}
    (hv : Value.okWide Try.prog W r b0 31 v) (h : DataW.Trod enc Try.prog W base sp held 31 v d p) :
    ∃ (a : Option Addr) (n cap : Nat) (bs : List UInt8), v = .slice a n cap ∧ RdB W W.heap.size a n bs ∧ n ≤ cap ∧ cap ≤ maxLen := by
  obtain ⟨a0, len0, cap0, rfl⟩ := okWide_slice Try.underlying31 hv
  obtain ⟨fuel, hf⟩ := h
  obtain ⟨a, n, c, bs, h1, h2⟩ := rd_bytes hf
  simp [Value.cells] at h1
  obtain ⟨rfl, rfl, rfl⟩ := h1
  exact ⟨_, _, _, bs, rfl, h2⟩
theorem open_bytes {H : Type} {enc : TypeId × Value → H} {W : World} {base : Nat} {sp : Nat → Bool} {held : Bool} {r : Reach} {b0 : Nat} {v : Value} {d : DataW H} {p : List MemPlace}
    (hv : Value.okWide Try.prog W r b0 31 v) (h : DataW.Trod enc Try.prog W base sp held 31 v d p) :
    ∃ (a : Option Addr) (n cap : Nat) (bs : List UInt8), v = .slice a n cap ∧ RdB W W.heap.size a n bs ∧ n ≤ maxLen := by
  obtain ⟨a, n, c, bs, h1, h2, h3, h4⟩ := open_bytesC hv h
  exact ⟨a, n, c, bs, h1, h2, Nat.le_trans h3 h4⟩
end Go.Proofs.Ytcgalmnllegnbaa

/- How ints, structs and slices that came in read: on cells. -/
namespace Go.Proofs.Ytcgalmnllegnbaa
set_option linter.unusedVariables false
set_option linter.unusedSimpArgs false
set_option maxRecDepth 100000
open Go.ChangeShapes Go.WideShapes Go.ChangeAt Go.RowKit Go.Deep

section
variable {H : Type} {enc : TypeId × Value → H} {W : World} {base : Nat} {sp : Nat → Bool} {held : Bool} {fuel : Nat} {cs : List Value} {x : DataW H × List MemPlace}
/-- an int's cell -/
theorem rd_int (hf : DataW.trod enc Try.prog W base sp held fuel 3 cs = some x) : ∃ z : Int, cs = [.int .i64 z] ∧ -9223372036854775808 ≤ z ∧ z ≤ 9223372036854775807 := by
  obtain ⟨z, h1, _, hw⟩ := DataW.trod_int Try.underlying3 hf
  refine ⟨z, h1, ?_⟩
  have hmin : IntKind.i64.min = -9223372036854775808 := rfl
  have hmax : IntKind.i64.max = 9223372036854775807 := rfl
  simp only [Lit.wf, Bool.and_eq_true, decide_eq_true_eq] at hw
  omega
/-- a struct's field, as its cells -/
theorem rd_field {t : TypeId} {fs : Array Field} (ht : (Try.prog).underlying t = some (.struct fs)) (hf : DataW.trod enc Try.prog W base sp held fuel t cs = some x) (j T o m : Nat)
    (hj : (fs[j]?).map (fun f => (f.type, f.offset)) = some (T, o)) (hm : (Try.prog).cellsOf T = m) : ∃ n y, DataW.trod enc Try.prog W base sp held n T ((cs.drop o).take m) = some y := by
  obtain ⟨xs, n, _, _, _, hxl, hg⟩ := DataW.trod_struct ht hf
  obtain ⟨f, hf1, hf2⟩ := Option.map_eq_some_iff.1 hj
  injection hf2 with h1 h2
  have hjl : j < xs.length := by
    rw [hxl]
    exact (Array.getElem?_eq_some_iff.1 hf1).1
  have h := hg j f hf1
  rw [h1, h2, hm, List.getElem?_eq_getElem hjl] at h
  exact ⟨n, _, h⟩
theorem rd_len {t : TypeId} {fs : Array Field} {m : Nat} (ht : (Try.prog).underlying t = some (.struct fs)) (hm : (Try.prog).cellsOf t = m) (hf : DataW.trod enc Try.prog W base sp held fuel t cs = some x) : cs.length = m := by
  obtain ⟨xs, n, _, _, hl, _⟩ := DataW.trod_struct ht hf
  rw [hl, hm]
/-- a slice's elements, each as its cells -/
theorem rd_slice {t e : TypeId} {m : Nat} (ht : (Try.prog).underlying t = some (.slice e)) (hm : (Try.prog).cellsOf e = m) (hf : DataW.trod enc Try.prog W base sp held fuel t cs = some x) :
    ∃ (a : Option Addr) (n cap : Nat), cs = [.slice a n cap] ∧ n ≤ cap ∧ cap ≤ maxLen ∧ ∀ i, i < n → ∃ (ad : Addr) (cs' : List Value) (fuel' : Nat) (x' : DataW H × List MemPlace), a = some ad ∧ cs'.length = m ∧ (∀ j, j < m → W.cell? ((ad.add (i * m)).add j) = cs'[j]?) ∧ DataW.trod enc Try.prog W base sp held fuel' e cs' = some x' := by
  rcases open_slice ht hf with ⟨h0, _⟩ | ⟨a, len, cap, k, n, D, Pl, hcs, hb, hl, hc, hk, hx, hi⟩
  · exact ⟨none, 0, 0, h0, Nat.le_refl _, Nat.zero_le _, fun i h => absurd h (Nat.not_lt_zero _)⟩
  · refine ⟨some a, len, cap, hcs, hl, hc, fun i h => ?_⟩
    have hik : i < k := by rw [hk]; split <;> omega
    obtain ⟨cs', hc', ht'⟩ := hi i hik
    rw [hm] at hc'
    obtain ⟨_, hcl, hat⟩ := World.cells?_some hc'
    exact ⟨a, cs', n, _, rfl, hcl, fun j hj => hat j hj, ht'⟩
end
end Go.Proofs.Ytcgalmnllegnbaa

/- The reach: how much what came in weighs; what is read then is short enough to be copied. -/
namespace Go.Proofs.Ytcgalmnllegnbaa
set_option linter.unusedVariables false
set_option linter.unusedSimpArgs false
set_option maxRecDepth 100000
open Go.ChangeShapes Go.WideShapes Go.ChangeAt Go.RowKit Go.Deep

/-- What a datum weighs is within the form's reach. -/
def Sz {H : Type} (t : TypeId) (d : DataW H) : Prop := ∀ n ∈ d.weights Try.prog t, n ≤ reachBytes
theorem sz_arg {H : Type} {ts : List TypeId} {ds : List (DataW H)} (h : (DataW.weightsEach Try.prog ts ds).all (· ≤ reachBytes) = true) {j : Nat} {t : TypeId} {d : DataW H} (ht : ts[j]? = some t) (hd : ds[j]? = some d) : Sz t d := fun n hn => by
  have := List.all_eq_true.1 h n (DataW.weights_mem_each ht hd n hn)
  simpa using this
theorem weightsAll_mem {H : Type} {P : Program} {e : TypeId} {l : List (DataW H)} {d : DataW H} (hd : d ∈ l) : ∀ n ∈ d.weights P e, n ∈ DataW.weightsAll P e l := by
  induction l with
  | nil => cases hd
  | cons a r ih =>
    intro n hn
    simp only [DataW.weightsAll, List.mem_append]
    rcases List.mem_cons.1 hd with h | h
    · subst h; exact .inl hn
    · exact .inr (ih h n hn)
section
variable {H : Type} {enc : TypeId × Value → H} {W : World} {base : Nat} {sp : Nat → Bool} {held : Bool} {fuel : Nat} {cs : List Value} {x : DataW H × List MemPlace}
/-- a struct's field, as its cells; it weighs no more than the struct -/
theorem rdz_field {t : TypeId} {fs : Array Field} (ht : (Try.prog).underlying t = some (.struct fs)) (hf : DataW.trod enc Try.prog W base sp held fuel t cs = some x) (hs : Sz t x.1) (j T o m : Nat)
    (hj : (fs[j]?).map (fun f => (f.type, f.offset)) = some (T, o)) (hm : (Try.prog).cellsOf T = m) : ∃ n y, DataW.trod enc Try.prog W base sp held n T ((cs.drop o).take m) = some y ∧ Sz T y.1 := by
  obtain ⟨xs, n, _, hx, _, hxl, hg⟩ := DataW.trod_struct ht hf
  obtain ⟨f, hf1, hf2⟩ := Option.map_eq_some_iff.1 hj
  injection hf2 with h1 h2
  have hjl : j < xs.length := by
    rw [hxl]
    exact (Array.getElem?_eq_some_iff.1 hf1).1
  have h := hg j f hf1
  rw [h1, h2, hm, List.getElem?_eq_getElem hjl] at h
  refine ⟨n, _, h, fun k hk => hs k ?_⟩
  rw [hx]
  simp only [DataW.weights, ht]
  refine DataW.weights_mem_each (j := j) (t := T) (d := xs[j].1) ?_ ?_ k hk
  · rw [List.getElem?_map, Array.getElem?_toList, hf1]; simp [h1]
  · rw [List.getElem?_map, List.getElem?_eq_getElem hjl]; rfl
/-- a slice's elements, each as its cells -/
theorem rdz_slice {t e : TypeId} {m : Nat} (ht : (Try.prog).underlying t = some (.slice e)) (hm : (Try.prog).cellsOf e = m) (hf : DataW.trod enc Try.prog W base sp held fuel t cs = some x) (hs : Sz t x.1) :
    ∃ (a : Option Addr) (n cap : Nat), cs = [.slice a n cap] ∧ n ≤ cap ∧ cap ≤ maxLen ∧ n * (Try.prog).bytesOf e ≤ reachBytes ∧ ∀ i, i < n → ∃ (ad : Addr) (cs' : List Value) (fuel' : Nat) (x' : DataW H × List MemPlace), a = some ad ∧ cs'.length = m ∧ (∀ j, j < m → W.cell? ((ad.add (i * m)).add j) = cs'[j]?) ∧ DataW.trod enc Try.prog W base sp held fuel' e cs' = some x' ∧ Sz e x'.1 := by
  rcases open_slice ht hf with ⟨h0, _⟩ | ⟨a, len, cap, k, n, D, Pl, hcs, hb, hl, hc, hk, hx, hi⟩
  · exact ⟨none, 0, 0, h0, Nat.le_refl _, Nat.zero_le _, by simp, fun i h => absurd h (Nat.not_lt_zero _)⟩
  · refine ⟨some a, len, cap, hcs, hl, hc, ?_, fun i h => ?_⟩
    · have := hs ((len + (k - len)) * (Try.prog).bytesOf e) (by rw [hx]; simp [DataW.weights, ht])
      refine Nat.le_trans (Nat.mul_le_mul_right _ ?_) this
      omega
    · have hik : i < k := by rw [hk]; split <;> omega
      obtain ⟨cs', hc', ht'⟩ := hi i hik
      rw [hm] at hc'
      obtain ⟨_, hcl, hat⟩ := World.cells?_some hc'
      refine ⟨a, cs', n, _, rfl, hcl, fun j hj => hat j hj, ht', fun q hq => hs q ?_⟩
      rw [hx]
      simp only [DataW.weights, ht]
      refine List.mem_cons_of_mem _ (List.mem_append_left _ (weightsAll_mem (List.mem_map.2 ⟨i, by simpa using h, rfl⟩) q hq))
theorem bytesOf8 : (Try.prog).bytesOf 5 = 1 := by kernel_rfl
theorem rdz_bytes (hf : DataW.trod enc Try.prog W base sp held fuel 31 cs = some x) (hs : Sz 31 x.1) :
    ∃ (a : Option Addr) (n cap : Nat) (bs : List UInt8), cs = [.slice a n cap] ∧ RdB W W.heap.size a n bs ∧ n ≤ cap ∧ cap ≤ maxLen ∧ n ≤ reachBytes := by
  obtain ⟨a, n, c, bs, h1, h2, h3, h4⟩ := rd_bytes hf
  obtain ⟨a', n', c', k1, k2, k3, k4, _⟩ := rdz_slice Try.underlying31 (m := 1) (by kernel_rfl) hf hs
  rw [h1] at k1
  injection k1 with k1 _
  injection k1 with _ k1 _
  rw [bytesOf8, Nat.mul_one] at k4
  exact ⟨a, n, c, bs, h1, h2, h3, h4, by omega⟩
end
end Go.Proofs.Ytcgalmnllegnbaa

/- How dots that came in read. -/
namespace Go.Proofs.Ytcgalmnllegnbaa
set_option linter.unusedVariables false
set_option linter.unusedSimpArgs false
open Go.ChangeShapes Go.WideShapes Go.ChangeAt Go.RowKit Go.Deep
open Dot
set_option maxRecDepth 100000
theorem cellsIq : (Try.prog).cellsOf 3 = 1 := by kernel_rfl
theorem cellsD : (Try.prog).cellsOf 46 = 2 := by kernel_rfl
theorem cellsDs : (Try.prog).cellsOf 23 = 1 := by kernel_rfl
section
variable {H : Type} {enc : TypeId × Value → H} {W : World} {base : Nat} {sp : Nat → Bool} {held : Bool} {fuel : Nat} {cs : List Value} {x : DataW H × List MemPlace}
theorem rd_dot (hf : DataW.trod enc Try.prog W base sp held fuel 46 cs = some x) : ∃ d : Dt, cs = [.int .i64 d.1, .int .i64 d.2] := by
  have hl := rd_len Try.underlying46 cellsD hf
  obtain ⟨_, _, g0⟩ := rd_field Try.underlying46 hf 0 3 0 1 rfl cellsIq
  obtain ⟨_, _, g1⟩ := rd_field Try.underlying46 hf 1 3 1 1 rfl cellsIq
  obtain ⟨x0, e0, _⟩ := rd_int g0
  obtain ⟨x1, e1, _⟩ := rd_int g1
  match cs, hl with
  | [a, b], _ =>
    simp at e0 e1
    exact ⟨(x0, x1), by rw [e0, e1]⟩
theorem rd_dots (hf : DataW.trod enc Try.prog W base sp held fuel 23 cs = some x) : ∃ (A : Option Addr) (n c : Nat) (l : List Dt), cs = [.slice A n c] ∧ RdD W W.heap.size A n l ∧ n ≤ maxLen := by
  obtain ⟨a, n, c, hcs, hnc, hcm, hg⟩ := rd_slice Try.underlying23 cellsD hf
  have key : ∀ i, i < n → ∃ (ad : Addr) (d : Dt), a = some ad ∧ DotAt W W.heap.size (ad.add (i * 2)) d := fun i hi => by
    obtain ⟨ad, cs', f', x', e, hl, hc, ht⟩ := hg i hi
    obtain ⟨d, rfl⟩ := rd_dot ht
    have h0 := hc 0 (by omega)
    have h1 := hc 1 (by omega)
    rw [add_add] at h0 h1
    rw [Nat.add_zero] at h0
    rw [add_next] at h1
    exact ⟨ad, d, e, World.block_lt_of_cell? W _ h0, h0, h1⟩
  have hex : ∀ i, ∃ d : Dt, i < n → ∃ ad, a = some ad ∧ DotAt W W.heap.size (ad.add (i * 2)) d := fun i => by
    by_cases hi : i < n
    · obtain ⟨ad, d, h⟩ := key i hi
      exact ⟨d, fun _ => ⟨ad, h⟩⟩
    · exact ⟨(0, 0), fun h => absurd h hi⟩
  refine ⟨a, n, c, (List.range n).map fun i => (hex i).choose, hcs, ⟨by simp, fun i d hi => ?_⟩, Nat.le_trans hnc hcm⟩
  have hi' : i < n := by
    have := (List.getElem?_eq_some_iff.1 hi).1
    simpa using this
  rw [List.getElem?_map, List.getElem?_range hi'] at hi
  injection hi with hi
  rw [← hi]
  exact (hex i).choose_spec hi'
end
end Go.Proofs.Ytcgalmnllegnbaa

/- How events that came in read. -/
namespace Go.Proofs.Ytcgalmnllegnbaa
set_option linter.unusedVariables false
set_option linter.unusedSimpArgs false
open Go.ChangeShapes Go.WideShapes Go.ChangeAt Go.RowKit Go.Deep
open Dot Evt
set_option maxRecDepth 100000
theorem cellsI' : (Try.prog).cellsOf 3 = 1 := by kernel_rfl
theorem cellsP : (Try.prog).cellsOf 48 = 7 := by kernel_rfl
theorem cellsE : (Try.prog).cellsOf 50 = 14 := by kernel_rfl
section
variable {H : Type} {enc : TypeId × Value → H} {W : World} {base : Nat} {sp : Nat → Bool} {held : Bool} {fuel : Nat} {cs : List Value} {x : DataW H × List MemPlace}
theorem rd_pol (hf : DataW.trod enc Try.prog W base sp held fuel 48 cs = some x) : ∃ p : List Int, p.length = 7 ∧ cs = (pc p).toList := by
  have hl := rd_len Try.underlying48 cellsP hf
  obtain ⟨_, _, g0⟩ := rd_field Try.underlying48 hf 0 3 0 1 rfl cellsI'
  obtain ⟨_, _, g1⟩ := rd_field Try.underlying48 hf 1 3 1 1 rfl cellsI'
  obtain ⟨_, _, g2⟩ := rd_field Try.underlying48 hf 2 3 2 1 rfl cellsI'
  obtain ⟨_, _, g3⟩ := rd_field Try.underlying48 hf 3 3 3 1 rfl cellsI'
  obtain ⟨_, _, g4⟩ := rd_field Try.underlying48 hf 4 3 4 1 rfl cellsI'
  obtain ⟨_, _, g5⟩ := rd_field Try.underlying48 hf 5 3 5 1 rfl cellsI'
  obtain ⟨_, _, g6⟩ := rd_field Try.underlying48 hf 6 3 6 1 rfl cellsI'
  obtain ⟨x0, e0, _⟩ := rd_int g0
  obtain ⟨x1, e1, _⟩ := rd_int g1
  obtain ⟨x2, e2, _⟩ := rd_int g2
  obtain ⟨x3, e3, _⟩ := rd_int g3
  obtain ⟨x4, e4, _⟩ := rd_int g4
  obtain ⟨x5, e5, _⟩ := rd_int g5
  obtain ⟨x6, e6, _⟩ := rd_int g6
  match cs, hl with
  | [a0, a1, a2, a3, a4, a5, a6], _ =>
    simp at e0 e1 e2 e3 e4 e5 e6
    exact ⟨[x0, x1, x2, x3, x4, x5, x6], rfl, by rw [e0, e1, e2, e3, e4, e5, e6]; rfl⟩
/-- an event, as its cells stand -/
theorem rd_ev (hf : DataW.trod enc Try.prog W base sp held fuel 50 cs = some x) : ∃ (e : Ev) (A : Option Addr) (n c : Nat), e.p.length = 7 ∧ cs = (ec e (.slice A n c)).toList ∧ RdD W W.heap.size A n e.l ∧ n ≤ maxLen := by
  have hl := rd_len Try.underlying50 cellsE hf
  obtain ⟨_, _, g0⟩ := rd_field Try.underlying50 hf 0 46 0 2 rfl cellsD
  obtain ⟨_, _, g1⟩ := rd_field Try.underlying50 hf 1 3 2 1 rfl cellsI'
  obtain ⟨_, _, g2⟩ := rd_field Try.underlying50 hf 2 3 3 1 rfl cellsI'
  obtain ⟨_, _, g3⟩ := rd_field Try.underlying50 hf 3 3 4 1 rfl cellsI'
  obtain ⟨_, _, g4⟩ := rd_field Try.underlying50 hf 4 3 5 1 rfl cellsI'
  obtain ⟨_, _, g5⟩ := rd_field Try.underlying50 hf 5 48 6 7 rfl cellsP
  obtain ⟨_, _, g6⟩ := rd_field Try.underlying50 hf 6 23 13 1 rfl cellsDs
  obtain ⟨d, e0⟩ := rd_dot g0
  obtain ⟨x1, e1, _⟩ := rd_int g1
  obtain ⟨x2, e2, _⟩ := rd_int g2
  obtain ⟨x3, e3, _⟩ := rd_int g3
  obtain ⟨x4, e4, _⟩ := rd_int g4
  obtain ⟨p, hp, e5⟩ := rd_pol g5
  obtain ⟨A, n, c, l, e6, hr, hn⟩ := rd_dots g6
  refine ⟨⟨d, x1, x2, x3, x4, p, l⟩, A, n, c, hp, ?_, hr, hn⟩
  match cs, hl with
  | [a0, a1, a2, a3, a4, a5, a6, a7, a8, a9, a10, a11, a12, a13], _ =>
    simp [pc] at e0 e1 e2 e3 e4 e5 e6
    obtain ⟨rfl, rfl⟩ := e0
    obtain ⟨rfl, rfl, rfl, rfl, rfl, rfl, rfl⟩ := e5
    subst e1 e2 e3 e4 e6
    simp [ec]
end
section
variable {H : Type} {enc : TypeId × Value → H} {W : World} {base : Nat} {sp : Nat → Bool} {held : Bool} {r : Reach} {b0 : Nat} {v : Value} {d : DataW H} {p : List MemPlace}
theorem open_ev (hv : Value.okWide Try.prog W r b0 50 v) (h : DataW.Trod enc Try.prog W base sp held 50 v d p) :
    ∃ (e : Ev) (A : Option Addr) (n c : Nat), v = .agg (ec e (.slice A n c)) ∧ e.p.length = 7 ∧ RdD W W.heap.size A n e.l ∧ n ≤ maxLen := by
  obtain ⟨cs, rfl, hsz⟩ := okWide_struct Try.underlying50 hv
  obtain ⟨fuel, hf0⟩ := h
  have hf : DataW.trod enc Try.prog W base sp held fuel 50 cs.toList = some (d, p) := hf0
  obtain ⟨e, A, n, c, h1, h2, h3, h4⟩ := rd_ev hf
  exact ⟨e, A, n, c, by rw [← Array.toArray_toList (xs := cs), h2], h1, h3, h4⟩
end
end Go.Proofs.Ytcgalmnllegnbaa

/- How events that came in read, within the reach. -/
namespace Go.Proofs.Ytcgalmnllegnbaa
set_option linter.unusedVariables false
set_option linter.unusedSimpArgs false
open Go.ChangeShapes Go.WideShapes Go.ChangeAt Go.RowKit Go.Deep
open Dot Evt
set_option maxRecDepth 100000
theorem bytesDt : (Try.prog).bytesOf 46 = 16 := by kernel_rfl
theorem bytesEv : (Try.prog).bytesOf 50 = 128 := by kernel_rfl
section
variable {H : Type} {enc : TypeId × Value → H} {W : World} {base : Nat} {sp : Nat → Bool} {held : Bool} {fuel : Nat} {cs : List Value} {x : DataW H × List MemPlace}
theorem rdz_ev (hf : DataW.trod enc Try.prog W base sp held fuel 50 cs = some x) (hs : Sz 50 x.1) : ∃ e : EvV, cs = e.cs.toList ∧ EvOk W W.heap.size e := by
  obtain ⟨e, A, n, c, h1, h2, h3, _⟩ := rd_ev hf
  obtain ⟨_, _, g6, z6⟩ := rdz_field Try.underlying50 hf hs 6 23 13 1 rfl cellsDs
  obtain ⟨a3, l3, c3, e1, _, _, e4, _⟩ := rdz_slice Try.underlying23 cellsD g6 z6
  rw [bytesDt] at e4
  have hr : reachBytes = 140737488351232 := rfl
  rw [h2] at e1
  have e2 : ((ec e (.slice A n c)).toList.drop 13).take 1 = [.slice A n c] := rfl
  rw [e2] at e1
  injection e1 with e1 _
  injection e1 with _ e1 _
  exact ⟨⟨e, A, n, c⟩, h2, h1, h3, by show n ≤ _; omega⟩
theorem rdz_evs (hf : DataW.trod enc Try.prog W base sp held fuel 24 cs = some x) (hs : Sz 24 x.1) : ∃ (A : Option Addr) (n c : Nat) (xs : List EvV), cs = [.slice A n c] ∧ RowEv W W.heap.size A n xs ∧ n ≤ 10000000000000 := by
  obtain ⟨a, n, c, h1, _, _, h3, h4⟩ := rdz_slice Try.underlying24 cellsE hf hs
  rw [bytesEv] at h3
  have hr : reachBytes = 140737488351232 := rfl
  have key : ∀ i, i < n → ∃ e : EvV, EvOk W W.heap.size e ∧ ∃ ad, a = some ad ∧ ad.block < W.heap.size ∧ ∀ (j : Nat) v, e.cs[j]? = some v → W.cell? ((ad.add (i * 14)).add j) = some v := fun i hi => by
    obtain ⟨ad, cs', f', x', e1, hl, hc, ht, hz⟩ := h4 i hi
    obtain ⟨e, h5, h6⟩ := rdz_ev ht hz
    have hlt : ad.block < W.heap.size := by
      have e6 := hc 0 (by omega)
      rw [List.getElem?_eq_getElem (by omega)] at e6
      have := World.block_lt_of_cell? W _ e6
      rwa [block_add, block_add] at this
    refine ⟨e, h6, ad, e1, hlt, fun j v hv => ?_⟩
    have hj : j < 14 := by
      have := (Array.getElem?_eq_some_iff.1 hv).1
      rwa [e.size] at this
    rw [hc j hj, h5, Array.getElem?_toList, hv]
  have hex : ∀ i, ∃ e : EvV, i < n → EvOk W W.heap.size e ∧ ∃ ad, a = some ad ∧ ad.block < W.heap.size ∧ ∀ (j : Nat) v, e.cs[j]? = some v → W.cell? ((ad.add (i * 14)).add j) = some v := fun i => by
    by_cases hi : i < n
    · obtain ⟨e, h⟩ := key i hi
      exact ⟨e, fun _ => h⟩
    · exact ⟨⟨exZ, none, 0, 0⟩, fun h => absurd h hi⟩
  refine ⟨a, n, c, (List.range n).map fun i => (hex i).choose, h1, ⟨by simp, fun i d hi => ?_⟩, by omega⟩
  have hi' : i < n := by
    have := (List.getElem?_eq_some_iff.1 hi).1
    simpa using this
  rw [List.getElem?_map, List.getElem?_range hi'] at hi
  injection hi with hi
  rw [← hi]
  exact (hex i).choose_spec hi'
end
section
variable {H : Type} {enc : TypeId × Value → H} {W : World} {base : Nat} {sp : Nat → Bool} {held : Bool} {r : Reach} {b0 : Nat} {v : Value} {d : DataW H} {p : List MemPlace}
theorem open_evz (hv : Value.okWide Try.prog W r b0 50 v) (h : DataW.Trod enc Try.prog W base sp held 50 v d p) (hs : Sz 50 d) :
    ∃ e : EvV, v = .agg e.cs ∧ EvOk W W.heap.size e := by
  obtain ⟨cs, rfl, hsz⟩ := okWide_struct Try.underlying50 hv
  obtain ⟨fuel, hf0⟩ := h
  have hf : DataW.trod enc Try.prog W base sp held fuel 50 cs.toList = some (d, p) := hf0
  obtain ⟨e, h1, h2⟩ := rdz_ev hf hs
  exact ⟨e, by rw [← Array.toArray_toList (xs := cs), h1], h2⟩
theorem open_evsz (hv : Value.okWide Try.prog W r b0 24 v) (h : DataW.Trod enc Try.prog W base sp held 24 v d p) (hs : Sz 24 d) :
    ∃ (A : Option Addr) (n c : Nat) (xs : List EvV), v = .slice A n c ∧ RowEv W W.heap.size A n xs ∧ n ≤ 10000000000000 := by
  obtain ⟨a0, len0, cap0, rfl⟩ := okWide_slice Try.underlying24 hv
  obtain ⟨fuel, hf⟩ := h
  obtain ⟨A, n, c, xs, h1, h2⟩ := rdz_evs hf hs
  simp [Value.cells] at h1
  obtain ⟨rfl, rfl, rfl⟩ := h1
  exact ⟨_, _, _, xs, rfl, h2⟩
end
end Go.Proofs.Ytcgalmnllegnbaa

/- The document's example of layer 6. -/
namespace Go.Proofs.Ytcgalmnllegnbaa
set_option linter.unusedVariables false
set_option linter.unusedSimpArgs false
set_option maxRecDepth 100000
open Go.RowKit
open Dot
def U0 : List Int := [0, 0, 0, 0, 0, 0, 0, 0]
def U2 : List Int := [2, 0, 0, 0, 0, 0, 0, 0]
theorem ex1_U : uptoS (addG U0 [] (0, 2)) = U0 := by decide +kernel
theorem ex1_M : moreS (addG U0 [] (0, 2)) = [(0, 2)] := by decide +kernel
theorem ex1_E : addE U0 [] (0, 2) = 0 := by decide +kernel
theorem ex2_U : uptoS (addG U0 [(0, 2)] (0, 1)) = U2 := by decide +kernel
theorem ex2_M : moreS (addG U0 [(0, 2)] (0, 1)) = [] := by decide +kernel
theorem ex2_E : addE U0 [(0, 2)] (0, 1) = 0 := by decide +kernel
theorem ex3_B : (if rightB U0 [] = true then encs (putL U0 []) else []) = [0, 0, 0, 0, 0, 0, 0, 0, 0] := by decide +kernel
theorem ex3_E : (if rightB U0 [] = true then 0 else 2) = 0 := by decide +kernel
theorem ex4 : rightB U0 [(0, 2)] = true := by decide +kernel
theorem ex5 : rightB U0 [(0, 1)] = false := by decide +kernel
end Go.Proofs.Ytcgalmnllegnbaa

/- How sets and dots that came in read. -/
namespace Go.Proofs.Ytcgalmnllegnbaa
set_option linter.unusedVariables false
set_option linter.unusedSimpArgs false
open Go.ChangeShapes Go.WideShapes Go.ChangeAt Go.RowKit Go.Deep
open Dot
set_option maxRecDepth 100000
section
variable {H : Type} {enc : TypeId × Value → H} {W : World} {base : Nat} {sp : Nat → Bool} {held : Bool} {fuel : Nat} {cs : List Value} {x : DataW H × List MemPlace}
theorem rd_arr8 (hf : DataW.trod enc Try.prog W base sp held fuel 22 cs = some x) : ∃ l : List Int, cs = l.map (Value.int .i64) ∧ l.length = 8 ∧ Wf l := by
  obtain ⟨xs, m, _, _, hl, hxl, hg⟩ := DataW.trod_array Try.underlying22 hf
  rw [cellsA] at hl
  rw [cellsI] at hg
  have key : ∀ i, i < 8 → ∃ z : Int, cs[i]? = some (.int .i64 z) ∧ (Lit.int .i64 z).wf = true := fun i hi => by
    have h := hg i hi
    rw [List.getElem?_eq_getElem (by omega)] at h
    obtain ⟨z, h1, h2⟩ := rd_int h
    rw [Nat.mul_one] at h1
    refine ⟨z, ?_, wf_of h2.1 h2.2⟩
    have : ((cs.drop i).take 1)[0]? = some (.int .i64 z) := by rw [h1]; rfl
    rw [List.getElem?_take, if_pos (by omega), List.getElem?_drop] at this
    exact this
  have hex : ∀ i, ∃ z : Int, i < 8 → cs[i]? = some (.int .i64 z) ∧ (Lit.int .i64 z).wf = true := fun i => by
    by_cases hi : i < 8
    · obtain ⟨z, h⟩ := key i hi
      exact ⟨z, fun _ => h⟩
    · exact ⟨0, fun h => absurd h hi⟩
  refine ⟨(List.range 8).map fun i => (hex i).choose, ?_, by simp, fun z hz => ?_⟩
  · apply List.ext_getElem?
    intro i
    by_cases hi : i < 8
    · rw [((hex i).choose_spec hi).1, List.getElem?_map, List.getElem?_map, List.getElem?_range hi]
      rfl
    · rw [List.getElem?_eq_none (by omega), List.getElem?_eq_none (by simp; omega)]
  · obtain ⟨i, hi, rfl⟩ := List.mem_map.1 hz
    exact ((hex i).choose_spec (by simpa using hi)).2
end
section
variable {H : Type} {enc : TypeId × Value → H} {W : World} {base : Nat} {sp : Nat → Bool} {held : Bool} {r : Reach} {b0 : Nat} {v : Value} {d : DataW H} {p : List MemPlace}
theorem open_dot (hv : Value.okWide Try.prog W r b0 46 v) (h : DataW.Trod enc Try.prog W base sp held 46 v d p) : ∃ n q : Int, v = .agg #[.int .i64 n, .int .i64 q] := by
  obtain ⟨cs, rfl, hsz⟩ := okWide_struct Try.underlying46 hv
  obtain ⟨fuel, hf0⟩ := h
  have hf : DataW.trod enc Try.prog W base sp held fuel 46 cs.toList = some (d, p) := hf0
  obtain ⟨d, h1⟩ := rd_dot hf
  exact ⟨d.1, d.2, by rw [← Array.toArray_toList (xs := cs), h1]⟩
theorem open_dots (hv : Value.okWide Try.prog W r b0 23 v) (h : DataW.Trod enc Try.prog W base sp held 23 v d p) : ∃ (A : Option Addr) (n c : Nat) (l : List Dt), v = .slice A n c ∧ RdD W W.heap.size A n l ∧ n ≤ maxLen := by
  obtain ⟨a0, len0, cap0, rfl⟩ := okWide_slice Try.underlying23 hv
  obtain ⟨fuel, hf⟩ := h
  obtain ⟨A, n, c, l, h1, h2⟩ := rd_dots hf
  simp [Value.cells] at h1
  obtain ⟨rfl, rfl, rfl⟩ := h1
  exact ⟨_, _, _, l, rfl, h2⟩
end
/-- the numbers of what there is are small -/
theorem upto_wf (G : Grid) : Wf (uptoS G) := fun x hx => by
  unfold uptoS at hx
  obtain ⟨n, _, rfl⟩ := List.mem_map.1 hx
  have := lead_le (G n) 98
  exact wf_of (by omega) (by omega)
theorem upto_len (G : Grid) : (uptoS G).length = 8 := by simp [uptoS]
theorem more_len (G : Grid) : (moreS G).length ≤ 784 := moreTo_len G 8
theorem dots_len (G : Grid) : (dotsS G).length ≤ 784 := dotsTo_len G 8
end Go.Proofs.Ytcgalmnllegnbaa

/- How messages that came in read. -/
namespace Go.Proofs.Ytcgalmnllegnbaa
set_option linter.unusedVariables false
set_option linter.unusedSimpArgs false
open Go.ChangeShapes Go.WideShapes Go.ChangeAt Go.RowKit Go.Deep
open Dot Evt
open Ms (Mem)
set_option maxRecDepth 100000
theorem cellsMb : (Try.prog).cellsOf 62 = 3 := by kernel_rfl
theorem cellsMbs : (Try.prog).cellsOf 25 = 1 := by kernel_rfl
theorem cellsEs : (Try.prog).cellsOf 24 = 1 := by kernel_rfl
theorem cellsMg : (Try.prog).cellsOf 27 = 16 := by kernel_rfl
section
variable {H : Type} {enc : TypeId × Value → H} {W : World} {base : Nat} {sp : Nat → Bool} {held : Bool} {fuel : Nat} {cs : List Value} {x : DataW H × List MemPlace}
theorem rd_mb (hf : DataW.trod enc Try.prog W base sp held fuel 62 cs = some x) : ∃ d : Mem, cs = [.int .i64 d.1, .int .i64 d.2.1, .int .i64 d.2.2] := by
  have hl := rd_len Try.underlying62 cellsMb hf
  obtain ⟨_, _, g0⟩ := rd_field Try.underlying62 hf 0 3 0 1 rfl cellsIq
  obtain ⟨_, _, g1⟩ := rd_field Try.underlying62 hf 1 3 1 1 rfl cellsIq
  obtain ⟨_, _, g2⟩ := rd_field Try.underlying62 hf 2 3 2 1 rfl cellsIq
  obtain ⟨x0, e0, _⟩ := rd_int g0
  obtain ⟨x1, e1, _⟩ := rd_int g1
  obtain ⟨x2, e2, _⟩ := rd_int g2
  match cs, hl with
  | [a, b, c], _ =>
    simp at e0 e1 e2
    exact ⟨(x0, x1, x2), by rw [e0, e1, e2]⟩
theorem rd_mbs (hf : DataW.trod enc Try.prog W base sp held fuel 25 cs = some x) : ∃ (A : Option Addr) (n c : Nat) (l : List Mem), cs = [.slice A n c] ∧ RdMb W W.heap.size A n l ∧ n ≤ maxLen := by
  obtain ⟨a, n, c, hcs, hnc, hcm, hg⟩ := rd_slice Try.underlying25 cellsMb hf
  have key : ∀ i, i < n → ∃ (ad : Addr) (d : Mem), a = some ad ∧ MbAt W W.heap.size (ad.add (i * 3)) d := fun i hi => by
    obtain ⟨ad, cs', f', x', e, hl, hc, ht⟩ := hg i hi
    obtain ⟨d, rfl⟩ := rd_mb ht
    have h0 := hc 0 (by omega)
    have h1 := hc 1 (by omega)
    have h2 := hc 2 (by omega)
    rw [add_add] at h0 h1 h2
    rw [Nat.add_zero] at h0
    rw [add_nextMb _ _ _ (by decide)] at h1 h2
    exact ⟨ad, d, e, World.block_lt_of_cell? W _ h0, h0, h1, h2⟩
  have hex : ∀ i, ∃ d : Mem, i < n → ∃ ad, a = some ad ∧ MbAt W W.heap.size (ad.add (i * 3)) d := fun i => by
    by_cases hi : i < n
    · obtain ⟨ad, d, h⟩ := key i hi
      exact ⟨d, fun _ => ⟨ad, h⟩⟩
    · exact ⟨(0, 0, 0), fun h => absurd h hi⟩
  refine ⟨a, n, c, (List.range n).map fun i => (hex i).choose, hcs, ⟨by simp, fun i d hi => ?_⟩, Nat.le_trans hnc hcm⟩
  have hi' : i < n := by
    have := (List.getElem?_eq_some_iff.1 hi).1
    simpa using this
  rw [List.getElem?_map, List.getElem?_range hi'] at hi
  injection hi with hi
  rw [← hi]
  exact (hex i).choose_spec hi'
theorem rdz_msg (hf : DataW.trod enc Try.prog W base sp held fuel 27 cs = some x) (hs : Sz 27 x.1) : ∃ v : MgV, cs = v.cs.toList ∧ MgOk W W.heap.size v ∧ Wf v.m.u ∧ v.n1 ≤ maxLen ∧ v.n2 ≤ 10000000000000 ∧ v.n3 ≤ maxLen := by
  have hl := rd_len Try.underlying27 cellsMg hf
  obtain ⟨_, _, g0⟩ := rd_field Try.underlying27 hf 0 3 0 1 rfl cellsIq
  obtain ⟨_, _, g1⟩ := rd_field Try.underlying27 hf 1 3 1 1 rfl cellsIq
  obtain ⟨_, _, g2⟩ := rd_field Try.underlying27 hf 2 3 2 1 rfl cellsIq
  obtain ⟨_, _, g3⟩ := rd_field Try.underlying27 hf 3 3 3 1 rfl cellsIq
  obtain ⟨_, _, g4⟩ := rd_field Try.underlying27 hf 4 3 4 1 rfl cellsIq
  obtain ⟨_, _, g5⟩ := rd_field Try.underlying27 hf 5 22 5 8 rfl cellsA
  obtain ⟨_, _, g6⟩ := rd_field Try.underlying27 hf 6 23 13 1 rfl cellsDs
  obtain ⟨_, _, g7, z7⟩ := rdz_field Try.underlying27 hf hs 7 24 14 1 rfl cellsEs
  obtain ⟨_, _, g8⟩ := rd_field Try.underlying27 hf 8 25 15 1 rfl cellsMbs
  obtain ⟨x0, e0, _⟩ := rd_int g0
  obtain ⟨x1, e1, _⟩ := rd_int g1
  obtain ⟨x2, e2, _⟩ := rd_int g2
  obtain ⟨x3, e3, _⟩ := rd_int g3
  obtain ⟨x4, e4, _⟩ := rd_int g4
  obtain ⟨U, e5, hU, wU⟩ := rd_arr8 g5
  obtain ⟨A1, n1, c1, l1, e6, hr1, hn1⟩ := rd_dots g6
  obtain ⟨A2, n2, c2, xs, e7, hr2, hn2⟩ := rdz_evs g7 z7
  obtain ⟨A3, n3, c3, l3, e8, hr3, hn3⟩ := rd_mbs g8
  refine ⟨⟨⟨x0, x1, x2, x3, x4, U, l1, xs.map (·.e), l3⟩, A1, n1, c1, xs, A2, n2, c2, A3, n3, c3⟩, ?_, ⟨hU, hr1, hr2, rfl, hr3⟩, wU, hn1, hn2, hn3⟩
  match U, hU with
  | [u0, u1, u2, u3, u4, u5, u6, u7], _ =>
    match cs, hl with
    | [a0, a1, a2, a3, a4, a5, a6, a7, a8, a9, a10, a11, a12, a13, a14, a15], _ =>
      simp at e0 e1 e2 e3 e4 e5 e6 e7 e8
      obtain ⟨rfl, rfl, rfl, rfl, rfl, rfl, rfl, rfl⟩ := e5
      subst e0 e1 e2 e3 e4 e6 e7 e8
      rfl
end
section
variable {H : Type} {enc : TypeId × Value → H} {W : World} {base : Nat} {sp : Nat → Bool} {held : Bool} {r : Reach} {b0 : Nat} {v : Value} {d : DataW H} {p : List MemPlace}
theorem open_msgz (hv : Value.okWide Try.prog W r b0 27 v) (h : DataW.Trod enc Try.prog W base sp held 27 v d p) (hs : Sz 27 d) :
    ∃ x : MgV, v = .agg x.cs ∧ MgOk W W.heap.size x ∧ Wf x.m.u ∧ x.n1 ≤ maxLen ∧ x.n2 ≤ 10000000000000 ∧ x.n3 ≤ maxLen := by
  obtain ⟨cs, rfl, hsz⟩ := okWide_struct Try.underlying27 hv
  obtain ⟨fuel, hf0⟩ := h
  have hf : DataW.trod enc Try.prog W base sp held fuel 27 cs.toList = some (d, p) := hf0
  obtain ⟨x, h1, h2⟩ := rdz_msg hf hs
  exact ⟨x, by rw [← Array.toArray_toList (xs := cs), h1], h2⟩
end
end Go.Proofs.Ytcgalmnllegnbaa

namespace Go.Proofs.Ytcgalmnllegnbaa.MsgPuts
set_option linter.unusedVariables false
set_option linter.unusedSimpArgs false
set_option maxRecDepth 100000
open Go.ChangeShapes Go.WideShapes Go.ChangeAt Go.RowKit Go.Deep
open Dot Evt
open Ms (Mem)
set_option linter.unusedVariables false
set_option linter.unusedSimpArgs false
theorem evSum_len (xs : List EvV) : xs.length ≤ evSum xs := by
  unfold evSum
  induction xs with
  | nil => simp
  | cons x l ih => simp at ih ⊢; omega
theorem evSum_mem (xs : List EvV) : ∀ x ∈ xs, x.m ≤ evSum xs := by
  unfold evSum
  induction xs with
  | nil => simp
  | cons y l ih =>
    intro x hx
    simp only [List.map_cons, List.sum_cons]
    rcases List.mem_cons.1 hx with rfl | h
    · omega
    · have := ih x h; omega
theorem putM_len (m : Ms.Msg) : (Ms.putM m).1.length ≤ 5000 := by
  unfold Ms.putM
  split
  · split
    · show (Frame.frm _).length ≤ 5000
      rw [Frame.frm_length]
      have := Vint.enc_length (Ms.bodyM m).length
      omega
    · show ([] : List UInt8).length ≤ 5000
      simp
  · show ([] : List UInt8).length ≤ 5000
    simp
set_option maxHeartbeats 4000000 in
theorem walk (x : MgV) (w : World) (hk : MgOk w w.heap.size x) (wu : Wf x.m.u) (b1 : x.n1 ≤ maxLen) (b2 : x.n2 ≤ 10000000000000) (b3 : x.n3 ≤ maxLen) :
    Calls Try.prog 3 #[.agg x.cs] w fun e w' => e = .returned (.bool true) ∧ Below w.heap.size w w' := by
  have h : MgIn w x := ⟨hk, wu, b2, b3⟩
  have HIN := Lib.hid fun (w' : World) (hb : Below w.heap.size w w') => h.below hb
  have SZ := Lib.hid x.size
  have HGR := Lib.hid fun (w' : World) (hb : Below w.heap.size w w') => rgreat17_any x w' (h.below hb)
  have HCP := Lib.hid fun (c1 : x.n1 ≤ 1000) (c3 : x.n3 ≤ 1000) (c2 : evSum x.xs ≤ 3000) (w' : World) (hb : Below w.heap.size w w') => rcopy17_any x w' (h.below hb) (by omega) (by have := h.ok.ev.1; have := evSum_len x.xs; omega) (by omega) (fun y hy => by have := evSum_mem x.xs y hy; omega)
  have HRP := Lib.hid fun (w' : World) (hb : Below w.heap.size w w') => rput17_any x w' (h.below hb)
  have HRR := Lib.hid fun (w' : World) (hb : Below w.heap.size w w') => rright17_any x w' (h.below hb)
  clear hk wu b1 b2 b3 h
  generalize hC : x.cs = C at *
  have HCX := Lib.hid hC.symm
  clear hC
  go_enter Try.func3, Try.ntmps3
  go_upto_region 1 with fail
  refine nameW ?_
  intro W hW
  obtain ⟨g, hg⟩ : ∃ g, g = w.heap.size := ⟨_, rfl⟩
  rw [← hg]
  have kb : Blk W g 27 C := by rw [hW, hg]; exact Blk.new w _ _
  have gb : Below w.heap.size w W := by rw [hW]; exact (Below.refl _ _).alloc (Nat.le_refl _) _
  clear hW hg
  go_wp2_with fail
  refine (alive17 W).mono ?_
  rintro e w1 ⟨rfl, bb⟩
  have kb := kb.below bb kb.lt
  have gb := gb.trans (bb.mono gb.size)
  clear bb
  go_wp2_with ((with_reducible refine wpList_ld rowMg kb SZ.out ?_ ?_); rotate_left; (rfl))
  refine (HGR.out w1 gb).mono ?_
  rintro e w2 ⟨⟨G, rfl, hG⟩, bb⟩
  have kb := kb.below bb kb.lt
  have gb := gb.trans (bb.mono gb.size)
  clear bb
  cases G
  case true =>
    go_wp2_with fail
    go_ret
    exact ⟨rfl, gb⟩
  case false =>
    obtain ⟨c1, c3, c2⟩ := hG rfl
    have HC := Lib.hid (HCP.out c1 c3 c2)
    clear hG HCP HGR
    go_wp2_with ((with_reducible refine wpList_ld rowMg kb SZ.out ?_ ?_); rotate_left; (rfl))
    refine (HC.out w2 gb).mono ?_
    rintro e w3 ⟨y, rfl, hm, hy, e1, e2, e3, bb⟩
    have kb := kb.below bb kb.lt
    have gb := gb.trans (bb.mono gb.size)
    have SY := Lib.hid y.size
    have OY := Lib.hid y.one
    have hys : ∀ z ∈ y.xs, z.m ≤ 1000000 := fun z hz => by
      obtain ⟨i, hi, rfl⟩ := List.getElem_of_mem hz
      have h1 := (hy.ok.ev.2 i _ (List.getElem?_eq_getElem hi)).1.2.1.1
      have hev : (y.xs.map (·.e))[i]? = (x.xs.map (·.e))[i]? := by rw [← hy.ok.es, ← (HIN.out w (Below.refl _ _)).ok.es, hm]
      rw [List.getElem?_map, List.getElem?_map, List.getElem?_eq_getElem hi] at hev
      simp only [Option.map_some] at hev
      cases hq : x.xs[i]? with
      | none => rw [hq] at hev; cases hev
      | some q =>
        rw [hq] at hev
        simp only [Option.map_some] at hev
        injection hev with hev
        have h2 := ((HIN.out w (Below.refl _ _)).ok.ev.2 i q hq).1.2.1.1
        have h3 := evSum_mem x.xs q (List.mem_of_getElem? hq)
        rw [h1, hev, ← h2]
        omega
    have HPY := Lib.hid fun (w' : World) (hb : Below w3.heap.size w3 w') => (by have := mput_any y w' (hy.below hb); rw [hm] at this; exact this : Calls Try.prog _ #[.agg y.cs] w' (GiveBE w' (Ms.putM x.m).1 (Ms.putM x.m).2))
    have HSY := Lib.hid fun (w' : World) (hb : Below w3.heap.size w3 w') => (by have := msize_any y w' (hy.below hb); rw [hm] at this; exact this : Calls Try.prog _ #[.agg y.cs] w' fun e w'' => e = .returned (.tuple #[.int .i64 ((Ms.putM x.m).1.length : Nat), .int .i64 ((Ms.putM x.m).2 : Nat)]) ∧ Below w'.heap.size w' w'')
    have HRY := Lib.hid fun (w' : World) (hb : Below w3.heap.size w3 w') => (by have := mright_any y w' (hy.below hb); rw [hm] at this; exact this : Calls Try.prog _ #[.agg y.cs] w' fun e w'' => e = .returned (.bool (Ms.rightM x.m)) ∧ Below w'.heap.size w' w'')
    have HSM := Lib.hid fun (w' : World) (hb : Below w3.heap.size w3 w') (hb2 : Below w.heap.size w w') => (by have := rsame17_eq y x w' (hy.below hb) (HIN.out w' hb2) hm (by omega) (by omega) hys; rw [← HCX.out] at this; exact this : Calls Try.prog _ #[.agg y.cs, .agg C] w' fun e w'' => e = .returned (.bool true) ∧ Below w'.heap.size w' w'')
    clear hm hy e1 e2 e3 hys bb HC HIN
    generalize hCY : y.cs = CY at *
    clear hCY
    go_upto_region 6 with ((with_reducible refine wpList_st (cs := CY) rowMg (Blk.new _ _ _) SY.out ?_ OY.out ?_ ?_ ?_); (rfl); rotate_left; (rfl); (rfl); intro w4 ky g4 z4)
    have bn : Below w3.heap.size w3 w4 := new_below g4
    have kb := kb.below bn kb.lt
    have gb := gb.trans (bn.mono gb.size)
    obtain ⟨g2, hg2⟩ : ∃ g2, g2 = w3.heap.size := ⟨_, rfl⟩
    rw [← hg2] at ky ⊢
    clear g4 z4 hg2
    obtain ⟨bs, hbs⟩ : ∃ bs, bs = (Ms.putM x.m).1 := ⟨_, rfl⟩
    obtain ⟨er, her⟩ : ∃ er, er = (Ms.putM x.m).2 := ⟨_, rfl⟩
    have hbl : bs.length ≤ 5000 := by rw [hbs]; exact putM_len _
    rw [← hbs, ← her] at HPY HSY HRP
    clear hbs her
    go_wp2_with ((with_reducible refine wpList_ld rowMg ky SY.out ?_ ?_); rotate_left; (rfl))
    refine (HPY.out w4 bn).mono ?_
    rintro e w5 ⟨A5, n5, c5, rfl, o5, b5⟩
    have kb := kb.below b5 kb.lt
    have ky := ky.below b5 ky.lt
    have bn := bn.trans (b5.mono bn.size)
    have gb := gb.trans (b5.mono gb.size)
    obtain rfl := o5.1
    have HO5 := Lib.hid o5
    clear o5 b5
    go_wp2_with ((with_reducible refine wpList_ld rowMg kb SZ.out ?_ ?_); rotate_left; (rfl))
    refine (HRP.out w5 gb).mono ?_
    rintro e w6 ⟨A6, n6, c6, rfl, o6, b6⟩
    have kb := kb.below b6 kb.lt
    have ky := ky.below b6 ky.lt
    have bn := bn.trans (b6.mono bn.size)
    have gb := gb.trans (b6.mono gb.size)
    have hn6 : n6 = bs.length := o6.1
    subst hn6
    have r5 : RdB w6 w5.heap.size A5 bs.length bs := HO5.out.rd.below b6
    have r6 := o6.rd
    have HRD := Lib.hid (And.intro r5 r6)
    have h56 : w5.heap.size ≤ w6.heap.size := b6.size
    clear o6 b6 r5 r6 HO5
    go_wp2_with ((with_reducible refine wpList_ld rowMg ky SY.out ?_ ?_); rotate_left; (rfl))
    refine (HSY.out w6 bn).mono ?_
    rintro e w7 ⟨rfl, b7⟩
    have kb := kb.below b7 kb.lt
    have ky := ky.below b7 ky.lt
    have bn := bn.trans (b7.mono bn.size)
    have gb := gb.trans (b7.mono gb.size)
    have r5 := (HRD.out.1.more h56).below b7
    have r6 := HRD.out.2.below b7
    have HRD7 := Lib.hid (And.intro r5 r6)
    have h67 : w6.heap.size ≤ w7.heap.size := b7.size
    clear b7 r5 r6 HRD
    -- THE LAST REGION
    have r5 := HRD7.out.1
    have r6 := HRD7.out.2
    have HSE := Lib.hid fun (w' : World) (hb : Below w7.heap.size w7 w') => ((same_eq A5 A6 bs.length c5 bs.length c6 bs _ _ w' ((r5.more h67).below hb) ((r6.more h67).below hb) (by omega)).mono (by rintro e w'' ⟨h1, m, rfl⟩; exact ⟨h1, below_drewN (Below.refl _ _) m⟩) : Calls Try.prog _ #[.slice A5 bs.length c5, .slice A6 bs.length c6] w' fun e w'' => e = .returned (.bool true) ∧ Below w'.heap.size w' w'')
    clear r5 r6 HRD7
    generalize Ms.rightM x.m = R at *
    go_upto_region 9 with fail
    refine wp_region_facts (fun L v w => v 1 = .pointer (some ⟨g, 0, none⟩) ∧ v 3 = .pointer (some ⟨g2, 0, none⟩) ∧ v 4 = .slice A5 bs.length c5 ∧ v 5 = .int .i64 (er : Nat) ∧ v 6 = .slice A6 bs.length c6 ∧ v 7 = .int .i64 (er : Nat) ∧ v 8 = .int .i64 (bs.length : Nat) ∧ v 9 = .int .i64 (er : Nat) ∧ Below w7.heap.size w7 w ∧ (L 0 = true → v 31 = .agg CY) ∧ (L 1 = true → v 32 = .bool R) ∧ (L 2 = true → v 33 = .agg C) ∧ (L 3 = true → v 34 = .bool R) ∧ (L 4 = true → v 35 = .bool true) ∧ (L 5 = true → v 36 = .bool true) ∧ (L 6 = true → v 37 = .slice A5 bs.length c5) ∧ (L 7 = true → v 38 = .slice A6 bs.length c6) ∧ (L 8 = true → v 39 = .bool true) ∧ (L 9 = true → v 40 = .bool true) ∧ (L 10 = true → v 41 = .bool true) ∧ (L 11 = true → v 42 = .int .i64 (er : Nat)) ∧ (L 12 = true → v 43 = .int .i64 (er : Nat)) ∧ (L 13 = true → v 44 = .bool true) ∧ (L 14 = true → v 45 = .bool true) ∧ (L 15 = true → v 46 = .bool true) ∧ (L 16 = true → v 47 = .int .i64 (bs.length : Nat)) ∧ (L 17 = true → v 48 = .slice A6 bs.length c6) ∧ (L 18 = true → v 49 = .int .i64 (bs.length : Nat)) ∧ (L 19 = true → v 50 = .bool true) ∧ (L 20 = true → v 51 = .bool true) ∧ (L 21 = true → v 52 = .bool true) ∧ (L 22 = true → v 53 = .int .i64 (er : Nat)) ∧ (L 23 = true → v 54 = .int .i64 (er : Nat)) ∧ (L 24 = true → v 55 = .bool true) ∧ (L 25 = true → v 56 = .bool true) ∧ (L 26 = true → v 57 = .bool true) ∧ (L 27 = true → v 58 = .agg CY) ∧ (L 28 = true → v 59 = .agg C) ∧ (L 29 = true → v 60 = .bool true) ∧ (L 30 = true → v 61 = .bool true) ∧ (L 31 = true → v 2 = .bool true)) [31, 32, 33, 34, 35, 36, 37, 38, 39, 40, 41, 42, 43, 44, 45, 46, 47, 48, 49, 50, 51, 52, 53, 54, 55, 56, 57, 58, 59, 60, 61, 2] (by kernel_rfl) (by kernel_rfl) (by kernel_rfl) (by kernel_rfl) ?h0 ?hst ?hend
    case h0 =>
      intro L h0
      have h0 : ∀ i, i < 32 → L i = false := h0
      exact ⟨rfl, rfl, rfl, rfl, rfl, rfl, rfl, rfl, (Below.refl _ _).drew, offF h0 (i := 0) (by decide), offF h0 (i := 1) (by decide), offF h0 (i := 2) (by decide), offF h0 (i := 3) (by decide), offF h0 (i := 4) (by decide), offF h0 (i := 5) (by decide), offF h0 (i := 6) (by decide), offF h0 (i := 7) (by decide), offF h0 (i := 8) (by decide), offF h0 (i := 9) (by decide), offF h0 (i := 10) (by decide), offF h0 (i := 11) (by decide), offF h0 (i := 12) (by decide), offF h0 (i := 13) (by decide), offF h0 (i := 14) (by decide), offF h0 (i := 15) (by decide), offF h0 (i := 16) (by decide), offF h0 (i := 17) (by decide), offF h0 (i := 18) (by decide), offF h0 (i := 19) (by decide), offF h0 (i := 20) (by decide), offF h0 (i := 21) (by decide), offF h0 (i := 22) (by decide), offF h0 (i := 23) (by decide), offF h0 (i := 24) (by decide), offF h0 (i := 25) (by decide), offF h0 (i := 26) (by decide), offF h0 (i := 27) (by decide), offF h0 (i := 28) (by decide), offF h0 (i := 29) (by decide), offF h0 (i := 30) (by decide), offF h0 (i := 31) (by decide)⟩
    case hst =>
      show FactSteps _ _ _ _ [0, 1, 2, 3, 4, 5, 6, 7, 8, 9, 10, 11, 12, 13, 14, 15, 16, 17, 18, 19, 20, 21, 22, 23, 24, 25, 26, 27, 28, 29, 30, 31]
      refine @FactSteps.cons _ _ _ _ 0 _ [] _ rfl (by kernel_rfl) ?s0 ?_
      rotate_left
      refine @FactSteps.cons _ _ _ _ 1 _ [0] _ rfl (by kernel_rfl) ?s1 ?_
      rotate_left
      refine @FactSteps.cons _ _ _ _ 2 _ [] _ rfl (by kernel_rfl) ?s2 ?_
      rotate_left
      refine @FactSteps.cons _ _ _ _ 3 _ [2, 1] _ rfl (by kernel_rfl) ?s3 ?_
      rotate_left
      refine @FactSteps.cons _ _ _ _ 4 _ [1, 3] _ rfl (by kernel_rfl) ?s4 ?_
      rotate_left
      refine @FactSteps.cons _ _ _ _ 5 _ [4, 3] _ rfl (by kernel_rfl) ?s5 ?_
      rotate_left
      refine @FactSteps.cons _ _ _ _ 6 _ [5] _ rfl (by kernel_rfl) ?s6 ?_
      rotate_left
      refine @FactSteps.cons _ _ _ _ 7 _ [5] _ rfl (by kernel_rfl) ?s7 ?_
      rotate_left
      refine @FactSteps.cons _ _ _ _ 8 _ [6, 7, 5, 5] _ rfl (by kernel_rfl) ?s8 ?_
      rotate_left
      refine @FactSteps.cons _ _ _ _ 9 _ [5, 8] _ rfl (by kernel_rfl) ?s9 ?_
      rotate_left
      refine @FactSteps.cons _ _ _ _ 10 _ [9, 8] _ rfl (by kernel_rfl) ?s10 ?_
      rotate_left
      refine @FactSteps.cons _ _ _ _ 11 _ [10] _ rfl (by kernel_rfl) ?s11 ?_
      rotate_left
      refine @FactSteps.cons _ _ _ _ 12 _ [10] _ rfl (by kernel_rfl) ?s12 ?_
      rotate_left
      refine @FactSteps.cons _ _ _ _ 13 _ [11, 12, 10] _ rfl (by kernel_rfl) ?s13 ?_
      rotate_left
      refine @FactSteps.cons _ _ _ _ 14 _ [10, 13] _ rfl (by kernel_rfl) ?s14 ?_
      rotate_left
      refine @FactSteps.cons _ _ _ _ 15 _ [14, 10] _ rfl (by kernel_rfl) ?s15 ?_
      rotate_left
      refine @FactSteps.cons _ _ _ _ 16 _ [15] _ rfl (by kernel_rfl) ?s16 ?_
      rotate_left
      refine @FactSteps.cons _ _ _ _ 17 _ [15] _ rfl (by kernel_rfl) ?s17 ?_
      rotate_left
      refine @FactSteps.cons _ _ _ _ 18 _ [17, 15] _ rfl (by kernel_rfl) ?s18 ?_
      rotate_left
      refine @FactSteps.cons _ _ _ _ 19 _ [16, 18, 15] _ rfl (by kernel_rfl) ?s19 ?_
      rotate_left
      refine @FactSteps.cons _ _ _ _ 20 _ [15, 19] _ rfl (by kernel_rfl) ?s20 ?_
      rotate_left
      refine @FactSteps.cons _ _ _ _ 21 _ [20, 15] _ rfl (by kernel_rfl) ?s21 ?_
      rotate_left
      refine @FactSteps.cons _ _ _ _ 22 _ [21] _ rfl (by kernel_rfl) ?s22 ?_
      rotate_left
      refine @FactSteps.cons _ _ _ _ 23 _ [21] _ rfl (by kernel_rfl) ?s23 ?_
      rotate_left
      refine @FactSteps.cons _ _ _ _ 24 _ [22, 23, 21] _ rfl (by kernel_rfl) ?s24 ?_
      rotate_left
      refine @FactSteps.cons _ _ _ _ 25 _ [21, 24] _ rfl (by kernel_rfl) ?s25 ?_
      rotate_left
      refine @FactSteps.cons _ _ _ _ 26 _ [25, 21] _ rfl (by kernel_rfl) ?s26 ?_
      rotate_left
      refine @FactSteps.cons _ _ _ _ 27 _ [26] _ rfl (by kernel_rfl) ?s27 ?_
      rotate_left
      refine @FactSteps.cons _ _ _ _ 28 _ [26] _ rfl (by kernel_rfl) ?s28 ?_
      rotate_left
      refine @FactSteps.cons _ _ _ _ 29 _ [27, 28, 26, 26] _ rfl (by kernel_rfl) ?s29 ?_
      rotate_left
      refine @FactSteps.cons _ _ _ _ 30 _ [26, 29] _ rfl (by kernel_rfl) ?s30 ?_
      rotate_left
      refine @FactSteps.cons _ _ _ _ 31 _ [30, 29, 0, 1, 2, 3, 4, 5, 6, 7, 8, 9, 10, 11, 12, 13, 14, 15, 16, 17, 18, 19, 20, 21, 22, 23, 24, 25, 26, 27, 28, 29, 30] _ rfl (by kernel_rfl) ?s31 ?_
      rotate_left
      exact FactSteps.nil
      case s0 =>
        rintro L a v w hv hg hL hd hcl ⟨e1, e3, e4, e5, e6, e7, e8, e9, hb, f0, f1, f2, f3, f4, f5, f6, f7, f8, f9, f10, f11, f12, f13, f14, f15, f16, f17, f18, f19, f20, f21, f22, f23, f24, f25, f26, f27, f28, f29, f30, f31⟩ K hK
        refine step_do rfl ?_
        refine wp_ld rowMg (.tmp 3) rfl ((hv 3).trans e3) (ky.below hb ky.lt) SY.out ?_
        exact hK.out _ _ ⟨e1, e3, e4, e5, e6, e7, e8, e9, hb, fun _ => rfl, f1, f2, f3, f4, f5, f6, f7, f8, f9, f10, f11, f12, f13, f14, f15, f16, f17, f18, f19, f20, f21, f22, f23, f24, f25, f26, f27, f28, f29, f30, f31⟩
      case s1 =>
        rintro L a v w hv hg hL hd hcl ⟨e1, e3, e4, e5, e6, e7, e8, e9, hb, f0, f1, f2, f3, f4, f5, f6, f7, f8, f9, f10, f11, f12, f13, f14, f15, f16, f17, f18, f19, f20, f21, f22, f23, f24, f25, f26, f27, f28, f29, f30, f31⟩ K hK
        have h0 := f0 (hd 0 (by decide))
        refine step_do rfl ?_
        clear hv
        go_simp
        refine (HRY.out w (bn.trans (hb.mono bn.size))).mono ?_
        rintro e wy ⟨rfl, bb⟩
        exact hK.out _ _ ⟨e1, e3, e4, e5, e6, e7, e8, e9, (hb.trans (bb.mono hb.size)), f0, fun _ => rfl, f2, f3, f4, f5, f6, f7, f8, f9, f10, f11, f12, f13, f14, f15, f16, f17, f18, f19, f20, f21, f22, f23, f24, f25, f26, f27, f28, f29, f30, f31⟩
      case s2 =>
        rintro L a v w hv hg hL hd hcl ⟨e1, e3, e4, e5, e6, e7, e8, e9, hb, f0, f1, f2, f3, f4, f5, f6, f7, f8, f9, f10, f11, f12, f13, f14, f15, f16, f17, f18, f19, f20, f21, f22, f23, f24, f25, f26, f27, f28, f29, f30, f31⟩ K hK
        refine step_do rfl ?_
        refine wp_ld rowMg (.tmp 1) rfl ((hv 1).trans e1) (kb.below hb kb.lt) SZ.out ?_
        exact hK.out _ _ ⟨e1, e3, e4, e5, e6, e7, e8, e9, hb, f0, f1, fun _ => rfl, f3, f4, f5, f6, f7, f8, f9, f10, f11, f12, f13, f14, f15, f16, f17, f18, f19, f20, f21, f22, f23, f24, f25, f26, f27, f28, f29, f30, f31⟩
      case s3 =>
        rintro L a v w hv hg hL hd hcl ⟨e1, e3, e4, e5, e6, e7, e8, e9, hb, f0, f1, f2, f3, f4, f5, f6, f7, f8, f9, f10, f11, f12, f13, f14, f15, f16, f17, f18, f19, f20, f21, f22, f23, f24, f25, f26, f27, f28, f29, f30, f31⟩ K hK
        have h2 := f2 (hd 2 (by decide))
        refine step_do rfl ?_
        clear hv
        go_simp
        refine (HRR.out w (gb.trans (hb.mono gb.size))).mono ?_
        rintro e wy ⟨rfl, bb⟩
        exact hK.out _ _ ⟨e1, e3, e4, e5, e6, e7, e8, e9, (hb.trans (bb.mono hb.size)), f0, f1, f2, fun _ => rfl, f4, f5, f6, f7, f8, f9, f10, f11, f12, f13, f14, f15, f16, f17, f18, f19, f20, f21, f22, f23, f24, f25, f26, f27, f28, f29, f30, f31⟩
      case s4 =>
        rintro L a v w hv hg hL hd hcl ⟨e1, e3, e4, e5, e6, e7, e8, e9, hb, f0, f1, f2, f3, f4, f5, f6, f7, f8, f9, f10, f11, f12, f13, f14, f15, f16, f17, f18, f19, f20, f21, f22, f23, f24, f25, f26, f27, f28, f29, f30, f31⟩ K hK
        refine step_do rfl ?_
        clear hv
        go_simp
        exact hK.out _ _ ⟨e1, e3, e4, e5, e6, e7, e8, e9, hb, f0, f1, f2, f3, fun _ => rfl, f5, f6, f7, f8, f9, f10, f11, f12, f13, f14, f15, f16, f17, f18, f19, f20, f21, f22, f23, f24, f25, f26, f27, f28, f29, f30, f31⟩
      case s5 =>
        rintro L a v w hv hg hL hd hcl ⟨e1, e3, e4, e5, e6, e7, e8, e9, hb, f0, f1, f2, f3, f4, f5, f6, f7, f8, f9, f10, f11, f12, f13, f14, f15, f16, f17, f18, f19, f20, f21, f22, f23, f24, f25, f26, f27, f28, f29, f30, f31⟩ K hK
        have g4 := f4 (hd 4 (by decide))
        refine step_do rfl ?_
        clear hv
        go_simp
        exact hK.out _ _ ⟨e1, e3, e4, e5, e6, e7, e8, e9, hb, f0, f1, f2, f3, f4, fun _ => rfl, f6, f7, f8, f9, f10, f11, f12, f13, f14, f15, f16, f17, f18, f19, f20, f21, f22, f23, f24, f25, f26, f27, f28, f29, f30, f31⟩
      case s6 =>
        rintro L a v w hv hg hL hd hcl ⟨e1, e3, e4, e5, e6, e7, e8, e9, hb, f0, f1, f2, f3, f4, f5, f6, f7, f8, f9, f10, f11, f12, f13, f14, f15, f16, f17, f18, f19, f20, f21, f22, f23, f24, f25, f26, f27, f28, f29, f30, f31⟩ K hK
        have g5 := f5 (hd 5 (by decide))
        refine step_want (j := 5) (s := 36) (b := true) rfl rfl ((hv 36).trans (f5 (hd 5 (by decide)))) ?_
        clear hv
        go_simp
        exact hK.out _ _ ⟨e1, e3, e4, e5, e6, e7, e8, e9, hb, f0, f1, f2, f3, f4, f5, fun _ => rfl, f7, f8, f9, f10, f11, f12, f13, f14, f15, f16, f17, f18, f19, f20, f21, f22, f23, f24, f25, f26, f27, f28, f29, f30, f31⟩
      case s7 =>
        rintro L a v w hv hg hL hd hcl ⟨e1, e3, e4, e5, e6, e7, e8, e9, hb, f0, f1, f2, f3, f4, f5, f6, f7, f8, f9, f10, f11, f12, f13, f14, f15, f16, f17, f18, f19, f20, f21, f22, f23, f24, f25, f26, f27, f28, f29, f30, f31⟩ K hK
        have g5 := f5 (hd 5 (by decide))
        refine step_want (j := 5) (s := 36) (b := true) rfl rfl ((hv 36).trans (f5 (hd 5 (by decide)))) ?_
        clear hv
        go_simp
        exact hK.out _ _ ⟨e1, e3, e4, e5, e6, e7, e8, e9, hb, f0, f1, f2, f3, f4, f5, f6, fun _ => rfl, f8, f9, f10, f11, f12, f13, f14, f15, f16, f17, f18, f19, f20, f21, f22, f23, f24, f25, f26, f27, f28, f29, f30, f31⟩
      case s8 =>
        rintro L a v w hv hg hL hd hcl ⟨e1, e3, e4, e5, e6, e7, e8, e9, hb, f0, f1, f2, f3, f4, f5, f6, f7, f8, f9, f10, f11, f12, f13, f14, f15, f16, f17, f18, f19, f20, f21, f22, f23, f24, f25, f26, f27, f28, f29, f30, f31⟩ K hK
        have h6 := f6 (hd 6 (by decide))
        have h7 := f7 (hd 7 (by decide))
        refine step_want (j := 5) (s := 36) (b := true) rfl rfl ((hv 36).trans (f5 (hd 5 (by decide)))) ?_
        clear hv
        go_simp
        refine (HSE.out w hb).mono ?_
        rintro e wy ⟨rfl, bb⟩
        exact hK.out _ _ ⟨e1, e3, e4, e5, e6, e7, e8, e9, (hb.trans (bb.mono hb.size)), f0, f1, f2, f3, f4, f5, f6, f7, fun _ => rfl, f9, f10, f11, f12, f13, f14, f15, f16, f17, f18, f19, f20, f21, f22, f23, f24, f25, f26, f27, f28, f29, f30, f31⟩
      case s9 =>
        rintro L a v w hv hg hL hd hcl ⟨e1, e3, e4, e5, e6, e7, e8, e9, hb, f0, f1, f2, f3, f4, f5, f6, f7, f8, f9, f10, f11, f12, f13, f14, f15, f16, f17, f18, f19, f20, f21, f22, f23, f24, f25, f26, f27, f28, f29, f30, f31⟩ K hK
        have g5 := f5 (hd 5 (by decide))
        refine step_do rfl ?_
        clear hv
        go_simp
        exact hK.out _ _ ⟨e1, e3, e4, e5, e6, e7, e8, e9, hb, f0, f1, f2, f3, f4, f5, f6, f7, f8, fun _ => rfl, f10, f11, f12, f13, f14, f15, f16, f17, f18, f19, f20, f21, f22, f23, f24, f25, f26, f27, f28, f29, f30, f31⟩
      case s10 =>
        rintro L a v w hv hg hL hd hcl ⟨e1, e3, e4, e5, e6, e7, e8, e9, hb, f0, f1, f2, f3, f4, f5, f6, f7, f8, f9, f10, f11, f12, f13, f14, f15, f16, f17, f18, f19, f20, f21, f22, f23, f24, f25, f26, f27, f28, f29, f30, f31⟩ K hK
        have g9 := f9 (hd 9 (by decide))
        refine step_do rfl ?_
        clear hv
        go_simp
        exact hK.out _ _ ⟨e1, e3, e4, e5, e6, e7, e8, e9, hb, f0, f1, f2, f3, f4, f5, f6, f7, f8, f9, fun _ => rfl, f11, f12, f13, f14, f15, f16, f17, f18, f19, f20, f21, f22, f23, f24, f25, f26, f27, f28, f29, f30, f31⟩
      case s11 =>
        rintro L a v w hv hg hL hd hcl ⟨e1, e3, e4, e5, e6, e7, e8, e9, hb, f0, f1, f2, f3, f4, f5, f6, f7, f8, f9, f10, f11, f12, f13, f14, f15, f16, f17, f18, f19, f20, f21, f22, f23, f24, f25, f26, f27, f28, f29, f30, f31⟩ K hK
        have g10 := f10 (hd 10 (by decide))
        refine step_want (j := 10) (s := 41) (b := true) rfl rfl ((hv 41).trans (f10 (hd 10 (by decide)))) ?_
        clear hv
        go_simp
        exact hK.out _ _ ⟨e1, e3, e4, e5, e6, e7, e8, e9, hb, f0, f1, f2, f3, f4, f5, f6, f7, f8, f9, f10, fun _ => rfl, f12, f13, f14, f15, f16, f17, f18, f19, f20, f21, f22, f23, f24, f25, f26, f27, f28, f29, f30, f31⟩
      case s12 =>
        rintro L a v w hv hg hL hd hcl ⟨e1, e3, e4, e5, e6, e7, e8, e9, hb, f0, f1, f2, f3, f4, f5, f6, f7, f8, f9, f10, f11, f12, f13, f14, f15, f16, f17, f18, f19, f20, f21, f22, f23, f24, f25, f26, f27, f28, f29, f30, f31⟩ K hK
        have g10 := f10 (hd 10 (by decide))
        refine step_want (j := 10) (s := 41) (b := true) rfl rfl ((hv 41).trans (f10 (hd 10 (by decide)))) ?_
        clear hv
        go_simp
        exact hK.out _ _ ⟨e1, e3, e4, e5, e6, e7, e8, e9, hb, f0, f1, f2, f3, f4, f5, f6, f7, f8, f9, f10, f11, fun _ => rfl, f13, f14, f15, f16, f17, f18, f19, f20, f21, f22, f23, f24, f25, f26, f27, f28, f29, f30, f31⟩
      case s13 =>
        rintro L a v w hv hg hL hd hcl ⟨e1, e3, e4, e5, e6, e7, e8, e9, hb, f0, f1, f2, f3, f4, f5, f6, f7, f8, f9, f10, f11, f12, f13, f14, f15, f16, f17, f18, f19, f20, f21, f22, f23, f24, f25, f26, f27, f28, f29, f30, f31⟩ K hK
        have g10 := f10 (hd 10 (by decide))
        have g11 := f11 (hd 11 (by decide))
        have g12 := f12 (hd 12 (by decide))
        refine step_want (j := 10) (s := 41) (b := true) rfl rfl ((hv 41).trans (f10 (hd 10 (by decide)))) ?_
        clear hv
        go_simp
        exact hK.out _ _ ⟨e1, e3, e4, e5, e6, e7, e8, e9, hb, f0, f1, f2, f3, f4, f5, f6, f7, f8, f9, f10, f11, f12, fun _ => rfl, f14, f15, f16, f17, f18, f19, f20, f21, f22, f23, f24, f25, f26, f27, f28, f29, f30, f31⟩
      case s14 =>
        rintro L a v w hv hg hL hd hcl ⟨e1, e3, e4, e5, e6, e7, e8, e9, hb, f0, f1, f2, f3, f4, f5, f6, f7, f8, f9, f10, f11, f12, f13, f14, f15, f16, f17, f18, f19, f20, f21, f22, f23, f24, f25, f26, f27, f28, f29, f30, f31⟩ K hK
        have g10 := f10 (hd 10 (by decide))
        have g13 := f13 (hd 13 (by decide))
        refine step_do rfl ?_
        clear hv
        go_simp
        exact hK.out _ _ ⟨e1, e3, e4, e5, e6, e7, e8, e9, hb, f0, f1, f2, f3, f4, f5, f6, f7, f8, f9, f10, f11, f12, f13, fun _ => rfl, f15, f16, f17, f18, f19, f20, f21, f22, f23, f24, f25, f26, f27, f28, f29, f30, f31⟩
      case s15 =>
        rintro L a v w hv hg hL hd hcl ⟨e1, e3, e4, e5, e6, e7, e8, e9, hb, f0, f1, f2, f3, f4, f5, f6, f7, f8, f9, f10, f11, f12, f13, f14, f15, f16, f17, f18, f19, f20, f21, f22, f23, f24, f25, f26, f27, f28, f29, f30, f31⟩ K hK
        have g10 := f10 (hd 10 (by decide))
        have g14 := f14 (hd 14 (by decide))
        refine step_do rfl ?_
        clear hv
        go_simp
        exact hK.out _ _ ⟨e1, e3, e4, e5, e6, e7, e8, e9, hb, f0, f1, f2, f3, f4, f5, f6, f7, f8, f9, f10, f11, f12, f13, f14, fun _ => rfl, f16, f17, f18, f19, f20, f21, f22, f23, f24, f25, f26, f27, f28, f29, f30, f31⟩
      case s16 =>
        rintro L a v w hv hg hL hd hcl ⟨e1, e3, e4, e5, e6, e7, e8, e9, hb, f0, f1, f2, f3, f4, f5, f6, f7, f8, f9, f10, f11, f12, f13, f14, f15, f16, f17, f18, f19, f20, f21, f22, f23, f24, f25, f26, f27, f28, f29, f30, f31⟩ K hK
        have g15 := f15 (hd 15 (by decide))
        refine step_want (j := 15) (s := 46) (b := true) rfl rfl ((hv 46).trans (f15 (hd 15 (by decide)))) ?_
        clear hv
        go_simp
        exact hK.out _ _ ⟨e1, e3, e4, e5, e6, e7, e8, e9, hb, f0, f1, f2, f3, f4, f5, f6, f7, f8, f9, f10, f11, f12, f13, f14, f15, fun _ => rfl, f17, f18, f19, f20, f21, f22, f23, f24, f25, f26, f27, f28, f29, f30, f31⟩
      case s17 =>
        rintro L a v w hv hg hL hd hcl ⟨e1, e3, e4, e5, e6, e7, e8, e9, hb, f0, f1, f2, f3, f4, f5, f6, f7, f8, f9, f10, f11, f12, f13, f14, f15, f16, f17, f18, f19, f20, f21, f22, f23, f24, f25, f26, f27, f28, f29, f30, f31⟩ K hK
        have g15 := f15 (hd 15 (by decide))
        refine step_want (j := 15) (s := 46) (b := true) rfl rfl ((hv 46).trans (f15 (hd 15 (by decide)))) ?_
        clear hv
        go_simp
        exact hK.out _ _ ⟨e1, e3, e4, e5, e6, e7, e8, e9, hb, f0, f1, f2, f3, f4, f5, f6, f7, f8, f9, f10, f11, f12, f13, f14, f15, f16, fun _ => rfl, f18, f19, f20, f21, f22, f23, f24, f25, f26, f27, f28, f29, f30, f31⟩
      case s18 =>
        rintro L a v w hv hg hL hd hcl ⟨e1, e3, e4, e5, e6, e7, e8, e9, hb, f0, f1, f2, f3, f4, f5, f6, f7, f8, f9, f10, f11, f12, f13, f14, f15, f16, f17, f18, f19, f20, f21, f22, f23, f24, f25, f26, f27, f28, f29, f30, f31⟩ K hK
        have g15 := f15 (hd 15 (by decide))
        have g17 := f17 (hd 17 (by decide))
        refine step_want (j := 15) (s := 46) (b := true) rfl rfl ((hv 46).trans (f15 (hd 15 (by decide)))) ?_
        clear hv
        go_simp
        exact hK.out _ _ ⟨e1, e3, e4, e5, e6, e7, e8, e9, hb, f0, f1, f2, f3, f4, f5, f6, f7, f8, f9, f10, f11, f12, f13, f14, f15, f16, f17, fun _ => rfl, f19, f20, f21, f22, f23, f24, f25, f26, f27, f28, f29, f30, f31⟩
      case s19 =>
        rintro L a v w hv hg hL hd hcl ⟨e1, e3, e4, e5, e6, e7, e8, e9, hb, f0, f1, f2, f3, f4, f5, f6, f7, f8, f9, f10, f11, f12, f13, f14, f15, f16, f17, f18, f19, f20, f21, f22, f23, f24, f25, f26, f27, f28, f29, f30, f31⟩ K hK
        have g15 := f15 (hd 15 (by decide))
        have g16 := f16 (hd 16 (by decide))
        have g18 := f18 (hd 18 (by decide))
        refine step_want (j := 15) (s := 46) (b := true) rfl rfl ((hv 46).trans (f15 (hd 15 (by decide)))) ?_
        clear hv
        go_simp
        exact hK.out _ _ ⟨e1, e3, e4, e5, e6, e7, e8, e9, hb, f0, f1, f2, f3, f4, f5, f6, f7, f8, f9, f10, f11, f12, f13, f14, f15, f16, f17, f18, fun _ => rfl, f20, f21, f22, f23, f24, f25, f26, f27, f28, f29, f30, f31⟩
      case s20 =>
        rintro L a v w hv hg hL hd hcl ⟨e1, e3, e4, e5, e6, e7, e8, e9, hb, f0, f1, f2, f3, f4, f5, f6, f7, f8, f9, f10, f11, f12, f13, f14, f15, f16, f17, f18, f19, f20, f21, f22, f23, f24, f25, f26, f27, f28, f29, f30, f31⟩ K hK
        have g15 := f15 (hd 15 (by decide))
        have g19 := f19 (hd 19 (by decide))
        refine step_do rfl ?_
        clear hv
        go_simp
        exact hK.out _ _ ⟨e1, e3, e4, e5, e6, e7, e8, e9, hb, f0, f1, f2, f3, f4, f5, f6, f7, f8, f9, f10, f11, f12, f13, f14, f15, f16, f17, f18, f19, fun _ => rfl, f21, f22, f23, f24, f25, f26, f27, f28, f29, f30, f31⟩
      case s21 =>
        rintro L a v w hv hg hL hd hcl ⟨e1, e3, e4, e5, e6, e7, e8, e9, hb, f0, f1, f2, f3, f4, f5, f6, f7, f8, f9, f10, f11, f12, f13, f14, f15, f16, f17, f18, f19, f20, f21, f22, f23, f24, f25, f26, f27, f28, f29, f30, f31⟩ K hK
        have g15 := f15 (hd 15 (by decide))
        have g20 := f20 (hd 20 (by decide))
        refine step_do rfl ?_
        clear hv
        go_simp
        exact hK.out _ _ ⟨e1, e3, e4, e5, e6, e7, e8, e9, hb, f0, f1, f2, f3, f4, f5, f6, f7, f8, f9, f10, f11, f12, f13, f14, f15, f16, f17, f18, f19, f20, fun _ => rfl, f22, f23, f24, f25, f26, f27, f28, f29, f30, f31⟩
      case s22 =>
        rintro L a v w hv hg hL hd hcl ⟨e1, e3, e4, e5, e6, e7, e8, e9, hb, f0, f1, f2, f3, f4, f5, f6, f7, f8, f9, f10, f11, f12, f13, f14, f15, f16, f17, f18, f19, f20, f21, f22, f23, f24, f25, f26, f27, f28, f29, f30, f31⟩ K hK
        have g21 := f21 (hd 21 (by decide))
        refine step_want (j := 21) (s := 52) (b := true) rfl rfl ((hv 52).trans (f21 (hd 21 (by decide)))) ?_
        clear hv
        go_simp
        exact hK.out _ _ ⟨e1, e3, e4, e5, e6, e7, e8, e9, hb, f0, f1, f2, f3, f4, f5, f6, f7, f8, f9, f10, f11, f12, f13, f14, f15, f16, f17, f18, f19, f20, f21, fun _ => rfl, f23, f24, f25, f26, f27, f28, f29, f30, f31⟩
      case s23 =>
        rintro L a v w hv hg hL hd hcl ⟨e1, e3, e4, e5, e6, e7, e8, e9, hb, f0, f1, f2, f3, f4, f5, f6, f7, f8, f9, f10, f11, f12, f13, f14, f15, f16, f17, f18, f19, f20, f21, f22, f23, f24, f25, f26, f27, f28, f29, f30, f31⟩ K hK
        have g21 := f21 (hd 21 (by decide))
        refine step_want (j := 21) (s := 52) (b := true) rfl rfl ((hv 52).trans (f21 (hd 21 (by decide)))) ?_
        clear hv
        go_simp
        exact hK.out _ _ ⟨e1, e3, e4, e5, e6, e7, e8, e9, hb, f0, f1, f2, f3, f4, f5, f6, f7, f8, f9, f10, f11, f12, f13, f14, f15, f16, f17, f18, f19, f20, f21, f22, fun _ => rfl, f24, f25, f26, f27, f28, f29, f30, f31⟩
      case s24 =>
        rintro L a v w hv hg hL hd hcl ⟨e1, e3, e4, e5, e6, e7, e8, e9, hb, f0, f1, f2, f3, f4, f5, f6, f7, f8, f9, f10, f11, f12, f13, f14, f15, f16, f17, f18, f19, f20, f21, f22, f23, f24, f25, f26, f27, f28, f29, f30, f31⟩ K hK
        have g21 := f21 (hd 21 (by decide))
        have g22 := f22 (hd 22 (by decide))
        have g23 := f23 (hd 23 (by decide))
        refine step_want (j := 21) (s := 52) (b := true) rfl rfl ((hv 52).trans (f21 (hd 21 (by decide)))) ?_
        clear hv
        go_simp
        exact hK.out _ _ ⟨e1, e3, e4, e5, e6, e7, e8, e9, hb, f0, f1, f2, f3, f4, f5, f6, f7, f8, f9, f10, f11, f12, f13, f14, f15, f16, f17, f18, f19, f20, f21, f22, f23, fun _ => rfl, f25, f26, f27, f28, f29, f30, f31⟩
      case s25 =>
        rintro L a v w hv hg hL hd hcl ⟨e1, e3, e4, e5, e6, e7, e8, e9, hb, f0, f1, f2, f3, f4, f5, f6, f7, f8, f9, f10, f11, f12, f13, f14, f15, f16, f17, f18, f19, f20, f21, f22, f23, f24, f25, f26, f27, f28, f29, f30, f31⟩ K hK
        have g21 := f21 (hd 21 (by decide))
        have g24 := f24 (hd 24 (by decide))
        refine step_do rfl ?_
        clear hv
        go_simp
        exact hK.out _ _ ⟨e1, e3, e4, e5, e6, e7, e8, e9, hb, f0, f1, f2, f3, f4, f5, f6, f7, f8, f9, f10, f11, f12, f13, f14, f15, f16, f17, f18, f19, f20, f21, f22, f23, f24, fun _ => rfl, f26, f27, f28, f29, f30, f31⟩
      case s26 =>
        rintro L a v w hv hg hL hd hcl ⟨e1, e3, e4, e5, e6, e7, e8, e9, hb, f0, f1, f2, f3, f4, f5, f6, f7, f8, f9, f10, f11, f12, f13, f14, f15, f16, f17, f18, f19, f20, f21, f22, f23, f24, f25, f26, f27, f28, f29, f30, f31⟩ K hK
        have g21 := f21 (hd 21 (by decide))
        have g25 := f25 (hd 25 (by decide))
        refine step_do rfl ?_
        clear hv
        go_simp
        exact hK.out _ _ ⟨e1, e3, e4, e5, e6, e7, e8, e9, hb, f0, f1, f2, f3, f4, f5, f6, f7, f8, f9, f10, f11, f12, f13, f14, f15, f16, f17, f18, f19, f20, f21, f22, f23, f24, f25, fun _ => rfl, f27, f28, f29, f30, f31⟩
      case s27 =>
        rintro L a v w hv hg hL hd hcl ⟨e1, e3, e4, e5, e6, e7, e8, e9, hb, f0, f1, f2, f3, f4, f5, f6, f7, f8, f9, f10, f11, f12, f13, f14, f15, f16, f17, f18, f19, f20, f21, f22, f23, f24, f25, f26, f27, f28, f29, f30, f31⟩ K hK
        refine step_want (j := 26) (s := 57) (b := true) rfl rfl ((hv 57).trans (f26 (hd 26 (by decide)))) ?_
        refine wp_ld rowMg (.tmp 3) rfl ((hv 3).trans e3) (ky.below hb ky.lt) SY.out ?_
        exact hK.out _ _ ⟨e1, e3, e4, e5, e6, e7, e8, e9, hb, f0, f1, f2, f3, f4, f5, f6, f7, f8, f9, f10, f11, f12, f13, f14, f15, f16, f17, f18, f19, f20, f21, f22, f23, f24, f25, f26, fun _ => rfl, f28, f29, f30, f31⟩
      case s28 =>
        rintro L a v w hv hg hL hd hcl ⟨e1, e3, e4, e5, e6, e7, e8, e9, hb, f0, f1, f2, f3, f4, f5, f6, f7, f8, f9, f10, f11, f12, f13, f14, f15, f16, f17, f18, f19, f20, f21, f22, f23, f24, f25, f26, f27, f28, f29, f30, f31⟩ K hK
        refine step_want (j := 26) (s := 57) (b := true) rfl rfl ((hv 57).trans (f26 (hd 26 (by decide)))) ?_
        refine wp_ld rowMg (.tmp 1) rfl ((hv 1).trans e1) (kb.below hb kb.lt) SZ.out ?_
        exact hK.out _ _ ⟨e1, e3, e4, e5, e6, e7, e8, e9, hb, f0, f1, f2, f3, f4, f5, f6, f7, f8, f9, f10, f11, f12, f13, f14, f15, f16, f17, f18, f19, f20, f21, f22, f23, f24, f25, f26, f27, fun _ => rfl, f29, f30, f31⟩
      case s29 =>
        rintro L a v w hv hg hL hd hcl ⟨e1, e3, e4, e5, e6, e7, e8, e9, hb, f0, f1, f2, f3, f4, f5, f6, f7, f8, f9, f10, f11, f12, f13, f14, f15, f16, f17, f18, f19, f20, f21, f22, f23, f24, f25, f26, f27, f28, f29, f30, f31⟩ K hK
        have h27 := f27 (hd 27 (by decide))
        have h28 := f28 (hd 28 (by decide))
        refine step_want (j := 26) (s := 57) (b := true) rfl rfl ((hv 57).trans (f26 (hd 26 (by decide)))) ?_
        clear hv
        go_simp
        refine (HSM.out w (bn.trans (hb.mono bn.size)) (gb.trans (hb.mono gb.size))).mono ?_
        rintro e wy ⟨rfl, bb⟩
        exact hK.out _ _ ⟨e1, e3, e4, e5, e6, e7, e8, e9, (hb.trans (bb.mono hb.size)), f0, f1, f2, f3, f4, f5, f6, f7, f8, f9, f10, f11, f12, f13, f14, f15, f16, f17, f18, f19, f20, f21, f22, f23, f24, f25, f26, f27, f28, fun _ => rfl, f30, f31⟩
      case s30 =>
        rintro L a v w hv hg hL hd hcl ⟨e1, e3, e4, e5, e6, e7, e8, e9, hb, f0, f1, f2, f3, f4, f5, f6, f7, f8, f9, f10, f11, f12, f13, f14, f15, f16, f17, f18, f19, f20, f21, f22, f23, f24, f25, f26, f27, f28, f29, f30, f31⟩ K hK
        have g26 := f26 (hd 26 (by decide))
        refine step_do rfl ?_
        clear hv
        go_simp
        exact hK.out _ _ ⟨e1, e3, e4, e5, e6, e7, e8, e9, hb, f0, f1, f2, f3, f4, f5, f6, f7, f8, f9, f10, f11, f12, f13, f14, f15, f16, f17, f18, f19, f20, f21, f22, f23, f24, f25, f26, f27, f28, f29, fun _ => rfl, f31⟩
      case s31 =>
        rintro L a v w hv hg hL hd hcl ⟨e1, e3, e4, e5, e6, e7, e8, e9, hb, f0, f1, f2, f3, f4, f5, f6, f7, f8, f9, f10, f11, f12, f13, f14, f15, f16, f17, f18, f19, f20, f21, f22, f23, f24, f25, f26, f27, f28, f29, f30, f31⟩ K hK
        have g0 := f0 (hd 0 (by decide))
        have g2 := f2 (hd 2 (by decide))
        have g4 := f4 (hd 4 (by decide))
        have g5 := f5 (hd 5 (by decide))
        have g6 := f6 (hd 6 (by decide))
        have g7 := f7 (hd 7 (by decide))
        have g9 := f9 (hd 9 (by decide))
        have g10 := f10 (hd 10 (by decide))
        have g11 := f11 (hd 11 (by decide))
        have g12 := f12 (hd 12 (by decide))
        have g13 := f13 (hd 13 (by decide))
        have g14 := f14 (hd 14 (by decide))
        have g15 := f15 (hd 15 (by decide))
        have g16 := f16 (hd 16 (by decide))
        have g17 := f17 (hd 17 (by decide))
        have g18 := f18 (hd 18 (by decide))
        have g19 := f19 (hd 19 (by decide))
        have g20 := f20 (hd 20 (by decide))
        have g21 := f21 (hd 21 (by decide))
        have g22 := f22 (hd 22 (by decide))
        have g23 := f23 (hd 23 (by decide))
        have g24 := f24 (hd 24 (by decide))
        have g25 := f25 (hd 25 (by decide))
        have g26 := f26 (hd 26 (by decide))
        have g27 := f27 (hd 27 (by decide))
        have g28 := f28 (hd 28 (by decide))
        have g30 := f30 (hd 30 (by decide))
        refine step_do rfl ?_
        clear hv
        go_simp
        exact hK.out _ _ ⟨e1, e3, e4, e5, e6, e7, e8, e9, hb, f0, f1, f2, f3, f4, f5, f6, f7, f8, f9, f10, f11, f12, f13, f14, f15, f16, f17, f18, f19, f20, f21, f22, f23, f24, f25, f26, f27, f28, f29, f30, fun _ => rfl⟩
    case hend =>
    rintro L v wx hall ⟨e1, e3, e4, e5, e6, e7, e8, e9, hb, f0, f1, f2, f3, f4, f5, f6, f7, f8, f9, f10, f11, f12, f13, f14, f15, f16, f17, f18, f19, f20, f21, f22, f23, f24, f25, f26, f27, f28, f29, f30, f31⟩
    have hL : ∀ i, i < 32 → L i = true := hall
    have f0 := f0 (hL 0 (by decide))
    have f1 := f1 (hL 1 (by decide))
    have f2 := f2 (hL 2 (by decide))
    have f3 := f3 (hL 3 (by decide))
    have f4 := f4 (hL 4 (by decide))
    have f5 := f5 (hL 5 (by decide))
    have f6 := f6 (hL 6 (by decide))
    have f7 := f7 (hL 7 (by decide))
    have f8 := f8 (hL 8 (by decide))
    have f9 := f9 (hL 9 (by decide))
    have f10 := f10 (hL 10 (by decide))
    have f11 := f11 (hL 11 (by decide))
    have f12 := f12 (hL 12 (by decide))
    have f13 := f13 (hL 13 (by decide))
    have f14 := f14 (hL 14 (by decide))
    have f15 := f15 (hL 15 (by decide))
    have f16 := f16 (hL 16 (by decide))
    have f17 := f17 (hL 17 (by decide))
    have f18 := f18 (hL 18 (by decide))
    have f19 := f19 (hL 19 (by decide))
    have f20 := f20 (hL 20 (by decide))
    have f21 := f21 (hL 21 (by decide))
    have f22 := f22 (hL 22 (by decide))
    have f23 := f23 (hL 23 (by decide))
    have f24 := f24 (hL 24 (by decide))
    have f25 := f25 (hL 25 (by decide))
    have f26 := f26 (hL 26 (by decide))
    have f27 := f27 (hL 27 (by decide))
    have f28 := f28 (hL 28 (by decide))
    have f29 := f29 (hL 29 (by decide))
    have f30 := f30 (hL 30 (by decide))
    have f31 := f31 (hL 31 (by decide))
    simp only [finA, List.foldl_cons, List.foldl_nil, Act.put, List.setIfInBounds_toArray, List.set_cons_succ, List.set_cons_zero, f0, f2, f4, f5, f6, f7, f9, f10, f11, f12, f13, f14, f15, f16, f17, f18, f19, f20, f21, f22, f23, f24, f25, f26, f27, f28, f30, f31, f1, f3, f8, f29]
    have gb := gb.trans (hb.mono gb.size)
    clear e1 e3 e4 e5 e6 e7 e8 e9 f0 f1 f2 f3 f4 f5 f6 f7 f8 f9 f10 f11 f12 f13 f14 f15 f16 f17 f18 f19 f20 f21 f22 f23 f24 f25 f26 f27 f28 f29 f30 f31 hL hall
    go_wp2_with fail
    go_ret
    exact ⟨rfl, gb⟩
set_option maxRecDepth 100000 in
theorem lifted (os : Os) (started : os.Started) (H : Type) (enc : TypeId × Value → H) :
    ReturnsInHanded {} Try.checked os 3 .any (Rows.msgPutsSpec.pre6 enc Try.prog Try.f3 Rows.msgPutsRow.domain false) (Rows.msgPutsSpec.post enc Try.prog Try.f3 false true false false) := by
  refine returnsInHanded_of_change_sized (C := Try.checked) own started (by kernel_rfl) Try.func3
    (ChangeSpec.witness6 (enc := enc) (C := Try.checked) false ⟨#[], #[.agg ZM], []⟩ 8 (by kernel_rfl) (by kernel_rfl) (by kernel_rfl) (by kernel_rfl)) ?_
  intro W base args ds gs before hval0 hW hcnd hsz0 _
  have hsz : (DataW.weightsEach Try.prog (Try.f3.params.toList ++ []) (ds ++ gs)).all (· ≤ reachBytes) = true := hsz0
  have hval : ∀ (j : Nat) t v, Try.f3.params[j]? = some t → args[j]? = some v → Value.okWide Try.prog W .any base t v := hval0
  have hW' := hW
  obtain ⟨p, q, hA0, hV, rfl, hfz, hnd⟩ := hW
  have hA : DataW.TrodAll enc Try.prog W 0 (fun _ => true) true Try.f3.params.toList args.toList ds p := hA0
  rw [Try.params3] at hA hval hsz
  obtain ⟨v0, vs0, d0, ds0, p0, q0, hargs, rfl, rfl, h0, r0⟩ := trodAll_cons hA
  obtain ⟨rfl, rfl, rfl⟩ := trodAll_nil r0
  obtain rfl : args = #[v0] := by cases args; simp_all
  obtain ⟨rfl, rfl⟩ := trodVars_none hV
  have lt0 : ∀ x ∈ p0, x.block < W.heap.size := by obtain ⟨m, hm⟩ := h0; exact DataW.trod_lt m _ _ _ hm
  have k0 := h0
  have sz0 : Sz 27 d0 := sz_arg (j := 0) hsz rfl rfl
  obtain ⟨x0, rfl, hk0, wu0, p10, p20, p30⟩ := open_msgz (hval 0 27 v0 rfl rfl) h0 sz0
  clear hA0 hval0
  refine (walk x0 W hk0 wu0 p10 p20 p30).mono fun e W' ⟨he, bel⟩ => ?_
  subst he
  exact ⟨_, rfl, _, _, _, [], _, [], hW', trodAll_mk1 (shut_bool Try.underlying4 _), (trodAll_cons_mk (Below.trod laidOut (by kernel_rfl) (of_decide_eq_true (by kernel_rfl)) k0 bel lt0) trodAll_mk0), rfl, bel.frame _, fun h => by cases h⟩

theorem proved : Rows.MsgPutsSaid :=
  OpenClaim.holds_of_wide 3 Try.f3 rfl rfl rfl rfl rfl rfl rfl ⟨rfl, rfl, rfl, rfl, rfl⟩ rfl rfl rfl rfl rfl (by kernel_rfl) Try.func3 (by kernel_rfl)
    (of_decide_eq_true (by kernel_rfl)) (by unfold Func.isWrapper; first | (rw [if_pos (by decide +kernel)]; kernel_rfl) | (rw [if_neg (by decide +kernel)]; exact ⟨rfl, rfl⟩))
    (fun os started H enc _ => lifted os started H enc)
#print axioms proved

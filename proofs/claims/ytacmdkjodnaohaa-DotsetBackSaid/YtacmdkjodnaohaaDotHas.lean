/- The walks of Has, Add, List, Count, Join, Less. -/
import Derived.Test.YtacmdkjodnaohaaDotCls
namespace Go.Proofs.Ytacmdkjodnaohaa
open Go.RowKit
open Dot

theorem eight {U : List Int} (h : U.length = 8) : ∃ a b c d e f g i, U = [a, b, c, d, e, f, g, i] := by
  match U, h with
  | [a, b, c, d, e, f, g, i], _ => exact ⟨a, b, c, d, e, f, g, i, rfl⟩
theorem build1 {U : List Int} (h : U.length = 8) (A : Option Addr) (n c : Nat) (w : World) : (Instr.buildSlice 96 1 #[(0, .agg (uc U (.slice A n c)))]).run Try.prog w = .ok (.slice (some ⟨w.heap.size, 0, none⟩) 1 1) (w.alloc (.cells (uc U (.slice A n c)) 30)) := by
  obtain ⟨a, b, c, d, e, f, g, i, rfl⟩ := eight h
  kernel_rfl
theorem build2 {U V : List Int} (h : U.length = 8) (h' : V.length = 8) (A B : Option Addr) (n c m d : Nat) (w : World) : (Instr.buildSlice 96 2 #[(0, .agg (uc U (.slice A n c))), (1, .agg (uc V (.slice B m d)))]).run Try.prog w = .ok (.slice (some ⟨w.heap.size, 0, none⟩) 2 2) (w.alloc (.cells (uc U (.slice A n c) ++ uc V (.slice B m d)) 30)) := by
  obtain ⟨a, b, c, d, e, f, g, i, rfl⟩ := eight h
  obtain ⟨a, b, c, d, e, f, g, i, rfl⟩ := eight h'
  kernel_rfl
theorem step_bs {P : Program} {o : Oper} {a : Act} {w w' : World} {v : Value} {K : Act → World → Prop} {Q : Exit → Act → World → Prop} (t : TypeId) (len : Nat) (parts : Array (Nat × Operand)) (ho : o.op = .buildSlice t len parts)
    (hrun : (Instr.buildSlice t len (parts.map fun (i, x) => (i, a.eval x))).run P w = .ok v w') (h : K (a.put o.dst v) w') : o.wp P a w K Q := by
  unfold Oper.wp execOp
  simp only [ho, Sem.run_bind, hrun, Result.andThen_ok]
  exact h
theorem wpList_bs {P : Program} {ops : Array Oper} {rest : List Oper} {o : Oper} {a : Act} {w w' : World} {v : Value} {Q : Exit → Act → World → Prop} (hg : o.guard = none) (t : TypeId) (len : Nat) (parts : Array (Nat × Operand)) (ho : o.op = .buildSlice t len parts)
    (hrun : (Instr.buildSlice t len (parts.map fun (i, x) => (i, a.eval x))).run P w = .ok v w') (h : wpList P ops Q rest (a.put o.dst v) w') : wpList P ops Q (o :: rest) a w :=
  wpList_plain hg fun _ hK => step_bs t len parts ho hrun (hK _ _ h)
/-- whether a dot is in a set -/
def hasB (U : List Int) (l : List Dt) (d : Dt) : Bool := mayB d && hasG U l d.1.toNat d.2.toNat
set_option maxRecDepth 100000 in
set_option maxHeartbeats 2000000 in
theorem has_any (s : SetV) (n q : Int) (w : World) (hU : s.U.length = 8) (hr : RdD w w.heap.size s.A s.n s.l) :
    Calls Try.prog 17 #[.agg (uc s.U (.slice s.A s.n s.c)), .agg #[.int .i64 n, .int .i64 q]] w fun e w' => e = .returned (.bool (hasB s.U s.l (n, q))) ∧ Below w.heap.size w w' := by
  have HS := Lib.hid (uc_size hU (.slice s.A s.n s.c))
  obtain ⟨R, hR⟩ : ∃ R, R = hasB s.U s.l (n, q) := ⟨_, rfl⟩
  rw [← hR]
  obtain ⟨sc, hsc⟩ : ∃ sc, sc = uc s.U (.slice s.A s.n s.c) := ⟨_, rfl⟩
  have H1 := Lib.hid (uc_one (U := s.U) (s := .slice s.A s.n s.c) rfl)
  rw [← hsc] at HS H1 ⊢
  have hb1 := build1 hU s.A s.n s.c
  rw [← hsc] at hb1
  have HB1 := Lib.hid hb1
  have HSC := Lib.hid hsc
  clear hsc hb1
  go_enter Try.func17, Try.ntmps17
  go_upto_region 1 with fail
  refine nameW ?_
  intro wv hwv
  obtain ⟨b, hb⟩ : ∃ b, b = w.heap.size := ⟨_, rfl⟩
  rw [← hb]
  have kb : Blk wv b 30 sc := by rw [hwv, hb]; exact (Blk.new w _ _).alloc _
  have kd : Blk wv (b + 1) 27 #[.int .i64 n, .int .i64 q] := by
    have h := Blk.new (w.alloc (.cells sc 30)) 27 #[.int .i64 n, .int .i64 q]
    rw [hwv, hb]
    simpa using h
  have gb : Below w.heap.size w wv := by rw [hwv]; exact ((Below.refl _ _).alloc (Nat.le_refl _) _).alloc (by simp) _
  have hrv : RdD wv w.heap.size s.A s.n s.l := hr.below gb
  have hbw : w.heap.size ≤ b := by omega
  clear hwv hb
  by_cases hm : mayB (n, q) = true
  case neg =>
    have hm2 : mayB (n, q) = false := by simpa using hm
    have hf : R = false := by rw [hR]; unfold hasB; rw [hm2]; rfl
    clear hR
    subst hf
    have hmc : ∀ w', Calls Try.prog 34 #[.agg #[.int .i64 n, .int .i64 q]] w' fun e w'' => e = .returned (.bool false) ∧ Below w'.heap.size w' w'' := fun w' => by have := may_any n q w'; rwa [hm2] at this
    have HMC := Lib.hid hmc
    clear hm hmc
    refine wp_region_below (by kernel_rfl) (by kernel_rfl) ?_
    intro T iT F hF hT
    have S0 : ∀ xf, (F xf).cell? ⟨b + 1, 0, none⟩ = some (.int .i64 n) := fun xf => ((hF xf).cell (p := ⟨b + 1, 0, none⟩) kd.lt).trans (kd.cell 0)
    have S1 : ∀ xf, (F xf).cell? ⟨b + 1, 1, none⟩ = some (.int .i64 q) := fun xf => ((hF xf).cell (p := ⟨b + 1, 1, none⟩) kd.lt).trans (kd.cell 1)
    have HF := Lib.hid hF
    have HT := Lib.hid hT
    clear hF hT
    repeat (first
      | go_big_quiet_step ((first
          | (go_at_call 34; exact calls_below HF.out HT.out (HMC.out _)))))
    refine wpQuiet_nil ?_
    intro w' hw'
    obtain ⟨qf, rfl⟩ := hw'
    have bF := HF.out qf
    clear HF HT S0 S1
    go_wp2_with fail
    go_ret
    exact ⟨rfl, gb.trans (bF.mono gb.size)⟩
  have hmi := (may_iff _).1 hm
  simp only at hmi
  obtain ⟨y, rfl⟩ := Int.eq_ofNat_of_zero_le hmi.1
  obtain ⟨p, rfl⟩ := Int.eq_ofNat_of_zero_le (show 0 ≤ q by omega)
  have hy : y < 8 := by omega
  have hp : p < 98 := by omega
  have hy0 : (0 : Int) ≤ (y : Int) := by omega
  have hy8 : (y : Int) < 8 := by omega
  have hp0 : (0 : Int) ≤ (p : Int) := by omega
  have hp8 : (p : Int) < 98 := by omega
  have hf : R = hasG s.U s.l y p := by rw [hR]; unfold hasB; rw [hm]; simp
  clear hR
  have HRE := Lib.hid hf
  have hmc : ∀ w', Calls Try.prog 34 #[.agg #[.int .i64 (y : Nat), .int .i64 (p : Nat)]] w' fun e w'' => e = .returned (.bool true) ∧ Below w'.heap.size w' w'' := fun w' => by have := may_any y p w'; rwa [hm] at this
  have HMC := Lib.hid hmc
  clear hm hf hmc hmi
  refine wp_region_held_drew (S := fun w' => Below wv.heap.size wv w') (by kernel_rfl) (Below.refl _ _).drew (fun hS => ?_)
  refine wpAnyH_take (i := 0) rfl (by kernel_rfl) (by kernel_rfl) (by kernel_rfl) (fun _ _ _ h => h) (yieldsIf_ld (by rfl) rowDt (.tmp 3) rfl rfl (fun w hw => kd.below hw kd.lt) rfl) hS ?_
  simp only [Act.put, List.getElem_toArray, List.getElem_cons_zero, List.getElem_cons_succ, List.setIfInBounds_toArray, List.set_cons_succ, List.set_cons_zero]
  refine wpAnyH_ready (rs := [1]) (by kernel_rfl) (by simp) ?_
  refine AllReadyH.cons rfl (fun K hK => ?_) .nil
  go_simp
  refine (HMC.out _).mono ?_
  rintro e w1 ⟨rfl, h1⟩
  refine hK.out _ _ (hS.trans (h1.mono hS.size)) (fun hS => ?_)
  have hS0 := hS
  clear hK K
  refine wpAnyH_take (i := 2) (v := ?rv110) rfl (by kernel_rfl) (by kernel_rfl) (by kernel_rfl) (fun _ _ _ h => h) (Or.inl ⟨by rfl, ?ry110⟩) hS ?_
  case ry110 => (intro wS hSw; clear hSw; go_simp; (try with_reducible rfl))
  simp only [Act.put, List.getElem_toArray, List.getElem_cons_zero, List.getElem_cons_succ, List.setIfInBounds_toArray, List.set_cons_succ, List.set_cons_zero]
  refine wpAnyH_take (i := 3) rfl (by kernel_rfl) (by kernel_rfl) (by kernel_rfl) (fun _ _ _ h => h) (yieldsIf_ld (by rfl) rowS (.tmp 2) rfl rfl (fun w hw => kb.below hw kb.lt) HS.out) hS ?_
  simp only [Act.put, List.getElem_toArray, List.getElem_cons_zero, List.getElem_cons_succ, List.setIfInBounds_toArray, List.set_cons_succ, List.set_cons_zero]
  refine wpAnyH_take (i := 6) (v := ?rv115) rfl (by kernel_rfl) (by kernel_rfl) (by kernel_rfl) (fun _ _ _ h => h) (Or.inl ⟨by rfl, ?ry115⟩) hS ?_
  case ry115 => (intro wS hSw; clear hSw; go_simp; (try with_reducible rfl))
  simp only [Act.put, List.getElem_toArray, List.getElem_cons_zero, List.getElem_cons_succ, List.setIfInBounds_toArray, List.set_cons_succ, List.set_cons_zero]
  refine wpAnyH_take (i := 7) (v := ?rv118) rfl (by kernel_rfl) (by kernel_rfl) (by kernel_rfl) (fun _ _ _ h => h) (Or.inl ⟨by rfl, ?ry118⟩) hS ?_
  case ry118 => (intro wS hSw; have c0 := (hSw.cell (p := ⟨b + 1, 0, none⟩) kd.lt).trans (kd.cell 0); clear hSw; go_simp; (try with_reducible rfl))
  simp only [Act.put, List.getElem_toArray, List.getElem_cons_zero, List.getElem_cons_succ, List.setIfInBounds_toArray, List.set_cons_succ, List.set_cons_zero]
  refine wpAnyH_take (i := 8) (v := ?rv121) rfl (by kernel_rfl) (by kernel_rfl) (by kernel_rfl) (fun _ _ _ h => h) (Or.inl ⟨by rfl, ?ry121⟩) hS ?_
  case ry121 => (intro wS hSw; clear hSw; go_simp; (try with_reducible rfl))
  simp only [Act.put, List.getElem_toArray, List.getElem_cons_zero, List.getElem_cons_succ, List.setIfInBounds_toArray, List.set_cons_succ, List.set_cons_zero]
  refine wpAnyH_take (i := 9) (v := ?rv124) rfl (by kernel_rfl) (by kernel_rfl) (by kernel_rfl) (fun _ _ _ h => h) (Or.inl ⟨by rfl, ?ry124⟩) hS ?_
  case ry124 => (intro wS hSw; have c0 := (hSw.cell (p := ⟨b + 1, 1, none⟩) kd.lt).trans (kd.cell 1); clear hSw; go_simp; (try with_reducible rfl))
  simp only [Act.put, List.getElem_toArray, List.getElem_cons_zero, List.getElem_cons_succ, List.setIfInBounds_toArray, List.set_cons_succ, List.set_cons_zero]
  refine wpAnyH_ready (rs := [4]) (by kernel_rfl) (by simp) ?_
  refine AllReadyH.cons rfl (fun K hK => ?_) .nil
  rw [if_pos (by rfl)]
  refine step_bs (v := .slice (some ⟨w1.heap.size, 0, none⟩) 1 1) (w' := w1.alloc (.cells sc 30)) 96 1 #[(0, .tmp 8)] rfl ?hbs ?_
  case hbs =>
    simp only [List.map_toArray, List.map_cons, List.map_nil]
    exact HB1.out w1
  refine hK.out _ _ (hS.alloc hS.size _) (fun hS => ?_)
  clear hK K
  refine wpAnyH_ready (rs := [5]) (by kernel_rfl) (by simp) ?_
  refine AllReadyH.cons rfl (fun K hK => ?_) .nil
  go_simp
  have hrw : RdD w1 w1.heap.size s.A s.n s.l := (hrv.below ((hS0.mono gb.size))).more (Nat.le_trans gb.size hS0.size)
  have hrow := (rowset_one s hU hrw (Nat.le_refl _) 30 (0, 0)).more (B' := (w1.alloc (.cells sc 30)).heap.size) (by simp)
  rw [← HSC.out] at hrow
  refine (of_any [s] 1 w1.heap.size _ rfl (by decide) hrow).mono ?_
  rintro e w2 ⟨rfl, k2, h2⟩
  rw [lays_one] at k2
  refine hK.out _ _ (hS.trans (h2.mono hS.size)) (fun hS => ?_)
  clear hK K hrow
  obtain ⟨g, hg⟩ : ∃ g, g = (w1.alloc (.cells sc 30)).heap.size := ⟨_, rfl⟩
  rw [← hg] at k2 ⊢
  clear hg
  have hcell := has_at k2 hy hp
  refine wpAnyH_take (i := 10) (v := ?rv151) rfl (by kernel_rfl) (by kernel_rfl) (by kernel_rfl) (fun _ _ _ h => h) (Or.inl ⟨by rfl, ?ry151⟩) hS ?_
  case ry151 => (intro wS hSw; clear hSw; go_simp; (try with_reducible rfl))
  simp only [Act.put, List.getElem_toArray, List.getElem_cons_zero, List.getElem_cons_succ, List.setIfInBounds_toArray, List.set_cons_succ, List.set_cons_zero]
  refine wpAnyH_take (i := 11) (v := ?rv154) rfl (by kernel_rfl) (by kernel_rfl) (by kernel_rfl) (fun _ _ _ h => h) (Or.inl ⟨by rfl, ?ry154⟩) hS ?_
  case ry154 => (intro wS hSw; clear hSw; go_simp; (try with_reducible rfl))
  simp only [Act.put, List.getElem_toArray, List.getElem_cons_zero, List.getElem_cons_succ, List.setIfInBounds_toArray, List.set_cons_succ, List.set_cons_zero]
  refine wpAnyH_take (i := 12) (v := ?rv157) rfl (by kernel_rfl) (by kernel_rfl) (by kernel_rfl) (fun _ _ _ h => h) (Or.inl ⟨by rfl, ?ry157⟩) hS ?_
  case ry157 => (intro wS hSw; clear hSw; go_simp; (try with_reducible rfl))
  simp only [Act.put, List.getElem_toArray, List.getElem_cons_zero, List.getElem_cons_succ, List.setIfInBounds_toArray, List.set_cons_succ, List.set_cons_zero]
  refine wpAnyH_ready (rs := [13]) (by kernel_rfl) (by simp) ?_
  refine AllReadyH.cons rfl (fun K hK => ?_) .nil
  go_simp
  refine hK.out _ _ hS (fun hS => ?_)
  clear hK K
  refine wpAnyH_take (i := 14) (v := ?rv165) rfl (by kernel_rfl) (by kernel_rfl) (by kernel_rfl) (fun _ _ _ h => h) (Or.inl ⟨by rfl, ?ry165⟩) hS ?_
  case ry165 => (intro wS hSw; clear hSw; go_simp; (try with_reducible rfl))
  simp only [Act.put, List.getElem_toArray, List.getElem_cons_zero, List.getElem_cons_succ, List.setIfInBounds_toArray, List.set_cons_succ, List.set_cons_zero]
  refine wpAnyH_take (i := 15) (v := ?rv168) rfl (by kernel_rfl) (by kernel_rfl) (by kernel_rfl) (fun _ _ _ h => h) (Or.inl ⟨by rfl, ?ry168⟩) hS ?_
  case ry168 => (intro wS hSw; clear hSw; go_simp; (try with_reducible rfl))
  simp only [Act.put, List.getElem_toArray, List.getElem_cons_zero, List.getElem_cons_succ, List.setIfInBounds_toArray, List.set_cons_succ, List.set_cons_zero]
  refine wpAnyH_done (by kernel_rfl) ?_ _
  go_wp2_with fail
  go_ret
  exact ⟨by rw [HRE.out]; rfl, gb.trans (hS.mono gb.size)⟩
end Go.Proofs.Ytacmdkjodnaohaa

/- The law's copies of a set: To, Ref, From. -/
import Derived.Test.YtacmdkjodnaohaaDotEq
namespace Go.Proofs.Ytacmdkjodnaohaa
open Go.RowKit
open Dot
theorem step_appD {w : World} {ops : Array Oper} {o : Oper} {a : Act} {K : Act → World → Prop} {Q : Exit → Act → World → Prop} {E : Prop} (hgd : o.guard = none) (s x : Operand)
    (ho : o.op = .call { callee := .builtin .append, args := #[s, x], argTypes := #[23, 23] })
    {base : Nat} {A : Option Addr} {n c : Nat} {bs : List Dt} (hs : a.eval s = .slice A n c) (hown : OwnD w base A n c bs)
    {B : Nat} {D : Option Addr} {m d : Nat} {news : List Dt} (hx : a.eval x = .slice D m d) (hr : Rd w B D (dcs news)) (hm : m = news.length)
    (hbytes : n + m ≤ 1000000000000) (hbase : base ≤ w.heap.size)
    (h : ∀ A' c' w', OwnD w' base A' (n + m) c' (bs ++ news) → w.grownBy w' (A.map (·.block)) → Moved A' (A.map (·.block)) w.heap.size → Below base w w' →
      K (a.put o.dst (.slice A' (n + m) c')) w') :
    if Region.wanted o (yielded ops a.tmps) = true then Oper.wp Try.prog o a w K Q else E := by
  have hw : Region.wanted o (yielded ops a.tmps) = true := by simp [Region.wanted, hgd]
  rw [if_pos hw]
  obtain ⟨i0, hi, hz0, hz1, hz2⟩ := info_parts infoD
  have hob : (Value.slice A n c).ownBlock = A.map (·.block) := by cases A <;> rfl
  obtain ⟨v', w', hrun, h2, h3, h4⟩ := run_app (P := Try.prog) w base 23 o.type 27 i0 (.agg #[.int .i64 0, .int .i64 0]) 2 16 Try.underlying23 hi hz0 hz1 hz2 rfl (by decide) (.slice A n c) n _ hown.2 B D m d (dcs news) hr (by rw [dcs_len, hm]) (dcs_one _) (by unfold maxLen; omega) (by omega) hbase
  unfold Oper.wp execOp
  simp only [ho, resolve, invoke, builtin, Sem.run_bind, Sem.run_pure, Result.andThen_ok, List.map_toArray, List.map_cons, List.map_nil, hs, hx, hrun]
  have hv : ∃ A' c', v' = .slice A' (n + m) c' ∧ v'.ownBlock = A'.map (·.block) := by
    rcases h2.2 with ⟨rfl, h0⟩ | ⟨g, cap, cur, rfl, _⟩
    · exact ⟨none, 0, by rw [h0], rfl⟩
    · exact ⟨_, _, rfl, rfl⟩
  obtain ⟨A', c', rfl, hb⟩ := hv
  rw [hb] at h4
  rw [hob] at h3 h4
  exact h _ _ _ ⟨by rw [List.length_append, hown.1, hm], by rw [dcs_app]; exact h2⟩ h3 h4 ((Below.refl _ _).grown h3 hbase (fun g hg => (hown.lt g hg).1))
theorem own_empD {w : World} {g base : Nat} (h : Blk w g 27 #[]) (hb : base ≤ g) : OwnD w base (some ⟨g, 0, none⟩) 0 0 [] :=
  ⟨rfl, rfl, .inr ⟨g, 0, #[], rfl, hb, h, Nat.le_refl _, Nat.zero_le _, rfl, rfl⟩⟩
theorem step_bd {P : Program} {o : Oper} {a : Act} {w w' : World} {v : Value} {K : Act → World → Prop} {Q : Exit → Act → World → Prop} (t : TypeId) (parts : Array (Nat × Operand)) (ho : o.op = .build t parts)
    (hrun : (Instr.build t (parts.map fun (i, x) => (i, a.eval x))).run P w = .ok v w') (h : K (a.put o.dst v) w') : o.wp P a w K Q := by
  unfold Oper.wp execOp
  simp only [ho, Sem.run_bind, hrun, Result.andThen_ok]
  exact h
theorem buildS {U : List Int} (h : U.length = 8) (A : Option Addr) (n c' : Nat) (w : World) : (Instr.build 30 #[(0, .agg (uI U)), (1, .slice A n c')]).run Try.prog w = .ok (.agg (uc U (.slice A n c'))) w := by
  obtain ⟨a, b, c, d, e, f, g, i, rfl⟩ := eight h
  kernel_rfl
theorem buildR {U : List Int} (h : U.length = 8) (A : Option Addr) (n c' : Nat) (w : World) : (Instr.build 35 #[(0, .agg (uI U)), (1, .slice A n c')]).run Try.prog w = .ok (.agg (uc U (.slice A n c'))) w := by
  obtain ⟨a, b, c, d, e, f, g, i, rfl⟩ := eight h
  kernel_rfl
/-- a copy of a set -/
def CopyEnd (w : World) (U : List Int) (l : List Dt) (e : Ending) (w' : World) : Prop := ∃ A m c, e = .returned (.agg (uc U (.slice A m c))) ∧ OwnD w' w.heap.size A m c l ∧ Below w.heap.size w w'
set_option maxRecDepth 100000 in
set_option maxHeartbeats 2000000 in
theorem to_any (U : List Int) (hU : U.length = 8) (A : Option Addr) (n c : Nat) (l : List Dt) (w : World) (hl : RdD w w.heap.size A n l) (hn : n ≤ 100000) :
    Calls Try.prog 10 #[.agg (uc U (.slice A n c))] w (CopyEnd w U l) := by
  unfold CopyEnd
  have HU := Lib.hid hU
  have HN := Lib.hid hl.1
  have HL := Lib.hid (show (U.map (Value.int .i64)).length = 8 by rw [List.length_map, hU])
  clear hU
  go_enter Try.func10, Try.ntmps10
  go_upto_region 1 with fail
  refine nameW ?_
  intro wv hwv
  obtain ⟨b, hb⟩ : ∃ b, b = w.heap.size := ⟨_, rfl⟩
  rw [← hb]
  have kb : Blk wv b 25 (uc U (.slice A n c)) := by rw [hwv, hb]; exact (Blk.new w _ _).alloc _
  have kz : Blk wv (b + 1) 30 (uc (uptoS noG) (.slice none 0 0)) := by
    have h := Blk.new (w.alloc (.cells (uc U (.slice A n c)) 25)) 30 (uc (uptoS noG) (.slice none 0 0))
    have hz : uc (uptoS noG) (.slice none 0 0) = #[.int .i64 0, .int .i64 0, .int .i64 0, .int .i64 0, .int .i64 0, .int .i64 0, .int .i64 0, .int .i64 0, .slice none 0 0] := by kernel_rfl
    rw [hz] at h ⊢
    rw [hwv, hb]
    simpa using h
  have gb : Below w.heap.size w wv := by rw [hwv]; exact ((Below.refl _ _).alloc (Nat.le_refl _) _).alloc (by simp) _
  have hbw : w.heap.size ≤ b := by omega
  have hbs : b + 1 < wv.heap.size := kz.lt
  have t8 : wv.cell? ⟨b, 8, none⟩ = some (.slice A n c) := (kb.cell 8).trans (uc_last HU.out _)
  have r0 := uc_range kb
  clear hwv hb
  refine wp_region_held_drew (S := fun w' => Below (b + 1) wv w') (by kernel_rfl) (Below.refl _ _).drew (fun hS => ?_)
  refine wpAnyH_take (i := 0) (v := ?rv72) rfl (by kernel_rfl) (by kernel_rfl) (by kernel_rfl) (fun _ _ _ h => h) (Or.inl ⟨by rfl, ?ry72⟩) hS ?_
  case ry72 => (intro wS hSw; clear hSw; go_simp; (try with_reducible rfl))
  simp only [Act.put, List.getElem_toArray, List.getElem_cons_zero, List.getElem_cons_succ, List.setIfInBounds_toArray, List.set_cons_succ, List.set_cons_zero]
  refine wpAnyH_take (i := 1) rfl (by kernel_rfl) (by kernel_rfl) (by kernel_rfl) (fun _ _ _ h => h) (yieldsIf_load_mid (by rfl) 22 (.tmp 3) rfl b 0 rfl (U.map (Value.int .i64)) _ (fun w hw => range_keep r0 hw (Nat.lt_succ_self b)) Try.underlying22 rfl (by rw [HL.out]; kernel_rfl)) hS ?_
  simp only [Act.put, List.getElem_toArray, List.getElem_cons_zero, List.getElem_cons_succ, List.setIfInBounds_toArray, List.set_cons_succ, List.set_cons_zero]
  refine wpAnyH_take (i := 3) (v := ?rv77) rfl (by kernel_rfl) (by kernel_rfl) (by kernel_rfl) (fun _ _ _ h => h) (Or.inl ⟨by rfl, ?ry77⟩) hS ?_
  case ry77 => (intro wS hSw; clear hSw; go_simp; (try with_reducible rfl))
  simp only [Act.put, List.getElem_toArray, List.getElem_cons_zero, List.getElem_cons_succ, List.setIfInBounds_toArray, List.set_cons_succ, List.set_cons_zero]
  refine wpAnyH_take (i := 4) (v := ?rv80) rfl (by kernel_rfl) (by kernel_rfl) (by kernel_rfl) (fun _ _ _ h => h) (Or.inl ⟨by rfl, ?ry80⟩) hS ?_
  case ry80 => (intro wS hSw; have c8 := (hSw.cell (p := ⟨b, 8, none⟩) (Nat.lt_succ_self b)).trans t8; clear hSw; go_simp; (try with_reducible rfl))
  simp only [Act.put, List.getElem_toArray, List.getElem_cons_zero, List.getElem_cons_succ, List.setIfInBounds_toArray, List.set_cons_succ, List.set_cons_zero]
  refine wpAnyH_ready (rs := [2]) (by kernel_rfl) (by simp) ?_
  refine AllReadyH.cons rfl (fun K hK => ?_) .nil
  go_simp
  refine hK.out _ _ (hS.alloc (by simp; omega) _) (fun hS => ?_)
  clear hK K
  refine wpAnyH_ready (rs := [5]) (by kernel_rfl) (by simp) ?_
  refine AllReadyH.cons rfl (fun K hK => ?_) .nil
  have rd := hl.rd
  refine step_appD rfl (.tmp 5) (.tmp 7) rfl (by rfl) (own_empD (base := w.heap.size) (Blk.new wv.drew _ _) (by have := gb.size; simpa using this)) (by rfl) (news := l) (((rd.below gb).below (Below.refl w.heap.size wv).drew).alloc (by have := gb.size; simpa using this) _) HN.out (by omega) (by have := gb.size; simp; omega) ?_
  intro A' c' w3 o3 g3 m3 b3
  rw [Nat.zero_add, List.nil_append] at o3
  have hS3 := hS.grown g3 (by simp; omega) (fun q hq => by injection hq with hq; simp at hq; omega)
  have kz3 : Blk w3 (b + 1) 30 (uc (uptoS noG) (.slice none 0 0)) := ((kz.drew).alloc (.cells #[] 27)).grown g3 (by intro h; injection h with h; simp at h; omega)
  have gb3 : Below w.heap.size w w3 := gb.trans ((Below.refl w.heap.size wv).drew.trans (((Below.refl _ _).alloc (by have := gb.size; simpa using this) (.cells #[] 27)).trans b3))
  rw [Nat.zero_add]
  refine hK.out _ _ hS3 (fun hS => ?_)
  clear hK K
  simp only [Act.put, List.getElem_toArray, List.getElem_cons_zero, List.getElem_cons_succ, List.setIfInBounds_toArray, List.set_cons_succ, List.set_cons_zero]
  refine wpAnyH_ready (rs := [6]) (by kernel_rfl) (by simp) ?_
  refine AllReadyH.cons rfl (fun K hK => ?_) .nil
  rw [if_pos (by rfl)]
  refine step_bd (v := .agg (uc U (.slice A' n c'))) (w' := w3) 30 #[(0, .tmp 4), (1, .tmp 8)] rfl ?hbd ?_
  case hbd =>
    simp only [List.map_toArray, List.map_cons, List.map_nil]
    exact buildS HU.out A' n c' w3
  refine hK.out _ _ hS (fun hS => ?_)
  clear hK K
  simp only [Act.put, List.getElem_toArray, List.getElem_cons_zero, List.getElem_cons_succ, List.setIfInBounds_toArray, List.set_cons_succ, List.set_cons_zero]
  have HS9 := Lib.hid (uc_size HU.out (.slice A' n c'))
  have HZ9 := Lib.hid (uc_size (show (uptoS noG).length = 8 by simp [uptoS]) (.slice none 0 0))
  refine wpAnyH_ready (rs := [7]) (by kernel_rfl) (by simp) ?_
  refine AllReadyH.cons rfl (fun K hK => ?_) .nil
  rw [if_pos (by rfl)]
  refine wp_store_mid 30 _ _ rfl (b + 1) 0 (uc U (.slice A' n c')) rfl rfl (fun j hj => ?_) (by rw [HS9.out]; kernel_rfl) (uc_one rfl) ?_
  · rw [kz3.cell, kz3.free]
    have h1 := HZ9.out
    have h2 := HS9.out
    simp
    omega
  obtain ⟨cs', q1, q2, q3, q4⟩ := setCells_heap w3 (b + 1) (uc U (.slice A' n c')).toList 0 _ kz3
  have hcs : cs' = uc U (.slice A' n c') := by
    apply Array.ext_getElem?
    intro i
    by_cases hi : i < 9
    · have := q4 i (by simpa [HS9.out] using hi) (by rw [HZ9.out]; omega)
      simpa using this
    · rw [Array.getElem?_eq_none (by rw [q2, HZ9.out]; omega), Array.getElem?_eq_none (by rw [HS9.out]; omega)]
  rw [hcs] at q1
  have g4 : w3.grownBy (w3.setCells (b + 1) 0 (uc U (.slice A' n c')).toList) (some (b + 1)) := by
    obtain ⟨k1, k2, k3, k4⟩ := setCells_size w3 (b + 1) (uc U (.slice A' n c')).toList 0
    exact ⟨k2, k3, k4, by rw [k1]; exact Nat.le_refl _, fun k hk hne => setCells_other w3 (b + 1) _ _ k (fun e => hne (by rw [e]))⟩
  have k4 : Blk (w3.setCells (b + 1) 0 (uc U (.slice A' n c')).toList) (b + 1) 30 (uc U (.slice A' n c')) := q1
  have hs3 : b + 1 < w3.heap.size := kz3.lt
  have o4 := o3.grown g4 (.inr (own_ne o3.2 kz3 (by decide)))
  have gb4 := gb3.grown g4 gb3.size (fun q hq => by injection hq; omega)
  have hS4 := hS.grown g4 (by omega) (fun q hq => by injection hq; omega)
  generalize w3.setCells (b + 1) 0 (uc U (.slice A' n c')).toList = w4 at *
  refine hK.out _ _ hS4 (fun hS => ?_)
  clear hK K
  refine wpAnyH_done (by kernel_rfl) ?_ _
  simp only [Act.put, List.getElem_toArray, List.getElem_cons_zero, List.getElem_cons_succ, List.setIfInBounds_toArray, List.set_cons_succ, List.set_cons_zero]
  clear g3 g4 q1 q2 q3 q4 hcs
  go_wp2_with fail
  exact bodyPost_ret (v := .agg (uc U (.slice A' n c'))) (results_blk rfl rowS k4 HS9.out rfl) rfl ⟨A', n, c', rfl, o4, gb4⟩
set_option maxRecDepth 100000 in
set_option maxHeartbeats 2000000 in
theorem ref_any (U : List Int) (hU : U.length = 8) (A : Option Addr) (n c : Nat) (l : List Dt) (w : World) (hl : RdD w w.heap.size A n l) (hn : n ≤ 100000) :
    Calls Try.prog 13 #[.agg (uc U (.slice A n c))] w (CopyEnd w U l) := by
  unfold CopyEnd
  have HU := Lib.hid hU
  have HN := Lib.hid hl.1
  have HL := Lib.hid (show (U.map (Value.int .i64)).length = 8 by rw [List.length_map, hU])
  clear hU
  go_enter Try.func13, Try.ntmps13
  go_upto_region 1 with fail
  refine nameW ?_
  intro wv hwv
  obtain ⟨b, hb⟩ : ∃ b, b = w.heap.size := ⟨_, rfl⟩
  rw [← hb]
  have kb : Blk wv b 25 (uc U (.slice A n c)) := by rw [hwv, hb]; exact (Blk.new w _ _).alloc _
  have kz : Blk wv (b + 1) 35 (uc (uptoS noG) (.slice none 0 0)) := by
    have h := Blk.new (w.alloc (.cells (uc U (.slice A n c)) 25)) 35 (uc (uptoS noG) (.slice none 0 0))
    have hz : uc (uptoS noG) (.slice none 0 0) = #[.int .i64 0, .int .i64 0, .int .i64 0, .int .i64 0, .int .i64 0, .int .i64 0, .int .i64 0, .int .i64 0, .slice none 0 0] := by kernel_rfl
    rw [hz] at h ⊢
    rw [hwv, hb]
    simpa using h
  have gb : Below w.heap.size w wv := by rw [hwv]; exact ((Below.refl _ _).alloc (Nat.le_refl _) _).alloc (by simp) _
  have hbw : w.heap.size ≤ b := by omega
  have hbs : b + 1 < wv.heap.size := kz.lt
  have t8 : wv.cell? ⟨b, 8, none⟩ = some (.slice A n c) := (kb.cell 8).trans (uc_last HU.out _)
  have r0 := uc_range kb
  clear hwv hb
  refine wp_region_held_drew (S := fun w' => Below (b + 1) wv w') (by kernel_rfl) (Below.refl _ _).drew (fun hS => ?_)
  refine wpAnyH_take (i := 0) (v := ?rv176) rfl (by kernel_rfl) (by kernel_rfl) (by kernel_rfl) (fun _ _ _ h => h) (Or.inl ⟨by rfl, ?ry176⟩) hS ?_
  case ry176 => (intro wS hSw; clear hSw; go_simp; (try with_reducible rfl))
  simp only [Act.put, List.getElem_toArray, List.getElem_cons_zero, List.getElem_cons_succ, List.setIfInBounds_toArray, List.set_cons_succ, List.set_cons_zero]
  refine wpAnyH_take (i := 1) rfl (by kernel_rfl) (by kernel_rfl) (by kernel_rfl) (fun _ _ _ h => h) (yieldsIf_load_mid (by rfl) 22 (.tmp 3) rfl b 0 rfl (U.map (Value.int .i64)) _ (fun w hw => range_keep r0 hw (Nat.lt_succ_self b)) Try.underlying22 rfl (by rw [HL.out]; kernel_rfl)) hS ?_
  simp only [Act.put, List.getElem_toArray, List.getElem_cons_zero, List.getElem_cons_succ, List.setIfInBounds_toArray, List.set_cons_succ, List.set_cons_zero]
  refine wpAnyH_take (i := 3) (v := ?rv181) rfl (by kernel_rfl) (by kernel_rfl) (by kernel_rfl) (fun _ _ _ h => h) (Or.inl ⟨by rfl, ?ry181⟩) hS ?_
  case ry181 => (intro wS hSw; clear hSw; go_simp; (try with_reducible rfl))
  simp only [Act.put, List.getElem_toArray, List.getElem_cons_zero, List.getElem_cons_succ, List.setIfInBounds_toArray, List.set_cons_succ, List.set_cons_zero]
  refine wpAnyH_take (i := 4) (v := ?rv184) rfl (by kernel_rfl) (by kernel_rfl) (by kernel_rfl) (fun _ _ _ h => h) (Or.inl ⟨by rfl, ?ry184⟩) hS ?_
  case ry184 => (intro wS hSw; have c8 := (hSw.cell (p := ⟨b, 8, none⟩) (Nat.lt_succ_self b)).trans t8; clear hSw; go_simp; (try with_reducible rfl))
  simp only [Act.put, List.getElem_toArray, List.getElem_cons_zero, List.getElem_cons_succ, List.setIfInBounds_toArray, List.set_cons_succ, List.set_cons_zero]
  refine wpAnyH_ready (rs := [2]) (by kernel_rfl) (by simp) ?_
  refine AllReadyH.cons rfl (fun K hK => ?_) .nil
  go_simp
  refine hK.out _ _ (hS.alloc (by simp; omega) _) (fun hS => ?_)
  clear hK K
  refine wpAnyH_ready (rs := [5]) (by kernel_rfl) (by simp) ?_
  refine AllReadyH.cons rfl (fun K hK => ?_) .nil
  have rd := hl.rd
  refine step_appD rfl (.tmp 5) (.tmp 7) rfl (by rfl) (own_empD (base := w.heap.size) (Blk.new wv.drew _ _) (by have := gb.size; simpa using this)) (by rfl) (news := l) (((rd.below gb).below (Below.refl w.heap.size wv).drew).alloc (by have := gb.size; simpa using this) _) HN.out (by omega) (by have := gb.size; simp; omega) ?_
  intro A' c' w3 o3 g3 m3 b3
  rw [Nat.zero_add, List.nil_append] at o3
  have hS3 := hS.grown g3 (by simp; omega) (fun q hq => by injection hq with hq; simp at hq; omega)
  have kz3 : Blk w3 (b + 1) 35 (uc (uptoS noG) (.slice none 0 0)) := ((kz.drew).alloc (.cells #[] 27)).grown g3 (by intro h; injection h with h; simp at h; omega)
  have gb3 : Below w.heap.size w w3 := gb.trans ((Below.refl w.heap.size wv).drew.trans (((Below.refl _ _).alloc (by have := gb.size; simpa using this) (.cells #[] 27)).trans b3))
  rw [Nat.zero_add]
  refine hK.out _ _ hS3 (fun hS => ?_)
  clear hK K
  simp only [Act.put, List.getElem_toArray, List.getElem_cons_zero, List.getElem_cons_succ, List.setIfInBounds_toArray, List.set_cons_succ, List.set_cons_zero]
  refine wpAnyH_ready (rs := [6]) (by kernel_rfl) (by simp) ?_
  refine AllReadyH.cons rfl (fun K hK => ?_) .nil
  rw [if_pos (by rfl)]
  refine step_bd (v := .agg (uc U (.slice A' n c'))) (w' := w3) 35 #[(0, .tmp 4), (1, .tmp 8)] rfl ?hbd ?_
  case hbd =>
    simp only [List.map_toArray, List.map_cons, List.map_nil]
    exact buildR HU.out A' n c' w3
  refine hK.out _ _ hS (fun hS => ?_)
  clear hK K
  simp only [Act.put, List.getElem_toArray, List.getElem_cons_zero, List.getElem_cons_succ, List.setIfInBounds_toArray, List.set_cons_succ, List.set_cons_zero]
  have HS9 := Lib.hid (uc_size HU.out (.slice A' n c'))
  have HZ9 := Lib.hid (uc_size (show (uptoS noG).length = 8 by simp [uptoS]) (.slice none 0 0))
  refine wpAnyH_ready (rs := [7]) (by kernel_rfl) (by simp) ?_
  refine AllReadyH.cons rfl (fun K hK => ?_) .nil
  rw [if_pos (by rfl)]
  refine wp_store_mid 35 _ _ rfl (b + 1) 0 (uc U (.slice A' n c')) rfl rfl (fun j hj => ?_) (by rw [HS9.out]; kernel_rfl) (uc_one rfl) ?_
  · rw [kz3.cell, kz3.free]
    have h1 := HZ9.out
    have h2 := HS9.out
    simp
    omega
  obtain ⟨cs', q1, q2, q3, q4⟩ := setCells_heap w3 (b + 1) (uc U (.slice A' n c')).toList 0 _ kz3
  have hcs : cs' = uc U (.slice A' n c') := by
    apply Array.ext_getElem?
    intro i
    by_cases hi : i < 9
    · have := q4 i (by simpa [HS9.out] using hi) (by rw [HZ9.out]; omega)
      simpa using this
    · rw [Array.getElem?_eq_none (by rw [q2, HZ9.out]; omega), Array.getElem?_eq_none (by rw [HS9.out]; omega)]
  rw [hcs] at q1
  have g4 : w3.grownBy (w3.setCells (b + 1) 0 (uc U (.slice A' n c')).toList) (some (b + 1)) := by
    obtain ⟨k1, k2, k3, k4⟩ := setCells_size w3 (b + 1) (uc U (.slice A' n c')).toList 0
    exact ⟨k2, k3, k4, by rw [k1]; exact Nat.le_refl _, fun k hk hne => setCells_other w3 (b + 1) _ _ k (fun e => hne (by rw [e]))⟩
  have k4 : Blk (w3.setCells (b + 1) 0 (uc U (.slice A' n c')).toList) (b + 1) 35 (uc U (.slice A' n c')) := q1
  have hs3 : b + 1 < w3.heap.size := kz3.lt
  have o4 := o3.grown g4 (.inr (own_ne o3.2 kz3 (by decide)))
  have gb4 := gb3.grown g4 gb3.size (fun q hq => by injection hq; omega)
  have hS4 := hS.grown g4 (by omega) (fun q hq => by injection hq; omega)
  generalize w3.setCells (b + 1) 0 (uc U (.slice A' n c')).toList = w4 at *
  refine hK.out _ _ hS4 (fun hS => ?_)
  clear hK K
  refine wpAnyH_done (by kernel_rfl) ?_ _
  simp only [Act.put, List.getElem_toArray, List.getElem_cons_zero, List.getElem_cons_succ, List.setIfInBounds_toArray, List.set_cons_succ, List.set_cons_zero]
  clear g3 g4 q1 q2 q3 q4 hcs
  go_wp2_with fail
  exact bodyPost_ret (v := .agg (uc U (.slice A' n c'))) (results_blk rfl rowRS k4 HS9.out rfl) rfl ⟨A', n, c', rfl, o4, gb4⟩
set_option maxRecDepth 100000 in
set_option maxHeartbeats 2000000 in
theorem from_any (U : List Int) (hU : U.length = 8) (A : Option Addr) (n c : Nat) (l : List Dt) (w : World) (hl : RdD w w.heap.size A n l) (hn : n ≤ 100000) :
    Calls Try.prog 20 #[.agg (uc U (.slice A n c))] w (CopyEnd w U l) := by
  unfold CopyEnd
  have HU := Lib.hid hU
  have HN := Lib.hid hl.1
  have HL := Lib.hid (show (U.map (Value.int .i64)).length = 8 by rw [List.length_map, hU])
  clear hU
  go_enter Try.func20, Try.ntmps20
  go_upto_region 1 with fail
  refine nameW ?_
  intro wv hwv
  obtain ⟨b, hb⟩ : ∃ b, b = w.heap.size := ⟨_, rfl⟩
  rw [← hb]
  have kb : Blk wv b 30 (uc U (.slice A n c)) := by rw [hwv, hb]; exact (Blk.new w _ _).alloc _
  have kz : Blk wv (b + 1) 35 (uc (uptoS noG) (.slice none 0 0)) := by
    have h := Blk.new (w.alloc (.cells (uc U (.slice A n c)) 30)) 35 (uc (uptoS noG) (.slice none 0 0))
    have hz : uc (uptoS noG) (.slice none 0 0) = #[.int .i64 0, .int .i64 0, .int .i64 0, .int .i64 0, .int .i64 0, .int .i64 0, .int .i64 0, .int .i64 0, .slice none 0 0] := by kernel_rfl
    rw [hz] at h ⊢
    rw [hwv, hb]
    simpa using h
  have gb : Below w.heap.size w wv := by rw [hwv]; exact ((Below.refl _ _).alloc (Nat.le_refl _) _).alloc (by simp) _
  have hbw : w.heap.size ≤ b := by omega
  have hbs : b + 1 < wv.heap.size := kz.lt
  have t8 : wv.cell? ⟨b, 8, none⟩ = some (.slice A n c) := (kb.cell 8).trans (uc_last HU.out _)
  have r0 := uc_range kb
  clear hwv hb
  refine wp_region_held_drew (S := fun w' => Below (b + 1) wv w') (by kernel_rfl) (Below.refl _ _).drew (fun hS => ?_)
  refine wpAnyH_take (i := 0) (v := ?rv280) rfl (by kernel_rfl) (by kernel_rfl) (by kernel_rfl) (fun _ _ _ h => h) (Or.inl ⟨by rfl, ?ry280⟩) hS ?_
  case ry280 => (intro wS hSw; clear hSw; go_simp; (try with_reducible rfl))
  simp only [Act.put, List.getElem_toArray, List.getElem_cons_zero, List.getElem_cons_succ, List.setIfInBounds_toArray, List.set_cons_succ, List.set_cons_zero]
  refine wpAnyH_take (i := 1) rfl (by kernel_rfl) (by kernel_rfl) (by kernel_rfl) (fun _ _ _ h => h) (yieldsIf_load_mid (by rfl) 22 (.tmp 3) rfl b 0 rfl (U.map (Value.int .i64)) _ (fun w hw => range_keep r0 hw (Nat.lt_succ_self b)) Try.underlying22 rfl (by rw [HL.out]; kernel_rfl)) hS ?_
  simp only [Act.put, List.getElem_toArray, List.getElem_cons_zero, List.getElem_cons_succ, List.setIfInBounds_toArray, List.set_cons_succ, List.set_cons_zero]
  refine wpAnyH_take (i := 3) (v := ?rv285) rfl (by kernel_rfl) (by kernel_rfl) (by kernel_rfl) (fun _ _ _ h => h) (Or.inl ⟨by rfl, ?ry285⟩) hS ?_
  case ry285 => (intro wS hSw; clear hSw; go_simp; (try with_reducible rfl))
  simp only [Act.put, List.getElem_toArray, List.getElem_cons_zero, List.getElem_cons_succ, List.setIfInBounds_toArray, List.set_cons_succ, List.set_cons_zero]
  refine wpAnyH_take (i := 4) (v := ?rv288) rfl (by kernel_rfl) (by kernel_rfl) (by kernel_rfl) (fun _ _ _ h => h) (Or.inl ⟨by rfl, ?ry288⟩) hS ?_
  case ry288 => (intro wS hSw; have c8 := (hSw.cell (p := ⟨b, 8, none⟩) (Nat.lt_succ_self b)).trans t8; clear hSw; go_simp; (try with_reducible rfl))
  simp only [Act.put, List.getElem_toArray, List.getElem_cons_zero, List.getElem_cons_succ, List.setIfInBounds_toArray, List.set_cons_succ, List.set_cons_zero]
  refine wpAnyH_ready (rs := [2]) (by kernel_rfl) (by simp) ?_
  refine AllReadyH.cons rfl (fun K hK => ?_) .nil
  go_simp
  refine hK.out _ _ (hS.alloc (by simp; omega) _) (fun hS => ?_)
  clear hK K
  refine wpAnyH_ready (rs := [5]) (by kernel_rfl) (by simp) ?_
  refine AllReadyH.cons rfl (fun K hK => ?_) .nil
  have rd := hl.rd
  refine step_appD rfl (.tmp 5) (.tmp 7) rfl (by rfl) (own_empD (base := w.heap.size) (Blk.new wv.drew _ _) (by have := gb.size; simpa using this)) (by rfl) (news := l) (((rd.below gb).below (Below.refl w.heap.size wv).drew).alloc (by have := gb.size; simpa using this) _) HN.out (by omega) (by have := gb.size; simp; omega) ?_
  intro A' c' w3 o3 g3 m3 b3
  rw [Nat.zero_add, List.nil_append] at o3
  have hS3 := hS.grown g3 (by simp; omega) (fun q hq => by injection hq with hq; simp at hq; omega)
  have kz3 : Blk w3 (b + 1) 35 (uc (uptoS noG) (.slice none 0 0)) := ((kz.drew).alloc (.cells #[] 27)).grown g3 (by intro h; injection h with h; simp at h; omega)
  have gb3 : Below w.heap.size w w3 := gb.trans ((Below.refl w.heap.size wv).drew.trans (((Below.refl _ _).alloc (by have := gb.size; simpa using this) (.cells #[] 27)).trans b3))
  rw [Nat.zero_add]
  refine hK.out _ _ hS3 (fun hS => ?_)
  clear hK K
  simp only [Act.put, List.getElem_toArray, List.getElem_cons_zero, List.getElem_cons_succ, List.setIfInBounds_toArray, List.set_cons_succ, List.set_cons_zero]
  refine wpAnyH_ready (rs := [6]) (by kernel_rfl) (by simp) ?_
  refine AllReadyH.cons rfl (fun K hK => ?_) .nil
  rw [if_pos (by rfl)]
  refine step_bd (v := .agg (uc U (.slice A' n c'))) (w' := w3) 35 #[(0, .tmp 4), (1, .tmp 8)] rfl ?hbd ?_
  case hbd =>
    simp only [List.map_toArray, List.map_cons, List.map_nil]
    exact buildR HU.out A' n c' w3
  refine hK.out _ _ hS (fun hS => ?_)
  clear hK K
  simp only [Act.put, List.getElem_toArray, List.getElem_cons_zero, List.getElem_cons_succ, List.setIfInBounds_toArray, List.set_cons_succ, List.set_cons_zero]
  have HS9 := Lib.hid (uc_size HU.out (.slice A' n c'))
  have HZ9 := Lib.hid (uc_size (show (uptoS noG).length = 8 by simp [uptoS]) (.slice none 0 0))
  refine wpAnyH_ready (rs := [7]) (by kernel_rfl) (by simp) ?_
  refine AllReadyH.cons rfl (fun K hK => ?_) .nil
  rw [if_pos (by rfl)]
  refine wp_store_mid 35 _ _ rfl (b + 1) 0 (uc U (.slice A' n c')) rfl rfl (fun j hj => ?_) (by rw [HS9.out]; kernel_rfl) (uc_one rfl) ?_
  · rw [kz3.cell, kz3.free]
    have h1 := HZ9.out
    have h2 := HS9.out
    simp
    omega
  obtain ⟨cs', q1, q2, q3, q4⟩ := setCells_heap w3 (b + 1) (uc U (.slice A' n c')).toList 0 _ kz3
  have hcs : cs' = uc U (.slice A' n c') := by
    apply Array.ext_getElem?
    intro i
    by_cases hi : i < 9
    · have := q4 i (by simpa [HS9.out] using hi) (by rw [HZ9.out]; omega)
      simpa using this
    · rw [Array.getElem?_eq_none (by rw [q2, HZ9.out]; omega), Array.getElem?_eq_none (by rw [HS9.out]; omega)]
  rw [hcs] at q1
  have g4 : w3.grownBy (w3.setCells (b + 1) 0 (uc U (.slice A' n c')).toList) (some (b + 1)) := by
    obtain ⟨k1, k2, k3, k4⟩ := setCells_size w3 (b + 1) (uc U (.slice A' n c')).toList 0
    exact ⟨k2, k3, k4, by rw [k1]; exact Nat.le_refl _, fun k hk hne => setCells_other w3 (b + 1) _ _ k (fun e => hne (by rw [e]))⟩
  have k4 : Blk (w3.setCells (b + 1) 0 (uc U (.slice A' n c')).toList) (b + 1) 35 (uc U (.slice A' n c')) := q1
  have hs3 : b + 1 < w3.heap.size := kz3.lt
  have o4 := o3.grown g4 (.inr (own_ne o3.2 kz3 (by decide)))
  have gb4 := gb3.grown g4 gb3.size (fun q hq => by injection hq; omega)
  have hS4 := hS.grown g4 (by omega) (fun q hq => by injection hq; omega)
  generalize w3.setCells (b + 1) 0 (uc U (.slice A' n c')).toList = w4 at *
  refine hK.out _ _ hS4 (fun hS => ?_)
  clear hK K
  refine wpAnyH_done (by kernel_rfl) ?_ _
  simp only [Act.put, List.getElem_toArray, List.getElem_cons_zero, List.getElem_cons_succ, List.setIfInBounds_toArray, List.set_cons_succ, List.set_cons_zero]
  clear g3 g4 q1 q2 q3 q4 hcs
  go_wp2_with fail
  exact bodyPost_ret (v := .agg (uc U (.slice A' n c'))) (results_blk rfl rowRS k4 HS9.out rfl) rfl ⟨A', n, c', rfl, o4, gb4⟩
end Go.Proofs.Ytacmdkjodnaohaa

/- The walks of List, Count, Join. -/
import Derived.Test.YtacmdkjodnaohaaDotAdd
namespace Go.Proofs.Ytacmdkjodnaohaa
open Go.RowKit
open Dot

set_option maxHeartbeats 1000000 in
theorem lst_app (gs n q m c base : Nat) (A : Option Addr) (M : List Dt) (w : World) 
    (hB : Blk w gs 23 #[.slice A m c]) (hO : OwnD w base A m c M) (hne : A.map (·.block) ≠ some gs) (hbase : base ≤ gs) (hml : m ≤ 1000) :
    Calls Try.prog 45 #[.agg #[.int .i64 (n : Nat), .int .i64 (q : Nat)], .pointer (some ⟨gs, 0, none⟩)] w fun e w' => e = .returned (.tuple #[]) ∧ ∃ A' c', Blk w' gs 23 #[.slice A' (m + 1) c'] ∧ OwnD w' base A' (m + 1) c' (M ++ [((n : Int), (q : Int))]) ∧ A'.map (·.block) ≠ some gs ∧ Below base w w' ∧ ∀ k, k < w.heap.size → k ≠ gs → A.map (·.block) ≠ some k → w'.heap[k]? = w.heap[k]? := by
  go_enter Try.func45, Try.ntmps45
  go_upto_region 1 with fail
  refine nameW ?_
  intro wv hwv
  obtain ⟨b, hb⟩ : ∃ b, b = w.heap.size := ⟨_, rfl⟩
  rw [← hb]
  have kb : Blk wv b 27 #[.int .i64 (n : Nat), .int .i64 (q : Nat)] := by rw [hwv, hb]; exact Blk.new w _ _
  have hbs := hB.lt
  have gb : Below base w wv := by rw [hwv]; exact (Below.refl _ _).alloc (by omega) _
  have kg : Blk wv gs 23 #[.slice A m c] := by rw [hwv]; exact hB.alloc _
  have oO : OwnD wv base A m c M := by rw [hwv]; exact hO.alloc _
  have t0 : wv.cell? ⟨b, 0, none⟩ = some (.int .i64 (n : Nat)) := kb.cell 0
  have t1 : wv.cell? ⟨b, 1, none⟩ = some (.int .i64 (q : Nat)) := kb.cell 1
  have c8 : wv.cell? ⟨gs, 0, none⟩ = some (.slice A m c) := kg.cell 0
  have hgb : gs ≠ b := by omega
  have hwb : b < wv.heap.size := kb.lt
  have hbv : base ≤ wv.heap.size := by have := kg.lt; omega
  have hkv : ∀ k, k < w.heap.size → wv.heap[k]? = w.heap[k]? := fun k hk => by rw [hwv]; exact Below.heap_alloc w _ k hk
  have hsv : w.heap.size ≤ wv.heap.size := by omega
  clear hwv hb
  go_wp2_with (at_builtin; refine wpList_appD rfl (.tmp 3) (.tmp 5) rfl rfl (oO.alloc _) (news := [((n : Int), (q : Int))]) rfl (Rd.made _ _ _ _) rfl ?h1 ?h2 ?h3)
  case h1 => omega
  case h2 => simp; omega
  intro A' c' w2 o2 g2 m2 b2
  have kg2 : Blk w2 gs 23 #[.slice A m c] := (kg.alloc (.cells #[.int .i64 (n : Nat), .int .i64 (q : Nat)] 27)).grown g2 hne
  have hne2 : A'.map (·.block) ≠ some gs := by
    rcases m2 with h | h
    · rw [h]; exact hne
    · rw [h]
      intro e
      injection e with e
      have := kg.lt
      omega
  have c82 : w2.cell? ⟨gs, 0, none⟩ = some (.slice A m c) := kg2.cell 0
  have f82 := kg2.free 0
  have bw := ((gb.alloc hbv (.cells #[.int .i64 (n : Nat), .int .i64 (q : Nat)] 27)).trans b2).setCell (p := ⟨gs, 0, none⟩) hbase (.slice A' (m + 1) c')
  have o3 := o2.setFar (p := ⟨gs, 0, none⟩) hne2 (.slice A' (m + 1) c')
  have k3 := kg2.set_ 0 (.slice A' (m + 1) c')
  have hkk : ∀ k, k < w.heap.size → k ≠ gs → A.map (·.block) ≠ some k → (w2.setCell ⟨gs, 0, none⟩ (.slice A' (m + 1) c')).heap[k]? = w.heap[k]? := fun k hk hkg hkA => by
    rw [Below.heap_setCell w2 ⟨gs, 0, none⟩ _ k hkg, g2.block k (by simp; omega) (fun e => hkA e.symm), Below.heap_alloc wv _ k (by omega)]
    exact hkv k hk
  have HKK := Lib.hid hkk
  have HO3 := Lib.hid o3
  have HB3 := Lib.hid bw
  have HK3 := Lib.hid k3
  clear g2 m2 b2 o2 o3 bw k3 hkk
  go_wp2_with fail
  go_end0
  exact ⟨rfl, A', c', HK3.out, HO3.out, hne2, HB3.out, HKK.out⟩
/-- List, under way -/
def LstI (w0 : World) (base g gs : Nat) (G : Grid) (n q : Nat) (w : World) : Prop := q ≤ 98 ∧ n ≤ 8 ∧ Blk w g 98 (gc G) ∧ ∃ A m c, Blk w gs 23 #[.slice A m c] ∧ OwnD w base A m c (dotsTo G n ++ rowTo G n q) ∧ A.map (·.block) ≠ some gs ∧ Below base w0 w
theorem lst_step (w0 : World) (base g gs : Nat) (G : Grid) (h1 : g ≠ gs) (h2 : base ≤ gs) (n q : Nat) (w : World) (hn : n < 8) (hq : q < 98) (hg : G n q = true) (hI : LstI w0 base g gs G n q w) :
    Calls Try.prog 45 #[.agg #[.int .i64 (n : Nat), .int .i64 (q : Nat)], .pointer (some ⟨gs, 0, none⟩)] w fun e w' => e = .returned (.tuple #[]) ∧ LstI w0 base g gs G n (q + 1) w' := by
  obtain ⟨_, _, kg, A, m, c, ks, oD, hne, hb⟩ := hI
  have hm : m ≤ 1000 := by
    have := oD.1
    have h3 := dotsTo_len G n
    have h4 := rowTo_len G n q
    rw [List.length_append] at this
    omega
  have hgA := own_ne oD.2 kg (by decide)
  refine (lst_app gs n q m c base A _ w ks oD hne h2 hm).mono ?_
  rintro e w' ⟨rfl, A', c', k, o, hne', b, hk⟩
  refine ⟨rfl, by omega, by omega, (hk g kg.lt h1 hgA).trans kg, A', m + 1, c', k, ?_, hne', hb.trans b⟩
  rw [rowTo, if_pos hg, ← List.append_assoc]
  exact o
theorem lst_skip (w0 : World) (base g gs : Nat) (G : Grid) (n q : Nat) (w : World) (hq : q < 98) (hg : G n q = false) (hI : LstI w0 base g gs G n q w) : LstI w0 base g gs G n (q + 1) w := by
  obtain ⟨_, hn, kg, A, m, c, ks, oD, hne, hb⟩ := hI
  refine ⟨by omega, hn, kg, A, m, c, ks, ?_, hne, hb⟩
  rw [rowTo, if_neg (by rw [hg]; simp)]
  exact oD
theorem lst_next (w0 : World) (base g gs : Nat) (G : Grid) (n : Nat) (w : World) (hn : n < 8) (hI : LstI w0 base g gs G n 98 w) : LstI w0 base g gs G (n + 1) 0 w := by
  obtain ⟨_, _, kg, A, m, c, ks, oD, hne, hb⟩ := hI
  refine ⟨by omega, by omega, kg, A, m, c, ks, ?_, hne, hb⟩
  rw [show dotsTo G (n + 1) ++ rowTo G (n + 1) 0 = dotsTo G n ++ rowTo G n 98 by rw [show rowTo G (n + 1) 0 = [] from rfl, List.append_nil]; rfl]
  exact oD
theorem results_cell {P : Program} {fn : Func} {p : Tmp} {w : World} {tmps : Array Value} {T : TypeId} {g : Nat} {v : Value} (h : fn.results = #[.cell p T]) (hag : ∀ w, (isAgg T).run P w = .ok false w) (hc : w.cell? ⟨g, 0, none⟩ = some v) (hp : tmps.getD p undef = .pointer (some ⟨g, 0, none⟩)) : (results fn tmps).run P w = .ok v w := by
  have hp' : tmps[p]?.getD undef = .pointer (some ⟨g, 0, none⟩) := by simpa using hp
  simp [results, h, hp', asAddr, loadVar, hag, hc]
/-- a row, as a call hands it back -/
def ListEnd (w : World) (l : List Dt) (e : Ending) (w' : World) : Prop := ∃ A m c, e = .returned (.slice A m c) ∧ OwnD w' w.heap.size A m c l ∧ Below w.heap.size w w'
set_option maxRecDepth 100000 in
set_option maxHeartbeats 2000000 in
theorem list_any (s : SetV) (w : World) (hU : s.U.length = 8) (hr : RdD w w.heap.size s.A s.n s.l) :
    Calls Try.prog 23 #[.agg (uc s.U (.slice s.A s.n s.c))] w (ListEnd w (dotsS (hasG s.U s.l))) := by
  unfold ListEnd
  have hmf : ∀ (fn : Fn) (first cap : Array Value) (w : World), (Instr.makeFunc fn first cap).run Try.prog w = .ok (.func fn first cap) w := fun _ _ _ _ => rfl
  have HS := Lib.hid (uc_size hU (.slice s.A s.n s.c))
  obtain ⟨sc, hsc⟩ : ∃ sc, sc = uc s.U (.slice s.A s.n s.c) := ⟨_, rfl⟩
  rw [← hsc] at HS ⊢
  have hb1 := build1 hU s.A s.n s.c
  rw [← hsc] at hb1
  have HB1 := Lib.hid hb1
  have HSC := Lib.hid hsc
  clear hsc hb1
  go_enter Try.func23, Try.ntmps23
  go_upto_region 1 with fail
  refine nameW ?_
  intro wv hwv
  obtain ⟨b, hb⟩ : ∃ b, b = w.heap.size := ⟨_, rfl⟩
  rw [← hb]
  have kb : Blk wv b 30 sc := by rw [hwv, hb]; exact (Blk.new w _ _).alloc _
  have kl : Blk wv (b + 1) 23 #[.slice none 0 0] := by
    have h := Blk.new (w.alloc (.cells sc 30)) 23 #[.slice none 0 0]
    rw [hwv, hb]
    simpa using h
  have gb : Below w.heap.size w wv := by rw [hwv]; exact ((Below.refl _ _).alloc (Nat.le_refl _) _).alloc (by simp) _
  have hrv : RdD wv w.heap.size s.A s.n s.l := hr.below gb
  have hbw : w.heap.size ≤ b + 1 := by omega
  have hrow := (rowset_one s hU (hrv.more gb.size) (Nat.le_refl _) 30 (0, 0)).more (B' := (wv.alloc (.cells sc 30)).heap.size) (by simp)
  rw [← HSC.out] at hrow
  clear hwv hb
  go_wp2_with first
    | ((with_reducible refine wpList_ld rowS kb HS.out ?_ ?_); rotate_left; (rfl))
    | ((refine wpList_bs (v := .slice (some ⟨wv.heap.size, 0, none⟩) 1 1) (w' := wv.alloc (.cells sc 30)) rfl 96 1 #[(0, .tmp 3)] rfl ?_ ?_); (simp only [List.map_toArray, List.map_cons, List.map_nil]; exact HB1.out wv))
  refine (of_any [s] 1 wv.heap.size _ rfl (by decide) hrow).mono ?_
  rintro e w2 ⟨rfl, k2, h2⟩
  rw [lays_one] at k2
  have bx : Below wv.heap.size wv (wv.alloc (.cells sc 30)) := (Below.refl _ _).alloc (Nat.le_refl _) _
  have by2 := bx.trans (h2.mono (by simp))
  have kl2 := kl.below by2 kl.lt
  have b2 := gb.trans (by2.mono gb.size)
  obtain ⟨g, hg⟩ : ∃ g, g = (wv.alloc (.cells sc 30)).heap.size := ⟨_, rfl⟩
  rw [← hg] at k2 ⊢
  have hgl : g ≠ b + 1 := by have := kl.lt; rw [hg]; simp; omega
  clear hg hrow kb kl gb h2 bx by2 hrv
  have hI : LstI w w.heap.size g (b + 1) (hasG s.U s.l) 0 0 w2 := ⟨by omega, by omega, k2, none, 0, 0, kl2, OwnD.nil _ _, by simp, b2⟩
  clear k2 kl2 b2
  go_wp2_with fail
  refine (walk_any 45 g ⟨b + 1, 0, none⟩ (hasG s.U s.l) (LstI w w.heap.size g (b + 1) (hasG s.U s.l)) (fun _ _ => rfl) (fun n q w' hn hq hg hI => lst_step w w.heap.size g (b + 1) _ hgl hbw n q w' hn hq hg hI) (fun n q w' _ hq hg hI => lst_skip w w.heap.size g (b + 1) _ n q w' hq hg hI) (fun n w' hn hI => lst_next w w.heap.size g (b + 1) _ n w' hn hI) (fun n q w' hI => hI.2.2.1) w2 hI).mono ?_
  rintro e w3 ⟨rfl, _, _, kg, A, m, c, ks, oD, hne, hb3⟩
  rw [show dotsTo (hasG s.U s.l) 8 ++ rowTo (hasG s.U s.l) 8 0 = dotsS (hasG s.U s.l) by rw [show rowTo (hasG s.U s.l) 8 0 = [] from rfl, List.append_nil]; rfl] at oD
  have c0 : w3.cell? ⟨b + 1, 0, none⟩ = some (.slice A m c) := ks.cell 0
  have f0 := ks.free 0
  clear hI
  go_wp2_with fail
  have hbz : w.heap.size ≤ (⟨b + 1, 0, none⟩ : Addr).block := hbw
  have k9 := ks.set_ 0 (.slice A m c)
  exact bodyPost_ret (v := .slice A m c) (results_cell rfl (fun _ => by kernel_rfl) (k9.cell 0) rfl) rfl ⟨A, m, c, rfl, oD.setFar (p := ⟨b + 1, 0, none⟩) hne _, hb3.setCell hbz _⟩
theorem count_any (s : SetV) (w : World) (hU : s.U.length = 8) (hr : RdD w w.heap.size s.A s.n s.l) :
    Calls Try.prog 21 #[.agg (uc s.U (.slice s.A s.n s.c))] w fun e w' => e = .returned (.int .i64 ((dotsS (hasG s.U s.l)).length : Nat)) ∧ Below w.heap.size w w' := by
  have HS := Lib.hid (uc_size hU (.slice s.A s.n s.c))
  have hls := fun w' (hb : Below w.heap.size w w') => list_any s w' hU ((hr.below hb).more hb.size)
  have HLS := Lib.hid hls
  obtain ⟨N, hN⟩ : ∃ N, N = (dotsS (hasG s.U s.l)).length := ⟨_, rfl⟩
  rw [← hN]
  have HN := Lib.hid hN
  obtain ⟨sc, hsc⟩ : ∃ sc, sc = uc s.U (.slice s.A s.n s.c) := ⟨_, rfl⟩
  rw [← hsc] at HS HLS ⊢
  clear hsc hls hN
  go_enter Try.func21, Try.ntmps21
  go_upto_region 1 with fail
  refine nameW ?_
  intro wv hwv
  obtain ⟨b, hb⟩ : ∃ b, b = w.heap.size := ⟨_, rfl⟩
  rw [← hb]
  have kb : Blk wv b 30 sc := by rw [hwv, hb]; exact Blk.new w _ _
  have gb : Below w.heap.size w wv := by rw [hwv]; exact (Below.refl _ _).alloc (Nat.le_refl _) _
  clear hwv hb
  go_wp2_with ((with_reducible refine wpList_ld rowS kb HS.out ?_ ?_); rotate_left; (rfl))
  refine (HLS.out wv gb).mono ?_
  rintro e w1 ⟨A, m, c, rfl, oD, h1⟩
  have hm : m = N := by rw [HN.out]; exact oD.1
  subst hm
  have b1 := gb.trans (h1.mono gb.size)
  clear oD h1 gb kb
  go_wp2_with fail
  go_ret
  exact ⟨rfl, b1⟩
end Go.Proofs.Ytacmdkjodnaohaa

import Derived.Test.YtfpenfgmpbdakaaGreatDotRow
namespace Go.Proofs.YtfpenfgmpbdakaaGreat
set_option linter.unusedVariables false
set_option linter.unusedSimpArgs false
set_option maxRecDepth 100000
open Go.RowKit
open Dot
theorem uc_set {U : List Int} (hU : U.length = 8) (s : Value) {n : Nat} (hn : n < 8) (x : Int) : (uc U s).setIfInBounds n (.int .i64 x) = uc (U.set n x) s:=by
  unfold uc
  rw [List.setIfInBounds_toArray,List.set_append_left _ _ (by rw [List.length_map];omega),← List.map_set]
theorem uc_setS {U : List Int} (hU : U.length = 8) (s s' : Value) : (uc U s).setIfInBounds 8 s' = uc U s':=by
  unfold uc
  rw [List.setIfInBounds_toArray,List.set_append_right _ _ (by rw [List.length_map];omega),List.length_map,hU]
  rfl
set_option maxHeartbeats 1000000 in
theorem clo_up (gs n q : Nat) (U : List Int) (hU : U.length = 8) (s : Value) (w : World) (hn : n < 8) (hq : q < 98) (hu : U.getD n 0 + 1 = (q : Int)) (hB : Blk w gs 180 (uc U s)) :
    Calls Tryz.prog 140 #[.agg #[.int .i64 (n : Nat),.int .i64 (q : Nat)],.pointer (some ⟨gs,0,none⟩)] w fun e w'=>e = .returned (.tuple #[])∧Blk w' gs 180 (uc (U.set n (q : Int)) s)∧w.grownBy w' (some gs):=by
  have hn0 : (0 : Int)≤(n : Int):=by omega
  have hn8 : (n : Int) < 8:=by omega
  obtain ⟨u,hu2⟩ : ∃ u,u = U.getD n 0:=⟨_,rfl⟩;rw [← hu2] at hu
  have hwu : IntKind.i64.wrap (u + 1) = (q : Int):=by rw [IntKind.wrap_i64];omega
  have hset:=uc_set hU s hn (q : Int);have HSET:=Lib.hid hset;clear hset hu
  go_enter Tryz.func140,Tryz.ntmps140
  go_upto_region 1 with fail
  refine nameW ?_;intro wv hwv;obtain ⟨b,hb⟩ : ∃ b,b = w.heap.size:=⟨_,rfl⟩;rw [← hb]
  have kb : Blk wv b 42 #[.int .i64 (n : Nat),.int .i64 (q : Nat)]:=by rw [hwv,hb];exact Blk.new w _ _
  have gb : w.grownBy wv (some gs):=by rw [hwv];exact grown_alloc w _ _
  have kg : Blk wv gs 180 (uc U s):=by rw [hwv];exact hB.alloc _
  have t0 : wv.cell? ⟨b,0,none⟩ = some (.int .i64 (n : Nat)):=kb.cell 0;have t1 : wv.cell? ⟨b,1,none⟩ = some (.int .i64 (q : Nat)):=kb.cell 1
  have c0 : wv.cell? ⟨gs,n,none⟩ = some (.int .i64 u):=by rw [hu2];exact (kg.cell _).trans (uc_at hU s hn)
  have f0:=kg.free n
  have hgb : gs ≠ b:=by have:=hB.lt;omega
  clear hwv hb hu2
  go_region_held3 (fun w'=>w'.cell? ⟨b,0,none⟩ = some (.int .i64 (n : Nat))∧w'.cell? ⟨b,1,none⟩ = some (.int .i64 (q : Nat))∧w'.cell? ⟨gs,n,none⟩ = some (.int .i64 u))
    (first | go_keep)
    (first | fail)
  go_wp2_with fail
  go_end0
  refine ⟨rfl,?_,?_⟩
  · rw [← HSET.out]
    exact Blk.set_ kg.drew _ _
  · exact only_set (only_drew gb) _
set_option maxHeartbeats 1000000 in
theorem clo_app (gs n q m c base : Nat) (A : Option Addr) (M : List Dt) (U : List Int) (hU : U.length = 8) (w : World) (hn : n < 8) (hq : q < 98) (hu : ¬ U.getD n 0 + 1 = (q : Int)) (hub : 0≤U.getD n 0∧U.getD n 0≤98)
    (hB : Blk w gs 180 (uc U (.slice A m c))) (hO : OwnD w base A m c M) (hne : A.map (·.block) ≠ some gs) (hbase : base≤gs) (hml : m≤1000) :
    Calls Tryz.prog 140 #[.agg #[.int .i64 (n : Nat),.int .i64 (q : Nat)],.pointer (some ⟨gs,0,none⟩)] w fun e w'=>e = .returned (.tuple #[])∧∃ A' c',Blk w' gs 180 (uc U (.slice A' (m + 1) c'))∧OwnD w' base A' (m + 1) c' (M ++ [((n : Int),(q : Int))])∧A'.map (·.block) ≠ some gs∧Below base w w':=by
  have hn0 : (0 : Int)≤(n : Int):=by omega
  have hn8 : (n : Int) < 8:=by omega
  obtain ⟨u,hu2⟩ : ∃ u,u = U.getD n 0:=⟨_,rfl⟩;rw [← hu2] at hu hub
  have hwu : IntKind.i64.wrap (u + 1) = u + 1:=by rw [IntKind.wrap_i64];omega
  have hd : decide ((q : Int) = u + 1) = false:=decide_eq_false (fun e=>hu e.symm)
  have hd2 : ¬ (q : Int) = u + 1:=fun e=>hu e.symm
  have hd3 : ((q : Int) == u + 1) = false:=by simpa using hd2
  have hset:=fun s'=>uc_setS hU (.slice A m c) s'
  have HSET:=Lib.hid hset;clear hset hu
  go_enter Tryz.func140,Tryz.ntmps140
  go_upto_region 1 with fail
  refine nameW ?_;intro wv hwv;obtain ⟨b,hb⟩ : ∃ b,b = w.heap.size:=⟨_,rfl⟩;rw [← hb]
  have kb : Blk wv b 42 #[.int .i64 (n : Nat),.int .i64 (q : Nat)]:=by rw [hwv,hb];exact Blk.new w _ _
  have hbs:=hB.lt
  have gb : Below base w wv:=by rw [hwv];exact (Below.refl _ _).alloc (by omega) _
  have kg : Blk wv gs 180 (uc U (.slice A m c)):=by rw [hwv];exact hB.alloc _
  have oO : OwnD wv base A m c M:=by rw [hwv];exact hO.alloc _
  have t0 : wv.cell? ⟨b,0,none⟩ = some (.int .i64 (n : Nat)):=kb.cell 0;have t1 : wv.cell? ⟨b,1,none⟩ = some (.int .i64 (q : Nat)):=kb.cell 1
  have c0 : wv.cell? ⟨gs,n,none⟩ = some (.int .i64 u):=by rw [hu2];exact (kg.cell _).trans (uc_at hU _ hn)
  have c8 : wv.cell? ⟨gs,8,none⟩ = some (.slice A m c):=(kg.cell _).trans (uc_last hU _)
  have hgb : gs ≠ b:=by omega
  have hwb : b < wv.heap.size:=kb.lt
  have hbv : base≤wv.heap.size:=by have:=kg.lt;omega
  clear hwv hb hu2
  go_region_held3 (fun w'=>w'.cell? ⟨b,0,none⟩ = some (.int .i64 (n : Nat))∧w'.cell? ⟨b,1,none⟩ = some (.int .i64 (q : Nat))∧w'.cell? ⟨gs,n,none⟩ = some (.int .i64 u))
    (first | go_keep)
    (first | fail)
  go_wp2_with (at_builtin;refine wpList_appD rfl (.tmp 21) (.tmp 23) rfl rfl (oO.alloc _) (news:=[((n : Int),(q : Int))]) rfl (Rd.made _ _ _ _) rfl ?h1 ?h2 ?h3)
  case h1=>omega
  case h2=>simp;omega
  intro A' c' w2 o2 g2 m2 b2;have kg2 : Blk w2 gs 180 (uc U (.slice A m c)):=((kg.alloc (.cells #[.int .i64 (n : Nat),.int .i64 (q : Nat)] 42)).drew).grown g2 hne
  have hne2 : A'.map (·.block) ≠ some gs:=by
    rcases m2 with h | h
    · rw [h];exact hne
    · rw [h]
      intro e
      injection e with e
      have:=kg.lt
      omega
  have c82 : w2.cell? ⟨gs,8,none⟩ = some (.slice A m c):=(kg2.cell _).trans (uc_last hU _);have f82:=kg2.free 8;have bw:=(((gb.alloc hbv (.cells #[.int .i64 (n : Nat),.int .i64 (q : Nat)] 42)).drew).trans b2).setCell (p:=⟨gs,8,none⟩) hbase (.slice A' (m + 1) c');have o3:=o2.setFar (p:=⟨gs,8,none⟩) hne2 (.slice A' (m + 1) c');have k3:=kg2.set_ 8 (.slice A' (m + 1) c');rw [HSET.out] at k3;have HO3:=Lib.hid o3;have HB3:=Lib.hid bw;have HK3:=Lib.hid k3;clear g2 m2 b2 o2 o3 bw k3;go_wp2_with fail
  go_end0
  exact ⟨rfl,A',c',HK3.out,HO3.out,hne2,HB3.out⟩
end Go.Proofs.YtfpenfgmpbdakaaGreat

/- The reference's disk: Swap, Crash, Sync, Do. -/
import Derived.Test.YtbkcdnjpakicmaaDiskRef3
import Derived.Test.YtbkcdnjpakicmaaStepG
namespace Go.Proofs.Ytbkcdnjpakicmaa
open Go.RowKit
open Disk

theorem rswap_full (A : Option Addr) (n c : Nat) (F : Nat → Prop) (g size : Nat) (lasts : List UInt8) (us : List U) (w : World) (hD : RefAt w F g size lasts us) (hn : size < n) :
    Calls Try.prog 40 #[.pointer (some ⟨g, 0, none⟩), .slice A n c] w fun e w' => e = .returned (.int .i64 7) ∧ w = w' := by
  have c0 := hD.blk0.1
  have hd : decide (size < n) = true := decide_eq_true hn
  go_enter Try.func40, Try.ntmps40
  go_wp2_with fail
  go_ret
  exact ⟨rfl, rfl⟩
theorem one3 (A : Option Addr) (n c : Nat) : ∀ u ∈ [Value.int .u8 0, .bool true, .slice A n c], u.oneCell' = true := by
  intro u hu
  simp at hu
  rcases hu with rfl | rfl | rfl <;> rfl
theorem uat_own {w : World} {F : Nat → Prop} {base n c : Nat} {A : Option Addr} {bs : List UInt8} (h : OwnB w base A n c bs) : UAt w (fun k => F k ∨ A.map (·.block) = some k) (U.swap bs, (A, c)) :=
  ⟨⟨rfl, by have := ownsRow_base h.2 (Nat.zero_le _); rwa [h.1] at this⟩, fun k hk => .inr hk⟩
set_option maxRecDepth 100000 in
set_option maxHeartbeats 2000000 in
theorem rswap_any (A : Option Addr) (n c B : Nat) (bs : List UInt8) (F : Nat → Prop) (g size : Nat) (lasts : List UInt8) (us : List U) (w : World) (hD : RefAt w F g size lasts us) (hul : us.length ≤ 1099511627776)
    (hb : RdB w B A n bs) (hn : n ≤ size) (hs : size ≤ 16384) :
    Calls Try.prog 40 #[.pointer (some ⟨g, 0, none⟩), .slice A n c] w (RefEnd w F g size lasts (us ++ [.swap bs]) 0) := by
  have c0 := hD.blk0.1
  have hlt := hD.blk0.2
  have hd : decide (size < n) = false := decide_eq_false (by omega)
  obtain ⟨i0, hi, hz0, hz1, hz2⟩ := info_parts infoU
  obtain rfl := hb.1
  obtain ⟨es, AL, cL, AW, cW, he, hE⟩ := hD
  have hel : es.length ≤ 1099511627776 := by rw [← he, List.length_map] at hul; exact hul
  have HE := Lib.hid he
  clear he
  have c2 := hE.blk.cell 2
  have h63 : es.length + 1 ≤ maxLen := by unfold maxLen; omega
  have hby : (es.length + 1) * 32 ≤ 140737488355328 := by omega
  have O0 := (OwnB.made w w.heap.size [] #[] 0 rfl rfl (Nat.le_refl _) (by decide)).drew
  have B0 := ((Below.refl w.heap.size w).alloc (Nat.le_refl _) (.cells #[] 5)).drew
  go_enter Try.func40, Try.ntmps40
  go_wp2_with fail
  go_region_law (first
    | (refine step_appB rfl (.tmp 17) (.tmp 18) rfl (by rfl) O0 (by rfl) (hb.size.below B0) (by omega) (by simp) ?_; intro A1 c1 w1 own _ _ below; have B1 := B0.trans below; have q2 := (B1.cell (p := ⟨g, 2, none⟩) hlt).trans c2; rw [Nat.zero_add, List.nil_append] at own; have hE1 := hE.keep (Keeps.of_below B1 hE.lt); have q3 := (hE1.blk.alloc (.cells #[.int .u8 0, .bool true, .slice A1 bs.length c1] 97)).cell 2)
    | (refine step_app rfl (.tmp 16) (.tmp 21) 93 rfl 0 97 i0 (.agg #[.int .u8 0, .bool false, .slice none 0 0]) 3 32 Try.underlying93 hi hz0 hz1 hz2 rfl (by decide) _ _ _ (by rfl) (hE1.row.alloc _) _ _ 1 1 _ (by rfl) (Rd.made _ _ _ _) rfl (one3 _ _ _) h63 hby (Nat.zero_le _) ?_; intro A' c' w2 k1 k2 k3; obtain ⟨p1, p2, p3, p4⟩ := hE1.push (e := (U.swap bs, (A1, c1))) (G := fun k => A1.map (·.block) = some k) (fun k hk => (own.lt k hk).2) (uat_own own) ((Below.refl _ _).alloc (Nat.le_refl _) (.cells #[.int .u8 0, .bool true, .slice A1 bs.length c1] 97)) (by simp) k1 k2 k3))
  all_goals
    have hfin : RefOp w F g size lasts (us ++ [U.swap bs]) (w2.setCell ⟨g, 2, none⟩ (.slice A' (es.length + 1) c')) := by
      refine ⟨_, ⟨es ++ [(U.swap bs, (A1, c1))], AL, cL, A', c', by rw [List.map_append, HE.out]; rfl, p1⟩, (Only.of_below F B1).trans p2 (Grows.refl _ _), fun k hk => ?_⟩
      rcases hk with h | ⟨h, _⟩ | h
      · exact .inl h
      · right; have := B1.size; omega
      · right; exact (own.lt k h).1
    have HF := Lib.hid hfin
    clear hfin p1 p2 k1 k2 k3
    go_wp2_with fail
    go_ret
    exact ⟨rfl, HF.out⟩

set_option maxRecDepth 100000 in
theorem rcrash_nat (m : Nat) (F : Nat → Prop) (g size : Nat) (lasts : List UInt8) (us : List U) (w : World) (hD : RefAt w F g size lasts us) (hm : lasts.length + massU us ≤ 1099511627776) (hul : us.length ≤ 1099511627776) (z : Int) (hz : z.toNat = m) (hz1 : -9223372036854775808 ≤ z) (hz2 : z ≤ 9223372036854775807) :
    Calls Try.prog 38 #[.pointer (some ⟨g, 0, none⟩), .int .i64 z] w fun e w' => e = .returned (.tuple #[]) ∧ RefOp w F g size (afterU lasts (us.take m)) [] w' := by
  have hD0 := hD
  obtain ⟨es, AL, cL, AW, cW, he, hE⟩ := hD0
  have c2 := hE.blk.cell 2
  have hel : es.length = us.length := by rw [← he]; simp
  obtain ⟨j, hj⟩ : ∃ j, j = min m us.length := ⟨_, rfl⟩
  have htk : us.take m = us.take j := by rw [hj, ← List.take_take, List.take_length]
  rw [htk]
  have hjl : j ≤ us.length := by omega
  obtain ⟨q, e1⟩ : ∃ q : Int, (if (es.length : Int) < z then (es.length : Int) else z) = q := ⟨_, rfl⟩
  have e2 : (if 0 < q then q else 0) = (j : Int) := by rw [← e1]; split <;> split <;> omega
  have HH := Lib.hid (show es.length ≤ 1099511627776 by omega)
  have hra := rafter_any j F g size lasts us w hD hjl hm
  generalize afterU lasts (us.take j) = X at hra ⊢
  clear htk hj hel he
  go_enter Try.func38, Try.ntmps38
  go_wp2_with fail
  refine hra.mono ?_
  rintro e w1 ⟨A1, n1, c1, rfl, ho, h1⟩
  have hn1 := ho.1
  subst hn1
  have hb1 := hE.blk.below h1 hE.blk.lt
  have q1 := hb1.cell 1
  have q1' := hb1.free 1
  have hb2 := hb1.set_ 1 (.slice A1 X.length c1)
  have q2 := hb2.cell 2
  have q2' := hb2.free 2
  have hb3 := hb2.set_ 2 (.slice none 0 0)
  have hon : Only F w ((w1.setCell ⟨g, 1, none⟩ (.slice A1 X.length c1)).setCell ⟨g, 2, none⟩ (.slice none 0 0)) := ((Only.of_below F h1).setCell (.inl hE.mine) _).setCell (.inl hE.mine) _
  have hgA : A1.map (·.block) ≠ some g := fun e => by have := (ho.lt g e).1; have := hE.blk.lt; omega
  have ho3 := (ho.setFar (p := ⟨g, 1, none⟩) hgA (.slice A1 X.length c1)).setFar (p := ⟨g, 2, none⟩) hgA (.slice none 0 0)
  have hEc : RefE ((w1.setCell ⟨g, 1, none⟩ (.slice A1 X.length c1)).setCell ⟨g, 2, none⟩ (.slice none 0 0)) (fun k => F k ∨ (w.heap.size ≤ k ∧ A1.map (·.block) = some k)) g size X [] A1 c1 none 0 :=
    ⟨.inl hE.mine, hb3, ⟨⟨rfl, ownsRow_base ho3.2 (Nat.zero_le _)⟩, fun k hk => .inr ⟨(ho.lt k hk).1, hk⟩⟩, World.ownsRow_nil _ _ _ _, (fun k hk => by cases hk), fun e he => absurd he (by simp), fun k hk => Or.elim hk (fun h => Nat.lt_of_lt_of_le (hE.lt k h) (by have := h1.size; simp [World.setCell]; omega)) (fun h => (ho3.lt k h.2).2)⟩
  have HP := Lib.hid (show RefOp w F g size X [] _ from ⟨_, ⟨[], _, _, _, _, rfl, hEc⟩, hon, fun k hk => by rcases hk with h | ⟨h, _⟩; exact .inl h; exact .inr h⟩)
  clear hEc hon ho3 hb3 hb2 hb1
  go_wp2_with fail
  go_end0
  exact ⟨rfl, HP.out⟩
end Go.Proofs.Ytbkcdnjpakicmaa

/- The walk of Less's closure. -/
import Derived.Test.YtacmdkjodnaohaaDotJoin
namespace Go.Proofs.Ytacmdkjodnaohaa
open Go.RowKit
open Dot
set_option maxHeartbeats 1000000 in
theorem less1_any (gp g n q : Nat) (G : Grid) (w : World) (hn : n < 8) (hq : q < 98) (hG : Blk w g 98 (gc G)) (hp : w.cell? ⟨gp, 0, none⟩ = some (.pointer (some ⟨g, 0, none⟩))) :
    Calls Try.prog 47 #[.agg #[.int .i64 n, .int .i64 q], .pointer (some ⟨gp, 0, none⟩)] w fun e w' => e = .returned (.bool (G n q)) ∧ Below w.heap.size w w' := by
  have hn0 : (0 : Int) ≤ (n : Int) := by omega
  have hn8 : (n : Int) < 8 := by omega
  have hq0 : (0 : Int) ≤ (q : Int) := by omega
  have hq8 : (q : Int) < 98 := by omega
  obtain ⟨R, hR⟩ : ∃ R, R = G n q := ⟨_, rfl⟩
  rw [← hR]
  go_enter Try.func47, Try.ntmps47
  go_upto_region 1 with fail
  refine nameW ?_
  intro wv hwv
  obtain ⟨b, hb⟩ : ∃ b, b = w.heap.size := ⟨_, rfl⟩
  rw [← hb]
  have kb : Blk wv b 27 #[.int .i64 (n : Nat), .int .i64 (q : Nat)] := by rw [hwv, hb]; exact Blk.new w _ _
  have gb : Below w.heap.size w wv := by rw [hwv]; exact (Below.refl _ _).alloc (Nat.le_refl _) _
  have kg := hG.below gb hG.lt
  have t0 : wv.cell? ⟨b, 0, none⟩ = some (.int .i64 (n : Nat)) := kb.cell 0
  have t1 : wv.cell? ⟨b, 1, none⟩ = some (.int .i64 (q : Nat)) := kb.cell 1
  have tp : wv.cell? ⟨gp, 0, none⟩ = some (.pointer (some ⟨g, 0, none⟩)) := (gb.cell (p := ⟨gp, 0, none⟩) (World.block_lt_of_cell? w _ hp)).trans hp
  have c0 : wv.cell? ⟨g, n * 98 + q, none⟩ = some (.bool R) := by rw [hR]; exact has_at kg hn hq
  clear hwv hb hp hR
  go_region_held3 (fun w' => w'.cell? ⟨b, 0, none⟩ = some (.int .i64 (n : Nat)) ∧ w'.cell? ⟨b, 1, none⟩ = some (.int .i64 (q : Nat)) ∧ w'.cell? ⟨gp, 0, none⟩ = some (.pointer (some ⟨g, 0, none⟩)) ∧ w'.cell? ⟨g, n * 98 + q, none⟩ = some (.bool R))
    (first | go_keep)
    (first | fail)
  go_wp2_with fail
  go_ret
  exact ⟨rfl, gb.drew⟩
end Go.Proofs.Ytacmdkjodnaohaa

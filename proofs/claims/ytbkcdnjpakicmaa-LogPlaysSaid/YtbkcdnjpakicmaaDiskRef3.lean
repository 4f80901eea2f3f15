/- The reference's disk: Append, Swap, Crash, Sync, Do. -/
import Derived.Test.YtbkcdnjpakicmaaDiskRef2
namespace Go.Proofs.Ytbkcdnjpakicmaa
open Go.RowKit
open Disk

theorem rappend_full (A : Option Addr) (n c : Nat) (F : Nat → Prop) (g size : Nat) (lasts : List UInt8) (us : List U) (w : World) (hD : RefAt w F g size lasts us) (hm : lasts.length + massU us ≤ 1099511627776) (hn2 : n ≤ 140737488355328)
    (hn : size < (afterU lasts us).length + n) :
    Calls Try.prog 37 #[.pointer (some ⟨g, 0, none⟩), .slice A n c] w fun e w' => e = .returned (.int .i64 7) ∧ Below w.heap.size w w' := by
  have hD' : RefAt w.drew F g size lasts us := hD.below (Below.refl _ _).drew
  have c0 := hD.blk0.1
  have hlt := hD.blk0.2
  have hul := Nat.le_trans (afterU_len lasts us) hm
  have ew : IntKind.i64.wrap (((afterU lasts us).length : Int) + (n : Int)) = ((afterU lasts us).length : Int) + (n : Int) := IntWalk.i64_in _ (by omega)
  have hd : decide ((size : Int) < ((afterU lasts us).length : Int) + (n : Int)) = true := decide_eq_true (by omega)
  go_enter Try.func37, Try.ntmps37
  go_wp2_with fail
  go_region_with (go_at_call 42; refine (rread_any F g size lasts us _ hD' hm).mono ?_; rintro e w1 ⟨A1, n1, c1, rfl, h2, h3⟩; have hn1 := h2.1; subst hn1; have q0 := (h3.cell (p := ⟨g, 0, none⟩) hlt).trans c0)
  all_goals
    go_wp2_with fail
    go_ret
    exact ⟨rfl, (Below.refl _ _).drew.trans h3⟩
set_option maxRecDepth 100000 in
set_option maxHeartbeats 1000000 in
theorem rappend_gen (A : Option Addr) (n c : Nat) (bs : List UInt8) (F : Nat → Prop) (g size : Nat) (lasts : List UInt8) (us : List U) (w : World) (hD : RefAt w F g size lasts us) (hm : lasts.length + massU us ≤ 1099511627776) (hul : us.length ≤ 1099511627776)
    (hbw : ∀ w', Only F w w' → ∃ B, RdB w' B A n bs) (hs : size ≤ 16384) (hn : (afterU lasts us).length + n ≤ size) :
    Calls Try.prog 37 #[.pointer (some ⟨g, 0, none⟩), .slice A n c] w (RefEnd w F g size lasts (us ++ bs.map .byte) 0) := by
  have hD' : RefAt w.drew F g size lasts us := hD.below (Below.refl _ _).drew
  have c0 := hD.blk0.1
  have hlt := hD.blk0.2
  have hbn := Lib.hid (hbw w (Only.refl F w)).choose_spec.1
  obtain ⟨i0, hi, hz0, hz1, hz2⟩ := info_parts infoU
  have ew : IntKind.i64.wrap (((afterU lasts us).length : Int) + (n : Int)) = ((afterU lasts us).length : Int) + (n : Int) := IntWalk.i64_in _ (by omega)
  have hd : decide ((size : Int) < ((afterU lasts us).length : Int) + (n : Int)) = false := decide_eq_false (by omega)
  go_enter Try.func37, Try.ntmps37
  go_wp2_with fail
  go_region_with (go_at_call 42; refine (rread_any F g size lasts us _ hD' hm).mono ?_; rintro e w1 ⟨A1, n1, c1, rfl, h2, h3⟩; have hn1 := h2.1; subst hn1; have q0 := (h3.cell (p := ⟨g, 0, none⟩) hlt).trans c0)
  all_goals
    have h1 := (Below.refl w.heap.size w).drew.trans h3
    go_wp2_with fail
    go_loopw [20] (fun i wr => ∃ (k : Nat) (F1 : Nat → Prop), k ≤ n ∧ i = .int .i64 k ∧ RefAt wr F1 g size lasts (us ++ (bs.take k).map .byte) ∧ Only F w wr ∧ Grows F F1 w) (fun i _ => n - (intOf i).toNat)
    case atStart => exact ⟨0, F, by omega, rfl, by simpa using hD.below h1, Only.of_below F h1, Grows.refl _ _⟩
    case round =>
      obtain ⟨k, F1, hk, rfl, hR, hO, hG⟩ := hrel
      by_cases hlt2 : k < n
      · have hkb : k < bs.length := by rw [← hbn.out]; exact hlt2
        obtain ⟨B, hbr⟩ := hbw wr hO
        obtain ⟨ad, rfl, _, hc⟩ := hbr.at_ hkb
        have htk : us ++ (bs.take (k + 1)).map U.byte = (us ++ (bs.take k).map U.byte) ++ [U.byte bs[k]] := by
          rw [take_snoc _ hkb, List.map_append, ← List.append_assoc]; rfl
        have HT := Lib.hid htk
        clear htk
        generalize bs[k] = x at hc HT
        obtain ⟨es, AL, cL, AW, cW, he, hE⟩ := hR
        have HE := Lib.hid he
        have hel : es.length ≤ 1099511627776 + 16384 := by
          have : es.length = us.length + min k bs.length := by rw [← List.length_map (f := (·.1)), he]; simp
          omega
        clear he
        have c2 := hE.blk.cell 2
        have h0 : Below wr.heap.size wr (wr.alloc (.cells #[.int .u8 (x.toNat : Int), .bool false, .slice none 0 0] 97)) := (Below.refl _ _).alloc (Nat.le_refl _) _
        have hs1 : wr.heap.size < (wr.alloc (.cells #[.int .u8 (x.toNat : Int), .bool false, .slice none 0 0] 97)).heap.size := by simp
        have hs0 : (wr.alloc (.cells #[.int .u8 (x.toNat : Int), .bool false, .slice none 0 0] 97)).heap.size = wr.heap.size + 1 := by simp
        have hw1 : ∀ u ∈ [Value.int .u8 (x.toNat : Int), .bool false, .slice none 0 0], u.oneCell' = true := by
          intro u hu
          simp at hu
          rcases hu with rfl | rfl | rfl <;> rfl
        have HW1 := Lib.hid hw1
        clear hw1
        go_wp2_with (at_builtin; refine wpList_app _ rfl (.tmp 28) (.tmp 31) 93 rfl 0 97 i0 (.agg #[.int .u8 0, .bool false, .slice none 0 0]) 3 32 Try.underlying93 hi hz0 hz1 hz2 rfl (by decide) _ _ _ rfl (hE.row.alloc _) _ _ 1 1 _ rfl (Rd.made _ _ _ _) rfl HW1.out ?h63 ?hby (Nat.zero_le _) ?_)
        case h63 => unfold maxLen; omega
        case hby => omega
        intro A' c' w2 k1 k2 k3
        obtain ⟨p1, p2, p3, p4⟩ := hE.push (e := (U.byte x, (none, 0))) (G := fun _ => False) (fun _ h => h.elim) trivial h0 hs1 k1 k2 (by rw [hs0]; exact k3)
        have hR2 : RefAt (w2.setCell ⟨g, 2, none⟩ (.slice A' (es.length + 1) c')) (fun k => F1 k ∨ (wr.heap.size ≤ k ∧ A'.map (·.block) = some k) ∨ False) g size lasts ((us ++ (bs.take k).map U.byte) ++ [U.byte x]) :=
          ⟨es ++ [(U.byte x, (none, 0))], AL, cL, A', c', by rw [List.map_append, HE.out]; rfl, by rw [show es.length + 1 = (es ++ [(U.byte x, ((none : Option Addr), 0))]).length by simp] at p1 ⊢; exact p1⟩
        rw [← HT.out] at hR2
        have HR := Lib.hid hR2
        have hO2 := Lib.hid (hO.trans p2 hG)
        have hG1 : Grows F (fun k => F1 k ∨ (wr.heap.size ≤ k ∧ A'.map (·.block) = some k) ∨ False) w := fun k hk => by
          rcases hk with h | ⟨h, _⟩ | h
          · exact hG k h
          · right; have := hO.size; omega
          · exact h.elim
        have hG2 := Lib.hid hG1
        clear hR2 hG1 p1 p2 k1 k2 k3 hE hbr hO hG h0 hs1 hs0
        go_wp2_with fail
        go_roundw
        case rel => exact ⟨k + 1, _, by omega, by go_num, HR.out, hO2.out, hG2.out⟩
        case measure => simp [intOf]; omega
      · obtain rfl : k = n := by omega
        have htk : bs.take k = bs := List.take_of_length_le (by rw [← hbn.out]; omega)
        rw [htk] at hR
        have HR := Lib.hid hR
        clear hR htk
        go_wp2_with fail
        go_ret
        exact ⟨rfl, F1, HR.out, hO, hG⟩
theorem rappend_any (A : Option Addr) (n c B : Nat) (bs : List UInt8) (F : Nat → Prop) (g size : Nat) (lasts : List UInt8) (us : List U) (w : World) (hD : RefAt w F g size lasts us) (hm : lasts.length + massU us ≤ 1099511627776) (hul : us.length ≤ 1099511627776)
    (hb : RdB w B A n bs) (hB : B ≤ w.heap.size) (hFB : ∀ k, F k → B ≤ k) (hs : size ≤ 16384) (hn : (afterU lasts us).length + n ≤ size) :
    Calls Try.prog 37 #[.pointer (some ⟨g, 0, none⟩), .slice A n c] w (RefEnd w F g size lasts (us ++ bs.map .byte) 0) :=
  rappend_gen A n c bs F g size lasts us w hD hm hul (fun _ ho => ⟨B, hb.below (ho.to_below hFB hB)⟩) hs hn
end Go.Proofs.Ytbkcdnjpakicmaa

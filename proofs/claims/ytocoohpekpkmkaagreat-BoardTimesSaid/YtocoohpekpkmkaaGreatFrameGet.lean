/- The walk of package frame's Get. -/
import Derived.Test.YtocoohpekpkmkaaGreatFrameRead
namespace Go.Proofs.YtocoohpekpkmkaaGreat
set_option linter.unusedVariables false
set_option linter.unusedSimpArgs false
open Go.RowKit
/-- A region that must not panic: what holds behind a panic is no matter. -/
def NoPanic (Q : Exit → Act → World → Prop) : Exit → Act → World → Prop
  | .panic _, _, _ => False
  | e, a, w => Q e a w
theorem NoPanic.ok {Q : Exit → Act → World → Prop} {a : Act} {w : World} (h : Q .normal a w) : NoPanic Q .normal a w := h
theorem wp_nopanic {P : Program} {c : Code} {Q : Exit → Act → World → Prop} {a : Act} {w : World} (h : c.wp P (NoPanic Q) a w) : c.wp P Q a w :=
  Code.wp_mono (fun e a w h => by cases e <;> first | exact h | exact False.elim h) h
namespace Frame
/-- What Get leaves. -/
def GetF (w : World) (bs : List UInt8) (e : Ending) (w' : World) : Prop :=
  Below w.heap.size w w' ∧ match dec bs with
    | .ok (x, r) => ∃ A1 c1 A2 c2, e = .returned (.tuple #[.slice A1 x.length c1, .slice A2 r.length c2, .int .i64 0]) ∧ OwnB w' w.heap.size A1 x.length c1 x ∧ OwnB w' w.heap.size A2 r.length c2 r ∧ ∀ g, A1.map (·.block) = some g → A2.map (·.block) ≠ some g
    | .error y => e = .returned (.tuple #[.slice none 0 0, .slice none 0 0, .int .i64 (y : Nat)])
set_option maxRecDepth 100000 in
set_option maxHeartbeats 400000 in
theorem get_any (A : Option Addr) (n c : Nat) (bs : List UInt8) (B : Nat) (w : World) (hb : RdB w B A n bs) (hB : B ≤ w.heap.size) (hl : n ≤ 140737488355000) (hc : n ≤ c) (hm : c ≤ maxLen) :
    Calls Tryz.prog 50 #[.slice A n c] w (GetF w bs) := by
  obtain rfl := hb.1
  have hb0 := hb.alloc hB (.cells #[.int .i64 0] 50)
  have k0 := Blk.new w 50 #[.int .i64 0]
  have hbw : Below w.heap.size w (w.alloc (.cells #[.int .i64 0] 50)) := (Below.refl _ _).alloc (Nat.le_refl _) _
  have hBw : B ≤ (w.alloc (.cells #[.int .i64 0] 50)).heap.size := by simp; omega
  rcases hd : dec bs with y | ⟨x, r⟩
  · have HD := Lib.hid hd
    clear hd
    go_enter_defers Tryz.func50, Tryz.ntmps50
    go_wp2_with fail
    refine (read_any _ _ _ bs B _ hb0 hBw hl hc hm).mono ?_
    rintro e w1 ⟨hb1, he⟩
    rw [HD.out] at he
    simp only at he
    subst he
    have k1 := k0.below hb1 k0.lt
    have hb2 := hbw.trans (hb1.mono hbw.size)
    go_wp2_with fail
    refine leaves_cons (f := 77) (args := #[.pointer (some ⟨w.heap.size, 0, none⟩)]) (by simp) (by simp [go_sem]) ?_
    refine (caught_panic _ _ _ _ _ (k1.cell 0) (k1.free 0)).mono ?_
    rintro e u' w'' ⟨rfl, rfl, rfl⟩
    have k2 := (k1.alloc (.cells #[.int .i64 (y : Nat)] 159)).set_ 0 (.int .i64 (y : Nat))
    have c2 := k2.cell 0
    have hb3 : Below w.heap.size w ((w1.alloc (.cells #[.int .i64 (y : Nat)] 159)).setCell ⟨w.heap.size, 0, none⟩ (.int .i64 (y : Nat))) := (hb2.alloc hb2.size _).setCell (Nat.le_refl _) _
    refine ⟨.tuple #[.slice none 0 0, .slice none 0 0, .int .i64 (y : Nat)], by simp [results, Tryz.results50, go_sem, c2], hb3, ?_⟩
    rw [HD.out]
  · have HD := Lib.hid hd
    obtain ⟨hfx, hxl⟩ := dec_ok hd
    have hfl : (frm x).length + r.length = bs.length := by rw [hfx, List.length_append]
    have hpos : 0 < (frm x).length := by rw [frm_length]; omega
    have hdr : bs.drop (frm x).length = r := by rw [hfx, List.drop_left]
    obtain ⟨a, rfl, hab, _⟩ := hb.at_ (k := 0) (by omega)
    obtain ⟨m, hmm⟩ : ∃ m, m = (frm x).length := ⟨_, rfl⟩
    rw [← hmm] at hfl hpos hdr
    have HM := Lib.hid hmm
    have HR := Lib.hid hdr
    clear hd hfx hmm hdr
    go_enter_defers Tryz.func50, Tryz.ntmps50
    go_wp2_with fail
    refine (read_any _ _ _ bs B _ hb0 hBw hl hc hm).mono ?_
    rintro e w1 ⟨hb1, he⟩
    rw [HD.out] at he
    simp only at he
    obtain ⟨A1, c1, rfl, hx1⟩ := he
    rw [← HM.out]
    have k1 := k0.below hb1 k0.lt
    have hb2 := hbw.trans (hb1.mono hbw.size)
    have hr1 := (hb0.below (hb1.mono hBw)).drop m
    rw [HR.out] at hr1
    have hrn : bs.length - m = r.length := by omega
    rw [hrn] at hr1
    have hr2 : RdB w1.drew B (if c = m then some a else some (a.add m)) r.length r := by
      split
      · rename_i h
        have : r = [] := List.eq_nil_of_length_eq_zero (by omega)
        rw [this]
        exact RdB.nil _ _ _
      · exact hr1
    have hx2 : RdB w1.drew B A1 x.length x := hx1
    obtain ⟨A2, hA2⟩ : ∃ A2, A2 = (if c = m then some a else some (a.add m)) := ⟨_, rfl⟩
    rw [← hA2] at hr2
    have hA3 := hA2.symm
    clear hA2 hr1 hx1
    have le1 : m ≤ bs.length := by omega
    have hB1 : B ≤ w1.drew.heap.size := Nat.le_trans hBw hb1.size
    go_upto_region 3 with fail
    refine wp_nopanic ?_
    go_region_with (first
      | (go_at_call_of 79 (Value.slice A1 x.length c1); refine (clone_any _ _ _ _ _ _ hx2 hB1 (by omega)).mono ?_; rintro e w3 ⟨A3, n3, c3, rfl, o3, b3⟩; have hr3 := hr2.below (b3.mono hB1); have hB3 := Nat.le_trans hB1 b3.size; have k3 := k1.drew.below b3 k1.lt; obtain rfl := o3.1)
      | (go_at_call 79; refine (clone_any _ _ _ _ _ _ hr3 hB3 (by omega)).mono ?_; rintro e w4 ⟨A4, n4, c4, rfl, o4, b4⟩; have k4 := k3.below b4 k3.lt; have f4 := k4.free 0; have q4 := k4.cell 0; have o3b := o3.below b4 (Nat.le_refl _); obtain rfl := o4.1))
    refine NoPanic.ok ?_
    go_wp2_with fail
    refine leaves_cons (f := 77) (args := #[.pointer (some ⟨w.heap.size, 0, none⟩)]) (by simp) (by simp [go_sem]) ?_
    refine (caught_none _ _).mono ?_
    rintro e u' w'' ⟨rfl, rfl, rfl⟩
    have k5 := k4.set_ 0 (.int .i64 0)
    have c5 := k5.cell 0
    have hs1 : w.heap.size < w1.heap.size := k1.lt
    have hs3 : w1.heap.size ≤ w3.heap.size := b3.size
    have ne3 : A3.map (·.block) ≠ some w.heap.size := fun e => by
      have := (o3b.lt _ e).1
      simp at this
      omega
    have ne4 : A4.map (·.block) ≠ some w.heap.size := fun e => by
      have := (o4.lt _ e).1
      omega
    have hb4 : Below w.heap.size w w4 := (hb2.drew.trans (b3.mono hb2.size)).trans (b4.mono (by have := hb2.size; omega))
    refine ⟨.tuple #[.slice A3 x.length c3, .slice A4 r.length c4, .int .i64 0], by simp [results, Tryz.results50, go_sem, c5], hb4.setCell (Nat.le_refl _) _, ?_⟩
    rw [HD.out]
    refine ⟨A3, c3, A4, c4, rfl, (o3b.setFar ne3 _).mono ?_, (o4.setFar ne4 _).mono ?_, fun g hg hg2 => ?_⟩
    · show w.heap.size ≤ w1.heap.size; omega
    · omega
    · have l1 := (o3.lt _ hg).2
      have l2 := (o4.lt _ hg2).1
      omega
end Frame
end Go.Proofs.YtocoohpekpkmkaaGreat

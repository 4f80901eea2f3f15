/- The walks of event's reader.number, reader.fail, reader.end. -/
import Derived.Test.YtiemlnomlfebkaaEvNum
import Derived.Test.YtiemlnomlfebkaaVintRead
import Derived.Test.YtiemlnomlfebkaaFoot
namespace Go.Proofs.Ytiemlnomlfebkaa
set_option linter.unusedVariables false
set_option linter.unusedSimpArgs false
open Go.RowKit
open Dot Evt
theorem rdfail_any (g : Nat) (x : Int) (w : World) :
    Calls Try.prog 48 #[.agg #[.pointer (some ⟨g, 0, none⟩)], .int .i64 x] w fun e w' => e = .panicked [{ v := eflt x, recovered := false }] ∧ Below w.heap.size w w' := by
  go_enter Try.func48, Try.ntmps48
  go_wp2_with fail
  exact ⟨rfl, rfl, (Below.refl _ _).alloc (Nat.le_refl _) _⟩
theorem rdend_any (g : Nat) (A : Option Addr) (n c : Nat) (bs : List UInt8) (b : Bool) (w : World) (hR : Rdr w g A n c bs 0) :
    Calls Try.prog 45 #[.agg #[.pointer (some ⟨g, 0, none⟩)], .bool b] w fun e w' => (e = if bs = [] ∧ b = true then .returned (.tuple #[]) else .panicked [{ v := eflt 4, recovered := false }]) ∧ Below w.heap.size w w' := by
  have hn := hR.2.1.1
  have hR1 : Rdr (w.alloc (.cells #[.pointer (some ⟨g, 0, none⟩)] 83)) g A n c bs 0 := hR.below ((Below.refl _ _).alloc (by have := hR.lt; omega) _)
  have HR := Lib.hid hR1
  have hb0 : Below w.heap.size w (w.alloc (.cells #[.pointer (some ⟨g, 0, none⟩)] 83)) := (Below.refl _ _).alloc (Nat.le_refl _) _
  by_cases h0 : n = 0
  · have hbs : bs = [] := List.eq_nil_of_length_eq_zero (by omega)
    subst h0
    cases b
    case true =>
      rw [if_pos ⟨hbs, rfl⟩]
      clear hn hR1 hbs hR
      go_enter Try.func45, Try.ntmps45
      go_wp2_with fail
      refine (left_any g A 0 c bs 0 _ HR.out).mono ?_
      rintro e w1 ⟨rfl, rfl⟩
      go_wp2_with fail
      go_end0
      exact ⟨rfl, hb0⟩
    case false =>
      rw [if_neg (by simp)]
      clear hn hR1 hbs hR
      go_enter Try.func45, Try.ntmps45
      go_wp2_with fail
      refine (left_any g A 0 c bs 0 _ HR.out).mono ?_
      rintro e w1 ⟨rfl, rfl⟩
      go_wp2_with fail
      refine (rdfail_any g 4 _).mono ?_
      rintro e w2 ⟨rfl, b2⟩
      go_wp2_with fail
      exact ⟨rfl, rfl, hb0.trans (b2.mono hb0.size)⟩
  · have hbs : ¬ bs = [] := fun e => h0 (by rw [hn, e]; rfl)
    have hd : decide (0 < (n : Int)) = true := decide_eq_true (by omega)
    have hd2 : decide (0 < n) = true := decide_eq_true (by omega)
    rw [if_neg (fun h => hbs h.1)]
    clear hn hR1 hbs hR h0
    go_enter Try.func45, Try.ntmps45
    go_wp2_with fail
    refine (left_any g A n c bs 0 _ HR.out).mono ?_
    rintro e w1 ⟨rfl, rfl⟩
    go_wp2_with fail
    refine (rdfail_any g 4 _).mono ?_
    rintro e w2 ⟨rfl, b2⟩
    go_wp2_with fail
    exact ⟨rfl, rfl, hb0.trans (b2.mono hb0.size)⟩
/-- the blocks that a read may turn: the reader's, and that of what is read -/
def GB (g b : Nat) : Nat → Prop := fun k => k = g ∨ k = b
/-- what reading a number into a cell leaves -/
def RNum (w : World) (g b : Nat) (T : TypeId) (cs : Array Value) (i : Nat) (bs : List UInt8) (e : Ending) (w' : World) : Prop :=
  Only (GB g b) w w' ∧ match Vint.dec bs with
    | .ok (x, r) => e = .returned (.tuple #[]) ∧ (∃ A c, Rdr w' g A r.length c r 0) ∧ Blk w' b T (cs.setIfInBounds i (.int .i64 (x : Nat)))
    | .error x => e = .panicked [{ v := eflt (x : Nat), recovered := false }]
theorem RNum.good {w w' : World} {g b : Nat} {T : TypeId} {cs : Array Value} {i : Nat} {bs : List UInt8} {e : Ending} (h : RNum w g b T cs i bs e w') {x : Nat} {r : List UInt8} (hd : Vint.dec bs = .ok (x, r)) :
    e = .returned (.tuple #[]) ∧ (∃ A c, Rdr w' g A r.length c r 0) ∧ Blk w' b T (cs.setIfInBounds i (.int .i64 (x : Nat))) ∧ Only (GB g b) w w' := by
  obtain ⟨h1, h2⟩ := h
  rw [hd] at h2
  exact ⟨h2.1, h2.2.1, h2.2.2, h1⟩
theorem RNum.bad {w w' : World} {g b : Nat} {T : TypeId} {cs : Array Value} {i : Nat} {bs : List UInt8} {e : Ending} (h : RNum w g b T cs i bs e w') {x : Nat} (hd : Vint.dec bs = .error x) :
    e = .panicked [{ v := eflt (x : Nat), recovered := false }] ∧ Only (GB g b) w w' := by
  obtain ⟨h1, h2⟩ := h
  rw [hd] at h2
  exact ⟨h2, h1⟩
theorem rdnum_any (g b : Nat) (T : TypeId) (cs : Array Value) (i : Nat) (A : Option Addr) (n c : Nat) (bs : List UInt8) (w : World) (hR : Rdr w g A n c bs 0) (hb : Blk w b T cs) (hgb : g < b) (hi : i < cs.size) :
    Calls Try.prog 47 #[.agg #[.pointer (some ⟨g, 0, none⟩)], .pointer (some ⟨b, i, none⟩)] w (RNum w g b T cs i bs) := by
  obtain ⟨W, hW⟩ : ∃ W, W = w.alloc (.cells #[.pointer (some ⟨g, 0, none⟩)] 83) := ⟨_, rfl⟩
  obtain ⟨s, hs⟩ : ∃ s, s = w.heap.size := ⟨_, rfl⟩
  have hBW : Below w.heap.size w W := by rw [hW]; exact (Below.refl _ _).alloc (Nat.le_refl _) _
  have hRW : Rdr W g A n c bs 0 := hR.below (hBW.mono (by have := hR.lt; omega))
  have hbW := hb.below hBW hb.lt
  have ks : Blk W s 83 #[.pointer (some ⟨g, 0, none⟩)] := by rw [hW, hs]; exact Blk.new _ _ _
  have hbs : b < s := by rw [hs]; exact hb.lt
  have o0 : Only (GB g b) w W := Only.of_below _ hBW
  have HW := Lib.hid hW
  have HS := Lib.hid hs
  have HI := Lib.hid hi
  have ib := int_any g A n c bs 0 W hRW
  have HIB := Lib.hid ib
  clear hW hs hi hR hb ib
  have hc0 := ks.cell 0
  go_enter Try.func47, Try.ntmps47
  go_upto_region 1 with fail
  rw [← HW.out, ← HS.out]
  have hc0 : W.cell? ⟨s, 0, none⟩ = some (.pointer (some ⟨g, 0, none⟩)) := ks.cell 0
  go_wp2_with fail
  refine HIB.out.mono ?_
  rintro e w1 ⟨rfl, g1, A1, c1, r1⟩
  have b1 := hbW.grown g1 (by simp; omega)
  have s1 := ks.grown g1 (by simp; omega)
  have o1 := o0.trans (Only.of_grown (F := GB g b) g1 (.inl rfl)) (Grows.refl _ _)
  have HI1 := HI.out
  have cb : w1.cell? ⟨b, i, none⟩ = some cs[i] := by rw [b1.cell]; exact Array.getElem?_eq_getElem HI1
  have fb := b1.free i
  have b2 := b1.set_ i (.int .i64 ((Vint.intM bs 0).1 : Nat))
  have s2 := s1.far (p := ⟨b, i, none⟩) (by simp; omega) (.int .i64 ((Vint.intM bs 0).1 : Nat))
  have r2 := r1.below (w' := w1.setCell ⟨b, i, none⟩ (.int .i64 ((Vint.intM bs 0).1 : Nat))) ((Below.refl _ _).setCell (by show g + 1 ≤ b; omega) _)
  have o2 := o1.setCell (p := ⟨b, i, none⟩) (.inl (.inr rfl)) (.int .i64 ((Vint.intM bs 0).1 : Nat))
  clear hbW o0 o1 g1 r1 s1 HIB hBW hRW ks hc0
  generalize cs[i] = v at cb
  cases hd : Vint.dec bs with
  | ok p =>
    obtain ⟨x, r⟩ := p
    have hI := Vint.intM_ok hd
    rw [hI] at b2 s2 r2 o2 ⊢
    have HD := Lib.hid hd
    clear hd hI
    go_upto_region 2 with fail
    refine nameW ?_
    intro w2 hw2
    rw [← hw2] at b2 s2 r2 o2
    have c2 : w2.cell? ⟨s, 0, none⟩ = some (.pointer (some ⟨g, 0, none⟩)) := s2.cell 0
    clear hw2 cb fb b1
    go_wp2_with fail
    refine (err_any g A1 r.length c1 r 0 w2 r2).mono ?_
    rintro e w3 ⟨rfl, rfl⟩
    go_wp2_with fail
    go_end0
    refine ⟨o2, ?_⟩
    rw [HD.out]
    exact ⟨rfl, ⟨A1, c1, r2⟩, b2⟩
  | error x =>
    have hI := Vint.intM_bad hd
    have hx := Vint.dec_err hd
    rw [hI] at b2 s2 r2 o2 ⊢
    rw [show ((0 : Nat) : Int) = 0 from rfl] at b2 s2 r2 o2
    have HD := Lib.hid hd
    have hne : (((x : Nat) : Int) == 0) = false := by rw [beq_eq_false_iff_ne]; omega
    have hne2 : (((x : Nat) : Int) != 0) = true := by rw [bne_iff_ne]; omega
    clear hd hI hx
    go_upto_region 2 with fail
    refine nameW ?_
    intro w2 hw2
    rw [← hw2] at b2 s2 r2 o2
    have c2 : w2.cell? ⟨s, 0, none⟩ = some (.pointer (some ⟨g, 0, none⟩)) := s2.cell 0
    clear hw2 cb fb b1
    go_wp2_with fail
    refine (err_any g A1 _ c1 bs x w2 r2).mono ?_
    rintro e w3 ⟨rfl, rfl⟩
    go_wp2_with fail
    refine (rdfail_any g x _).mono ?_
    rintro e w4 ⟨rfl, b4⟩
    go_wp2_with fail
    refine ⟨rfl, o2.then_below (b4.mono o2.size), ?_⟩
    rw [HD.out]
end Go.Proofs.Ytiemlnomlfebkaa

/- RegLasts: which of any two writes counts, and what any write makes of a register, is the document's; joins go both ways, in any order; for every input, with no panic. -/
import Derived.Test.YtocoohpekpkmkaaRegOpen
import Derived.Test.YtocoohpekpkmkaaInv
namespace Go.Proofs.Ytocoohpekpkmkaa.RegLasts
open Go.ChangeShapes Go.WideShapes Go.ChangeAt Go.RowKit Go.Deep
open Reg
def c3 (a : La) : Array Value := #[.int .i64 a.1, .int .i64 a.2.1, .int .i64 a.2.2]
theorem c3_size (a : La) : (c3 a).size = 3 := rfl
theorem c3_one (a : La) : (c3 a).all (·.oneCell') = true := by simp [c3, Value.oneCell']
theorem v3_c3 (a : La) : v3 a = .agg (c3 a) := rfl
/-- a register of the call's own, stored to once -/
def AlQ (g : Nat) (b s : Bool) (c : Array Value) (p : Value) (w : World) : Prop :=
  (s = true → b = true) ∧ (b = true → ∃ k ds, p = .pointer (some ⟨k, 0, none⟩) ∧ g ≤ k ∧ Blk w k 62 ds ∧ ds.size = 3 ∧ (s = true → ds = c))
section
variable {g : Nat} {b s : Bool} {c : Array Value} {p : Value} {w w' : World}
theorem AlQ.below (h : AlQ g b s c p w) (hb : Below w.heap.size w w') : AlQ g b s c p w' := ⟨h.1, fun e => by
  obtain ⟨k, ds, h1, h2, h3, h4⟩ := h.2 e
  exact ⟨k, ds, h1, h2, h3.below hb h3.lt, h4⟩⟩
theorem AlQ.drew (h : AlQ g b s c p w) : AlQ g b s c p w.drew := h.below (Below.refl _ _).drew
theorem AlQ.none_ (h1 : b = false) (h2 : s = false) : AlQ g b s c p w := by
  subst h1 h2
  exact ⟨fun h => (by cases h), fun h => (by cases h)⟩
theorem AlQ.alloc_ (h : AlQ g false s c p w) (hB : g ≤ w.heap.size) : AlQ g true s c (.pointer (some ⟨w.heap.size, 0, none⟩)) (w.alloc (.cells #[.int .i64 0, .int .i64 0, .int .i64 0] 62)) := by
  have hs : s = false := by
    cases hs : s with
    | false => rfl
    | true => have := h.1 hs; cases this
  subst hs
  exact ⟨fun h => (by cases h), fun _ => ⟨_, _, rfl, hB, Blk.new _ _ _, rfl, fun h => by cases h⟩⟩
theorem AlQ.lt (h : AlQ g true s c p w) : p ≠ .pointer (some ⟨w.heap.size, 0, none⟩) := fun e => by
  obtain ⟨k, ds, e1, _, k1, _⟩ := h.2 rfl
  rw [e1] at e
  injection e with e
  injection e with e
  injection e with e
  have := k1.lt
  omega
theorem AlQ.far {k : Nat} (h : AlQ g b s c p w) (hg : w.grownBy w' (some k)) (hne : b = true → p ≠ .pointer (some ⟨k, 0, none⟩)) : AlQ g b s c p w' := ⟨h.1, fun e => by
  obtain ⟨k1, ds, h1, h2, h3, h4⟩ := h.2 e
  refine ⟨k1, ds, h1, h2, h3.grown hg (fun e2 => ?_), h4⟩
  injection e2 with e2
  exact hne e (by rw [h1, e2])⟩
end
def Two (a a' : Bool) (p p' : Value) : Prop := a = true → a' = true → p ≠ p'
theorem off {L : Nat → Bool} {n i : Nat} {R : Prop} (h : ∀ i, i < n → L i = false) (hi : i < n) : L i = true → R := fun h2 => by rw [h i hi] at h2; cases h2
set_option maxRecDepth 100000 in
set_option maxHeartbeats 4000000 in
theorem walk (x y z : La) (w : World) (hx : -9223372036854775808 ≤ x.1) (hy : -9223372036854775808 ≤ y.1) (hz : -9223372036854775808 ≤ z.1) :
    Calls Try.prog 6 #[v3 x, v3 y, v3 z] w fun e w' => e = .returned (.bool true) ∧ Below w.heap.size w w' := by
  rw [v3_c3, v3_c3, v3_c3]
  have HX := Lib.hid hx
  clear hx hy hz
  go_enter Try.func6, Try.ntmps6
  go_upto_region 1 with fail
  obtain ⟨B, hB⟩ : ∃ B, B = w.heap.size := ⟨_, rfl⟩
  rw [← hB]
  refine nameW ?_
  intro wv hwv
  have kx : Blk wv B 61 (c3 x) := by rw [hwv, hB]; exact ((Blk.new w _ _).alloc _).alloc _
  have ky : Blk wv (B + 1) 61 (c3 y) := by
    have h := (Blk.new (w.alloc (.cells (c3 x) 61)) 61 (c3 y)).alloc (.cells (c3 z) 61)
    rw [hwv, hB]
    simpa using h
  have kz : Blk wv (B + 1 + 1) 61 (c3 z) := by
    have h := Blk.new ((w.alloc (.cells (c3 x) 61)).alloc (.cells (c3 y) 61)) 61 (c3 z)
    rw [hwv, hB]
    simpa using h
  have gb : Below B w wv := by rw [hwv, hB]; exact (((Below.refl _ _).alloc (Nat.le_refl _) _).alloc (by simp) _).alloc (by simp; omega) _
  have HB := Lib.hid hB
  clear hwv hB
  go_wp2_with fail
  refine (alive29_any _).mono ?_
  rintro e w1 ⟨rfl, b1⟩
  have kx := kx.below b1 kx.lt
  have ky := ky.below b1 ky.lt
  have kz := kz.below b1 kz.lt
  have gb := gb.trans (b1.mono (by have := kz.lt; have := gb.size; have := HB.out; omega))
  clear b1
  go_upto_region 3 with fail
  refine wp_region_inv (fun L a wx => ∃ q0 q1 q2 p7 p8 p9 : Value, a = { tmps := (.agg (c3 x) :: .agg (c3 y) :: .agg (c3 z) :: .pointer (some ⟨B, 0, none⟩) :: .pointer (some ⟨B + 1, 0, none⟩) :: .pointer (some ⟨B + 1 + 1, 0, none⟩) :: .bool false :: p7 :: p8 :: p9 :: undef :: undef :: undef :: undef :: .bool true :: .bool false :: q0 :: q1 :: q2 :: undef :: undef :: undef :: undef :: undef :: undef :: undef :: undef :: undef :: undef :: undef :: undef :: undef :: undef :: undef :: undef :: undef :: undef :: undef :: undef :: undef :: undef :: undef :: undef :: undef :: undef :: undef :: undef :: undef :: undef :: undef :: undef :: undef :: undef :: undef :: undef :: undef :: undef :: undef :: undef :: undef :: undef :: undef :: undef :: undef :: undef :: undef :: undef :: undef :: undef :: undef :: undef :: undef :: undef :: undef :: undef :: undef :: undef :: undef :: undef :: undef :: undef :: undef :: undef :: undef :: undef :: undef :: undef :: undef :: undef :: undef :: undef :: undef :: undef :: undef :: undef :: undef :: undef :: undef :: undef :: undef :: undef :: undef :: undef :: undef :: undef :: []).toArray, defers := [] } ∧ Below w1.heap.size w1 wx ∧ (L 0 = true → q0 = .agg (c3 x)) ∧ (L 1 = true → q1 = .agg (c3 y)) ∧ (L 2 = true → q2 = .agg (c3 z)) ∧ AlQ w1.heap.size (L 3) (L 6) (c3 x) p7 wx ∧ AlQ w1.heap.size (L 4) (L 7) (c3 y) p8 wx ∧ AlQ w1.heap.size (L 5) (L 8) (c3 z) p9 wx ∧ Two (L 3) (L 4) p7 p8 ∧ Two (L 3) (L 5) p7 p9 ∧ Two (L 4) (L 5) p8 p9) (by kernel_rfl) (by kernel_rfl) ?h0 ?hst ?hend
  case h0 =>
    intro L h0
    have h0 : ∀ i, i < 9 → L i = false := h0
    exact ⟨undef, undef, undef, undef, undef, undef, rfl, (Below.refl _ _).drew, off h0 (by omega), off h0 (by omega), off h0 (by omega), AlQ.none_ (h0 _ (by omega)) (h0 _ (by omega)), AlQ.none_ (h0 _ (by omega)) (h0 _ (by omega)), AlQ.none_ (h0 _ (by omega)) (h0 _ (by omega)), off h0 (by omega), off h0 (by omega), off h0 (by omega)⟩
  case hst =>
    show InvSteps _ _ _ _ _ [0, 1, 2, 3, 4, 5, 6, 7, 8]
    refine @InvSteps.cons _ _ _ _ _ 0 _ [] _ rfl (by kernel_rfl) ?s0 ?_
    rotate_left
    refine @InvSteps.cons _ _ _ _ _ 1 _ [] _ rfl (by kernel_rfl) ?s1 ?_
    rotate_left
    refine @InvSteps.cons _ _ _ _ _ 2 _ [] _ rfl (by kernel_rfl) ?s2 ?_
    rotate_left
    refine @InvSteps.cons _ _ _ _ _ 3 _ [] _ rfl (by kernel_rfl) ?s3 ?_
    rotate_left
    refine @InvSteps.cons _ _ _ _ _ 4 _ [] _ rfl (by kernel_rfl) ?s4 ?_
    rotate_left
    refine @InvSteps.cons _ _ _ _ _ 5 _ [] _ rfl (by kernel_rfl) ?s5 ?_
    rotate_left
    refine @InvSteps.cons _ _ _ _ _ 6 _ [3, 0, 0, 3, 4, 5] _ rfl (by kernel_rfl) ?s6 ?_
    rotate_left
    refine @InvSteps.cons _ _ _ _ _ 7 _ [4, 1, 6, 0, 1, 3, 4, 5, 6] _ rfl (by kernel_rfl) ?s7 ?_
    rotate_left
    refine @InvSteps.cons _ _ _ _ _ 8 _ [5, 2, 7, 0, 1, 2, 3, 4, 5, 6, 7] _ rfl (by kernel_rfl) ?s8 ?_
    rotate_left
    exact InvSteps.nil
    case s0 =>
      rintro L a wx hL hd ⟨q0, q1, q2, p7, p8, p9, rfl, hb, l0, l1, l2, f7, f8, f9, d78, d79, d89⟩ K hK
      refine step_ld rfl rowRLa (.tmp 3) rfl rfl (kx.below hb kx.lt) (c3_size _) ?_
      exact hK.out _ _ ⟨.agg (c3 x), q1, q2, p7, p8, p9, rfl, hb, fun _ => rfl, l1, l2, f7, f8, f9, d78, d79, d89⟩
    case s1 =>
      rintro L a wx hL hd ⟨q0, q1, q2, p7, p8, p9, rfl, hb, l0, l1, l2, f7, f8, f9, d78, d79, d89⟩ K hK
      refine step_ld rfl rowRLa (.tmp 4) rfl rfl (ky.below hb ky.lt) (c3_size _) ?_
      exact hK.out _ _ ⟨q0, .agg (c3 y), q2, p7, p8, p9, rfl, hb, l0, fun _ => rfl, l2, f7, f8, f9, d78, d79, d89⟩
    case s2 =>
      rintro L a wx hL hd ⟨q0, q1, q2, p7, p8, p9, rfl, hb, l0, l1, l2, f7, f8, f9, d78, d79, d89⟩ K hK
      refine step_ld rfl rowRLa (.tmp 5) rfl rfl (kz.below hb kz.lt) (c3_size _) ?_
      exact hK.out _ _ ⟨q0, q1, .agg (c3 z), p7, p8, p9, rfl, hb, l0, l1, fun _ => rfl, f7, f8, f9, d78, d79, d89⟩
    case s3 =>
      rintro L a wx hL hd ⟨q0, q1, q2, p7, p8, p9, rfl, hb, l0, l1, l2, f7, f8, f9, d78, d79, d89⟩ K hK
      go_simp
      rw [hL] at f7
      have bb : Below wx.heap.size wx (wx.alloc (.cells #[.int .i64 0, .int .i64 0, .int .i64 0] 62)) := (Below.refl _ _).alloc (Nat.le_refl _) _
      exact hK.out _ _ ⟨q0, q1, q2, .pointer (some ⟨wx.heap.size, 0, none⟩), p8, p9, rfl, hb.trans (bb.mono hb.size), l0, l1, l2, f7.alloc_ hb.size, f8.below bb, f9.below bb, fun _ h => (by have f := f8; rw [show L 4 = true from h] at f; exact fun e => f.lt e.symm), fun _ h => (by have f := f9; rw [show L 5 = true from h] at f; exact fun e => f.lt e.symm), d89⟩
    case s4 =>
      rintro L a wx hL hd ⟨q0, q1, q2, p7, p8, p9, rfl, hb, l0, l1, l2, f7, f8, f9, d78, d79, d89⟩ K hK
      go_simp
      rw [hL] at f8
      have bb : Below wx.heap.size wx (wx.alloc (.cells #[.int .i64 0, .int .i64 0, .int .i64 0] 62)) := (Below.refl _ _).alloc (Nat.le_refl _) _
      exact hK.out _ _ ⟨q0, q1, q2, p7, .pointer (some ⟨wx.heap.size, 0, none⟩), p9, rfl, hb.trans (bb.mono hb.size), l0, l1, l2, f7.below bb, f8.alloc_ hb.size, f9.below bb, fun h _ => (by have f := f7; rw [show L 3 = true from h] at f; exact f.lt), d79, fun _ h => (by have f := f9; rw [show L 5 = true from h] at f; exact fun e => f.lt e.symm)⟩
    case s5 =>
      rintro L a wx hL hd ⟨q0, q1, q2, p7, p8, p9, rfl, hb, l0, l1, l2, f7, f8, f9, d78, d79, d89⟩ K hK
      go_simp
      rw [hL] at f9
      have bb : Below wx.heap.size wx (wx.alloc (.cells #[.int .i64 0, .int .i64 0, .int .i64 0] 62)) := (Below.refl _ _).alloc (Nat.le_refl _) _
      exact hK.out _ _ ⟨q0, q1, q2, p7, p8, .pointer (some ⟨wx.heap.size, 0, none⟩), rfl, hb.trans (bb.mono hb.size), l0, l1, l2, f7.below bb, f8.below bb, f9.alloc_ hb.size, d78, fun h _ => (by have f := f7; rw [show L 3 = true from h] at f; exact f.lt), fun h _ => (by have f := f8; rw [show L 4 = true from h] at f; exact f.lt)⟩
    case s6 =>
      rintro L a wx hL hd ⟨q0, q1, q2, p7, p8, p9, rfl, hb, l0, l1, l2, f7, f8, f9, d78, d79, d89⟩ K hK
      obtain rfl := l0 (hd 0 (by simp))
      obtain ⟨g, ds, rfl, hg, kk, hds, _⟩ := f7.2 (hd 3 (by simp))
      refine step_st (cs := c3 x) rfl rowLa (.tmp 7) (.tmp 16) rfl rfl rfl kk (c3_size _) hds (c3_one _) ?_
      intro wy ky gy zy
      exact hK.out _ _ ⟨.agg (c3 x), q1, q2, .pointer (some ⟨g, 0, none⟩), p8, p9, rfl, hb.trans (only_Below gy hg (by exact hb.size)), fun _ => rfl, l1, l2, ⟨fun _ => hd 3 (by simp), fun _ => ⟨g, _, rfl, hg, ky, c3_size _, fun _ => rfl⟩⟩, f8.far gy (fun h e => d78 (hd 3 (by simp)) h e.symm), f9.far gy (fun h e => d79 (hd 3 (by simp)) h e.symm), d78, d79, d89⟩
    case s7 =>
      rintro L a wx hL hd ⟨q0, q1, q2, p7, p8, p9, rfl, hb, l0, l1, l2, f7, f8, f9, d78, d79, d89⟩ K hK
      obtain rfl := l1 (hd 1 (by simp))
      obtain ⟨g, ds, rfl, hg, kk, hds, _⟩ := f8.2 (hd 4 (by simp))
      refine step_st (cs := c3 y) rfl rowLa (.tmp 8) (.tmp 17) rfl rfl rfl kk (c3_size _) hds (c3_one _) ?_
      intro wy ky gy zy
      exact hK.out _ _ ⟨q0, .agg (c3 y), q2, p7, .pointer (some ⟨g, 0, none⟩), p9, rfl, hb.trans (only_Below gy hg (by exact hb.size)), l0, fun _ => rfl, l2, f7.far gy (fun h e => d78 h (hd 4 (by simp)) e), ⟨fun _ => hd 4 (by simp), fun _ => ⟨g, _, rfl, hg, ky, c3_size _, fun _ => rfl⟩⟩, f9.far gy (fun h e => d89 (hd 4 (by simp)) h e.symm), d78, d79, d89⟩
    case s8 =>
      rintro L a wx hL hd ⟨q0, q1, q2, p7, p8, p9, rfl, hb, l0, l1, l2, f7, f8, f9, d78, d79, d89⟩ K hK
      obtain rfl := l2 (hd 2 (by simp))
      obtain ⟨g, ds, rfl, hg, kk, hds, _⟩ := f9.2 (hd 5 (by simp))
      refine step_st (cs := c3 z) rfl rowLa (.tmp 9) (.tmp 18) rfl rfl rfl kk (c3_size _) hds (c3_one _) ?_
      intro wy ky gy zy
      exact hK.out _ _ ⟨q0, q1, .agg (c3 z), p7, p8, .pointer (some ⟨g, 0, none⟩), rfl, hb.trans (only_Below gy hg (by exact hb.size)), l0, l1, fun _ => rfl, f7.far gy (fun h e => d79 h (hd 5 (by simp)) e), f8.far gy (fun h e => d89 h (hd 5 (by simp)) e), ⟨fun _ => hd 5 (by simp), fun _ => ⟨g, _, rfl, hg, ky, c3_size _, fun _ => rfl⟩⟩, d78, d79, d89⟩
  case hend =>
  rintro L a wx hall ⟨q0, q1, q2, p7, p8, p9, rfl, hb, l0, l1, l2, f7, f8, f9, d78, d79, d89⟩
  have hL : ∀ i, i < 9 → L i = true := hall
  obtain rfl := l0 (hL 0 (by omega))
  obtain rfl := l1 (hL 1 (by omega))
  obtain rfl := l2 (hL 2 (by omega))
  obtain ⟨g7, ds, rfl, hg7, k7, _, he⟩ := f7.2 (hL 3 (by omega))
  obtain rfl := he (hL 6 (by omega))
  obtain ⟨g8, ds, rfl, hg8, k8, _, he⟩ := f8.2 (hL 4 (by omega))
  obtain rfl := he (hL 7 (by omega))
  obtain ⟨g9, ds, rfl, hg9, k9, _, he⟩ := f9.2 (hL 5 (by omega))
  obtain rfl := he (hL 8 (by omega))
  have kx := kx.below hb kx.lt
  have ky := ky.below hb ky.lt
  have kz := kz.below hb kz.lt
  have gb := gb.trans (hb.mono (by have := gb.size; have := HB.out; omega))
  clear hb f7 f8 f9 d78 d79 d89 l0 l1 l2 hall hL hg7 hg8 hg9
  have hwr := fun w' => write29_any x y.2.1 z.2.2 HX.out w'
  have hrw := fun w' => rwrite29_any x y.2.1 z.2.2 HX.out w'
  have hwn := @write_newer x y.2.1 z.2.2
  have n1 := fun w' => newer29_any x y w'
  have n2 := fun w' => rnewer29_any x y w'
  have j1 := fun w' => join29_any x y w'
  have j2 := fun w' => rjoin29_any x y w'
  have j3 := fun w' => join29_any y x w'
  have j4 := fun w' => join29_any (joinL x y) z w'
  have j5 := fun w' => join29_any y z w'
  have j6 := fun w' => join29_any x (joinL y z) w'
  have j7 := fun w' => join29_any x x w'
  rw [join_comm y x] at j3
  rw [join_assoc] at j4
  rw [join_self] at j7
  generalize writeL x y.2.1 z.2.2 = W at *
  obtain ⟨wl, we⟩ := W
  have n3 := fun w' => newer29_any wl x w'
  have j8 := fun w' => join29_any x wl w'
  have HWN := Lib.hid (fun (h : we = 0) => hwn (w := wl) (by rw [h]))
  clear hwn
  generalize newL x y = N at *
  generalize joinL x (joinL y z) = JJ at *
  generalize joinL y z = JY at *
  generalize joinL x y = JX at *
  generalize newL wl x = NW at *
  generalize joinL x wl = JW at *
  obtain ⟨x0, x1, x2⟩ := x
  obtain ⟨y0, y1, y2⟩ := y
  obtain ⟨z0, z1, z2⟩ := z
  obtain ⟨w0, wA, wB⟩ := wl
  obtain ⟨a0, a1, a2⟩ := JX
  obtain ⟨b0, b1, b2⟩ := JY
  obtain ⟨c0, c1, c2⟩ := JJ
  obtain ⟨d0, d1, d2⟩ := JW
  unfold v3 at *
  unfold c3 at *
  simp only at *
  have HW := Lib.hid hwr
  have HRW := Lib.hid hrw
  have N1 := Lib.hid n1
  have N2 := Lib.hid n2
  have N3 := Lib.hid n3
  have J1 := Lib.hid j1
  have J2 := Lib.hid j2
  have J3 := Lib.hid j3
  have J13 := Lib.hid (fun (a b : Value) (w' : World) (h : (a = .agg #[.int .i64 x0, .int .i64 x1, .int .i64 x2] ∧ b = .agg #[.int .i64 y0, .int .i64 y1, .int .i64 y2]) ∨ (a = .agg #[.int .i64 y0, .int .i64 y1, .int .i64 y2] ∧ b = .agg #[.int .i64 x0, .int .i64 x1, .int .i64 x2])) => show Calls Try.prog 27 #[a, b] w' fun e w'' => e = .returned (.agg #[.int .i64 a0, .int .i64 a1, .int .i64 a2]) ∧ Below w'.heap.size w' w'' from by
    rcases h with ⟨rfl, rfl⟩ | ⟨rfl, rfl⟩
    · exact j1 w'
    · exact j3 w')
  have J4 := Lib.hid j4
  have J5 := Lib.hid j5
  have J6 := Lib.hid j6
  have J7 := Lib.hid j7
  have J8 := Lib.hid j8
  clear hwr hrw n1 n2 n3 j1 j2 j3 j4 j5 j6 j7 j8
  have t1 : wx.cell? ⟨B + 1, 1, none⟩ = some (.int .i64 y1) := ky.cell 1
  have t2 : wx.cell? ⟨B + 1 + 1, 2, none⟩ = some (.int .i64 z2) := kz.cell 2
  go_wp2_with ((with_reducible refine wpList_ld rowLa k7 (th_size _ _ _) ?_ ?_); rotate_left; (rfl))
  refine (HW.out wx).mono ?_
  rintro e w2 ⟨rfl, bb⟩
  have k7 := k7.below bb k7.lt
  have k8 := k8.below bb k8.lt
  have k9 := k9.below bb k9.lt
  have kx := kx.below bb kx.lt
  have ky := ky.below bb ky.lt
  have kz := kz.below bb kz.lt
  have gb := gb.trans (bb.mono (by have := gb.size; have := HB.out; have := kz.lt; omega))
  clear bb t1 t2
  go_upto_region 5 with fail
  refine nameW ?_
  intro w3 hw3
  have k10 : Blk w3 w2.heap.size 62 #[.int .i64 w0, .int .i64 wA, .int .i64 wB] := by rw [hw3]; exact Blk.new w2 _ _
  have bl : Below w2.heap.size w2 w3 := by rw [hw3]; exact (Below.refl _ _).alloc (Nat.le_refl _) _
  have k7 := k7.below bl k7.lt
  have k8 := k8.below bl k8.lt
  have k9 := k9.below bl k9.lt
  have kx := kx.below bl kx.lt
  have ky := ky.below bl ky.lt
  have kz := kz.below bl kz.lt
  have gb := gb.trans (bl.mono (by have := gb.size; have := HB.out; omega))
  clear hw3 bl
  have t1 : w3.cell? ⟨B + 1, 1, none⟩ = some (.int .i64 y1) := ky.cell 1
  have t2 : w3.cell? ⟨B + 1 + 1, 2, none⟩ = some (.int .i64 z2) := kz.cell 2
  go_wp2_with ((with_reducible refine wpList_ld rowRLa kx (th_size _ _ _) ?_ ?_); rotate_left; (rfl))
  refine (HRW.out w3).mono ?_
  rintro e w4 ⟨rfl, bb⟩
  have k7 := k7.below bb k7.lt
  have k8 := k8.below bb k8.lt
  have k9 := k9.below bb k9.lt
  have k10 := k10.below bb k10.lt
  have kx := kx.below bb kx.lt
  have ky := ky.below bb ky.lt
  have gb := gb.trans (bb.mono (by have := gb.size; have := HB.out; omega))
  clear bb t1 t2 kz
  go_upto_region 6 with fail
  refine nameW ?_
  intro w5 hw5
  have k12 : Blk w5 w4.heap.size 61 #[.int .i64 w0, .int .i64 wA, .int .i64 wB] := by rw [hw5]; exact Blk.new w4 _ _
  have bl : Below w4.heap.size w4 w5 := by rw [hw5]; exact (Below.refl _ _).alloc (Nat.le_refl _) _
  have k7 := k7.below bl k7.lt
  have k8 := k8.below bl k8.lt
  have k9 := k9.below bl k9.lt
  have k10 := k10.below bl k10.lt
  have kx := kx.below bl kx.lt
  have ky := ky.below bl ky.lt
  have gb := gb.trans (bl.mono (by have := gb.size; have := HB.out; omega))
  clear hw5 bl
  refine wp_region_below (by kernel_rfl) (by kernel_rfl) ?_
  intro T iT F hF hT
  have H7 := Lib.hid (show ∀ w', (∃ x, w' = F x) → Blk w' g7 62 #[.int .i64 x0, .int .i64 x1, .int .i64 x2] from fun w' ⟨x, hx⟩ => by rw [hx]; exact k7.below (hF x) k7.lt)
  have H8 := Lib.hid (show ∀ w', (∃ x, w' = F x) → Blk w' g8 62 #[.int .i64 y0, .int .i64 y1, .int .i64 y2] from fun w' ⟨x, hx⟩ => by rw [hx]; exact k8.below (hF x) k8.lt)
  have HKX := Lib.hid (show ∀ w', (∃ x, w' = F x) → Blk w' B 61 #[.int .i64 x0, .int .i64 x1, .int .i64 x2] from fun w' ⟨x, hx⟩ => by rw [hx]; exact kx.below (hF x) kx.lt)
  have HKY := Lib.hid (show ∀ w', (∃ x, w' = F x) → Blk w' (B + 1) 61 #[.int .i64 y0, .int .i64 y1, .int .i64 y2] from fun w' ⟨x, hx⟩ => by rw [hx]; exact ky.below (hF x) ky.lt)
  have H10 := Lib.hid (show ∀ w', (∃ x, w' = F x) → Blk w' w2.heap.size 62 #[.int .i64 w0, .int .i64 wA, .int .i64 wB] from fun w' ⟨x, hx⟩ => by rw [hx]; exact k10.below (hF x) k10.lt)
  have H12 := Lib.hid (show ∀ w', (∃ x, w' = F x) → Blk w' w4.heap.size 61 #[.int .i64 w0, .int .i64 wA, .int .i64 wB] from fun w' ⟨x, hx⟩ => by rw [hx]; exact k12.below (hF x) k12.lt)
  have HF := Lib.hid hF
  have HT := Lib.hid hT
  clear hF hT
  repeat (first
    | ((with_reducible refine quiet_ldg rowLa H7.out (th_size _ _ _) ?_ ?_ ?_); rotate_left; (rfl); (rfl); simp only [Act.put, List.setIfInBounds_toArray, List.set_cons_succ, List.set_cons_zero, eq_self, decide_true, Bool.not_true, Bool.not_false])
    | ((with_reducible refine quiet_ldg rowLa H8.out (th_size _ _ _) ?_ ?_ ?_); rotate_left; (rfl); (rfl); simp only [Act.put, List.setIfInBounds_toArray, List.set_cons_succ, List.set_cons_zero, eq_self, decide_true, Bool.not_true, Bool.not_false])
    | ((with_reducible refine quiet_ldg rowRLa HKX.out (th_size _ _ _) ?_ ?_ ?_); rotate_left; (rfl); (rfl); simp only [Act.put, List.setIfInBounds_toArray, List.set_cons_succ, List.set_cons_zero, eq_self, decide_true, Bool.not_true, Bool.not_false])
    | ((with_reducible refine quiet_ldg rowRLa HKY.out (th_size _ _ _) ?_ ?_ ?_); rotate_left; (rfl); (rfl); simp only [Act.put, List.setIfInBounds_toArray, List.set_cons_succ, List.set_cons_zero, eq_self, decide_true, Bool.not_true, Bool.not_false])
    | ((with_reducible refine quiet_ldg rowLa H10.out (th_size _ _ _) ?_ ?_ ?_); rotate_left; (rfl); (rfl); simp only [Act.put, List.setIfInBounds_toArray, List.set_cons_succ, List.set_cons_zero, eq_self, decide_true, Bool.not_true, Bool.not_false])
    | ((with_reducible refine quiet_ldg rowRLa H12.out (th_size _ _ _) ?_ ?_ ?_); rotate_left; (rfl); (rfl); simp only [Act.put, List.setIfInBounds_toArray, List.set_cons_succ, List.set_cons_zero, eq_self, decide_true, Bool.not_true, Bool.not_false])
    | go_big_quiet_step ((first
      | (go_at_call 25; exact calls_below HF.out HT.out (N1.out _))
      | (go_at_call 26; exact calls_below HF.out HT.out (N2.out _))
      | (go_at_call 27; exact calls_below HF.out HT.out (J1.out _))
      | (go_at_call 28; exact calls_below HF.out HT.out (J2.out _)))))
  refine wpQuiet_nil ?_
  intro w' hw'
  obtain ⟨q, rfl⟩ := hw'
  have bF := HF.out q
  have k7 := H7.out _ ⟨q, rfl⟩
  have k8 := H8.out _ ⟨q, rfl⟩
  have kx := HKX.out _ ⟨q, rfl⟩
  have ky := HKY.out _ ⟨q, rfl⟩
  have k10 := H10.out _ ⟨q, rfl⟩
  have k12 := H12.out _ ⟨q, rfl⟩
  clear HF HT H7 H8 HKX HKY H10 H12
  generalize F q = wq at *
  have gb := gb.trans (bF.mono (by have := gb.size; have := HB.out; omega))
  have k9 := k9.below bF k9.lt
  clear bF N1 N2 J2 kx ky k12
  go_upto_region 8 with fail
  by_cases he : we = 0
  · obtain ⟨hn, hj⟩ := HWN.out he
    subst hn
    obtain ⟨rfl, hj2⟩ := Prod.mk.inj hj.symm
    obtain ⟨rfl, rfl⟩ := Prod.mk.inj hj2
    subst he
    clear hj hj2 HWN HRW HW
    refine wp_region_below (by kernel_rfl) (by kernel_rfl) ?_
    intro T iT F hF hT
    have H7 := Lib.hid (show ∀ w', (∃ x, w' = F x) → Blk w' g7 62 #[.int .i64 x0, .int .i64 x1, .int .i64 x2] from fun w' ⟨x, hx⟩ => by rw [hx]; exact k7.below (hF x) k7.lt)
    have H10 := Lib.hid (show ∀ w', (∃ x, w' = F x) → Blk w' w2.heap.size 62 #[.int .i64 w0, .int .i64 wA, .int .i64 wB] from fun w' ⟨x, hx⟩ => by rw [hx]; exact k10.below (hF x) k10.lt)
    have HF := Lib.hid hF
    have HT := Lib.hid hT
    clear hF hT
    repeat (first
      | ((with_reducible refine quiet_ldg rowLa H7.out (th_size _ _ _) ?_ ?_ ?_); rotate_left; (rfl); (rfl); simp only [Act.put, List.setIfInBounds_toArray, List.set_cons_succ, List.set_cons_zero, eq_self, decide_true, Bool.not_true, Bool.not_false])
      | ((with_reducible refine quiet_ldg rowLa H10.out (th_size _ _ _) ?_ ?_ ?_); rotate_left; (rfl); (rfl); simp only [Act.put, List.setIfInBounds_toArray, List.set_cons_succ, List.set_cons_zero, eq_self, decide_true, Bool.not_true, Bool.not_false])
      | go_big_quiet_step ((first
        | (go_at_call 25; exact calls_below HF.out HT.out (N3.out _))
        | (go_at_call 27; exact calls_below HF.out HT.out (J8.out _)))))
    refine wpQuiet_nil ?_
    intro w' hw'
    obtain ⟨q, rfl⟩ := hw'
    have bF := HF.out q
    have k7 := H7.out _ ⟨q, rfl⟩
    have k10 := H10.out _ ⟨q, rfl⟩
    clear HF HT H7 H10
    generalize F q = wq at *
    have gb := gb.trans (bF.mono (by have := gb.size; have := HB.out; omega))
    have k8 := k8.below bF k8.lt
    have k9 := k9.below bF k9.lt
    clear bF N3 J8 k10
    go_upto_region 10 with fail
    refine wp_region_below (by kernel_rfl) (by kernel_rfl) ?_
    intro T iT F hF hT
    have H7 := Lib.hid (show ∀ w', (∃ x, w' = F x) → Blk w' g7 62 #[.int .i64 x0, .int .i64 x1, .int .i64 x2] from fun w' ⟨x, hx⟩ => by rw [hx]; exact k7.below (hF x) k7.lt)
    have H8 := Lib.hid (show ∀ w', (∃ x, w' = F x) → Blk w' g8 62 #[.int .i64 y0, .int .i64 y1, .int .i64 y2] from fun w' ⟨x, hx⟩ => by rw [hx]; exact k8.below (hF x) k8.lt)
    have H9 := Lib.hid (show ∀ w', (∃ x, w' = F x) → Blk w' g9 62 #[.int .i64 z0, .int .i64 z1, .int .i64 z2] from fun w' ⟨x, hx⟩ => by rw [hx]; exact k9.below (hF x) k9.lt)
    have HF := Lib.hid hF
    have HT := Lib.hid hT
    clear hF hT
    repeat (first
      | ((with_reducible refine quiet_ldg rowLa H7.out (th_size _ _ _) ?_ ?_ ?_); rotate_left; (rfl); (rfl); simp only [Act.put, List.setIfInBounds_toArray, List.set_cons_succ, List.set_cons_zero, eq_self, decide_true, Bool.not_true, Bool.not_false])
      | ((with_reducible refine quiet_ldg rowLa H8.out (th_size _ _ _) ?_ ?_ ?_); rotate_left; (rfl); (rfl); simp only [Act.put, List.setIfInBounds_toArray, List.set_cons_succ, List.set_cons_zero, eq_self, decide_true, Bool.not_true, Bool.not_false])
      | ((with_reducible refine quiet_ldg rowLa H9.out (th_size _ _ _) ?_ ?_ ?_); rotate_left; (rfl); (rfl); simp only [Act.put, List.setIfInBounds_toArray, List.set_cons_succ, List.set_cons_zero, eq_self, decide_true, Bool.not_true, Bool.not_false])
      | go_big_quiet_step ((first
        | (go_at_call_of 27 (Value.agg #[.int .i64 a0, .int .i64 a1, .int .i64 a2]); exact calls_below HF.out HT.out (J4.out _))
        | (go_at_call_of 27 (Value.agg #[.int .i64 b0, .int .i64 b1, .int .i64 b2]); exact calls_below HF.out HT.out (J6.out _))
        | (go_at_call_of 27 (Value.agg #[.int .i64 z0, .int .i64 z1, .int .i64 z2]); exact calls_below HF.out HT.out (J5.out _))
        | (go_at_call_of 27 (Value.agg #[.int .i64 y0, .int .i64 y1, .int .i64 y2]); exact calls_below HF.out HT.out (J13.out _ _ _ (by first | exact Or.inl ⟨rfl, rfl⟩ | exact Or.inr ⟨rfl, rfl⟩)))
        | (go_at_call 27; exact calls_below HF.out HT.out (J7.out _)))))
    refine wpQuiet_nil ?_
    intro w' hw'
    obtain ⟨q, rfl⟩ := hw'
    have bF := HF.out q
    have k7 := H7.out _ ⟨q, rfl⟩
    have k8 := H8.out _ ⟨q, rfl⟩
    have k9 := H9.out _ ⟨q, rfl⟩
    clear HF HT H7 H8 H9
    generalize F q = wq at *
    have gb := gb.trans (bF.mono (by have := gb.size; have := HB.out; omega))
    clear bF
    go_wp2_with fail
    go_ret
    exact ⟨rfl, by rw [← HB.out]; exact gb⟩
  · have hd : (we == 0) = false := by simpa using he
    clear he HWN HRW HW
    refine wp_region_below (by kernel_rfl) (by kernel_rfl) ?_
    intro T iT F hF hT
    have H7 := Lib.hid (show ∀ w', (∃ x, w' = F x) → Blk w' g7 62 #[.int .i64 x0, .int .i64 x1, .int .i64 x2] from fun w' ⟨x, hx⟩ => by rw [hx]; exact k7.below (hF x) k7.lt)
    have H10 := Lib.hid (show ∀ w', (∃ x, w' = F x) → Blk w' w2.heap.size 62 #[.int .i64 w0, .int .i64 wA, .int .i64 wB] from fun w' ⟨x, hx⟩ => by rw [hx]; exact k10.below (hF x) k10.lt)
    have HF := Lib.hid hF
    have HT := Lib.hid hT
    clear hF hT
    repeat (first
      | ((with_reducible refine quiet_ldg rowLa H7.out (th_size _ _ _) ?_ ?_ ?_); rotate_left; (rfl); (rfl); simp only [Act.put, List.setIfInBounds_toArray, List.set_cons_succ, List.set_cons_zero, eq_self, decide_true, Bool.not_true, Bool.not_false])
      | ((with_reducible refine quiet_ldg rowLa H10.out (th_size _ _ _) ?_ ?_ ?_); rotate_left; (rfl); (rfl); simp only [Act.put, List.setIfInBounds_toArray, List.set_cons_succ, List.set_cons_zero, eq_self, decide_true, Bool.not_true, Bool.not_false])
      | go_big_quiet_step ((first
        | (go_at_call 25; exact calls_below HF.out HT.out (N3.out _))
        | (go_at_call 27; exact calls_below HF.out HT.out (J8.out _)))))
    refine wpQuiet_nil ?_
    intro w' hw'
    obtain ⟨q, rfl⟩ := hw'
    have bF := HF.out q
    have k7 := H7.out _ ⟨q, rfl⟩
    have k10 := H10.out _ ⟨q, rfl⟩
    clear HF HT H7 H10
    generalize F q = wq at *
    have gb := gb.trans (bF.mono (by have := gb.size; have := HB.out; omega))
    have k8 := k8.below bF k8.lt
    have k9 := k9.below bF k9.lt
    clear bF N3 J8 k10
    go_upto_region 10 with fail
    refine wp_region_below (by kernel_rfl) (by kernel_rfl) ?_
    intro T iT F hF hT
    have H7 := Lib.hid (show ∀ w', (∃ x, w' = F x) → Blk w' g7 62 #[.int .i64 x0, .int .i64 x1, .int .i64 x2] from fun w' ⟨x, hx⟩ => by rw [hx]; exact k7.below (hF x) k7.lt)
    have H8 := Lib.hid (show ∀ w', (∃ x, w' = F x) → Blk w' g8 62 #[.int .i64 y0, .int .i64 y1, .int .i64 y2] from fun w' ⟨x, hx⟩ => by rw [hx]; exact k8.below (hF x) k8.lt)
    have H9 := Lib.hid (show ∀ w', (∃ x, w' = F x) → Blk w' g9 62 #[.int .i64 z0, .int .i64 z1, .int .i64 z2] from fun w' ⟨x, hx⟩ => by rw [hx]; exact k9.below (hF x) k9.lt)
    have HF := Lib.hid hF
    have HT := Lib.hid hT
    clear hF hT
    repeat (first
      | ((with_reducible refine quiet_ldg rowLa H7.out (th_size _ _ _) ?_ ?_ ?_); rotate_left; (rfl); (rfl); simp only [Act.put, List.setIfInBounds_toArray, List.set_cons_succ, List.set_cons_zero, eq_self, decide_true, Bool.not_true, Bool.not_false])
      | ((with_reducible refine quiet_ldg rowLa H8.out (th_size _ _ _) ?_ ?_ ?_); rotate_left; (rfl); (rfl); simp only [Act.put, List.setIfInBounds_toArray, List.set_cons_succ, List.set_cons_zero, eq_self, decide_true, Bool.not_true, Bool.not_false])
      | ((with_reducible refine quiet_ldg rowLa H9.out (th_size _ _ _) ?_ ?_ ?_); rotate_left; (rfl); (rfl); simp only [Act.put, List.setIfInBounds_toArray, List.set_cons_succ, List.set_cons_zero, eq_self, decide_true, Bool.not_true, Bool.not_false])
      | go_big_quiet_step ((first
        | (go_at_call_of 27 (Value.agg #[.int .i64 a0, .int .i64 a1, .int .i64 a2]); exact calls_below HF.out HT.out (J4.out _))
        | (go_at_call_of 27 (Value.agg #[.int .i64 b0, .int .i64 b1, .int .i64 b2]); exact calls_below HF.out HT.out (J6.out _))
        | (go_at_call_of 27 (Value.agg #[.int .i64 z0, .int .i64 z1, .int .i64 z2]); exact calls_below HF.out HT.out (J5.out _))
        | (go_at_call_of 27 (Value.agg #[.int .i64 y0, .int .i64 y1, .int .i64 y2]); exact calls_below HF.out HT.out (J13.out _ _ _ (by first | exact Or.inl ⟨rfl, rfl⟩ | exact Or.inr ⟨rfl, rfl⟩)))
        | (go_at_call 27; exact calls_below HF.out HT.out (J7.out _)))))
    refine wpQuiet_nil ?_
    intro w' hw'
    obtain ⟨q, rfl⟩ := hw'
    have bF := HF.out q
    have k7 := H7.out _ ⟨q, rfl⟩
    have k8 := H8.out _ ⟨q, rfl⟩
    have k9 := H9.out _ ⟨q, rfl⟩
    clear HF HT H7 H8 H9
    generalize F q = wq at *
    have gb := gb.trans (bF.mono (by have := gb.size; have := HB.out; omega))
    clear bF
    go_wp2_with fail
    go_ret
    exact ⟨rfl, by rw [← HB.out]; exact gb⟩
set_option maxRecDepth 100000 in
theorem lifted (os : Os) (started : os.Started) (H : Type) (enc : TypeId × Value → H) :
    ReturnsInHanded {} Try.checked os 6 .any (Rows.regLastsSpec.pre6 enc Try.prog Try.f6 Rows.regLastsRow.domain false) (Rows.regLastsSpec.post enc Try.prog Try.f6 false true false false) := by
  refine returnsInHanded_of_change (C := Try.checked) own started (by kernel_rfl) Try.func6
    (ChangeSpec.witness6 (enc := enc) (C := Try.checked) false ⟨#[], #[.agg #[.int .i64 0, .int .i64 0, .int .i64 0], .agg #[.int .i64 0, .int .i64 0, .int .i64 0], .agg #[.int .i64 0, .int .i64 0, .int .i64 0]], []⟩ 8 (by kernel_rfl) (by kernel_rfl) (by kernel_rfl) (by kernel_rfl)) ?_
  intro W base args ds gs before hval0 hW hcnd _
  have hval : ∀ (j : Nat) t v, Try.f6.params[j]? = some t → args[j]? = some v → Value.okWide Try.prog W .any base t v := hval0
  have hW' := hW
  obtain ⟨p, q, hA0, hV, rfl, hfz, hnd⟩ := hW
  have hA : DataW.TrodAll enc Try.prog W 0 (fun _ => true) true Try.f6.params.toList args.toList ds p := hA0
  rw [Try.params6] at hA hval
  obtain ⟨v0, vs0, d0, ds0, p0, q0, hargs, rfl, rfl, h0, r0⟩ := trodAll_cons hA
  obtain ⟨v1, vs1, d1, ds1, p1, q1, rfl, rfl, rfl, h1, r1⟩ := trodAll_cons r0
  obtain ⟨v2, vs2, d2, ds2, p2, q2, rfl, rfl, rfl, h2, r2⟩ := trodAll_cons r1
  obtain ⟨rfl, rfl, rfl⟩ := trodAll_nil r2
  obtain rfl : args = #[v0, v1, v2] := by cases args; simp_all
  obtain ⟨rfl, rfl⟩ := trodVars_none hV
  have lt0 : ∀ x ∈ p0, x.block < W.heap.size := by obtain ⟨m, hm⟩ := h0; exact DataW.trod_lt m _ _ _ hm
  have k0 := h0
  have lt1 : ∀ x ∈ p1, x.block < W.heap.size := by obtain ⟨m, hm⟩ := h1; exact DataW.trod_lt m _ _ _ hm
  have k1 := h1
  have lt2 : ∀ x ∈ p2, x.block < W.heap.size := by obtain ⟨m, hm⟩ := h2; exact DataW.trod_lt m _ _ _ hm
  have k2 := h2
  obtain ⟨a0, rfl, hb0⟩ := open_la (hval 0 61 v0 rfl rfl) h0
  obtain ⟨a1, rfl, hb1⟩ := open_la (hval 1 61 v1 rfl rfl) h1
  obtain ⟨a2, rfl, hb2⟩ := open_la (hval 2 61 v2 rfl rfl) h2
  clear hA0 hval0
  refine (walk a0 a1 a2 W hb0 hb1 hb2).mono fun e W' ⟨he, bel⟩ => ?_
  subst he
  exact ⟨_, rfl, _, _, _, [], _, [], hW', trodAll_mk1 (shut_bool Try.underlying4 _), (trodAll_cons_mk (Below.trod laidOut (by kernel_rfl) (of_decide_eq_true (by kernel_rfl)) k0 bel lt0) (trodAll_cons_mk (Below.trod laidOut (by kernel_rfl) (of_decide_eq_true (by kernel_rfl)) k1 bel lt1) (trodAll_cons_mk (Below.trod laidOut (by kernel_rfl) (of_decide_eq_true (by kernel_rfl)) k2 bel lt2) trodAll_mk0))), rfl, bel.frame _, fun h => by cases h⟩

theorem proved : Rows.RegLastsSaid :=
  OpenClaim.holds_of_wide 6 Try.f6 rfl rfl rfl rfl rfl rfl rfl ⟨rfl, rfl, rfl, rfl, rfl⟩ rfl rfl rfl rfl rfl (by kernel_rfl) Try.func6 (by kernel_rfl)
    (of_decide_eq_true (by kernel_rfl)) (by unfold Func.isWrapper; first | (rw [if_pos (by decide +kernel)]; kernel_rfl) | (rw [if_neg (by decide +kernel)]; exact ⟨rfl, rfl⟩))
    (fun os started H enc _ => lifted os started H enc)
#print axioms proved
end Go.Proofs.Ytocoohpekpkmkaa.RegLasts

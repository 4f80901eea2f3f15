/- FrameGets: the body of the frame that any bytes begin with, what stands behind, all bodies, or the error, are the document's; the bytes stay: the whole statement, without a condition. -/
import Derived.Test.YtbkcdnjpakicmaaFrameAlive
import Derived.Test.YtbkcdnjpakicmaaFrameRAll
import Derived.Test.YtbkcdnjpakicmaaRef02
namespace Go.Proofs.Ytbkcdnjpakicmaa.FrameGets
open Go.ChangeShapes Go.WideShapes Go.ChangeAt Go.RowKit
set_option linter.unusedVariables false
open Go.Proofs.Ytbkcdnjpakicmaa.Frame

/-- what Get is said to leave: body, rest, error -/
def outG (bs : List UInt8) : List UInt8 × List UInt8 × Nat := match dec bs with
  | .ok (x, r) => (x, r, 0)
  | .error y => ([], [], y)
theorem get_out {w w' : World} {bs : List UInt8} {e : Ending} (h : GetF w bs e w') : ∃ A1 c1 A2 c2, e = .returned (.tuple #[.slice A1 (outG bs).1.length c1, .slice A2 (outG bs).2.1.length c2, .int .i64 ((outG bs).2.2 : Nat)]) ∧ OwnB w' w.heap.size A1 (outG bs).1.length c1 (outG bs).1 ∧ OwnB w' w.heap.size A2 (outG bs).2.1.length c2 (outG bs).2.1 ∧ Below w.heap.size w w' := by
  obtain ⟨hb, h⟩ := h
  unfold outG
  rcases hd : dec bs with y | ⟨x, r⟩ <;> rw [hd] at h <;> simp only at h ⊢
  · exact ⟨none, 0, none, 0, h, OwnB.nil _ _, OwnB.nil _ _, hb⟩
  · obtain ⟨A1, c1, A2, c2, he, h1, h2, _⟩ := h
    exact ⟨A1, c1, A2, c2, he, h1, h2, hb⟩
theorem rget_out {w w' : World} {bs : List UInt8} {e : Ending} (h : RGetF w bs e w') : ∃ A1 c1 A2 c2, e = .returned (.tuple #[.slice A1 (outG bs).1.length c1, .slice A2 (outG bs).2.1.length c2, .int .i64 ((outG bs).2.2 : Nat)]) ∧ OwnB w' w.heap.size A1 (outG bs).1.length c1 (outG bs).1 ∧ OwnB w' w.heap.size A2 (outG bs).2.1.length c2 (outG bs).2.1 ∧ Below w.heap.size w w' := by
  obtain ⟨hb, h⟩ := h
  unfold outG
  rcases hd : dec bs with y | ⟨x, r⟩ <;> rw [hd] at h <;> simp only at h ⊢
  · exact ⟨none, 0, none, 0, h, OwnB.nil _ _, OwnB.nil _ _, hb⟩
  · obtain ⟨A1, c1, A2, c2, he, h1, h2⟩ := h
    exact ⟨A1, c1, A2, c2, he, h1, h2, hb⟩
theorem outG_len (bs : List UInt8) : (outG bs).1.length ≤ bs.length ∧ (outG bs).2.1.length ≤ bs.length := by
  unfold outG
  rcases hd : dec bs with y | ⟨x, r⟩
  · exact ⟨Nat.zero_le _, Nat.zero_le _⟩
  · have := dec_len hd
    simp only
    omega
/-- bytes of the call's own, whatever they are -/
def WrB (w : World) (B : Nat) (A : Option Addr) (n c : Nat) : Prop := ∃ bs, OwnB w B A n c bs
/-- a row of such bytes -/
def WrS (w : World) (B : Nat) (A : Option Addr) (n c : Nat) : Prop := ∃ es : List Sl, n = es.length ∧ w.ownsRow B 22 1 (.slice A n c) n (es.map sv) ∧ ∀ e ∈ es, WrB w B e.1 e.2.1 e.2.2
theorem WrB.set {w : World} {B n c n' c' : Nat} {A A' : Option Addr} {g j : Nat} (h : WrB w B A n c) (x : UInt8) (hA' : A' = some ⟨g, 0, none⟩) (h' : WrB w B A' n' c') : WrB (w.setCell ⟨g, j, none⟩ (bv x)) B A n c := by
  obtain ⟨bs, h⟩ := h
  by_cases hA : A.map (·.block) = some g
  · rcases h.2.2 with ⟨hv, _⟩ | ⟨g2, cap, cur, hv, _⟩
    · injection hv with hv
      subst hv
      cases hA
    · injection hv with hv
      subst hv
      injection hA with hA
      subst hA
      exact ⟨_, h.set_ j x⟩
  · exact ⟨bs, h.setFar hA _⟩
theorem WrS.set {w : World} {B n c n' c' : Nat} {A A' : Option Addr} {g j : Nat} (h : WrS w B A n c) (x : UInt8) (hA' : A' = some ⟨g, 0, none⟩) (h' : WrB w B A' n' c') : WrS (w.setCell ⟨g, j, none⟩ (bv x)) B A n c := by
  obtain ⟨es, h1, h2, h3⟩ := h
  refine ⟨es, h1, ownsRow_keep h2 fun k hk => Below.heap_setCell w _ _ k ?_, fun e he => (h3 e he).set x hA' h'⟩
  intro e
  have hk : A.map (·.block) = some g := hk.trans (congrArg some e)
  obtain ⟨bs, h'⟩ := h'
  subst hA'
  obtain ⟨q1, q2⟩ := ownsRow_type h2 hk
  obtain ⟨q3, q4⟩ := ownsRow_type h'.2 (k := g) rfl
  rw [q2] at q4
  injection q4 with q4
  injection q4 with _ q4
  exact absurd q4 (by decide)
theorem WrB.at_ {w : World} {B n c k : Nat} {A : Option Addr} (h : WrB w B A n c) (hk : k < n) : ∃ g x, A = some ⟨g, 0, none⟩ ∧ B ≤ g ∧ w.cell? ⟨g, k, none⟩ = some (bv x) ∧ w.frozen? ⟨g, k, none⟩ = false := by
  obtain ⟨bs, h⟩ := h
  obtain ⟨g, rfl, hg, _⟩ := h.form (by omega)
  exact ⟨g, _, rfl, hg, h.cell (j := k) (by have := h.1; omega), h.free k⟩
theorem WrS.at_ {w : World} {B n c k : Nat} {A : Option Addr} (h : WrS w B A n c) (hk : k < n) : ∃ a D m d, A = some a ∧ w.cell? (a.add k) = some (.slice D m d) ∧ WrB w B D m d := by
  obtain ⟨es, h1, h2, h3⟩ := h
  obtain ⟨a, e, _, hc⟩ := (Rd.of_own h2) k (sv es[k]) (by rw [List.getElem?_map, List.getElem?_eq_getElem (by omega)]; rfl)
  exact ⟨a, _, _, _, e, hc, h3 _ (List.getElem_mem _)⟩
theorem Bods.wr {w : World} {B n c : Nat} {A : Option Addr} {ls : List (List UInt8)} (h : Bods w B A n c ls) : WrS w B A n c := by
  obtain ⟨es, h1, h2, h3, h4⟩ := h
  refine ⟨es, by omega, h3, fun e he => ?_⟩
  obtain ⟨j, hj⟩ := List.mem_iff_getElem?.1 he
  have hjl : j < ls.length := by
    have := (List.getElem?_eq_some_iff.1 hj).1
    omega
  exact ⟨_, h4 j e _ hj (List.getElem?_eq_getElem hjl)⟩
theorem Bods.wlen {w : World} {B n c : Nat} {A : Option Addr} {ls : List (List UInt8)} (h : Bods w B A n c ls) : c ≤ maxLen := by
  obtain ⟨es, h1, h2, h3, h4⟩ := h
  exact (ownsRow_le h3).2
/-- what stands while bytes are turned -/
structure Inv (B : Nat) (w2 : World) (A1 A2 A3 : Option Addr) (n1 c1 n2 c2 n3 c3 : Nat) (w : World) : Prop where
  x : WrB w B A1 n1 c1
  y : WrB w B A2 n2 c2
  z : WrS w B A3 n3 c3
  b : Below B w2 w
theorem Inv.set {B : Nat} {w2 : World} {A1 A2 A3 A' : Option Addr} {n1 c1 n2 c2 n3 c3 n' c' g j : Nat} {w : World} (h : Inv B w2 A1 A2 A3 n1 c1 n2 c2 n3 c3 w) (u : UInt8) (hA' : A' = some ⟨g, 0, none⟩) (h' : WrB w B A' n' c') (hg : B ≤ g) : Inv B w2 A1 A2 A3 n1 c1 n2 c2 n3 c3 (w.setCell ⟨g, j, none⟩ (bv u)) :=
  ⟨h.x.set u hA' h', h.y.set u hA' h', h.z.set u hA' h', h.b.setCell hg _⟩
set_option maxRecDepth 100000 in
set_option maxHeartbeats 1000000 in
theorem walk (a0 : Option Addr) (n0 c0 : Nat) (b0 : List UInt8) (w : World) (hb0 : RdB w w.heap.size a0 n0 b0) (hnc : n0 ≤ c0) (hcm : c0 ≤ maxLen) :
    Calls Try.prog 5 #[.slice a0 n0 c0] w fun e w' => e = .returned (.bool true) ∧ Below w.heap.size w w' := by
  by_cases hg : 10000 < n0
  · have hd1 : decide ((10000 : Int) < (n0 : Int)) = true := decide_eq_true (by omega)
    go_enter Try.func5, Try.ntmps5
    go_wp2_with fail
    refine (alive04 _).mono ?_
    rintro e w1 ⟨rfl, h1⟩
    go_wp2_with fail
    go_ret
    exact ⟨rfl, h1⟩
  have hd1 : decide ((10000 : Int) < (n0 : Int)) = false := decide_eq_false (by omega)
  go_enter Try.func5, Try.ntmps5
  go_wp2_with fail
  refine (alive04 _).mono ?_
  rintro e w1 ⟨rfl, h1⟩
  go_wp2_with fail
  refine (lent_any _ _ _ _ _ _ (hb0.below h1) h1.size (by omega)).mono ?_
  rintro e w2 ⟨g, rfl, hg2, hl2, h2⟩
  have h12 := h1.trans (h2.mono h1.size)
  have hb2 := hb0.below h12
  obtain rfl := hb0.1
  have hr2 := lent_rd hl2
  have hlen := outG_len b0
  go_wp2_with fail
  refine (get_any _ _ _ b0 _ _ hr2 (Nat.le_refl _) (by omega) (by omega) (by unfold maxLen; omega)).mono ?_
  intro e w3 hG
  obtain ⟨A1, c1, A2, c2, rfl, o1, o2, h3⟩ := get_out hG
  obtain ⟨X, hX⟩ : ∃ X, X = (outG b0).1 := ⟨_, rfl⟩
  obtain ⟨Y, hY⟩ : ∃ Y, Y = (outG b0).2.1 := ⟨_, rfl⟩
  obtain ⟨E, hE⟩ : ∃ E, E = (outG b0).2.2 := ⟨_, rfl⟩
  rw [← hX] at o1 hlen
  rw [← hY] at o2 hlen
  rw [← hX, ← hY, ← hE]
  clear hG
  have h23 : Below w.heap.size w w3 := h12.trans (h3.mono h12.size)
  have hX1 := hlen.1
  have hX2 := hlen.2
  have HX := Lib.hid hX
  have HY := Lib.hid hY
  have HE := Lib.hid hE
  clear hX hY hE hlen
  go_wp2_with fail
  refine (rget_any _ _ _ b0 _ _ (hb0.below h23) h23.size (by omega) hnc hcm).mono ?_
  intro e w4 hG
  obtain ⟨A3, c3, A4, c4, rfl, o3, o4, h4⟩ := rget_out hG
  rw [← HX.out] at o3
  rw [← HY.out] at o4
  rw [← HX.out, ← HY.out, ← HE.out]
  clear hG
  have h24 := h23.trans (h4.mono h23.size)
  have hr4 := hr2.below (h3.trans (h4.mono h3.size))
  go_wp2_with fail
  refine (all_any _ _ _ b0 _ _ hr4 (Nat.le_trans h3.size h4.size) (by omega) (by omega) (by unfold maxLen; omega)).mono ?_
  rintro e w5 ⟨l, r, A5, c5, hp1, rfl, bo5, h5⟩
  have h25 := h24.trans (h5.mono h24.size)
  go_wp2_with fail
  refine (rall_any _ _ _ b0 _ _ (hb0.below h25) h25.size (by omega) hnc hcm).mono ?_
  rintro e w6 ⟨l', r', A6, c6, hp2, rfl, bo6, h6⟩
  obtain ⟨rfl, rfl⟩ := hp1.same hp2
  have h26 := h25.trans (h6.mono h25.size)
  have hfl : (frms l).length ≤ b0.length := by rw [hp1.1, List.length_append]; omega
  have hxl := hp1.2.1
  have hll : l.length ≤ b0.length := by
    refine Nat.le_trans ?_ hfl
    clear hp1 hp2 bo5 bo6 hfl hxl
    induction l with
    | nil => simp
    | cons x l ih => rw [frms_cons, List.length_append, List.length_cons]; have := frm_pos x; omega
  clear hp1 hp2
  obtain ⟨M, hM⟩ : ∃ M, M = (frms l).length := ⟨_, rfl⟩
  rw [← hM]
  clear hM hfl
  have HXL := Lib.hid hxl
  clear hxl
  have h46 := h4.trans ((h5.mono h4.size).trans (h6.mono (Nat.le_trans h4.size h5.size)))
  have h56 := h5.trans (h6.mono h5.size)
  have o1b := o1.below h46 (Nat.le_refl _)
  have o2b := o2.below h46 (Nat.le_refl _)
  have o3b := o3.below h56 (Nat.le_refl _)
  have o4b := o4.below h56 (Nat.le_refl _)
  have bo5b := bo5.below h6 (Nat.le_refl _)
  have h2w6 : Below w2.heap.size w2 w6 := h3.trans (h46.mono h3.size)
  have hs3 := h3.size
  have hs4 := Nat.le_trans h3.size h4.size
  have hs0 := h12.size
  have hl6 := hl2.below h2w6 hl2.lt
  have hb6 := hb0.below h26
  have i6 : Inv w2.heap.size w2 A1 A2 A5 X.length c1 Y.length c2 l.length c5 w6 := ⟨⟨_, o1b⟩, ⟨_, o2b⟩, Bods.wr (bo5b.mono hs4), h2w6⟩
  have r1 := o1b.rd
  have r2 := o2b.rd
  have r3 := o3b.rd
  have r4 := o4b.rd
  have s5 := bo5b.rd
  have s6 := bo6.rd
  clear o1 o2 o3 o4 o1b o2b o3b o4b bo5 bo5b bo6 h46 h56 h3 h4 h5 h6 h23 h24 h25 hr4 hr2 h2 hb2 h1
  go_wp2_with fail
  refine (same_eq _ _ _ _ _ _ _ _ _ _ r1 r3 (by omega)).mono ?_
  rintro e w7 ⟨rfl, m7, rfl⟩
  go_wp2_with fail
  refine (same_eq _ _ _ _ _ _ _ _ _ _ (rdb_drewN r2 m7) (rdb_drewN r4 m7) (by omega)).mono ?_
  rintro e w7 ⟨rfl, m8, rfl⟩
  have s5' : RdS (w6.drewN (m7 + m8)) _ _ _ _ := s5.keep fun _ _ => rfl
  have s6' : RdS (w6.drewN (m7 + m8)) _ _ _ _ := s6.keep fun _ _ => rfl
  go_wp2_with fail
  refine (rsame_eq _ _ _ _ _ _ _ _ _ _ s5' s6' (by omega) (fun x hx => by have := HXL.out x hx; omega)).mono ?_
  rintro e w7 ⟨rfl, m9, rfl⟩
  have i7 : Inv w2.heap.size w2 A1 A2 A5 X.length c1 Y.length c2 l.length c5 (w6.drewN (m7 + m8 + m9)) := ⟨i6.x, i6.y, i6.z, below_drewN i6.b _⟩
  have hl7 : Blk w2 g 5 (lentL b0 4).toArray := hl2
  have hb7 : RdB w2 w.heap.size a0 b0.length b0 := hb0.below h12
  have hc5 := (show c5 ≤ maxLen from by obtain ⟨es, q1, q2, q3⟩ := i6.z; exact (ownsRow_le q2).2)
  simp only [drewN2]
  generalize w6.drewN (m7 + m8 + m9) = w7 at *
  clear s5 s6 s5' s6' r1 r2 r3 r4 hl6 hb6 h2w6 h26 i6 hl2 hb0
  go_wp2_with fail
  go_loopw [76] (fun i wr => ∃ k : Nat, k ≤ X.length ∧ i = .int .i64 k ∧ Inv w2.heap.size w2 A1 A2 A5 X.length c1 Y.length c2 l.length c5 wr) (fun i _ => X.length - (intOf i).toNat)
  case atStart => exact ⟨0, by omega, rfl, i7⟩
  case round =>
    obtain ⟨k, hk, rfl, hI⟩ := hrel
    by_cases hlt : k < X.length
    · obtain ⟨g1, u, hA, hg1, hc, hf⟩ := hI.x.at_ hlt
      have hu := u8_next u
      have hI2 := hI.set (j := k) (UInt8.ofNat (u.toNat + 1)) hA hI.x hg1
      subst hA
      have HI2 := Lib.hid hI2
      clear hI2 hI i7
      go_wp2_with fail
      go_roundw
      case rel => exact ⟨k + 1, by omega, by go_num, HI2.out⟩
      case measure => simp [intOf]; omega
    clear i7
    go_wp2_with fail
    go_loopw [90] (fun i wr => ∃ k : Nat, k ≤ Y.length ∧ i = .int .i64 k ∧ Inv w2.heap.size w2 A1 A2 A5 X.length c1 Y.length c2 l.length c5 wr) (fun i _ => Y.length - (intOf i).toNat)
    case atStart => exact ⟨0, by omega, rfl, hI⟩
    case round =>
      clear hI
      obtain ⟨k, hk, rfl, hI⟩ := hrel
      by_cases hlt : k < Y.length
      · obtain ⟨g1, u, hA, hg1, hc, hf⟩ := hI.y.at_ hlt
        have hu := u8_next u
        have hI2 := hI.set (j := k) (UInt8.ofNat (u.toNat + 1)) hA hI.y hg1
        subst hA
        have HI2 := Lib.hid hI2
        clear hI2 hI
        go_wp2_with fail
        go_roundw
        case rel => exact ⟨k + 1, by omega, by go_num, HI2.out⟩
        case measure => simp [intOf]; omega
      go_wp2_with fail
      go_loopw [104] (fun i wr => ∃ k : Nat, k ≤ l.length ∧ i = .int .i64 k ∧ Inv w2.heap.size w2 A1 A2 A5 X.length c1 Y.length c2 l.length c5 wr) (fun i _ => l.length - (intOf i).toNat)
      case atStart => exact ⟨0, by omega, rfl, hI⟩
      case round =>
        clear hI
        obtain ⟨k, hk, rfl, hI⟩ := hrel
        by_cases hlt : k < l.length
        · obtain ⟨a5, D, m, d, rfl, hc, hw⟩ := hI.z.at_ hlt
          have hmd : m ≤ d ∧ d ≤ maxLen := by obtain ⟨bs, q⟩ := hw; exact ownsRow_le q.2
          unfold maxLen at hmd
          go_wp2_with fail
          go_loopw [110] (fun i wz => ∃ j : Nat, j ≤ m ∧ i = .int .i64 j ∧ WrB wz w2.heap.size D m d ∧ Inv w2.heap.size w2 A1 A2 (some a5) X.length c1 Y.length c2 l.length c5 wz) (fun i _ => m - (intOf i).toNat)
          case atStart => exact ⟨0, by omega, rfl, hw, hI⟩
          case round =>
            clear hI hw hc
            obtain ⟨j, hj, rfl, hw, hI⟩ := hrel
            by_cases hjt : j < m
            · obtain ⟨g1, u, hA, hg1, hc, hf⟩ := hw.at_ hjt
              have hu := u8_next u
              have hI2 := hI.set (j := j) (UInt8.ofNat (u.toNat + 1)) hA hw hg1
              have hw2 := hw.set (j := j) (UInt8.ofNat (u.toNat + 1)) hA hw
              subst hA
              have HI2 := Lib.hid hI2
              have HW2 := Lib.hid hw2
              clear hI2 hI hw hw2
              go_wp2_with fail
              go_roundw
              case rel => exact ⟨j + 1, by omega, by go_num, HW2.out, HI2.out⟩
              case measure => simp [intOf]; omega
            go_wp2_with fail
            go_roundw
            case rel => exact ⟨k + 1, by omega, by go_num, hI⟩
            case measure => simp [intOf]; omega
        have hl8 := hl7.below hI.b hl7.lt
        have hb8 := hb7.below (hI.b.mono hs0)
        go_wp2_with fail
        refine (kept_any g _ _ _ b0 _ _ hl8 hb8 (by omega)).mono ?_
        rintro e w9 ⟨rfl, m9, rfl⟩
        go_wp2_with fail
        go_ret
        exact ⟨rfl, below_drewN (h12.trans (hI.b.mono hs0)) _⟩
set_option maxRecDepth 100000 in
theorem lifted (os : Os) (started : os.Started) (H : Type) (enc : TypeId × Value → H) :
    ReturnsInHanded {} Try.checked os 5 .any (Rows.frameGetsSpec.pre6 enc Try.prog Try.f5 Rows.frameGetsRow.domain false) (Rows.frameGetsSpec.post enc Try.prog Try.f5 false true false false) := by
  refine returnsInHanded_of_change (C := Try.checked) own started (by kernel_rfl) Try.func5
    (ChangeSpec.witness6 (enc := enc) (C := Try.checked) false ⟨#[], #[.slice none 0 0], []⟩ 8 (by kernel_rfl) (by kernel_rfl) (by kernel_rfl) (by kernel_rfl)) ?_
  intro W base args ds gs before hval0 hW hcnd _
  have hval : ∀ (j : Nat) t v, Try.f5.params[j]? = some t → args[j]? = some v → Value.okWide Try.prog W .any base t v := hval0
  have hW' := hW
  obtain ⟨p, q, hA0, hV, rfl, hfz, hnd⟩ := hW
  have hA : DataW.TrodAll enc Try.prog W 0 (fun _ => true) true Try.f5.params.toList args.toList ds p := hA0
  rw [Try.params5] at hA hval
  obtain ⟨v0, vs0, d0, ds0, p0, q0, hargs, rfl, rfl, h0, r0⟩ := trodAll_cons hA
  obtain ⟨rfl, rfl, rfl⟩ := trodAll_nil r0
  obtain rfl : args = #[v0] := by cases args; simp_all
  obtain ⟨rfl, rfl⟩ := trodVars_none hV
  have lt0 : ∀ x ∈ p0, x.block < W.heap.size := by obtain ⟨m, hm⟩ := h0; exact DataW.trod_lt m _ _ _ hm
  have k0 := h0
  obtain ⟨a0, n0, c0, b0, rfl, w0, l0, m0⟩ := open_bytesC (hval 0 22 v0 rfl rfl) h0
  clear hA0 hval0
  refine (walk a0 n0 c0 b0 W w0 l0 m0).mono fun e W' ⟨he, bel⟩ => ?_
  subst he
  exact ⟨_, rfl, _, _, _, [], _, [], hW', trodAll_mk1 (shut_bool Try.underlying4 _), (trodAll_cons_mk (Below.trod laidOut (by kernel_rfl) (of_decide_eq_true (by kernel_rfl)) k0 bel lt0) trodAll_mk0), rfl, bel.frame _, fun h => by cases h⟩

theorem proved : Rows.FrameGetsSaid :=
  OpenClaim.holds_of_wide 5 Try.f5 rfl rfl rfl rfl rfl rfl rfl ⟨rfl, rfl, rfl, rfl, rfl⟩ rfl rfl rfl rfl rfl (by kernel_rfl) Try.func5 (by kernel_rfl)
    (of_decide_eq_true (by kernel_rfl)) (by unfold Func.isWrapper; first | (rw [if_pos (by decide +kernel)]; kernel_rfl) | (rw [if_neg (by decide +kernel)]; exact ⟨rfl, rfl⟩))
    (fun os started H enc _ => lifted os started H enc)
#print axioms proved
end Go.Proofs.Ytbkcdnjpakicmaa.FrameGets

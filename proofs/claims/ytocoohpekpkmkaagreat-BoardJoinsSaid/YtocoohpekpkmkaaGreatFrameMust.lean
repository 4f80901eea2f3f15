/- The walks of package frame's must, caught, and of slices.Equal at bytes. -/
import Derived.Test.YtocoohpekpkmkaaGreatVintPut
import Derived.WideLaws
import Derived.Test.YtocoohpekpkmkaaGreatFramePut
/- The walks of package vint: New, and a reader's Int, Err, Left. -/
namespace Go.Proofs.YtocoohpekpkmkaaGreat
set_option linter.unusedVariables false
set_option linter.unusedSimpArgs false
open Go.RowKit

/-- A reader: block g holds its slice and its error; the bytes lie below it. -/
def Rdr (w : World) (g : Nat) (A : Option Addr) (n c : Nat) (bs : List UInt8) (e : Nat) : Prop :=
  w.heap[g]? = some (.cells #[.slice A n c, .int .i64 (e : Nat)] 143 (0, 0)) ∧ RdB w g A n bs ∧ n ≤ c ∧ c ≤ maxLen
section
variable {w w' : World} {g : Nat} {A : Option Addr} {n c : Nat} {bs : List UInt8} {e : Nat}
theorem Rdr.lt (h : Rdr w g A n c bs e) : g < w.heap.size := lt_of_block h.1
theorem Rdr.cell0 (h : Rdr w g A n c bs e) : w.cell? ⟨g, 0, none⟩ = some (.slice A n c) := by have := h.1; simp [World.cell?, this]
theorem Rdr.cell1 (h : Rdr w g A n c bs e) : w.cell? ⟨g, 1, none⟩ = some (.int .i64 (e : Nat)) := by have := h.1; simp [World.cell?, this]
theorem Rdr.free (h : Rdr w g A n c bs e) (i : Nat) : w.frozen? ⟨g, i, none⟩ = false := by have := h.1; simp [World.frozen?, this]
theorem Rdr.below (h : Rdr w g A n c bs e) (hb : Below (g + 1) w w') : Rdr w' g A n c bs e :=
  ⟨(hb.block g (by omega)).trans h.1, h.2.1.below (hb.mono (by omega)), h.2.2⟩
end
def IsNew (w : World) (bs : List UInt8) (e : Ending) (w' : World) : Prop :=
  ∃ A c g, e = .returned (.pointer (some ⟨g, 0, none⟩)) ∧ w.heap.size ≤ g ∧ Rdr w' g A bs.length c bs 0 ∧ Below w.heap.size w w'
theorem new_any (A : Option Addr) (n c : Nat) (bs : List UInt8) (B : Nat) (w : World) (hb : RdB w B A n bs) (hB : B ≤ w.heap.size) (hl : n ≤ 140737488355000) :
    Calls Tryz.prog 51 #[.slice A n c] w (IsNew w bs) := by
  obtain rfl := hb.1
  go_enter Tryz.func51, Tryz.ntmps51
  go_wp2_with (go_at_call 79; refine (clone_any _ _ _ _ _ _ hb hB (by omega)).mono ?_; rintro e w1 ⟨A1, n1, c1, rfl, ho, hbl⟩)
  have hn := ho.1
  subst hn
  go_ret
  refine ⟨A1, c1, w1.heap.size, rfl, hbl.size, ⟨?_, ?_, ?_⟩, hbl.alloc hbl.size _⟩
  · exact heap_alloc_new w1 _
  · exact (ho.rd.alloc (Nat.le_refl _) _)
  · rcases ho.2.2 with ⟨h, h0⟩ | ⟨g, cap, cur, h, _, _, h1, h2, _⟩
    · injection h with _ _ h; subst h; exact ⟨by omega, by unfold maxLen; omega⟩
    · injection h with _ _ h; subst h; exact ⟨h1, h2⟩
theorem err_any (g : Nat) (A : Option Addr) (n c : Nat) (bs : List UInt8) (e : Nat) (w : World) (h : Rdr w g A n c bs e) :
    Calls Tryz.prog 82 #[.pointer (some ⟨g, 0, none⟩)] w fun r w' => r = .returned (.int .i64 (e : Nat)) ∧ w = w' := by
  have h1 := h.cell1
  go_enter Tryz.func82, Tryz.ntmps82
  go_wp2_with fail
  go_ret
  exact ⟨rfl, rfl⟩
theorem left_any (g : Nat) (A : Option Addr) (n c : Nat) (bs : List UInt8) (e : Nat) (w : World) (h : Rdr w g A n c bs e) :
    Calls Tryz.prog 97 #[.pointer (some ⟨g, 0, none⟩)] w fun r w' => r = .returned (.int .i64 (n : Nat)) ∧ w = w' := by
  have h1 := h.cell0
  go_enter Tryz.func97, Tryz.ntmps97
  go_wp2_with fail
  go_ret
  exact ⟨rfl, rfl⟩
theorem err_nil (w : World) : Calls Tryz.prog 82 #[.pointer none] w fun r w' => r = .returned (.int .i64 1) ∧ w = w' := by
  go_enter Tryz.func82, Tryz.ntmps82
  go_wp2_with fail
  go_ret
  exact ⟨rfl, rfl⟩
/-- a fault, as a panic's value -/
abbrev fault (x : Int) : Value := .iface 167 (.agg #[.int .i64 x])
theorem pass_neg (k : Int) (g : Nat) (w : World) (hk : k < 0) :
    Calls Tryz.prog 108 #[.pointer (some ⟨g, 0, none⟩), .int .i64 k] w fun r w' => r = .panicked [{ v := fault 2, recovered := false }] ∧ w = w' := by
  have hd : decide (k < 0) = true := decide_eq_true (by omega)
  go_enter Tryz.func108, Tryz.ntmps108
  go_wp2
  exact ⟨rfl, rfl, rfl⟩
theorem pass_short (k : Nat) (g : Nat) (A : Option Addr) (n c : Nat) (bs : List UInt8) (e : Nat) (w : World) (hR : Rdr w g A n c bs e) (hk : n < k) :
    Calls Tryz.prog 108 #[.pointer (some ⟨g, 0, none⟩), .int .i64 k] w fun r w' => r = .panicked [{ v := fault 3, recovered := false }] ∧ w = w' := by
  have h1 := hR.cell0
  have hd : decide ((k : Int) < 0) = false := decide_eq_false (by omega)
  have hd1 : decide ((n : Int) < (k : Int)) = true := decide_eq_true (by omega)
  go_enter Tryz.func108, Tryz.ntmps108
  go_wp2
  exact ⟨rfl, rfl, rfl⟩
/-- The reader's slice with k bytes passed. -/
theorem Rdr.pass {w : World} {g : Nat} {A : Option Addr} {n c : Nat} {bs : List UInt8} {e : Nat} (h : Rdr w g A n c bs e) {k : Nat} (hk : k ≤ n) :
    (c = k → Rdr (w.setCell ⟨g, 0, none⟩ (.slice A (n - k) 0)) g A (n - k) 0 (bs.drop k) e) ∧
    (¬ c = k → Rdr (w.setCell ⟨g, 0, none⟩ (.slice (A.map fun x => x.add k) (n - k) (c - k))) g (A.map fun x => x.add k) (n - k) (c - k) (bs.drop k) e) := by
  obtain ⟨h1, h2, h3, h4⟩ := h
  have hh : ∀ u, (w.setCell ⟨g, 0, none⟩ u).heap[g]? = some (.cells #[u, .int .i64 (e : Nat)] 143 (0, 0)) := by
    intro u
    simp [World.setCell, Array.getElem?_modify, h1]
  refine ⟨fun hc => ⟨hh _, ⟨by rw [List.length_drop, h2.1], ?_⟩, by omega, Nat.zero_le _⟩, fun hc => ⟨hh _, ?_, by omega, by omega⟩⟩
  · have : bs.drop k = [] := List.drop_eq_nil_of_le (by have := h2.1; omega)
    rw [this]
    exact Rd.nil _ _ _
  · have := h2.drop k
    exact ⟨this.1, this.2.setCell (Nat.le_refl _) _⟩
def Passed (w : World) (g k : Nat) (A : Option Addr) (c : Nat) (bs : List UInt8) (e : Nat) (r : Ending) (w' : World) : Prop :=
  ∃ A' n' c' u, r = .returned (.slice A k c) ∧ w' = w.setCell ⟨g, 0, none⟩ u ∧ Rdr w' g A' n' c' (bs.drop k) e
theorem pass_ok (k : Nat) (g : Nat) (A : Option Addr) (n c : Nat) (bs : List UInt8) (e : Nat) (w : World) (hR : Rdr w g A n c bs e) (hk : k ≤ n) :
    Calls Tryz.prog 108 #[.pointer (some ⟨g, 0, none⟩), .int .i64 k] w (Passed w g k A c bs e) := by
  have h1 := hR.cell0
  have h2 := hR.free 0
  have hn := hR.2.2.1
  have hm := hR.2.2.2
  have hp := Lib.hid (hR.pass hk)
  unfold maxLen at hm
  have hd : decide ((k : Int) < 0) = false := decide_eq_false (by omega)
  have hd1 : decide ((n : Int) < (k : Int)) = false := decide_eq_false (by omega)
  by_cases hck : c = k
  · subst hck
    obtain rfl : n = c := by omega
    have hp1 := hp.out.1 rfl
    rw [Nat.sub_self] at hp1
    have HP := Lib.hid hp1
    clear hp hp1
    go_enter Tryz.func108, Tryz.ntmps108
    go_wp2
    go_ret
    exact ⟨_, _, _, _, rfl, rfl, HP.out⟩
  · go_enter Tryz.func108, Tryz.ntmps108
    go_wp2
    go_ret
    exact ⟨_, _, _, _, rfl, rfl, hp.out.2 hck⟩

theorem i64_andNot128 : ∀ x : Fin 256, bits .andNot .i64 (x.val : Int) 128 = ((x.val % 128 : Nat) : Int) := by decide +kernel
/-- what 'number' leaves: a number and the rest; or a panic -/
def Numbered (w : World) (g : Nat) (bs : List UInt8) (r : Ending) (w' : World) : Prop :=
  w.grownBy w' (some g) ∧ w.heap.size = w'.heap.size ∧
  match Vint.dec bs with
  | .ok (n, rest) => r = .returned (.int .i64 (n : Nat)) ∧ ∃ A' c', Rdr w' g A' rest.length c' rest 0
  | .error x => r = .panicked [{ v := fault (x : Nat), recovered := false }] ∧ ∃ A' n' c' rest, Rdr w' g A' n' c' rest 0
theorem i64_or_nat (a b : Nat) (ha : a < 9223372036854775808) (hb : b < 9223372036854775808) : bits .or .i64 (a : Int) (b : Int) = ((a ||| b : Nat) : Int) := by
  have hx : a ||| b < 2 ^ 63 := Nat.or_lt_two_pow (by omega) (by omega)
  have hn : ∀ x : Nat, x < 9223372036854775808 → (BitVec.ofInt 64 (x : Int)).toNat = x := fun x hx => by
    rw [BitVec.ofInt_natCast, BitVec.toNat_ofNat]; exact Nat.mod_eq_of_lt (by omega)
  show IntKind.i64.wrap ((BitVec.ofInt 64 (a : Int) ||| BitVec.ofInt 64 (b : Int)).toNat : Int) = _
  rw [BitVec.toNat_or, hn a ha, hn b hb, IntKind.wrap_i64]
  omega
theorem pow128 (k : Nat) : (128 : Nat) ^ k = 2 ^ (7 * k) := by rw [show (128 : Nat) = 2 ^ 7 from rfl, ← Nat.pow_mul]
theorem or_shift (acc x k : Nat) (hacc : acc < 128 ^ k) (hk : k < 6) (hx : x < 128) : bits .or .i64 (acc : Int) (wrap64 ((x : Int) * 2 ^ (7 * k))) = ((acc + x * 128 ^ k : Nat) : Int) := by
  have h5 : 128 ^ k ≤ 128 ^ 5 := Nat.pow_le_pow_right (by decide) (by omega)
  have hm : x * 128 ^ k ≤ 127 * 128 ^ 5 := Nat.mul_le_mul (by omega) h5
  have e5 : (128 : Nat) ^ 5 = 34359738368 := by decide
  rw [e5] at h5 hm
  have e1 : ((x : Int) * 2 ^ (7 * k)) = ((x * 128 ^ k : Nat) : Int) := by rw [pow128]; push_cast; rfl
  rw [e1, IntWalk.wrap64_in _ ⟨by omega, by omega⟩, i64_or_nat _ _ (by omega) (by omega)]
  have e2 := Nat.shiftLeft_add_eq_or_of_lt (by rw [← pow128]; exact hacc : acc < 2 ^ (7 * k)) x
  rw [Nat.shiftLeft_eq, ← pow128] at e2
  rw [Nat.or_comm, ← e2, Nat.add_comm]
theorem passed_one {w wr w1 : World} {g : Nat} {A' : Option Addr} {n' c' : Nat} {x : UInt8} {rest : List UInt8} {u : Value} (hr : Rdr wr g A' n' c' (x :: rest) 0) (hg : w.grownBy wr (some g)) (hs : w.heap.size = wr.heap.size)
    (hw1 : w1 = wr.setCell ⟨g, 0, none⟩ u) : ∃ a, A' = some a ∧ w1.cell? a = some (bv x) ∧ w.grownBy w1 (some g) ∧ w.heap.size = w1.heap.size := by
  obtain ⟨a, hA, hab, hc⟩ := (hr.2.1).at_ (k := 0) (by simp)
  refine ⟨a, hA, ?_, by rw [hw1]; exact only_set hg _, by rw [hw1, hs]; simp [World.setCell]⟩
  rw [hw1, World.cell?_setCell_other _ _ _ _ (fun e => by rw [← e] at hab; exact absurd hab (Nat.lt_irrefl _))]
  simpa [Addr.add] using hc
set_option maxRecDepth 100000 in
theorem number_any (g : Nat) (A : Option Addr) (n c : Nat) (bs : List UInt8) (w : World) (hR : Rdr w g A n c bs 0) :
    Calls Tryz.prog 100 #[.pointer (some ⟨g, 0, none⟩)] w (Numbered w g bs) := by
  go_enter Tryz.func100, Tryz.ntmps100
  go_wp2_with fail
  go_loopw [3, 6] (fun v i wr => ∃ (k acc : Nat) (A' : Option Addr) (n' c' : Nat) (rest : List UInt8), k ≤ 6 ∧ i = .int .i64 k ∧ v = .int .i64 acc ∧ acc < 128 ^ k ∧ Vint.decF (6 - k) k acc rest = Vint.dec bs ∧
      Rdr wr g A' n' c' rest 0 ∧ w.grownBy wr (some g) ∧ w.heap.size = wr.heap.size) (fun _ i _ => 6 - (intOf i).toNat)
  case atStart => exact ⟨0, 0, A, n, c, bs, by omega, rfl, rfl, by decide, rfl, hR, World.grownBy.refl w _, rfl⟩
  case round =>
    obtain ⟨k, acc, A', n', c', rest, hk, rfl, rfl, hacc, hdec, hr, hg, hsz⟩ := hrel
    have HD := Lib.hid hdec
    have HZ := Lib.hid hsz
    clear hdec hsz
    by_cases hk6 : k = 6
    · subst hk6
      go_wp2
      refine ⟨rfl, hg, HZ.out, ?_⟩
      rw [← HD.out]
      exact ⟨rfl, _, _, _, _, hr⟩
    · have hlt : k < 6 := by omega
      rcases rest with _ | ⟨x, rest⟩
      · have hn0 := hr.2.1.1
        have H0 := Lib.hid hn0
        clear hn0
        go_wp2_with fail
        refine (pass_short 1 _ _ _ _ _ _ _ hr (by rw [H0.out]; simp)).mono ?_
        rintro e w1 ⟨rfl, rfl⟩
        refine ⟨rfl, hg, HZ.out, ?_⟩
        rw [← HD.out]
        obtain ⟨m, hm⟩ : ∃ m, 6 - k = m + 1 := ⟨5 - k, by omega⟩
        rw [hm]
        exact ⟨rfl, _, _, _, _, hr⟩
      · have hn' := hr.2.1.1
        have hx := x.toNat_lt
        have ea := i64_andNot128 ⟨x.toNat, hx⟩
        simp only at ea
        obtain ⟨N, hN⟩ : ∃ N, N = acc + x.toNat % 128 * 128 ^ k := ⟨_, rfl⟩
        have eo := or_shift acc (x.toNat % 128) k hacc hlt (by omega)
        rw [← hN] at eo
        rw [show ((x.toNat % 128 : Nat) : Int) = (x.toNat : Int) % 128 from rfl] at eo
        have hNb : N < 128 ^ (k + 1) := by
          rw [hN, Nat.pow_succ]
          have : x.toNat % 128 * 128 ^ k ≤ 127 * 128 ^ k := Nat.mul_le_mul_right _ (by omega)
          omega
        have h6 : 128 ^ (k + 1) ≤ 128 ^ 6 := Nat.pow_le_pow_right (by decide) (by omega)
        have e6 : (128 : Nat) ^ 6 = 4398046511104 := by decide
        rw [e6] at h6
        have hNt : N < 4398046511104 := by omega
        clear h6 e6
        have HNN := Lib.hid hN
        clear hN
        obtain ⟨m, hm⟩ : ∃ m, 6 - k = m + 1 := ⟨5 - k, by omega⟩
        have hdr : List.drop 1 (x :: rest) = rest := rfl
        by_cases h128 : 128 ≤ x.toNat
        · go_wp2_with fail
          refine (pass_ok 1 _ _ _ _ _ _ _ hr (by rw [hn']; simp)).mono ?_
          rintro e w1 ⟨A2, n2, c2, u, rfl, hw1, hr2⟩
          rw [hdr] at hr2
          obtain ⟨a, hA, hc1, hg1, hs1⟩ := passed_one hr hg HZ.out hw1
          subst hA
          have HS := Lib.hid hs1
          have HM := Lib.hid hm
          clear hw1 hn' hdr hs1 hm
          go_wp2_with fail
          go_roundw
          case rel =>
            refine ⟨k + 1, N, _, _, _, _, by omega, by go_num, rfl, hNb, ?_, hr2, hg1, HS.out⟩
            rw [← HD.out, HM.out, show 6 - (k + 1) = m by have := HM.out; omega]
            conv => rhs; unfold Vint.decF
            rw [if_pos h128, HNN.out]
          case measure => simp [intOf]; omega
        · have hxm : x.toNat % 128 = x.toNat := Nat.mod_eq_of_lt (by omega)
          have hdec2 : Vint.dec bs = if Vint.top < N ∨ (x.toNat = 0 ∧ 0 < k) then .error 4 else .ok (N, rest) := by
            rw [← HD.out, hm]
            conv => lhs; unfold Vint.decF
            rw [if_neg h128, HNN.out, hxm]
          have HD2 := Lib.hid hdec2
          have hd8 : decide ((128 : Int) ≤ (x.toNat : Int)) = false := decide_eq_false (by omega)
          have HM := Lib.hid hm
          clear hdec2 hxm hm HD
          by_cases hb : 1099511627776 < N
          · have HB := Lib.hid (HD2.out.trans (if_pos (.inl hb)))
            have ht : decide ((1099511627776 : Int) < (N : Int)) = true := decide_eq_true (by omega)
            clear HD2
            go_wp2_with fail
            refine (pass_ok 1 _ _ _ _ _ _ _ hr (by rw [hn']; simp)).mono ?_
            rintro e w1 ⟨A2, n2, c2, u, rfl, hw1, hr2⟩
            rw [hdr] at hr2
            obtain ⟨a, hA, hc1, hg1, hs1⟩ := passed_one hr hg HZ.out hw1
            subst hA
            have HS := Lib.hid hs1
            clear hw1 hn' hdr hs1
            go_wp2
            refine ⟨rfl, hg1, HS.out, ?_⟩
            rw [HB.out]
            exact ⟨rfl, _, _, _, _, hr2⟩
          · have ht : decide ((1099511627776 : Int) < (N : Int)) = false := decide_eq_false (by omega)
            have HNT : ¬ Vint.top < N := hb
            by_cases hx0 : x.toNat = 0
            · have hxe : ((x.toNat : Int) == 0) = true := by rw [hx0]; rfl
              by_cases hk0 : k = 0
              · rw [if_neg (fun h => by rcases h with h | h <;> omega)] at HD2
                have hkd : decide (0 < k) = false := decide_eq_false (by omega)
                have hk00 := Lib.hid hk0
                clear hk0
                have hx00 := Lib.hid hx0
                clear hx0
                go_wp2_with fail
                refine (pass_ok 1 _ _ _ _ _ _ _ hr (by rw [hn']; simp)).mono ?_
                rintro e w1 ⟨A2, n2, c2, u, rfl, hw1, hr2⟩
                rw [hdr] at hr2
                obtain ⟨a, hA, hc1, hg1, hs1⟩ := passed_one hr hg HZ.out hw1
                subst hA
                have HS := Lib.hid hs1
                clear hw1 hn' hdr hs1
                go_wp2
                go_ret
                refine ⟨hg1, HS.out, ?_⟩
                rw [HD2.out]
                have := hr2.2.1.1
                subst this
                exact ⟨rfl, _, _, hr2⟩
              · have HB := Lib.hid (HD2.out.trans (if_pos (.inr ⟨hx0, by omega⟩)))
                have hkd : 0 < k := by omega
                have hx00 := Lib.hid hx0
                clear HD2 hx0
                go_wp2_with fail
                refine (pass_ok 1 _ _ _ _ _ _ _ hr (by rw [hn']; simp)).mono ?_
                rintro e w1 ⟨A2, n2, c2, u, rfl, hw1, hr2⟩
                rw [hdr] at hr2
                obtain ⟨a, hA, hc1, hg1, hs1⟩ := passed_one hr hg HZ.out hw1
                subst hA
                have HS := Lib.hid hs1
                clear hw1 hn' hdr hs1
                go_wp2
                refine ⟨rfl, hg1, HS.out, ?_⟩
                rw [HB.out]
                exact ⟨rfl, _, _, _, _, hr2⟩
            · have hxe : ((x.toNat : Int) == 0) = false := by rw [beq_eq_false_iff_ne]; omega
              rw [if_neg (fun h => by rcases h with h | h <;> omega)] at HD2
              go_wp2_with fail
              refine (pass_ok 1 _ _ _ _ _ _ _ hr (by rw [hn']; simp)).mono ?_
              rintro e w1 ⟨A2, n2, c2, u, rfl, hw1, hr2⟩
              rw [hdr] at hr2
              obtain ⟨a, hA, hc1, hg1, hs1⟩ := passed_one hr hg HZ.out hw1
              subst hA
              have HS := Lib.hid hs1
              clear hw1 hn' hdr hs1
              go_wp2
              go_ret
              refine ⟨hg1, HS.out, ?_⟩
              rw [HD2.out]
              have := hr2.2.1.1
              subst this
              exact ⟨rfl, _, _, hr2⟩
end Go.Proofs.YtocoohpekpkmkaaGreat

/- The walks of a reader's 'reading' (a panic is caught) and Int. -/
namespace Go.Proofs.YtocoohpekpkmkaaGreat
set_option linter.unusedVariables false
set_option linter.unusedSimpArgs false
open Go.RowKit

theorem frame20 (a b f : Value) : (#[a, b] ++ (Array.replicate 18 undef).setIfInBounds 3 f : Array Value) = #[a, b, undef, undef, undef, f, undef, undef, undef, undef, undef, undef, undef, undef, undef, undef, undef, undef, undef, undef] := by kernel_rfl
theorem assert_fault (x : Int) (w : World) : (Instr.typeAssert (fault x) 20 167 true).run Tryz.prog w = .ok (.tuple #[.agg #[.int .i64 x], .bool true]) w := by kernel_rfl
theorem caught_panic (g b0 b1 : Nat) (x : Int) (older : List PanicEntry) (A : Option Addr) (n c : Nat) (v1 v2 : Value) (w : World) (hq : w.cell? ⟨b1, 0, none⟩ = some (.pointer (some ⟨g, 0, none⟩))) (hp : w.cell? ⟨b0, 0, none⟩ = some (.slice A n c)) (h0 : w.cell? ⟨g, 0, none⟩ = some v1) (h1 : w.cell? ⟨g, 1, none⟩ = some v2)
    (hf : ∀ i, w.frozen? ⟨g, i, none⟩ = false) :
    CallsD Tryz.prog 107 #[.pointer (some ⟨b0, 0, none⟩), .pointer (some ⟨b1, 0, none⟩)] (.panicking ({ v := fault x, recovered := false } :: older)) w fun e u' w' =>
      e = .returned (.tuple #[]) ∧ u' = .panicking ({ v := fault x, recovered := true } :: older) ∧ w' = (((w.setCell ⟨g, 0, none⟩ (.slice A n c)).setCell ⟨g, 1, none⟩ (.int .i64 x)).alloc (.cells #[.int .i64 x] 167)).drew := by
  have hf0 := hf 0
  have hf1 := hf 1
  clear hf
  have ta := assert_fault x
  have lt0 := World.block_lt_of_cell? w _ h0
  have lt1 := World.block_lt_of_cell? w _ hq
  have lt2 := World.block_lt_of_cell? w _ hp
  refine callsD_of_wpS Tryz.func107 rfl fun c₀ cs hu => ?_
  apply wpS_seq
  apply wpS_region
  simp [wpOpsS, go_sem, recoverD, hu, Tryz.ntmps107, Exit.thenS]
  refine wpS_of_wp ?_
  rw [frame20]
  go_wp2_with fail
  go_region
  go_wp2_with fail
  simp [bodyPostS, results, Tryz.results107]
theorem caught_none (b0 b1 : Nat) (w : World) :
    CallsD Tryz.prog 107 #[.pointer (some ⟨b0, 0, none⟩), .pointer (some ⟨b1, 0, none⟩)] .returning w fun e u' w' => e = .returned (.tuple #[]) ∧ u' = .returning ∧ w' = w := by
  refine callsD_of_wpS Tryz.func107 rfl fun c₀ cs hu => ?_
  apply wpS_seq
  apply wpS_region
  simp [wpOpsS, go_sem, recoverD, hu, Tryz.ntmps107, Exit.thenS]
  refine wpS_of_wp ?_
  rw [frame20]
  go_wp2_with fail
  cases c₀
  simp_all [bodyPostS, results, Tryz.results107]

/-- The closure that Int hands to reading: a number. -/
theorem int1_ok (g b1 b2 m : Nat) (A : Option Addr) (n c : Nat) (bs rest : List UInt8) (v : Value) (w : World) (hR : Rdr w g A n c bs 0) (hd : Vint.dec bs = .ok (m, rest)) (h1 : w.cell? ⟨b1, 0, none⟩ = some (.pointer (some ⟨g, 0, none⟩))) (h2 : w.cell? ⟨b2, 0, none⟩ = some v) (hf : w.frozen? ⟨b2, 0, none⟩ = false) (hb : g ≠ b2) :
    Calls Tryz.prog 99 #[.pointer (some ⟨b1, 0, none⟩), .pointer (some ⟨b2, 0, none⟩)] w fun e w' => e = .returned (.tuple #[]) ∧
      ∃ w1 A' c', w.grownBy w1 (some g) ∧ w.heap.size = w1.heap.size ∧ Rdr w1 g A' rest.length c' rest 0 ∧ w' = w1.setCell ⟨b2, 0, none⟩ (.int .i64 m) := by
  have HD := Lib.hid hd
  clear hd
  go_enter Tryz.func99, Tryz.ntmps99
  go_wp2_with fail
  refine (number_any _ _ _ _ _ _ hR).mono ?_
  rintro e w1 ⟨hg, hs, hm⟩
  rw [HD.out] at hm
  obtain ⟨rfl, A', c', hR'⟩ := hm
  have e2 := hg.block b2 (World.block_lt_of_cell? w _ h2) (fun e => hb (by injection e with e; exact e.symm))
  have h2' : w1.cell? ⟨b2, 0, none⟩ = some v := (World.cell?_of_block (a := ⟨b2, 0, none⟩) e2).trans h2
  have hf' : w1.frozen? ⟨b2, 0, none⟩ = false := (World.frozen?_of_block (a := ⟨b2, 0, none⟩) e2).trans hf
  have HS := Lib.hid hs
  clear hs e2
  go_wp2_with fail
  go_end0
  exact ⟨rfl, w1, A', c', hg, HS.out, hR', rfl⟩
theorem int1_bad (g b1 b2 x : Nat) (A : Option Addr) (n c : Nat) (bs : List UInt8) (w : World) (hR : Rdr w g A n c bs 0) (hd : Vint.dec bs = .error x) (h1 : w.cell? ⟨b1, 0, none⟩ = some (.pointer (some ⟨g, 0, none⟩))) :
    Calls Tryz.prog 99 #[.pointer (some ⟨b1, 0, none⟩), .pointer (some ⟨b2, 0, none⟩)] w fun e w' => e = .panicked [{ v := fault (x : Nat), recovered := false }] ∧
      ∃ A' n' c' rest, w.grownBy w' (some g) ∧ w.heap.size = w'.heap.size ∧ Rdr w' g A' n' c' rest 0 := by
  have HD := Lib.hid hd
  clear hd
  go_enter Tryz.func99, Tryz.ntmps99
  go_wp2_with fail
  refine (number_any _ _ _ _ _ _ hR).mono ?_
  rintro e w1 ⟨hg, hs, hm⟩
  rw [HD.out] at hm
  obtain ⟨rfl, A', n', c', rest, hR'⟩ := hm
  have HS := Lib.hid hs
  clear hs
  go_wp2_with fail
  exact ⟨rfl, rfl, A', n', c', rest, hg, HS.out, hR'⟩

theorem reading_fail (g e : Nat) (A : Option Addr) (n c : Nat) (bs : List UInt8) (w : World) (hR : Rdr w g A n c bs e) (he : e ≠ 0) (f : Value) :
    Calls Tryz.prog 98 #[.pointer (some ⟨g, 0, none⟩), f] w fun r w' => r = .returned (.tuple #[]) ∧ Below w.heap.size w w' := by
  have h1 := hR.cell1
  have hlt := hR.lt
  have hne : ((e : Int) != 0) = true := by rw [bne_iff_ne]; omega
  go_enter_defers Tryz.func98, Tryz.ntmps98
  go_wp2_with fail
  exact ⟨_, results_none rfl _ _ _, rfl, (Below.refl _ _).alloc (Nat.le_refl _) _⟩
/-- the world in which reading calls what it was handed -/
def readW (w : World) (g : Nat) (A : Option Addr) (n c : Nat) : World := (w.alloc (.cells #[.pointer (some ⟨g, 0, none⟩)] 107)).alloc (.cells #[.slice A n c] 63)
/-- the world behind a panic that was caught -/
def backW (w : World) (g : Nat) (A : Option Addr) (n c : Nat) (x : Int) : World := (((w.setCell ⟨g, 0, none⟩ (.slice A n c)).setCell ⟨g, 1, none⟩ (.int .i64 x)).alloc (.cells #[.int .i64 x] 167)).drew
def ReadDone (g : Nat) (A : Option Addr) (n c : Nat) (R : Ending → World → Prop) (r : Ending) (w' : World) : Prop :=
  r = .returned (.tuple #[]) ∧ (R (.returned (.tuple #[])) w' ∨ ∃ x w1, R (.panicked [{ v := fault x, recovered := false }]) w1 ∧ w' = backW w1 g A n c x)
theorem reading_any (g k : Nat) (cap : Array Value) (A : Option Addr) (n c : Nat) (bs : List UInt8) (w : World) (hR : Rdr w g A n c bs 0) (R : Ending → World → Prop)
    (hk : ∀ args w, (callFunc k args).run Tryz.prog w = .ok (.enter k args) w)
    (hdo : Calls Tryz.prog k cap (readW w g A n c) R)
    (hend : ∀ e w1, R e w1 → e = .returned (.tuple #[]) ∨ ∃ x A' n' c' rest, e = .panicked [{ v := fault x, recovered := false }] ∧ (readW w g A n c).grownBy w1 (some g) ∧ Rdr w1 g A' n' c' rest 0) :
    Calls Tryz.prog 98 #[.pointer (some ⟨g, 0, none⟩), .func (.func k) #[] cap] w (ReadDone g A n c R) := by
  have hc0 := hR.cell0
  have hc1 := hR.cell1
  have hlt := hR.lt
  have HD := Lib.hid hdo
  have HE := Lib.hid hend
  clear hdo hend
  have hmf : ∀ (fn : Fn) (first cap : Array Value) (w : World), (Instr.makeFunc fn first cap).run Tryz.prog w = .ok (.func fn first cap) w := fun _ _ _ _ => rfl
  go_enter_defers Tryz.func98, Tryz.ntmps98
  go_wp2_with fail
  refine (show Calls Tryz.prog k cap (readW w g A n c) R from HD.out).mono ?_
  intro e w1 hr
  rcases HE.out _ _ hr with rfl | ⟨x, A', n', c', rest, rfl, hg, hR1⟩
  · have HR := Lib.hid hr
    clear hr
    go_wp2_with fail
    refine leaves_cons (f := 107) (args := #[.pointer (some ⟨w.heap.size + 1, 0, none⟩), .pointer (some ⟨w.heap.size, 0, none⟩)]) (by simp) (by simp [go_sem]) ?_
    refine (caught_none _ _ _).mono ?_
    rintro e u' w'' ⟨rfl, rfl, rfl⟩
    exact ⟨_, results_none rfl _ _ _, rfl, .inl HR.out⟩
  · have HR := Lib.hid hr
    clear hr
    go_wp2_with fail
    refine leaves_cons (f := 107) (args := #[.pointer (some ⟨w.heap.size + 1, 0, none⟩), .pointer (some ⟨w.heap.size, 0, none⟩)]) (by simp) (by simp [go_sem]) ?_
    have z1 : (readW w g A n c).heap.size = w.heap.size + 2 := by simp [readW]
    have z2 : (readW w g A n c).cell? ⟨w.heap.size, 0, none⟩ = some (.pointer (some ⟨g, 0, none⟩)) := by simp [readW, go_sem]
    have z3 : (readW w g A n c).cell? ⟨w.heap.size + 1, 0, none⟩ = some (.slice A n c) := by simp [readW, go_sem]
    have b1 := hg.block w.heap.size (by omega) (fun e => by injection e; omega)
    have b2 := hg.block (w.heap.size + 1) (by omega) (fun e => by injection e; omega)
    refine (caught_panic g _ _ x [] A n c _ _ _ ((World.cell?_of_block (a := ⟨w.heap.size, 0, none⟩) b1).trans z2) ((World.cell?_of_block (a := ⟨w.heap.size + 1, 0, none⟩) b2).trans z3) hR1.cell0 hR1.cell1 hR1.free).mono ?_
    rintro e u' w'' ⟨rfl, rfl, rfl⟩
    exact ⟨_, results_none rfl _ _ _, rfl, .inr ⟨x, w1, HR.out, rfl⟩⟩

theorem readW_below (w : World) (g : Nat) (A : Option Addr) (n c : Nat) : Below w.heap.size w (readW w g A n c) := ((Below.refl _ _).alloc (Nat.le_refl _) _).alloc (by simp) _
theorem backW_only {a w : World} {g : Nat} (h : a.grownBy w (some g)) (A : Option Addr) (n c : Nat) (x : Int) : a.grownBy (backW w g A n c x) (some g) := only_drew (only_alloc (only_set (only_set h _) _) _)
theorem backW_blk {w : World} {g b : Nat} {t : TypeId} {cs : Array Value} (h : Blk w b t cs) (hne : b ≠ g) (A : Option Addr) (n c : Nat) (x : Int) : Blk (backW w g A n c x) b t cs :=
  ((h.far (p := ⟨g, 0, none⟩) hne _).far (p := ⟨g, 1, none⟩) hne _).alloc _
theorem backW_rdr {w : World} {g n c n' c' : Nat} {A A' : Option Addr} {bs rest : List UInt8} (h : Rdr w g A' n' c' rest 0) (hb : RdB w g A n bs) (hn : n ≤ c) (hc : c ≤ maxLen) (x : Nat) : Rdr (backW w g A n c x) g A n c bs x := by
  have h0 : Blk w g 143 #[.slice A' n' c', .int .i64 (0 : Nat)] := h.1
  have h1 := (((h0.set_ 0 (.slice A n c)).set_ 1 (.int .i64 x)).alloc (.cells #[.int .i64 x] 167)).drew
  refine ⟨h1, ⟨hb.1, ?_⟩, hn, hc⟩
  exact ((hb.2.setCell (p := ⟨g, 0, none⟩) (Nat.le_refl _) _).setCell (p := ⟨g, 1, none⟩) (Nat.le_refl _) _).alloc (by have := h.lt; simp [World.setCell]; omega) _
theorem Rdr.only {w w' : World} {g : Nat} {A : Option Addr} {n : Nat} {bs : List UInt8} (hb : RdB w g A n bs) (hg : w.grownBy w' (some g)) (h : g < w.heap.size) : RdB w' g A n bs :=
  ⟨hb.1, hb.2.keep fun p hp => World.cell?_of_block (hg.block p.block (by omega) (fun e => by injection e; omega))⟩
/-- Another reader's block may turn. -/
theorem Rdr.far {w w' : World} {g h : Nat} {A A' : Option Addr} {n c n' c' : Nat} {bs bs' : List UInt8} {e e' : Nat} (hR : Rdr w g A n c bs e) (hH : Rdr w h A' n' c' bs' e') (hne : g ≠ h) (hg : w.grownBy w' (some h)) : Rdr w' g A n c bs e := by
  have hb : Blk w h 143 #[.slice A' n' c', .int .i64 (e' : Nat)] := hH.1
  refine ⟨(hg.block g hR.lt (fun e => hne (by injection e))).trans hR.1, ⟨hR.2.1.1, fun j u hu => ?_⟩, hR.2.2⟩
  obtain ⟨a, ha, hab, hc⟩ := hR.2.1.2 j u hu
  have hlt := World.block_lt_of_cell? w _ hc
  refine ⟨a, ha, hab, (World.cell?_of_block (hg.block _ hlt (fun e => ?_))).trans hc⟩
  have e1 : (a.add j).block = h := by injection e
  obtain ⟨x, hx⟩ : ∃ x, u = bv x := by
    have hj := List.mem_of_getElem? hu
    obtain ⟨x, _, rfl⟩ := List.mem_map.1 hj
    exact ⟨x, rfl⟩
  subst hx
  have h1 : w.heap[(a.add j).block]? = some (.cells #[.slice A' n' c', .int .i64 (e' : Nat)] 143 (0, 0)) := by rw [e1]; exact hb
  unfold World.cell? at hc
  rw [h1] at hc
  simp only at hc
  split at hc
  · cases hc
  · generalize (a.add j).off = q at hc
    match q, hc with
    | 0, hc => simp at hc
    | 1, hc => simp at hc
    | q + 2, hc => simp at hc
/-- A reader's step: Int. -/
def IntDone (w : World) (g : Nat) (bs : List UInt8) (e : Nat) (r : Ending) (w' : World) : Prop :=
  r = .returned (.int .i64 ((Vint.intM bs e).1 : Nat)) ∧ w.grownBy w' (some g) ∧ ∃ A' c', Rdr w' g A' (Vint.intM bs e).2.1.length c' (Vint.intM bs e).2.1 (Vint.intM bs e).2.2
/-- what Int's last statements leave: the result's own variable is read and stored again -/
theorem int_tail {w w2 : World} {g m : Nat} {A' : Option Addr} {n' c' : Nat} {bs' : List UInt8} {e' : Nat} (hlt : g < w.heap.size) (hr : Rdr w2 g A' n' c' bs' e') (hg : w.grownBy w2 (some g)) :
    w.grownBy (w2.setCell ⟨w.heap.size + 1, 0, none⟩ (.int .i64 m)) (some g) ∧ Rdr (w2.setCell ⟨w.heap.size + 1, 0, none⟩ (.int .i64 m)) g A' n' c' bs' e' :=
  ⟨only_new hg (by show _ ≤ w.heap.size + 1; omega) _, hr.below ((Below.refl _ _).setCell (by show _ ≤ w.heap.size + 1; omega) _)⟩
theorem int_any (g : Nat) (A : Option Addr) (n c : Nat) (bs : List UInt8) (e : Nat) (w : World) (hR : Rdr w g A n c bs e) :
    Calls Tryz.prog 81 #[.pointer (some ⟨g, 0, none⟩)] w (IntDone w g bs e) := by
  obtain rfl := hR.2.1.1
  have hlt := hR.lt
  have hmf : ∀ (fn : Fn) (first cap : Array Value) (w : World), (Instr.makeFunc fn first cap).run Tryz.prog w = .ok (.func fn first cap) w := fun _ _ _ _ => rfl
  have hck : ∀ args w, (callFunc 99 args).run Tryz.prog w = .ok (.enter 99 args) w := by
    intro args w
    simp [go_sem]
  obtain ⟨W, hW⟩ : ∃ W, W = (w.alloc (.cells #[.pointer (some ⟨g, 0, none⟩)] 107)).alloc (.cells #[.int .i64 0] 3) := ⟨_, rfl⟩
  have hBW : Below w.heap.size w W := by rw [hW]; exact ((Below.refl _ _).alloc (Nat.le_refl _) _).alloc (by simp) _
  have hRW : Rdr W g A bs.length c bs e := hR.below (hBW.mono (by omega))
  have q1 : Blk W w.heap.size 107 #[.pointer (some ⟨g, 0, none⟩)] := by rw [hW]; exact (Blk.new w _ _).alloc _
  have q2 : Blk W (w.heap.size + 1) 3 #[.int .i64 0] := by rw [hW]; have := Blk.new (w.alloc (.cells #[.pointer (some ⟨g, 0, none⟩)] 107)) 3 #[.int .i64 0]; simpa using this
  have q4 : W.heap.size = w.heap.size + 2 := by rw [hW]; simp
  have hGW : w.grownBy W (some g) := only_of_below hBW _
  have HW := Lib.hid hW
  have Q4 := Lib.hid q4
  clear hW q4
  by_cases he : e = 0
  · subst he
    have y1 := (readW_below W g A bs.length c)
    have y2 := hRW.below (y1.mono (by have := Q4.out; omega))
    have y3 := q1.below y1 q1.lt
    have y4 := q2.below y1 q2.lt
    have y6 : w.grownBy (readW W g A bs.length c) (some g) := only_of_below (hBW.trans (y1.mono (by have := Q4.out; omega))) _
    have hne : some g ≠ some (w.heap.size + 1) := fun e => by injection e; omega
    rcases hd : Vint.dec bs with x | ⟨m, rest⟩
    · have hI := Vint.intM_bad hd
      have HI := Lib.hid hI
      have HD := Lib.hid hd
      clear hI hd
      go_enter Tryz.func81, Tryz.ntmps81
      go_wp2_with fail
      rw [← HW.out]
      refine (reading_any g _ _ A _ c bs W hRW _ hck (int1_bad g _ _ x A _ c bs _ y2 HD.out (y3.cell 0)) ?_).mono ?_
      · rintro e' w1 ⟨rfl, A', n', c', rest, z1, z2, z3⟩
        exact .inr ⟨_, A', n', c', rest, rfl, z1, z3⟩
      rintro e' w2 ⟨rfl, hr⟩
      rcases hr with ⟨h, _⟩ | ⟨x', w1, ⟨hx, A', n', c', rest, z1, z2, z3⟩, rfl⟩
      · cases h
      · obtain rfl : x' = x := by injection hx with h; injection h with h; injection h with h; injection h with _ h; injection h with h; injection h with h; injection h with h; injection h
        have c1 := (backW_blk (y4.grown z1 hne) (fun e => hne (by rw [e])) A bs.length c x)
        have r2 : Rdr (backW w1 g A bs.length c x) g A bs.length c bs x := backW_rdr z3 (Rdr.only y2.2.1 z1 y2.lt) hR.2.2.1 hR.2.2.2 x
        have g2 := backW_only (y6.trans z1) A bs.length c x
        generalize backW w1 g A bs.length c x = w2 at *
        have c2 := c1.cell 0
        have c3 := c1.free 0
        have HT := Lib.hid (int_tail (m := 0) hlt r2 g2)
        go_wp2_with fail
        refine bodyPost_ret (v := .int .i64 0) (by simp [results, Tryz.results81, go_sem, c2]) rfl ?_
        unfold IntDone
        rw [HI.out]
        exact ⟨rfl, HT.out.1, A, c, HT.out.2⟩
    · have hI := Vint.intM_ok hd
      have HI := Lib.hid hI
      have HD := Lib.hid hd
      clear hI hd
      go_enter Tryz.func81, Tryz.ntmps81
      go_wp2_with fail
      rw [← HW.out]
      refine (reading_any g _ _ A _ c bs W hRW _ hck (int1_ok g _ _ m A _ c bs rest _ _ y2 HD.out (y3.cell 0) (y4.cell 0) (y4.free 0) (fun e => hne (by rw [e]))) ?_).mono ?_
      · rintro e' w1 ⟨rfl, h⟩
        exact .inl rfl
      rintro e' w2 ⟨rfl, hr⟩
      rcases hr with ⟨_, w1, A', c', z1, z2, z3, rfl⟩ | ⟨x', w1, ⟨hx, _⟩, rfl⟩
      · have c1 := (y4.grown z1 hne).set_ 0 (.int .i64 m)
        have ht := int_tail (m := m) hlt z3 (y6.trans z1)
        obtain ⟨t1, t2⟩ := ht
        generalize w1.setCell ⟨w.heap.size + 1, 0, none⟩ (.int .i64 m) = w2 at *
        have c2 := c1.cell 0
        have c3 := c1.free 0
        have HT := Lib.hid (int_tail (m := m) hlt t2 t1)
        go_wp2_with fail
        refine bodyPost_ret (v := .int .i64 m) (by simp [results, Tryz.results81, go_sem, c2]) rfl ?_
        unfold IntDone
        rw [HI.out]
        exact ⟨rfl, HT.out.1, A', c', HT.out.2⟩
      · cases hx
  · have hI := Vint.intM_fail (l := bs) he
    have HI := Lib.hid hI
    clear hI
    go_enter Tryz.func81, Tryz.ntmps81
    go_wp2_with fail
    rw [← HW.out]
    refine (reading_fail g e A _ c bs W hRW he _).mono ?_
    rintro e' w2 ⟨rfl, hb2⟩
    have c1 := q2.below hb2 q2.lt
    have r2 := hRW.below (hb2.mono (by have := Q4.out; omega))
    have g2 : w.grownBy w2 (some g) := only_of_below (hBW.trans (hb2.mono (by have := Q4.out; omega))) _
    have c2 := c1.cell 0
    have c3 := c1.free 0
    have HT := Lib.hid (int_tail (m := 0) hlt r2 g2)
    go_wp2_with fail
    refine bodyPost_ret (v := .int .i64 0) (by simp [results, Tryz.results81, go_sem, c2]) rfl ?_
    unfold IntDone
    rw [HI.out]
    exact ⟨rfl, HT.out.1, A, c, HT.out.2⟩
end Go.Proofs.YtocoohpekpkmkaaGreat

namespace Go.Proofs.YtocoohpekpkmkaaGreat
set_option linter.unusedVariables false
set_option linter.unusedSimpArgs false
set_option maxRecDepth 100000
open Go.RowKit
namespace Frame
/-- a fault, as a panic's value -/
abbrev flt (x : Int) : Value := .iface 159 (.agg #[.int .i64 x])
theorem must_ok (x : Int) (w : World) :
    Calls Tryz.prog 96 #[.bool true, .int .i64 x] w fun e w' => e = .returned (.tuple #[]) ∧ w = w' := by
  go_enter Tryz.func96, Tryz.ntmps96
  go_wp2_with fail
  go_end0
  exact ⟨rfl, rfl⟩
theorem must_bad (x : Int) (w : World) :
    Calls Tryz.prog 96 #[.bool false, .int .i64 x] w fun e w' => e = .panicked [{ v := flt x, recovered := false }] ∧ w = w' := by
  go_enter Tryz.func96, Tryz.ntmps96
  go_wp2_with fail
  exact ⟨rfl, rfl, rfl⟩
theorem must_yes {b : Bool} (hb : b = true) (x : Int) (w : World) : Calls Tryz.prog 96 #[.bool b, .int .i64 x] w fun e w' => e = .returned (.tuple #[]) ∧ w = w' := hb ▸ must_ok x w
theorem must_no {b : Bool} (hb : b = false) (x : Int) (w : World) : Calls Tryz.prog 96 #[.bool b, .int .i64 x] w fun e w' => e = .panicked [{ v := flt x, recovered := false }] ∧ w = w' := hb ▸ must_bad x w
theorem drewN2 (w : World) (a b : Nat) : (w.drewN a).drewN b = w.drewN (a + b) := by simp [World.drewN, Nat.add_assoc]
theorem equal_any (A1 A2 : Option Addr) (n1 c1 n2 c2 : Nat) (xs ys : List UInt8) (B1 B2 : Nat) (w : World) (h1 : RdB w B1 A1 n1 xs) (h2 : RdB w B2 A2 n2 ys) (hl : n1 ≤ 9223372036854775807) (hne : n1 = n2) :
    Calls Tryz.prog 57 #[.slice A1 n1 c1, .slice A2 n2 c2] w fun e w' => e = .returned (.bool (decide (xs = ys))) ∧ ∃ m, w' = w.drewN m := by
  obtain rfl := h1.1
  obtain hn := h2.1
  subst hne
  go_enter Tryz.func57, Tryz.ntmps57
  go_wp2_with fail
  go_loopw [13] (fun i wr => ∃ k m : Nat, k ≤ xs.length ∧ i = .int .i64 k ∧ wr = w.drewN m ∧ xs.take k = ys.take k) (fun i _ => xs.length - (intOf i).toNat)
  case atStart => exact ⟨0, 0, by omega, rfl, rfl, rfl⟩
  case round =>
    obtain ⟨k, m, hk, rfl, rfl, hp⟩ := hrel
    have HP := Lib.hid hp
    clear hp
    by_cases hlt : k < xs.length
    · obtain ⟨a1, rfl, _, hc1⟩ := h1.at_ hlt
      obtain ⟨a2, rfl, _, hc2⟩ := h2.at_ (show k < ys.length by omega)
      have HN := Lib.hid hn
      have hlt2 : k < ys.length := by omega
      obtain ⟨x, hx⟩ : ∃ x, x = xs[k] := ⟨_, rfl⟩
      obtain ⟨y, hy⟩ : ∃ y, y = ys[k] := ⟨_, rfl⟩
      rw [← hx] at hc1
      rw [← hy] at hc2
      have HX := Lib.hid hx
      have HY := Lib.hid hy
      clear hx hy hn
      by_cases hxy : x = y
      · have hq : ((x.toNat : Int) != (y.toNat : Int)) = false := by simp [hxy]
        go_wp2_with fail
        go_quiet (fail)
        go_wp2_with fail
        go_roundw
        case rel => exact ⟨k + 1, _, by omega, by go_num, rfl, by rw [take_snoc xs hlt, take_snoc ys hlt2, HP.out, ← HX.out, ← HY.out, hxy]⟩
        case measure => simp [intOf]; omega
      · have hq : ((x.toNat : Int) != (y.toNat : Int)) = true := by
          rw [bne_iff_ne]
          intro e
          exact hxy (UInt8.toNat_inj.1 (by omega))
        have hd : ¬ xs = ys := by
          intro e
          apply hxy
          rw [HX.out, HY.out]
          simp only [e]
        have HD := Lib.hid hd
        clear hd hxy
        go_wp2_with fail
        go_quiet (fail)
        go_wp2_with fail
        go_ret
        exact ⟨by rw [decide_eq_false HD.out]; rfl, _, drewN2 _ _ _⟩
    · have e : xs = ys := by
        have := HP.out
        rwa [List.take_of_length_le (by omega), List.take_of_length_le (by omega)] at this
      have HE := Lib.hid e
      clear e
      go_wp2_with fail
      go_ret
      exact ⟨by rw [decide_eq_true HE.out]; rfl, _, rfl⟩
theorem frame15 (a f : Value) : (#[a] ++ (Array.replicate 14 undef).setIfInBounds 4 f : Array Value) = #[a, undef, undef, undef, undef, f, undef, undef, undef, undef, undef, undef, undef, undef, undef] := by kernel_rfl
theorem assert_flt (x : Int) (w : World) : (Instr.typeAssert (flt x) 20 159 true).run Tryz.prog w = .ok (.tuple #[.agg #[.int .i64 x], .bool true]) w := by kernel_rfl
theorem caught_panic (g : Nat) (x : Int) (older : List PanicEntry) (v : Value) (w : World) (h0 : w.cell? ⟨g, 0, none⟩ = some v) (hf : w.frozen? ⟨g, 0, none⟩ = false) :
    CallsD Tryz.prog 77 #[.pointer (some ⟨g, 0, none⟩)] (.panicking ({ v := flt x, recovered := false } :: older)) w fun e u' w' =>
      e = .returned (.tuple #[]) ∧ u' = .panicking ({ v := flt x, recovered := true } :: older) ∧ w' = (w.alloc (.cells #[.int .i64 x] 159)).setCell ⟨g, 0, none⟩ (.int .i64 x) := by
  have ta := assert_flt x
  have lt0 := World.block_lt_of_cell? w _ h0
  refine callsD_of_wpS Tryz.func77 rfl fun c₀ cs hu => ?_
  apply wpS_seq
  apply wpS_region
  simp [wpOpsS, go_sem, recoverD, hu, Tryz.ntmps77, Exit.thenS]
  refine wpS_of_wp ?_
  rw [frame15]
  go_wp2_with fail
  simp [bodyPostS, results, Tryz.results77]
theorem caught_none (g : Nat) (w : World) :
    CallsD Tryz.prog 77 #[.pointer (some ⟨g, 0, none⟩)] .returning w fun e u' w' => e = .returned (.tuple #[]) ∧ u' = .returning ∧ w' = w := by
  refine callsD_of_wpS Tryz.func77 rfl fun c₀ cs hu => ?_
  apply wpS_seq
  apply wpS_region
  simp [wpOpsS, go_sem, recoverD, hu, Tryz.ntmps77, Exit.thenS]
  refine wpS_of_wp ?_
  rw [frame15]
  go_wp2_with fail
  cases c₀
  simp_all [bodyPostS, results, Tryz.results77]
end Frame
end Go.Proofs.YtocoohpekpkmkaaGreat

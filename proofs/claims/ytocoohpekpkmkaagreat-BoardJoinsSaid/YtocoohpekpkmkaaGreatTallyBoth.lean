/- The walks of tally: both, Join, More, Within. -/
import Derived.Test.YtocoohpekpkmkaaGreatVintPut
import Derived.Test.YtocoohpekpkmkaaGreatTallyWalks
import Derived.Test.YtocoohpekpkmkaaGreatWf
/- The walks of package vint: New, and a reader's Int, Err, Left. -/
namespace Go.Proofs.YtocoohpekpkmkaaGreat
set_option linter.unusedVariables false
set_option linter.unusedSimpArgs false
open Go.RowKit

/-- A reader: block g holds its slice and its error; the bytes lie below it. -/
def Rdr (w : World) (g : Nat) (A : Option Addr) (n c : Nat) (bs : List UInt8) (e : Nat) : Prop :=
  w.heap[g]? = some (.cells #[.slice A n c, .int .i64 (e : Nat)] 143 (0, 0)) ∧ RdB w g A n bs ∧ n ≤ c ∧ c ≤ maxLen
section
variable {w w' : World} {g : Nat} {A : Option Addr} {n c : Nat} {bs : List UInt8} {e : Nat}
theorem Rdr.lt (h : Rdr w g A n c bs e) : g < w.heap.size := lt_of_block h.1
theorem Rdr.cell0 (h : Rdr w g A n c bs e) : w.cell? ⟨g, 0, none⟩ = some (.slice A n c) := by have := h.1; simp [World.cell?, this]
theorem Rdr.cell1 (h : Rdr w g A n c bs e) : w.cell? ⟨g, 1, none⟩ = some (.int .i64 (e : Nat)) := by have := h.1; simp [World.cell?, this]
theorem Rdr.free (h : Rdr w g A n c bs e) (i : Nat) : w.frozen? ⟨g, i, none⟩ = false := by have := h.1; simp [World.frozen?, this]
theorem Rdr.below (h : Rdr w g A n c bs e) (hb : Below (g + 1) w w') : Rdr w' g A n c bs e :=
  ⟨(hb.block g (by omega)).trans h.1, h.2.1.below (hb.mono (by omega)), h.2.2⟩
end
def IsNew (w : World) (bs : List UInt8) (e : Ending) (w' : World) : Prop :=
  ∃ A c g, e = .returned (.pointer (some ⟨g, 0, none⟩)) ∧ w.heap.size ≤ g ∧ Rdr w' g A bs.length c bs 0 ∧ Below w.heap.size w w'
theorem new_any (A : Option Addr) (n c : Nat) (bs : List UInt8) (B : Nat) (w : World) (hb : RdB w B A n bs) (hB : B ≤ w.heap.size) (hl : n ≤ 140737488355000) :
    Calls Tryz.prog 51 #[.slice A n c] w (IsNew w bs) := by
  obtain rfl := hb.1
  go_enter Tryz.func51, Tryz.ntmps51
  go_wp2_with (go_at_call 79; refine (clone_any _ _ _ _ _ _ hb hB (by omega)).mono ?_; rintro e w1 ⟨A1, n1, c1, rfl, ho, hbl⟩)
  have hn := ho.1
  subst hn
  go_ret
  refine ⟨A1, c1, w1.heap.size, rfl, hbl.size, ⟨?_, ?_, ?_⟩, hbl.alloc hbl.size _⟩
  · exact heap_alloc_new w1 _
  · exact (ho.rd.alloc (Nat.le_refl _) _)
  · rcases ho.2.2 with ⟨h, h0⟩ | ⟨g, cap, cur, h, _, _, h1, h2, _⟩
    · injection h with _ _ h; subst h; exact ⟨by omega, by unfold maxLen; omega⟩
    · injection h with _ _ h; subst h; exact ⟨h1, h2⟩
theorem err_any (g : Nat) (A : Option Addr) (n c : Nat) (bs : List UInt8) (e : Nat) (w : World) (h : Rdr w g A n c bs e) :
    Calls Tryz.prog 82 #[.pointer (some ⟨g, 0, none⟩)] w fun r w' => r = .returned (.int .i64 (e : Nat)) ∧ w = w' := by
  have h1 := h.cell1
  go_enter Tryz.func82, Tryz.ntmps82
  go_wp2_with fail
  go_ret
  exact ⟨rfl, rfl⟩
theorem left_any (g : Nat) (A : Option Addr) (n c : Nat) (bs : List UInt8) (e : Nat) (w : World) (h : Rdr w g A n c bs e) :
    Calls Tryz.prog 97 #[.pointer (some ⟨g, 0, none⟩)] w fun r w' => r = .returned (.int .i64 (n : Nat)) ∧ w = w' := by
  have h1 := h.cell0
  go_enter Tryz.func97, Tryz.ntmps97
  go_wp2_with fail
  go_ret
  exact ⟨rfl, rfl⟩
theorem err_nil (w : World) : Calls Tryz.prog 82 #[.pointer none] w fun r w' => r = .returned (.int .i64 1) ∧ w = w' := by
  go_enter Tryz.func82, Tryz.ntmps82
  go_wp2_with fail
  go_ret
  exact ⟨rfl, rfl⟩
/-- a fault, as a panic's value -/
abbrev fault (x : Int) : Value := .iface 167 (.agg #[.int .i64 x])
theorem pass_neg (k : Int) (g : Nat) (w : World) (hk : k < 0) :
    Calls Tryz.prog 108 #[.pointer (some ⟨g, 0, none⟩), .int .i64 k] w fun r w' => r = .panicked [{ v := fault 2, recovered := false }] ∧ w = w' := by
  have hd : decide (k < 0) = true := decide_eq_true (by omega)
  go_enter Tryz.func108, Tryz.ntmps108
  go_wp2
  exact ⟨rfl, rfl, rfl⟩
theorem pass_short (k : Nat) (g : Nat) (A : Option Addr) (n c : Nat) (bs : List UInt8) (e : Nat) (w : World) (hR : Rdr w g A n c bs e) (hk : n < k) :
    Calls Tryz.prog 108 #[.pointer (some ⟨g, 0, none⟩), .int .i64 k] w fun r w' => r = .panicked [{ v := fault 3, recovered := false }] ∧ w = w' := by
  have h1 := hR.cell0
  have hd : decide ((k : Int) < 0) = false := decide_eq_false (by omega)
  have hd1 : decide ((n : Int) < (k : Int)) = true := decide_eq_true (by omega)
  go_enter Tryz.func108, Tryz.ntmps108
  go_wp2
  exact ⟨rfl, rfl, rfl⟩
/-- The reader's slice with k bytes passed. -/
theorem Rdr.pass {w : World} {g : Nat} {A : Option Addr} {n c : Nat} {bs : List UInt8} {e : Nat} (h : Rdr w g A n c bs e) {k : Nat} (hk : k ≤ n) :
    (c = k → Rdr (w.setCell ⟨g, 0, none⟩ (.slice A (n - k) 0)) g A (n - k) 0 (bs.drop k) e) ∧
    (¬ c = k → Rdr (w.setCell ⟨g, 0, none⟩ (.slice (A.map fun x => x.add k) (n - k) (c - k))) g (A.map fun x => x.add k) (n - k) (c - k) (bs.drop k) e) := by
  obtain ⟨h1, h2, h3, h4⟩ := h
  have hh : ∀ u, (w.setCell ⟨g, 0, none⟩ u).heap[g]? = some (.cells #[u, .int .i64 (e : Nat)] 143 (0, 0)) := by
    intro u
    simp [World.setCell, Array.getElem?_modify, h1]
  refine ⟨fun hc => ⟨hh _, ⟨by rw [List.length_drop, h2.1], ?_⟩, by omega, Nat.zero_le _⟩, fun hc => ⟨hh _, ?_, by omega, by omega⟩⟩
  · have : bs.drop k = [] := List.drop_eq_nil_of_le (by have := h2.1; omega)
    rw [this]
    exact Rd.nil _ _ _
  · have := h2.drop k
    exact ⟨this.1, this.2.setCell (Nat.le_refl _) _⟩
def Passed (w : World) (g k : Nat) (A : Option Addr) (c : Nat) (bs : List UInt8) (e : Nat) (r : Ending) (w' : World) : Prop :=
  ∃ A' n' c' u, r = .returned (.slice A k c) ∧ w' = w.setCell ⟨g, 0, none⟩ u ∧ Rdr w' g A' n' c' (bs.drop k) e
theorem pass_ok (k : Nat) (g : Nat) (A : Option Addr) (n c : Nat) (bs : List UInt8) (e : Nat) (w : World) (hR : Rdr w g A n c bs e) (hk : k ≤ n) :
    Calls Tryz.prog 108 #[.pointer (some ⟨g, 0, none⟩), .int .i64 k] w (Passed w g k A c bs e) := by
  have h1 := hR.cell0
  have h2 := hR.free 0
  have hn := hR.2.2.1
  have hm := hR.2.2.2
  have hp := Lib.hid (hR.pass hk)
  unfold maxLen at hm
  have hd : decide ((k : Int) < 0) = false := decide_eq_false (by omega)
  have hd1 : decide ((n : Int) < (k : Int)) = false := decide_eq_false (by omega)
  by_cases hck : c = k
  · subst hck
    obtain rfl : n = c := by omega
    have hp1 := hp.out.1 rfl
    rw [Nat.sub_self] at hp1
    have HP := Lib.hid hp1
    clear hp hp1
    go_enter Tryz.func108, Tryz.ntmps108
    go_wp2
    go_ret
    exact ⟨_, _, _, _, rfl, rfl, HP.out⟩
  · go_enter Tryz.func108, Tryz.ntmps108
    go_wp2
    go_ret
    exact ⟨_, _, _, _, rfl, rfl, hp.out.2 hck⟩

theorem i64_andNot128 : ∀ x : Fin 256, bits .andNot .i64 (x.val : Int) 128 = ((x.val % 128 : Nat) : Int) := by decide +kernel
/-- what 'number' leaves: a number and the rest; or a panic -/
def Numbered (w : World) (g : Nat) (bs : List UInt8) (r : Ending) (w' : World) : Prop :=
  w.grownBy w' (some g) ∧ w.heap.size = w'.heap.size ∧
  match Vint.dec bs with
  | .ok (n, rest) => r = .returned (.int .i64 (n : Nat)) ∧ ∃ A' c', Rdr w' g A' rest.length c' rest 0
  | .error x => r = .panicked [{ v := fault (x : Nat), recovered := false }] ∧ ∃ A' n' c' rest, Rdr w' g A' n' c' rest 0
theorem i64_or_nat (a b : Nat) (ha : a < 9223372036854775808) (hb : b < 9223372036854775808) : bits .or .i64 (a : Int) (b : Int) = ((a ||| b : Nat) : Int) := by
  have hx : a ||| b < 2 ^ 63 := Nat.or_lt_two_pow (by omega) (by omega)
  have hn : ∀ x : Nat, x < 9223372036854775808 → (BitVec.ofInt 64 (x : Int)).toNat = x := fun x hx => by
    rw [BitVec.ofInt_natCast, BitVec.toNat_ofNat]; exact Nat.mod_eq_of_lt (by omega)
  show IntKind.i64.wrap ((BitVec.ofInt 64 (a : Int) ||| BitVec.ofInt 64 (b : Int)).toNat : Int) = _
  rw [BitVec.toNat_or, hn a ha, hn b hb, IntKind.wrap_i64]
  omega
theorem pow128 (k : Nat) : (128 : Nat) ^ k = 2 ^ (7 * k) := by rw [show (128 : Nat) = 2 ^ 7 from rfl, ← Nat.pow_mul]
theorem or_shift (acc x k : Nat) (hacc : acc < 128 ^ k) (hk : k < 6) (hx : x < 128) : bits .or .i64 (acc : Int) (wrap64 ((x : Int) * 2 ^ (7 * k))) = ((acc + x * 128 ^ k : Nat) : Int) := by
  have h5 : 128 ^ k ≤ 128 ^ 5 := Nat.pow_le_pow_right (by decide) (by omega)
  have hm : x * 128 ^ k ≤ 127 * 128 ^ 5 := Nat.mul_le_mul (by omega) h5
  have e5 : (128 : Nat) ^ 5 = 34359738368 := by decide
  rw [e5] at h5 hm
  have e1 : ((x : Int) * 2 ^ (7 * k)) = ((x * 128 ^ k : Nat) : Int) := by rw [pow128]; push_cast; rfl
  rw [e1, IntWalk.wrap64_in _ ⟨by omega, by omega⟩, i64_or_nat _ _ (by omega) (by omega)]
  have e2 := Nat.shiftLeft_add_eq_or_of_lt (by rw [← pow128]; exact hacc : acc < 2 ^ (7 * k)) x
  rw [Nat.shiftLeft_eq, ← pow128] at e2
  rw [Nat.or_comm, ← e2, Nat.add_comm]
theorem passed_one {w wr w1 : World} {g : Nat} {A' : Option Addr} {n' c' : Nat} {x : UInt8} {rest : List UInt8} {u : Value} (hr : Rdr wr g A' n' c' (x :: rest) 0) (hg : w.grownBy wr (some g)) (hs : w.heap.size = wr.heap.size)
    (hw1 : w1 = wr.setCell ⟨g, 0, none⟩ u) : ∃ a, A' = some a ∧ w1.cell? a = some (bv x) ∧ w.grownBy w1 (some g) ∧ w.heap.size = w1.heap.size := by
  obtain ⟨a, hA, hab, hc⟩ := (hr.2.1).at_ (k := 0) (by simp)
  refine ⟨a, hA, ?_, by rw [hw1]; exact only_set hg _, by rw [hw1, hs]; simp [World.setCell]⟩
  rw [hw1, World.cell?_setCell_other _ _ _ _ (fun e => by rw [← e] at hab; exact absurd hab (Nat.lt_irrefl _))]
  simpa [Addr.add] using hc
set_option maxRecDepth 100000 in
theorem number_any (g : Nat) (A : Option Addr) (n c : Nat) (bs : List UInt8) (w : World) (hR : Rdr w g A n c bs 0) :
    Calls Tryz.prog 100 #[.pointer (some ⟨g, 0, none⟩)] w (Numbered w g bs) := by
  go_enter Tryz.func100, Tryz.ntmps100
  go_wp2_with fail
  go_loopw [3, 6] (fun v i wr => ∃ (k acc : Nat) (A' : Option Addr) (n' c' : Nat) (rest : List UInt8), k ≤ 6 ∧ i = .int .i64 k ∧ v = .int .i64 acc ∧ acc < 128 ^ k ∧ Vint.decF (6 - k) k acc rest = Vint.dec bs ∧
      Rdr wr g A' n' c' rest 0 ∧ w.grownBy wr (some g) ∧ w.heap.size = wr.heap.size) (fun _ i _ => 6 - (intOf i).toNat)
  case atStart => exact ⟨0, 0, A, n, c, bs, by omega, rfl, rfl, by decide, rfl, hR, World.grownBy.refl w _, rfl⟩
  case round =>
    obtain ⟨k, acc, A', n', c', rest, hk, rfl, rfl, hacc, hdec, hr, hg, hsz⟩ := hrel
    have HD := Lib.hid hdec
    have HZ := Lib.hid hsz
    clear hdec hsz
    by_cases hk6 : k = 6
    · subst hk6
      go_wp2
      refine ⟨rfl, hg, HZ.out, ?_⟩
      rw [← HD.out]
      exact ⟨rfl, _, _, _, _, hr⟩
    · have hlt : k < 6 := by omega
      rcases rest with _ | ⟨x, rest⟩
      · have hn0 := hr.2.1.1
        have H0 := Lib.hid hn0
        clear hn0
        go_wp2_with fail
        refine (pass_short 1 _ _ _ _ _ _ _ hr (by rw [H0.out]; simp)).mono ?_
        rintro e w1 ⟨rfl, rfl⟩
        refine ⟨rfl, hg, HZ.out, ?_⟩
        rw [← HD.out]
        obtain ⟨m, hm⟩ : ∃ m, 6 - k = m + 1 := ⟨5 - k, by omega⟩
        rw [hm]
        exact ⟨rfl, _, _, _, _, hr⟩
      · have hn' := hr.2.1.1
        have hx := x.toNat_lt
        have ea := i64_andNot128 ⟨x.toNat, hx⟩
        simp only at ea
        obtain ⟨N, hN⟩ : ∃ N, N = acc + x.toNat % 128 * 128 ^ k := ⟨_, rfl⟩
        have eo := or_shift acc (x.toNat % 128) k hacc hlt (by omega)
        rw [← hN] at eo
        rw [show ((x.toNat % 128 : Nat) : Int) = (x.toNat : Int) % 128 from rfl] at eo
        have hNb : N < 128 ^ (k + 1) := by
          rw [hN, Nat.pow_succ]
          have : x.toNat % 128 * 128 ^ k ≤ 127 * 128 ^ k := Nat.mul_le_mul_right _ (by omega)
          omega
        have h6 : 128 ^ (k + 1) ≤ 128 ^ 6 := Nat.pow_le_pow_right (by decide) (by omega)
        have e6 : (128 : Nat) ^ 6 = 4398046511104 := by decide
        rw [e6] at h6
        have hNt : N < 4398046511104 := by omega
        clear h6 e6
        have HNN := Lib.hid hN
        clear hN
        obtain ⟨m, hm⟩ : ∃ m, 6 - k = m + 1 := ⟨5 - k, by omega⟩
        have hdr : List.drop 1 (x :: rest) = rest := rfl
        by_cases h128 : 128 ≤ x.toNat
        · go_wp2_with fail
          refine (pass_ok 1 _ _ _ _ _ _ _ hr (by rw [hn']; simp)).mono ?_
          rintro e w1 ⟨A2, n2, c2, u, rfl, hw1, hr2⟩
          rw [hdr] at hr2
          obtain ⟨a, hA, hc1, hg1, hs1⟩ := passed_one hr hg HZ.out hw1
          subst hA
          have HS := Lib.hid hs1
          have HM := Lib.hid hm
          clear hw1 hn' hdr hs1 hm
          go_wp2_with fail
          go_roundw
          case rel =>
            refine ⟨k + 1, N, _, _, _, _, by omega, by go_num, rfl, hNb, ?_, hr2, hg1, HS.out⟩
            rw [← HD.out, HM.out, show 6 - (k + 1) = m by have := HM.out; omega]
            conv => rhs; unfold Vint.decF
            rw [if_pos h128, HNN.out]
          case measure => simp [intOf]; omega
        · have hxm : x.toNat % 128 = x.toNat := Nat.mod_eq_of_lt (by omega)
          have hdec2 : Vint.dec bs = if Vint.top < N ∨ (x.toNat = 0 ∧ 0 < k) then .error 4 else .ok (N, rest) := by
            rw [← HD.out, hm]
            conv => lhs; unfold Vint.decF
            rw [if_neg h128, HNN.out, hxm]
          have HD2 := Lib.hid hdec2
          have hd8 : decide ((128 : Int) ≤ (x.toNat : Int)) = false := decide_eq_false (by omega)
          have HM := Lib.hid hm
          clear hdec2 hxm hm HD
          by_cases hb : 1099511627776 < N
          · have HB := Lib.hid (HD2.out.trans (if_pos (.inl hb)))
            have ht : decide ((1099511627776 : Int) < (N : Int)) = true := decide_eq_true (by omega)
            clear HD2
            go_wp2_with fail
            refine (pass_ok 1 _ _ _ _ _ _ _ hr (by rw [hn']; simp)).mono ?_
            rintro e w1 ⟨A2, n2, c2, u, rfl, hw1, hr2⟩
            rw [hdr] at hr2
            obtain ⟨a, hA, hc1, hg1, hs1⟩ := passed_one hr hg HZ.out hw1
            subst hA
            have HS := Lib.hid hs1
            clear hw1 hn' hdr hs1
            go_wp2
            refine ⟨rfl, hg1, HS.out, ?_⟩
            rw [HB.out]
            exact ⟨rfl, _, _, _, _, hr2⟩
          · have ht : decide ((1099511627776 : Int) < (N : Int)) = false := decide_eq_false (by omega)
            have HNT : ¬ Vint.top < N := hb
            by_cases hx0 : x.toNat = 0
            · have hxe : ((x.toNat : Int) == 0) = true := by rw [hx0]; rfl
              by_cases hk0 : k = 0
              · rw [if_neg (fun h => by rcases h with h | h <;> omega)] at HD2
                have hkd : decide (0 < k) = false := decide_eq_false (by omega)
                have hk00 := Lib.hid hk0
                clear hk0
                have hx00 := Lib.hid hx0
                clear hx0
                go_wp2_with fail
                refine (pass_ok 1 _ _ _ _ _ _ _ hr (by rw [hn']; simp)).mono ?_
                rintro e w1 ⟨A2, n2, c2, u, rfl, hw1, hr2⟩
                rw [hdr] at hr2
                obtain ⟨a, hA, hc1, hg1, hs1⟩ := passed_one hr hg HZ.out hw1
                subst hA
                have HS := Lib.hid hs1
                clear hw1 hn' hdr hs1
                go_wp2
                go_ret
                refine ⟨hg1, HS.out, ?_⟩
                rw [HD2.out]
                have := hr2.2.1.1
                subst this
                exact ⟨rfl, _, _, hr2⟩
              · have HB := Lib.hid (HD2.out.trans (if_pos (.inr ⟨hx0, by omega⟩)))
                have hkd : 0 < k := by omega
                have hx00 := Lib.hid hx0
                clear HD2 hx0
                go_wp2_with fail
                refine (pass_ok 1 _ _ _ _ _ _ _ hr (by rw [hn']; simp)).mono ?_
                rintro e w1 ⟨A2, n2, c2, u, rfl, hw1, hr2⟩
                rw [hdr] at hr2
                obtain ⟨a, hA, hc1, hg1, hs1⟩ := passed_one hr hg HZ.out hw1
                subst hA
                have HS := Lib.hid hs1
                clear hw1 hn' hdr hs1
                go_wp2
                refine ⟨rfl, hg1, HS.out, ?_⟩
                rw [HB.out]
                exact ⟨rfl, _, _, _, _, hr2⟩
            · have hxe : ((x.toNat : Int) == 0) = false := by rw [beq_eq_false_iff_ne]; omega
              rw [if_neg (fun h => by rcases h with h | h <;> omega)] at HD2
              go_wp2_with fail
              refine (pass_ok 1 _ _ _ _ _ _ _ hr (by rw [hn']; simp)).mono ?_
              rintro e w1 ⟨A2, n2, c2, u, rfl, hw1, hr2⟩
              rw [hdr] at hr2
              obtain ⟨a, hA, hc1, hg1, hs1⟩ := passed_one hr hg HZ.out hw1
              subst hA
              have HS := Lib.hid hs1
              clear hw1 hn' hdr hs1
              go_wp2
              go_ret
              refine ⟨hg1, HS.out, ?_⟩
              rw [HD2.out]
              have := hr2.2.1.1
              subst this
              exact ⟨rfl, _, _, hr2⟩
end Go.Proofs.YtocoohpekpkmkaaGreat

/- '==' between two tallies. -/
namespace Go.Proofs.YtocoohpekpkmkaaGreat
set_option linter.unusedVariables false
set_option linter.unusedSimpArgs false
open Go.RowKit
open Tally
theorem right_wf {l : List Int} (h : rightB l = true) : Wf l := fun x hx => by
  obtain ⟨i, hi, rfl⟩ := List.getElem_of_mem hx
  have := right_at h i
  rw [List.getD_eq_getElem?_getD, List.getElem?_eq_getElem hi] at this
  unfold top at this
  simp only [Option.getD_some] at this
  exact wf_of (by omega) (by omega)
theorem split8 (l : List Int) (hl : l.length = 16) : l.map (Lit.int .i64) = (l.take 8).map (Lit.int .i64) ++ (l.drop 8).map (Lit.int .i64) := by rw [← List.map_append, List.take_append_drop]
/-- A type of two arrays of eight ints. -/
def TwoT (T : TypeId) : Prop := (∃ f0 f1 : Field, (Tryz.prog).underlying T = some (.struct #[f0, f1]) ∧ f0.type = 22 ∧ f0.offset = 0 ∧ f1.type = 22 ∧ f1.offset = 8 ∧ f0.name ≠ "_" ∧ f1.name ≠ "_") ∧ (Tryz.prog).cellsOf T = 16 ∧ (Tryz.prog).keyTypeAt 4 T = true ∧ (Tryz.prog).eqGuardType (Tryz.prog).depth T = false
theorem twoT : TwoT 34 := ⟨⟨_, _, Tryz.underlying34, rfl, rfl, rfl, rfl, by decide, by decide⟩, by kernel_rfl, by kernel_rfl, by kernel_rfl⟩
theorem twoR : TwoT 24 := ⟨⟨_, _, Tryz.underlying24, rfl, rfl, rfl, rfl, by decide, by decide⟩, by kernel_rfl, by kernel_rfl, by kernel_rfl⟩
theorem keyLits_tc {T : TypeId} (hT : TwoT T) (l : List Int) (hl : l.length = 16) (hw : Wf l) : (Tryz.prog).keyLits 3 T (tc l).toList = some (l.map (Lit.int .i64)) := by
  obtain ⟨⟨f0, f1, hu, t0, o0, t1, o1, n0, n1⟩, hc, _, _⟩ := hT
  have h0 := keyLits_arr 0 (l.take 8) (by simp; omega) (fun x hx => hw x (List.mem_of_mem_take hx))
  have h1 := keyLits_arr 0 (l.drop 8) (by simp; omega) (fun x hx => hw x (List.mem_of_mem_drop hx))
  have e0 : (((tc l).toList.drop 0).take 8) = (l.take 8).map (Value.int .i64) := by simp [tc]
  have e1 : (((tc l).toList.drop 8).take 8) = (l.drop 8).map (Value.int .i64) := by
    simp only [tc]
    rw [← List.map_drop, List.take_of_length_le (by simp; omega)]
  unfold Program.keyLits
  have hcs : (tc l).toList.length = 16 := by rw [Array.length_toList, tc_size, hl]
  simp only [hu, hcs, hc]
  rw [if_pos ⟨trivial, by simp [n0, n1]⟩]
  simp only [List.mapM_cons, List.mapM_nil, t0, t1, o0, o1, cellsA, e0, e1, h0, h1]
  rw [split8 l hl]
  simp
theorem eq_run {T : TypeId} (hT : TwoT T) (w : World) (a b : List Int) (ha : a.length = 16) (hb : b.length = 16) (wa : Wf a) (wb : Wf b) :
    (binOp .eql T (.agg (tc a)) (.agg (tc b))).run Tryz.prog w = .ok (.bool (decide (a = b))) w := by
  have hk := hT.2.2.1
  have hfm : ∀ l : List Int, l.length = 16 → (Value.agg (tc l)).formed Tryz.prog T = true := fun l hl => by
    obtain ⟨⟨f0, f1, hu, _⟩, hc, _⟩ := hT
    simp [Value.formed, hu, hc, tc_size, hl]
  obtain ⟨r, h1, h2⟩ := run_equalIn_deep (P := Tryz.prog) 9996 4 T hk w 3 3 (.agg (tc a)) (.agg (tc b)) _ _ (hfm a ha) (hfm b hb) (keyLits_tc hT a ha wa) (keyLits_tc hT b hb wb)
  rw [run_eql_struct, h1]
  have : r = decide (a = b) := by
    rw [Bool.eq_iff_iff, h2, decide_eq_true_eq]
    constructor
    · intro h
      exact (List.map_inj_right (fun x y h => by injection h)).1 h
    · intro h; rw [h]
  rw [this]
  rfl
section
variable {ops : Array Oper} {rest : List Oper} {d : Option Tmp} {ty : TypeId} {pos : String} {aft : Array Edge} {gd : Option (Nat × Bool)} {x y : Operand} {T z : TypeId} {A B : List Int}
theorem exec_eq {a : Act} (hT : TwoT T) (ha : A.length = 16) (hb : B.length = 16) (wa : Wf A) (wb : Wf B) (hx : a.eval x = .agg (tc A)) (hy : a.eval y = .agg (tc B)) (w : World) : (execOp a.eval ⟨d, .binOp .eql T x y z, ty, pos, aft, gd⟩).run Tryz.prog w = .ok (.value (.bool (decide (A = B)))) w := by
  unfold execOp
  simp only [hx, hy, Sem.run_bind, run_eqGuard_agg w .eql T x y (tc A) (tc B) hT.2.2.2, Result.andThen_ok, eq_run hT w A B ha hb wa wb, Sem.run_pure]
theorem quiet_eq {a : Act} {Q : Act → Prop} {C : World → Prop} (hT : TwoT T) (ha : A.length = 16) (hb : B.length = 16) (wa : Wf A) (wb : Wf B)
    (h : wpQuiet Tryz.prog ops C Q rest (a.put d (.bool (decide (A = B))))) (hx : a.eval x = .agg (tc A)) (hy : a.eval y = .agg (tc B)) (hw : Region.wanted ⟨d, .binOp .eql T x y z, ty, pos, aft, gd⟩ (yielded ops a.tmps) = true) : wpQuiet Tryz.prog ops C Q (⟨d, .binOp .eql T x y z, ty, pos, aft, gd⟩ :: rest) a := by
  unfold wpQuiet
  rw [if_pos hw]
  refine ⟨.bool (decide (A = B)), fun w hC => ?_, h⟩
  unfold Oper.quietAt
  rw [exec_eq hT ha hb wa wb hx hy w]
  exact ⟨rfl, rfl⟩
theorem wpList_eq {a : Act} {w : World} {Q : Exit → Act → World → Prop} (hT : TwoT T) (ha : A.length = 16) (hb : B.length = 16) (wa : Wf A) (wb : Wf B)
    (h : wpList Tryz.prog ops Q rest (a.put d (.bool (decide (A = B)))) w) (hx : a.eval x = .agg (tc A)) (hy : a.eval y = .agg (tc B)) (hw : Region.wanted ⟨d, .binOp .eql T x y z, ty, pos, aft, gd⟩ (yielded ops a.tmps) = true) : wpList Tryz.prog ops Q (⟨d, .binOp .eql T x y z, ty, pos, aft, gd⟩ :: rest) a w := by
  refine wpList_step fun K hK => ?_
  rw [if_pos hw]
  unfold Oper.wp
  rw [exec_eq hT ha hb wa wb hx hy w]
  exact hK _ _ h
theorem ne_run {T : TypeId} (hT : TwoT T) (w : World) (a b : List Int) (ha : a.length = 16) (hb : b.length = 16) (wa : Wf a) (wb : Wf b) :
    (binOp .neq T (.agg (tc a)) (.agg (tc b))).run Tryz.prog w = .ok (.bool (!decide (a = b))) w := by
  have h := eq_run hT w a b ha hb wa wb
  rw [run_eql_struct] at h
  rw [run_neq_struct]
  revert h
  generalize (Op.equalIn 10000 T (.agg (tc a)) (.agg (tc b))).run Tryz.prog w = r
  intro h
  cases r with
  | halt x w' => simp [Result.andThen] at h
  | ok b' w' =>
    simp only [Result.andThen_ok] at h ⊢
    injection h with h1 h2
    injection h1 with h1
    rw [h1, h2]
theorem quiet_ne {a : Act} {Q : Act → Prop} {C : World → Prop} (hT : TwoT T) (ha : A.length = 16) (hb : B.length = 16) (wa : Wf A) (wb : Wf B)
    (h : wpQuiet Tryz.prog ops C Q rest (a.put d (.bool (!decide (A = B))))) (hx : a.eval x = .agg (tc A)) (hy : a.eval y = .agg (tc B)) (hw : Region.wanted ⟨d, .binOp .neq T x y z, ty, pos, aft, gd⟩ (yielded ops a.tmps) = true) : wpQuiet Tryz.prog ops C Q (⟨d, .binOp .neq T x y z, ty, pos, aft, gd⟩ :: rest) a := by
  unfold wpQuiet
  rw [if_pos hw]
  refine ⟨.bool (!decide (A = B)), fun w hC => ?_, h⟩
  unfold Oper.quietAt execOp
  simp only [hx, hy, Sem.run_bind, run_eqGuard_agg w .neq T x y (tc A) (tc B) hT.2.2.2, Result.andThen_ok, ne_run hT w A B ha hb wa wb, Sem.run_pure]
  exact ⟨rfl, rfl⟩
end
end Go.Proofs.YtocoohpekpkmkaaGreat

namespace Go.Proofs.YtocoohpekpkmkaaGreat
set_option linter.unusedVariables false
set_option linter.unusedSimpArgs false
open Go.RowKit
open Tally
/-- A function of two ints, in this program. -/
def Fun2 (f : FuncId) (h : Int → Int → Int) : Prop := ∀ (x y : Int) (w : World), Calls Tryz.prog f #[.int .i64 x, .int .i64 y] w fun e w' => e = .returned (.int .i64 (h x y)) ∧ w = w'
theorem join1 : Fun2 84 mx := by
  intro x y w
  unfold mx
  by_cases h : x < y
  · rw [if_pos h]
    go_enter Tryz.func84, Tryz.ntmps84
    go_wp2_with fail
    go_ret
    exact ⟨rfl, rfl⟩
  · rw [if_neg h]
    go_enter Tryz.func84, Tryz.ntmps84
    go_wp2_with fail
    go_ret
    exact ⟨rfl, rfl⟩
/-- the first k of two tallies' numbers, in the order of 'ord', brought together -/
def bothTo (h : Int → Int → Int) (a b : List Int) : Nat → List Int
  | 0 => a
  | k + 1 => (bothTo h a b k).set (ord k) (h (a.getD (ord k) 0) (b.getD (ord k) 0))
theorem bothTo_len (h : Int → Int → Int) (a b : List Int) (k : Nat) : (bothTo h a b k).length = a.length := by
  induction k with
  | zero => rfl
  | succ k ih => simp [bothTo, ih]
theorem bothTo_at (h : Int → Int → Int) (a b : List Int) (ha : a.length = 16) (k : Nat) (hk : k ≤ 16) (j : Nat) (hj : j < 16) : (bothTo h a b k).getD (ord j) 0 = if j < k then h (a.getD (ord j) 0) (b.getD (ord j) 0) else a.getD (ord j) 0 := by
  induction k with
  | zero => simp [bothTo]
  | succ k ih =>
    have hl := bothTo_len h a b k
    have hok := ord_lt (show k < 16 by omega)
    rw [bothTo, List.getD_eq_getElem?_getD]
    by_cases e : j = k
    · subst e
      rw [List.getElem?_set_self (by omega), if_pos (by omega)]; rfl
    · rw [List.getElem?_set_ne (fun h => e (ord_inj hj (by omega) h.symm)), ← List.getD_eq_getElem?_getD, ih (by omega)]
      by_cases h1 : j < k
      · rw [if_pos h1, if_pos (by omega)]
      · rw [if_neg h1, if_neg (by omega)]
theorem bothTo_all (h : Int → Int → Int) (a b : List Int) (ha : a.length = 16) (hb : b.length = 16) : bothTo h a b 16 = List.zipWith h a b := by
  apply List.ext_getElem?
  intro i
  by_cases hi : i < 16
  · obtain ⟨j, hj, rfl⟩ := ord_onto hi
    have h1 := bothTo_at h a b ha 16 (Nat.le_refl _) j hj
    rw [if_pos hj, List.getD_eq_getElem?_getD, List.getElem?_eq_getElem (by rw [bothTo_len]; omega)] at h1
    rw [List.getElem?_eq_getElem (by rw [bothTo_len]; omega), List.getElem?_zipWith, List.getElem?_eq_getElem (by omega), List.getElem?_eq_getElem (by omega)]
    simp only [Option.getD_some] at h1
    rw [h1, List.getD_eq_getElem?_getD, List.getD_eq_getElem?_getD, List.getElem?_eq_getElem (by omega), List.getElem?_eq_getElem (by omega)]
    rfl
  · rw [List.getElem?_eq_none (by rw [bothTo_len]; omega), List.getElem?_eq_none (by simp; omega)]
/-- A call of that function enters it. -/
def Enters (f : FuncId) : Prop := ∀ (args : Array Value) (w : World), (callFunc f args).run Tryz.prog w = .ok (.enter f args) w
set_option maxRecDepth 100000 in
theorem enters_join : Enters 84 := fun _ _ => rfl
set_option maxRecDepth 100000 in
set_option maxHeartbeats 2000000 in
theorem both_any (f : FuncId) (h : Int → Int → Int) (hf : Fun2 f h) (hen : Enters f) (l m : List Int) (w : World) (hl : l.length = 16) (hm : m.length = 16) :
    Calls Tryz.prog 83 #[.agg (tc l), .agg (tc m), .func (.func f) #[] #[]] w fun e w' => e = .returned (.agg (tc (bothL h l m))) ∧ Below w.heap.size w w' := by
  have HF := Lib.hid hf
  have HEN := Lib.hid hen
  clear hen
  have HS := Lib.hid (show (tc l).size = 16 by rw [tc_size, hl])
  have HM := Lib.hid (show (tc m).size = 16 by rw [tc_size, hm])
  have HSo := Lib.hid (show (tc (ownL l)).size = 16 by rw [tc_size, own_len hl])
  have HMo := Lib.hid (show (tc (ownL m)).size = 16 by rw [tc_size, own_len hm])
  have HL := Lib.hid hl
  have HLM := Lib.hid hm
  clear hf hl hm
  go_enter Tryz.func83, Tryz.ntmps83
  go_upto_region 1 with fail
  refine nameW ?_
  intro wv hwv
  obtain ⟨g, hg⟩ : ∃ g, g = w.heap.size := ⟨_, rfl⟩
  rw [← hg]
  have k0 : Blk wv g 34 (tc l) := by rw [hwv, hg]; exact ((Blk.new w _ _).alloc _).alloc _
  have k1 : Blk wv (g + 1) 34 (tc m) := by
    have h := (Blk.new (w.alloc (.cells (tc l) 34)) 34 (tc m)).alloc (.cells (tc zero) 34)
    rw [zero_tc] at h
    rw [hwv, hg]
    simpa using h
  have k2 : Blk wv (g + 2) 34 (tc zero) := by
    have h := Blk.new ((w.alloc (.cells (tc l) 34)).alloc (.cells (tc m) 34)) 34 (tc zero)
    rw [zero_tc] at h
    rw [zero_tc, hwv, hg]
    simpa using h
  have hb : Below w.heap.size w wv := by rw [hwv]; exact (((Below.refl _ _).alloc (Nat.le_refl _) _).alloc (by simp) _).alloc (by simp; omega) _
  have hgw : w.heap.size ≤ g := by omega
  clear hwv hg
  have k0d : Blk wv.drew g 34 (tc l) := k0
  have k1d : Blk wv.drew (g + 1) 34 (tc m) := k1
  have k2d : Blk wv.drew (g + 2) 34 (tc zero) := k2
  have hbd := hb.drew
  clear k0 k1 k2 hb
  go_cut [3] (fun s wx => s = .pointer (some ⟨g, 0, none⟩) ∧ Blk wx g 34 (tc (ownL l)) ∧ Blk wx (g + 1) 34 (tc (ownL m)) ∧ Blk wx (g + 2) 34 (tc zero) ∧ Below w.heap.size w wx)
  case first =>
    refine wp_region_any (by kernel_rfl) ?_
    try (change wpAny _ _ _ _ _ _ _ (World.drew _))
    refine wpAny_ready (rs := [0, 2]) (by kernel_rfl) (by simp) ?_
    refine AllReady.cons rfl (fun K hK => ?_) (AllReady.cons rfl (fun K hK => ?_) AllReady.nil)
    · refine step_ld rfl rowT (.tmp 3) rfl (by rfl) k0d HS.out ?_
      refine hK _ _ ?_
      clear hK K
      refine wpAny_ready (rs := [1, 2]) (by kernel_rfl) (by simp) ?_
      refine AllReady.cons rfl (fun K hK => ?_) (AllReady.cons rfl (fun K hK => ?_) AllReady.nil)
      · go_simp
        refine (own_any l _ HL.out).mono ?_
        rintro e w1 ⟨rfl, h1⟩
        have k0a := k0d.below h1 k0d.lt
        have k1a := k1d.below h1 k1d.lt
        have k2a := k2d.below h1 k2d.lt
        have b1 := hbd.trans (h1.mono hbd.size)
        refine hK _ _ ?_
        clear hK K
        refine wpAny_ready (rs := [2]) (by kernel_rfl) (by simp) ?_
        refine AllReady.cons rfl (fun K hK => ?_) AllReady.nil
        refine step_ld rfl rowT (.tmp 4) rfl (by rfl) k1a HM.out ?_
        refine hK _ _ ?_
        clear hK K
        refine wpAny_ready (rs := [3]) (by kernel_rfl) (by simp) ?_
        refine AllReady.cons rfl (fun K hK => ?_) AllReady.nil
        go_simp
        refine (own_any m _ HLM.out).mono ?_
        rintro e w2 ⟨rfl, h2⟩
        have k0b := k0a.below h2 k0a.lt
        have k1b := k1a.below h2 k1a.lt
        have k2b := k2a.below h2 k2a.lt
        have b2 := b1.trans (h2.mono b1.size)
        refine hK _ _ ?_
        clear hK K
        refine wpAny_ready (rs := [4]) (by kernel_rfl) (by simp) ?_
        refine AllReady.cons rfl (fun K hK => ?_) AllReady.nil
        refine step_st rfl rowT (.tmp 3) (.tmp 11) rfl (by rfl) (by rfl) k0b HSo.out HS.out (tc_one _) ?_
        intro w3 k03 g3 z3
        have k13 := k1b.grown g3 (by simp)
        have k23 := k2b.grown g3 (by simp)
        have b3 := b2.grown g3 b2.size (fun q hq => by injection hq; omega)
        refine hK _ _ ?_
        clear hK K
        refine wpAny_ready (rs := [5]) (by kernel_rfl) (by simp) ?_
        refine AllReady.cons rfl (fun K hK => ?_) AllReady.nil
        refine step_st rfl rowT (.tmp 4) (.tmp 13) rfl (by rfl) (by rfl) k13 HMo.out HM.out (tc_one _) ?_
        intro w4 k14 g4 z4
        have k04 := k03.grown g4 (by simp)
        have k24 := k23.grown g4 (by simp)
        have b4 := b3.grown g4 b3.size (fun q hq => by injection hq; omega)
        refine hK _ _ ?_
        clear hK K
        refine wpAny_done (by kernel_rfl) ?_ _
        go_wp2_with fail
        go_meet
        exact ⟨rfl, k04, k14, k24, b4⟩
      · refine step_ld rfl rowT (.tmp 4) rfl (by rfl) k1d HM.out ?_
        refine hK _ _ ?_
        clear hK K
        refine wpAny_ready (rs := [1]) (by kernel_rfl) (by simp) ?_
        refine AllReady.cons rfl (fun K hK => ?_) AllReady.nil
        go_simp
        refine (own_any l _ HL.out).mono ?_
        rintro e w1 ⟨rfl, h1⟩
        have k0a := k0d.below h1 k0d.lt
        have k1a := k1d.below h1 k1d.lt
        have k2a := k2d.below h1 k2d.lt
        have b1 := hbd.trans (h1.mono hbd.size)
        refine hK _ _ ?_
        clear hK K
        refine wpAny_ready (rs := [3]) (by kernel_rfl) (by simp) ?_
        refine AllReady.cons rfl (fun K hK => ?_) AllReady.nil
        go_simp
        refine (own_any m _ HLM.out).mono ?_
        rintro e w2 ⟨rfl, h2⟩
        have k0b := k0a.below h2 k0a.lt
        have k1b := k1a.below h2 k1a.lt
        have k2b := k2a.below h2 k2a.lt
        have b2 := b1.trans (h2.mono b1.size)
        refine hK _ _ ?_
        clear hK K
        refine wpAny_ready (rs := [4]) (by kernel_rfl) (by simp) ?_
        refine AllReady.cons rfl (fun K hK => ?_) AllReady.nil
        refine step_st rfl rowT (.tmp 3) (.tmp 11) rfl (by rfl) (by rfl) k0b HSo.out HS.out (tc_one _) ?_
        intro w3 k03 g3 z3
        have k13 := k1b.grown g3 (by simp)
        have k23 := k2b.grown g3 (by simp)
        have b3 := b2.grown g3 b2.size (fun q hq => by injection hq; omega)
        refine hK _ _ ?_
        clear hK K
        refine wpAny_ready (rs := [5]) (by kernel_rfl) (by simp) ?_
        refine AllReady.cons rfl (fun K hK => ?_) AllReady.nil
        refine step_st rfl rowT (.tmp 4) (.tmp 13) rfl (by rfl) (by rfl) k13 HMo.out HM.out (tc_one _) ?_
        intro w4 k14 g4 z4
        have k04 := k03.grown g4 (by simp)
        have k24 := k23.grown g4 (by simp)
        have b4 := b3.grown g4 b3.size (fun q hq => by injection hq; omega)
        refine hK _ _ ?_
        clear hK K
        refine wpAny_done (by kernel_rfl) ?_ _
        go_wp2_with fail
        go_meet
        exact ⟨rfl, k04, k14, k24, b4⟩
    · refine step_ld rfl rowT (.tmp 4) rfl (by rfl) k1d HM.out ?_
      refine hK _ _ ?_
      clear hK K
      refine wpAny_ready (rs := [0]) (by kernel_rfl) (by simp) ?_
      refine AllReady.cons rfl (fun K hK => ?_) AllReady.nil
      refine step_ld rfl rowT (.tmp 3) rfl (by rfl) k0d HS.out ?_
      refine hK _ _ ?_
      clear hK K
      refine wpAny_ready (rs := [1]) (by kernel_rfl) (by simp) ?_
      refine AllReady.cons rfl (fun K hK => ?_) AllReady.nil
      go_simp
      refine (own_any l _ HL.out).mono ?_
      rintro e w1 ⟨rfl, h1⟩
      have k0a := k0d.below h1 k0d.lt
      have k1a := k1d.below h1 k1d.lt
      have k2a := k2d.below h1 k2d.lt
      have b1 := hbd.trans (h1.mono hbd.size)
      refine hK _ _ ?_
      clear hK K
      refine wpAny_ready (rs := [3]) (by kernel_rfl) (by simp) ?_
      refine AllReady.cons rfl (fun K hK => ?_) AllReady.nil
      go_simp
      refine (own_any m _ HLM.out).mono ?_
      rintro e w2 ⟨rfl, h2⟩
      have k0b := k0a.below h2 k0a.lt
      have k1b := k1a.below h2 k1a.lt
      have k2b := k2a.below h2 k2a.lt
      have b2 := b1.trans (h2.mono b1.size)
      refine hK _ _ ?_
      clear hK K
      refine wpAny_ready (rs := [4]) (by kernel_rfl) (by simp) ?_
      refine AllReady.cons rfl (fun K hK => ?_) AllReady.nil
      refine step_st rfl rowT (.tmp 3) (.tmp 11) rfl (by rfl) (by rfl) k0b HSo.out HS.out (tc_one _) ?_
      intro w3 k03 g3 z3
      have k13 := k1b.grown g3 (by simp)
      have k23 := k2b.grown g3 (by simp)
      have b3 := b2.grown g3 b2.size (fun q hq => by injection hq; omega)
      refine hK _ _ ?_
      clear hK K
      refine wpAny_ready (rs := [5]) (by kernel_rfl) (by simp) ?_
      refine AllReady.cons rfl (fun K hK => ?_) AllReady.nil
      refine step_st rfl rowT (.tmp 4) (.tmp 13) rfl (by rfl) (by rfl) k13 HMo.out HM.out (tc_one _) ?_
      intro w4 k14 g4 z4
      have k04 := k03.grown g4 (by simp)
      have k24 := k23.grown g4 (by simp)
      have b4 := b3.grown g4 b3.size (fun q hq => by injection hq; omega)
      refine hK _ _ ?_
      clear hK K
      refine wpAny_done (by kernel_rfl) ?_ _
      go_wp2_with fail
      go_meet
      exact ⟨rfl, k04, k14, k24, b4⟩
  case rest =>
    obtain ⟨rfl, k0, k1, k2, b0⟩ := hcut
    clear k0d k1d k2d hbd
    have hbo : bothL h l m = List.zipWith h (ownL l) (ownL m) := rfl
    have HBO := Lib.hid hbo
    have HOL := Lib.hid (own_len HL.out)
    have HOM := Lib.hid (own_len HLM.out)
    clear hbo
    generalize ownL l = x at *
    generalize ownL m = y at *
    go_wp2_with fail
    refine (cells_any (g + 1) _).mono ?_
    rintro e w5 ⟨A1, c1, rfl, o1, h5⟩
    have k05 := k0.below h5 k0.lt
    have k15 := k1.below h5 k1.lt
    have k25 := k2.below h5 k2.lt
    have b5 := b0.trans (h5.mono b0.size)
    clear k0 k1 k2 h5
    go_wp2_with fail
    refine (cells_any g _).mono ?_
    rintro e w6 ⟨A2, c2, rfl, o2, h6⟩
    have o1b := o1.kept (row := none) ⟨h6.os, h6.tape, h6.output, h6.size, fun k hk _ => h6.block k hk⟩ (by
      rcases o1.2 with ⟨e, _⟩ | ⟨q, cap, cur, e, _⟩
      · rw [e]; exact .inl rfl
      · rw [e]; exact .inr (by simp [Value.ownBlock]))
    have k06 := k05.below h6 k05.lt
    have k16 := k15.below h6 k15.lt
    have k26 := k25.below h6 k25.lt
    have b6 := b5.trans (h6.mono b5.size)
    have s5 : w.heap.size ≤ w5.heap.size := b5.size
    clear k05 k15 k25 h6 b5 o1 b0
    have hfun : ∀ (x y : Int) (w : World), Calls Tryz.prog f #[.int .i64 x, .int .i64 y] w fun e w' => e = .returned (.int .i64 (h x y)) ∧ w = w' := HF.out
    have HFUN := Lib.hid hfun
    have hen : ∀ (args : Array Value) (w : World), (callFunc f args).run Tryz.prog w = .ok (.enter f args) w := HEN.out
    clear hfun HF
    go_wp2_with fail
    go_loopw [17] (fun i wr => ∃ k : Nat, k ≤ 16 ∧ i = .int .i64 k ∧ Blk wr g 34 (tc (bothTo h x y k)) ∧ Blk wr (g + 1) 34 (tc y) ∧ Blk wr (g + 2) 34 (tc zero) ∧ wr.ownsRow wc.heap.size 131 1 (.slice A1 16 c1) 16 (ptrs (g + 1) 16) ∧ wr.ownsRow w5.heap.size 131 1 (.slice A2 16 c2) 16 (ptrs g 16) ∧ Below w.heap.size w wr) (fun i _ => 16 - (intOf i).toNat)
    case atStart => exact ⟨0, by omega, rfl, k06, k16, k26, o1b, o2, b6⟩
    case round =>
      clear k06 k16 k26 o1b o2 b6
      obtain ⟨k, hk, rfl, k0, k1, k2, o1, o2, b0⟩ := hrel
      by_cases hlt : k < 16
      · obtain ⟨q1, rfl, hq1, _, p1⟩ := ptr_at o1 hlt
        obtain ⟨q2, rfl, hq2, _, p2⟩ := ptr_at o2 hlt
        have hok := ord_lt hlt
        have hlen := bothTo_len h x y k
        have e1 := k0.tcell (i := ord k) (by rw [hlen, HOL.out]; exact hok)
        have hat := bothTo_at h x y HOL.out k (by omega) k hlt
        rw [if_neg (by omega)] at hat
        rw [hat] at e1
        have e2 := k1.tcell (i := ord k) (by rw [HOM.out]; exact hok)
        have e3 := k0.free (ord k)
        have hst : bothTo h x y (k + 1) = (bothTo h x y k).set (ord k) (h (x.getD (ord k) 0) (y.getD (ord k) 0)) := rfl
        generalize x.getD (ord k) 0 = u at *
        generalize y.getD (ord k) 0 = v at *
        have hk0 : (0 : Int) ≤ (k : Int) := by omega
        have hk1 : (k : Int) < 16 := by omega
        have K0 : Blk (wr.setCell ⟨g, ord k, none⟩ (.int .i64 (h u v))) g 34 (tc (bothTo h x y (k + 1))) := by
          have := k0.set_ (ord k) (.int .i64 (h u v))
          rwa [tc_set, ← hst] at this
        have K1 : Blk (wr.setCell ⟨g, ord k, none⟩ (.int .i64 (h u v))) (g + 1) 34 (tc y) := k1.far (p := ⟨g, ord k, none⟩) (by simp) _
        have K2 : Blk (wr.setCell ⟨g, ord k, none⟩ (.int .i64 (h u v))) (g + 2) 34 (tc zero) := k2.far (p := ⟨g, ord k, none⟩) (by simp) _
        have n1 := own_ne o1 k0 (by decide)
        have n2 := own_ne o2 k0 (by decide)
        have O1 := ownsRow_setCell_other o1 (a := ⟨g, ord k, none⟩) (by simpa [Value.ownBlock] using n1) (.int .i64 (h u v))
        have O2 := ownsRow_setCell_other o2 (a := ⟨g, ord k, none⟩) (by simpa [Value.ownBlock] using n2) (.int .i64 (h u v))
        have B0 : Below w.heap.size w (wr.setCell ⟨g, ord k, none⟩ (.int .i64 (h u v))) := b0.setCell hgw _
        have HK := Lib.hid (And.intro K0 (And.intro K1 (And.intro K2 (And.intro O1 (And.intro O2 B0)))))
        clear K0 K1 K2 O1 O2 B0 n1 n2 hst hat hlen k0 k1 k2 o1 o2 b0
        go_wp2_with fail
        go_region_with ((with_reducible refine (HFUN.out _ _ _).mono ?_); rintro e w' ⟨rfl, rfl⟩)
        all_goals
          go_wp2_with fail
          go_roundw
          case rel => exact ⟨k + 1, by omega, by go_num, HK.out.1, HK.out.2.1, HK.out.2.2.1, HK.out.2.2.2.1, HK.out.2.2.2.2.1, HK.out.2.2.2.2.2.drew⟩
          case measure => simp [intOf]; omega
      · obtain rfl : k = 16 := by omega
        have hbo := bothTo_all h x y HOL.out HOM.out
        rw [hbo] at k0
        have HZ := Lib.hid (show (tc (List.zipWith h x y)).size = 16 by rw [tc_size, List.length_zipWith, HOL.out, HOM.out]; rfl)
        have H1 := Lib.hid (tc_one (List.zipWith h x y))
        clear hbo o1 o2 k1
        generalize List.zipWith h x y = z at *
        go_wp2_with (first
          | ((with_reducible refine wpList_ld rowT k0 HZ.out ?_ ?_); rotate_left; (rfl))
          | ((with_reducible refine wpList_st rowT k2 HZ.out zero_size H1.out ?_ ?_ ?_); rotate_left; (rfl); (rfl); intro w7 k7 g7 z7))
        have b7 := b0.grown g7 b0.size (fun q hq => by injection hq; omega)
        exact bodyPost_ret (v := .agg (tc z)) (results_blk rfl rowT k7 HZ.out rfl) rfl ⟨by rw [HBO.out], b7⟩
end Go.Proofs.YtocoohpekpkmkaaGreat

/- DotsetBack: what is put is got; bytes that are got are put as they were; added one by one, in any order, dots are the same set: the whole statement, without a condition (printed by wip/gen/dotback.py). -/
import Derived.Test.YtacmdkjodnaohaaVintPut
import Derived.WideLaws
import Derived.Test.YtacmdkjodnaohaaSame
import Derived.Test.YtacmdkjodnaohaaDotPut
import Derived.Test.YtacmdkjodnaohaaDotPlain
import Derived.Test.YtacmdkjodnaohaaDotOpen
/- The walks of package vint: New, and a reader's Int, Err, Left. -/
namespace Go.Proofs.Ytacmdkjodnaohaa
open Go.RowKit

/-- A reader: block g holds its slice and its error; the bytes lie below it. -/
def Rdr (w : World) (g : Nat) (A : Option Addr) (n c : Nat) (bs : List UInt8) (e : Nat) : Prop :=
  w.heap[g]? = some (.cells #[.slice A n c, .int .i64 (e : Nat)] 105 (0, 0)) ∧ RdB w g A n bs ∧ n ≤ c ∧ c ≤ maxLen
section
variable {w w' : World} {g : Nat} {A : Option Addr} {n c : Nat} {bs : List UInt8} {e : Nat}
theorem Rdr.lt (h : Rdr w g A n c bs e) : g < w.heap.size := lt_of_block h.1
theorem Rdr.cell0 (h : Rdr w g A n c bs e) : w.cell? ⟨g, 0, none⟩ = some (.slice A n c) := by have := h.1; simp [World.cell?, this]
theorem Rdr.cell1 (h : Rdr w g A n c bs e) : w.cell? ⟨g, 1, none⟩ = some (.int .i64 (e : Nat)) := by have := h.1; simp [World.cell?, this]
theorem Rdr.free (h : Rdr w g A n c bs e) (i : Nat) : w.frozen? ⟨g, i, none⟩ = false := by have := h.1; simp [World.frozen?, this]
theorem Rdr.below (h : Rdr w g A n c bs e) (hb : Below (g + 1) w w') : Rdr w' g A n c bs e :=
  ⟨(hb.block g (by omega)).trans h.1, h.2.1.below (hb.mono (by omega)), h.2.2⟩
end
def IsNew (w : World) (bs : List UInt8) (e : Ending) (w' : World) : Prop :=
  ∃ A c g, e = .returned (.pointer (some ⟨g, 0, none⟩)) ∧ w.heap.size ≤ g ∧ Rdr w' g A bs.length c bs 0 ∧ Below w.heap.size w w'
theorem new_any (A : Option Addr) (n c : Nat) (bs : List UInt8) (B : Nat) (w : World) (hb : RdB w B A n bs) (hB : B ≤ w.heap.size) (hl : n ≤ 140737488355000) :
    Calls Try.prog 53 #[.slice A n c] w (IsNew w bs) := by
  obtain rfl := hb.1
  go_enter Try.func53, Try.ntmps53
  go_wp2_with (go_at_call 63; refine (clone_any _ _ _ _ _ _ hb hB (by omega)).mono ?_; rintro e w1 ⟨A1, n1, c1, rfl, ho, hbl⟩)
  have hn := ho.1
  subst hn
  go_ret
  refine ⟨A1, c1, w1.heap.size, rfl, hbl.size, ⟨?_, ?_, ?_⟩, hbl.alloc hbl.size _⟩
  · exact heap_alloc_new w1 _
  · exact (ho.rd.alloc (Nat.le_refl _) _)
  · rcases ho.2.2 with ⟨h, h0⟩ | ⟨g, cap, cur, h, _, _, h1, h2, _⟩
    · injection h with _ _ h; subst h; exact ⟨by omega, by unfold maxLen; omega⟩
    · injection h with _ _ h; subst h; exact ⟨h1, h2⟩
theorem err_any (g : Nat) (A : Option Addr) (n c : Nat) (bs : List UInt8) (e : Nat) (w : World) (h : Rdr w g A n c bs e) :
    Calls Try.prog 56 #[.pointer (some ⟨g, 0, none⟩)] w fun r w' => r = .returned (.int .i64 (e : Nat)) ∧ w = w' := by
  have h1 := h.cell1
  go_enter Try.func56, Try.ntmps56
  go_wp2_with fail
  go_ret
  exact ⟨rfl, rfl⟩
theorem left_any (g : Nat) (A : Option Addr) (n c : Nat) (bs : List UInt8) (e : Nat) (w : World) (h : Rdr w g A n c bs e) :
    Calls Try.prog 57 #[.pointer (some ⟨g, 0, none⟩)] w fun r w' => r = .returned (.int .i64 (n : Nat)) ∧ w = w' := by
  have h1 := h.cell0
  go_enter Try.func57, Try.ntmps57
  go_wp2_with fail
  go_ret
  exact ⟨rfl, rfl⟩
theorem err_nil (w : World) : Calls Try.prog 56 #[.pointer none] w fun r w' => r = .returned (.int .i64 1) ∧ w = w' := by
  go_enter Try.func56, Try.ntmps56
  go_wp2_with fail
  go_ret
  exact ⟨rfl, rfl⟩
/-- a fault, as a panic's value -/
abbrev fault (x : Int) : Value := .iface 108 (.agg #[.int .i64 x])
theorem pass_neg (k : Int) (g : Nat) (w : World) (hk : k < 0) :
    Calls Try.prog 71 #[.pointer (some ⟨g, 0, none⟩), .int .i64 k] w fun r w' => r = .panicked [{ v := fault 2, recovered := false }] ∧ w = w' := by
  have hd : decide (k < 0) = true := decide_eq_true (by omega)
  go_enter Try.func71, Try.ntmps71
  go_wp2
  exact ⟨rfl, rfl, rfl⟩
theorem pass_short (k : Nat) (g : Nat) (A : Option Addr) (n c : Nat) (bs : List UInt8) (e : Nat) (w : World) (hR : Rdr w g A n c bs e) (hk : n < k) :
    Calls Try.prog 71 #[.pointer (some ⟨g, 0, none⟩), .int .i64 k] w fun r w' => r = .panicked [{ v := fault 3, recovered := false }] ∧ w = w' := by
  have h1 := hR.cell0
  have hd : decide ((k : Int) < 0) = false := decide_eq_false (by omega)
  have hd1 : decide ((n : Int) < (k : Int)) = true := decide_eq_true (by omega)
  go_enter Try.func71, Try.ntmps71
  go_wp2
  exact ⟨rfl, rfl, rfl⟩
/-- The reader's slice with k bytes passed. -/
theorem Rdr.pass {w : World} {g : Nat} {A : Option Addr} {n c : Nat} {bs : List UInt8} {e : Nat} (h : Rdr w g A n c bs e) {k : Nat} (hk : k ≤ n) :
    (c = k → Rdr (w.setCell ⟨g, 0, none⟩ (.slice A (n - k) 0)) g A (n - k) 0 (bs.drop k) e) ∧
    (¬ c = k → Rdr (w.setCell ⟨g, 0, none⟩ (.slice (A.map fun x => x.add k) (n - k) (c - k))) g (A.map fun x => x.add k) (n - k) (c - k) (bs.drop k) e) := by
  obtain ⟨h1, h2, h3, h4⟩ := h
  have hh : ∀ u, (w.setCell ⟨g, 0, none⟩ u).heap[g]? = some (.cells #[u, .int .i64 (e : Nat)] 105 (0, 0)) := by
    intro u
    simp [World.setCell, Array.getElem?_modify, h1]
  refine ⟨fun hc => ⟨hh _, ⟨by rw [List.length_drop, h2.1], ?_⟩, by omega, Nat.zero_le _⟩, fun hc => ⟨hh _, ?_, by omega, by omega⟩⟩
  · have : bs.drop k = [] := List.drop_eq_nil_of_le (by have := h2.1; omega)
    rw [this]
    exact Rd.nil _ _ _
  · have := h2.drop k
    exact ⟨this.1, this.2.setCell (Nat.le_refl _) _⟩
def Passed (w : World) (g k : Nat) (A : Option Addr) (c : Nat) (bs : List UInt8) (e : Nat) (r : Ending) (w' : World) : Prop :=
  ∃ A' n' c' u, r = .returned (.slice A k c) ∧ w' = w.setCell ⟨g, 0, none⟩ u ∧ Rdr w' g A' n' c' (bs.drop k) e
theorem pass_ok (k : Nat) (g : Nat) (A : Option Addr) (n c : Nat) (bs : List UInt8) (e : Nat) (w : World) (hR : Rdr w g A n c bs e) (hk : k ≤ n) :
    Calls Try.prog 71 #[.pointer (some ⟨g, 0, none⟩), .int .i64 k] w (Passed w g k A c bs e) := by
  have h1 := hR.cell0
  have h2 := hR.free 0
  have hn := hR.2.2.1
  have hm := hR.2.2.2
  have hp := Lib.hid (hR.pass hk)
  unfold maxLen at hm
  have hd : decide ((k : Int) < 0) = false := decide_eq_false (by omega)
  have hd1 : decide ((n : Int) < (k : Int)) = false := decide_eq_false (by omega)
  by_cases hck : c = k
  · subst hck
    obtain rfl : n = c := by omega
    have hp1 := hp.out.1 rfl
    rw [Nat.sub_self] at hp1
    have HP := Lib.hid hp1
    clear hp hp1
    go_enter Try.func71, Try.ntmps71
    go_wp2
    go_ret
    exact ⟨_, _, _, _, rfl, rfl, HP.out⟩
  · go_enter Try.func71, Try.ntmps71
    go_wp2
    go_ret
    exact ⟨_, _, _, _, rfl, rfl, hp.out.2 hck⟩

theorem i64_andNot128 : ∀ x : Fin 256, bits .andNot .i64 (x.val : Int) 128 = ((x.val % 128 : Nat) : Int) := by decide +kernel
/-- what 'number' leaves: a number and the rest; or a panic -/
def Numbered (w : World) (g : Nat) (bs : List UInt8) (r : Ending) (w' : World) : Prop :=
  w.grownBy w' (some g) ∧ w.heap.size = w'.heap.size ∧
  match Vint.dec bs with
  | .ok (n, rest) => r = .returned (.int .i64 (n : Nat)) ∧ ∃ A' c', Rdr w' g A' rest.length c' rest 0
  | .error x => r = .panicked [{ v := fault (x : Nat), recovered := false }] ∧ ∃ A' n' c' rest, Rdr w' g A' n' c' rest 0
theorem i64_or_nat (a b : Nat) (ha : a < 9223372036854775808) (hb : b < 9223372036854775808) : bits .or .i64 (a : Int) (b : Int) = ((a ||| b : Nat) : Int) := by
  have hx : a ||| b < 2 ^ 63 := Nat.or_lt_two_pow (by omega) (by omega)
  have hn : ∀ x : Nat, x < 9223372036854775808 → (BitVec.ofInt 64 (x : Int)).toNat = x := fun x hx => by
    rw [BitVec.ofInt_natCast, BitVec.toNat_ofNat]; exact Nat.mod_eq_of_lt (by omega)
  show IntKind.i64.wrap ((BitVec.ofInt 64 (a : Int) ||| BitVec.ofInt 64 (b : Int)).toNat : Int) = _
  rw [BitVec.toNat_or, hn a ha, hn b hb, IntKind.wrap_i64]
  omega
theorem pow128 (k : Nat) : (128 : Nat) ^ k = 2 ^ (7 * k) := by rw [show (128 : Nat) = 2 ^ 7 from rfl, ← Nat.pow_mul]
theorem or_shift (acc x k : Nat) (hacc : acc < 128 ^ k) (hk : k < 6) (hx : x < 128) : bits .or .i64 (acc : Int) (wrap64 ((x : Int) * 2 ^ (7 * k))) = ((acc + x * 128 ^ k : Nat) : Int) := by
  have h5 : 128 ^ k ≤ 128 ^ 5 := Nat.pow_le_pow_right (by decide) (by omega)
  have hm : x * 128 ^ k ≤ 127 * 128 ^ 5 := Nat.mul_le_mul (by omega) h5
  have e5 : (128 : Nat) ^ 5 = 34359738368 := by decide
  rw [e5] at h5 hm
  have e1 : ((x : Int) * 2 ^ (7 * k)) = ((x * 128 ^ k : Nat) : Int) := by rw [pow128]; push_cast; rfl
  rw [e1, IntWalk.wrap64_in _ ⟨by omega, by omega⟩, i64_or_nat _ _ (by omega) (by omega)]
  have e2 := Nat.shiftLeft_add_eq_or_of_lt (by rw [← pow128]; exact hacc : acc < 2 ^ (7 * k)) x
  rw [Nat.shiftLeft_eq, ← pow128] at e2
  rw [Nat.or_comm, ← e2, Nat.add_comm]
theorem passed_one {w wr w1 : World} {g : Nat} {A' : Option Addr} {n' c' : Nat} {x : UInt8} {rest : List UInt8} {u : Value} (hr : Rdr wr g A' n' c' (x :: rest) 0) (hg : w.grownBy wr (some g)) (hs : w.heap.size = wr.heap.size)
    (hw1 : w1 = wr.setCell ⟨g, 0, none⟩ u) : ∃ a, A' = some a ∧ w1.cell? a = some (bv x) ∧ w.grownBy w1 (some g) ∧ w.heap.size = w1.heap.size := by
  obtain ⟨a, hA, hab, hc⟩ := (hr.2.1).at_ (k := 0) (by simp)
  refine ⟨a, hA, ?_, by rw [hw1]; exact only_set hg _, by rw [hw1, hs]; simp [World.setCell]⟩
  rw [hw1, World.cell?_setCell_other _ _ _ _ (fun e => by rw [← e] at hab; exact absurd hab (Nat.lt_irrefl _))]
  simpa [Addr.add] using hc
set_option maxRecDepth 100000 in
theorem number_any (g : Nat) (A : Option Addr) (n c : Nat) (bs : List UInt8) (w : World) (hR : Rdr w g A n c bs 0) :
    Calls Try.prog 66 #[.pointer (some ⟨g, 0, none⟩)] w (Numbered w g bs) := by
  go_enter Try.func66, Try.ntmps66
  go_wp2_with fail
  go_loopw [3, 6] (fun v i wr => ∃ (k acc : Nat) (A' : Option Addr) (n' c' : Nat) (rest : List UInt8), k ≤ 6 ∧ i = .int .i64 k ∧ v = .int .i64 acc ∧ acc < 128 ^ k ∧ Vint.decF (6 - k) k acc rest = Vint.dec bs ∧
      Rdr wr g A' n' c' rest 0 ∧ w.grownBy wr (some g) ∧ w.heap.size = wr.heap.size) (fun _ i _ => 6 - (intOf i).toNat)
  case atStart => exact ⟨0, 0, A, n, c, bs, by omega, rfl, rfl, by decide, rfl, hR, World.grownBy.refl w _, rfl⟩
  case round =>
    obtain ⟨k, acc, A', n', c', rest, hk, rfl, rfl, hacc, hdec, hr, hg, hsz⟩ := hrel
    have HD := Lib.hid hdec
    have HZ := Lib.hid hsz
    clear hdec hsz
    by_cases hk6 : k = 6
    · subst hk6
      go_wp2
      refine ⟨rfl, hg, HZ.out, ?_⟩
      rw [← HD.out]
      exact ⟨rfl, _, _, _, _, hr⟩
    · have hlt : k < 6 := by omega
      rcases rest with _ | ⟨x, rest⟩
      · have hn0 := hr.2.1.1
        have H0 := Lib.hid hn0
        clear hn0
        go_wp2_with fail
        refine (pass_short 1 _ _ _ _ _ _ _ hr (by rw [H0.out]; simp)).mono ?_
        rintro e w1 ⟨rfl, rfl⟩
        refine ⟨rfl, hg, HZ.out, ?_⟩
        rw [← HD.out]
        obtain ⟨m, hm⟩ : ∃ m, 6 - k = m + 1 := ⟨5 - k, by omega⟩
        rw [hm]
        exact ⟨rfl, _, _, _, _, hr⟩
      · have hn' := hr.2.1.1
        have hx := x.toNat_lt
        have ea := i64_andNot128 ⟨x.toNat, hx⟩
        simp only at ea
        obtain ⟨N, hN⟩ : ∃ N, N = acc + x.toNat % 128 * 128 ^ k := ⟨_, rfl⟩
        have eo := or_shift acc (x.toNat % 128) k hacc hlt (by omega)
        rw [← hN] at eo
        rw [show ((x.toNat % 128 : Nat) : Int) = (x.toNat : Int) % 128 from rfl] at eo
        have hNb : N < 128 ^ (k + 1) := by
          rw [hN, Nat.pow_succ]
          have : x.toNat % 128 * 128 ^ k ≤ 127 * 128 ^ k := Nat.mul_le_mul_right _ (by omega)
          omega
        have h6 : 128 ^ (k + 1) ≤ 128 ^ 6 := Nat.pow_le_pow_right (by decide) (by omega)
        have e6 : (128 : Nat) ^ 6 = 4398046511104 := by decide
        rw [e6] at h6
        have hNt : N < 4398046511104 := by omega
        clear h6 e6
        have HNN := Lib.hid hN
        clear hN
        obtain ⟨m, hm⟩ : ∃ m, 6 - k = m + 1 := ⟨5 - k, by omega⟩
        have hdr : List.drop 1 (x :: rest) = rest := rfl
        by_cases h128 : 128 ≤ x.toNat
        · go_wp2_with fail
          refine (pass_ok 1 _ _ _ _ _ _ _ hr (by rw [hn']; simp)).mono ?_
          rintro e w1 ⟨A2, n2, c2, u, rfl, hw1, hr2⟩
          rw [hdr] at hr2
          obtain ⟨a, hA, hc1, hg1, hs1⟩ := passed_one hr hg HZ.out hw1
          subst hA
          have HS := Lib.hid hs1
          have HM := Lib.hid hm
          clear hw1 hn' hdr hs1 hm
          go_wp2_with fail
          go_roundw
          case rel =>
            refine ⟨k + 1, N, _, _, _, _, by omega, by go_num, rfl, hNb, ?_, hr2, hg1, HS.out⟩
            rw [← HD.out, HM.out, show 6 - (k + 1) = m by have := HM.out; omega]
            conv => rhs; unfold Vint.decF
            rw [if_pos h128, HNN.out]
          case measure => simp [intOf]; omega
        · have hxm : x.toNat % 128 = x.toNat := Nat.mod_eq_of_lt (by omega)
          have hdec2 : Vint.dec bs = if Vint.top < N ∨ (x.toNat = 0 ∧ 0 < k) then .error 4 else .ok (N, rest) := by
            rw [← HD.out, hm]
            conv => lhs; unfold Vint.decF
            rw [if_neg h128, HNN.out, hxm]
          have HD2 := Lib.hid hdec2
          have hd8 : decide ((128 : Int) ≤ (x.toNat : Int)) = false := decide_eq_false (by omega)
          have HM := Lib.hid hm
          clear hdec2 hxm hm HD
          by_cases hb : 1099511627776 < N
          · have HB := Lib.hid (HD2.out.trans (if_pos (.inl hb)))
            have ht : decide ((1099511627776 : Int) < (N : Int)) = true := decide_eq_true (by omega)
            clear HD2
            go_wp2_with fail
            refine (pass_ok 1 _ _ _ _ _ _ _ hr (by rw [hn']; simp)).mono ?_
            rintro e w1 ⟨A2, n2, c2, u, rfl, hw1, hr2⟩
            rw [hdr] at hr2
            obtain ⟨a, hA, hc1, hg1, hs1⟩ := passed_one hr hg HZ.out hw1
            subst hA
            have HS := Lib.hid hs1
            clear hw1 hn' hdr hs1
            go_wp2
            refine ⟨rfl, hg1, HS.out, ?_⟩
            rw [HB.out]
            exact ⟨rfl, _, _, _, _, hr2⟩
          · have ht : decide ((1099511627776 : Int) < (N : Int)) = false := decide_eq_false (by omega)
            have HNT : ¬ Vint.top < N := hb
            by_cases hx0 : x.toNat = 0
            · have hxe : ((x.toNat : Int) == 0) = true := by rw [hx0]; rfl
              by_cases hk0 : k = 0
              · rw [if_neg (fun h => by rcases h with h | h <;> omega)] at HD2
                have hkd : decide (0 < k) = false := decide_eq_false (by omega)
                have hk00 := Lib.hid hk0
                clear hk0
                have hx00 := Lib.hid hx0
                clear hx0
                go_wp2_with fail
                refine (pass_ok 1 _ _ _ _ _ _ _ hr (by rw [hn']; simp)).mono ?_
                rintro e w1 ⟨A2, n2, c2, u, rfl, hw1, hr2⟩
                rw [hdr] at hr2
                obtain ⟨a, hA, hc1, hg1, hs1⟩ := passed_one hr hg HZ.out hw1
                subst hA
                have HS := Lib.hid hs1
                clear hw1 hn' hdr hs1
                go_wp2
                go_ret
                refine ⟨hg1, HS.out, ?_⟩
                rw [HD2.out]
                have := hr2.2.1.1
                subst this
                exact ⟨rfl, _, _, hr2⟩
              · have HB := Lib.hid (HD2.out.trans (if_pos (.inr ⟨hx0, by omega⟩)))
                have hkd : 0 < k := by omega
                have hx00 := Lib.hid hx0
                clear HD2 hx0
                go_wp2_with fail
                refine (pass_ok 1 _ _ _ _ _ _ _ hr (by rw [hn']; simp)).mono ?_
                rintro e w1 ⟨A2, n2, c2, u, rfl, hw1, hr2⟩
                rw [hdr] at hr2
                obtain ⟨a, hA, hc1, hg1, hs1⟩ := passed_one hr hg HZ.out hw1
                subst hA
                have HS := Lib.hid hs1
                clear hw1 hn' hdr hs1
                go_wp2
                refine ⟨rfl, hg1, HS.out, ?_⟩
                rw [HB.out]
                exact ⟨rfl, _, _, _, _, hr2⟩
            · have hxe : ((x.toNat : Int) == 0) = false := by rw [beq_eq_false_iff_ne]; omega
              rw [if_neg (fun h => by rcases h with h | h <;> omega)] at HD2
              go_wp2_with fail
              refine (pass_ok 1 _ _ _ _ _ _ _ hr (by rw [hn']; simp)).mono ?_
              rintro e w1 ⟨A2, n2, c2, u, rfl, hw1, hr2⟩
              rw [hdr] at hr2
              obtain ⟨a, hA, hc1, hg1, hs1⟩ := passed_one hr hg HZ.out hw1
              subst hA
              have HS := Lib.hid hs1
              clear hw1 hn' hdr hs1
              go_wp2
              go_ret
              refine ⟨hg1, HS.out, ?_⟩
              rw [HD2.out]
              have := hr2.2.1.1
              subst this
              exact ⟨rfl, _, _, hr2⟩
end Go.Proofs.Ytacmdkjodnaohaa

/- The walks of a reader's 'reading' (a panic is caught) and Int. -/
namespace Go.Proofs.Ytacmdkjodnaohaa
open Go.RowKit

theorem frame20 (a b f : Value) : (#[a, b] ++ (Array.replicate 18 undef).setIfInBounds 3 f : Array Value) = #[a, b, undef, undef, undef, f, undef, undef, undef, undef, undef, undef, undef, undef, undef, undef, undef, undef, undef, undef] := by kernel_rfl
theorem assert_fault (x : Int) (w : World) : (Instr.typeAssert (fault x) 20 108 true).run Try.prog w = .ok (.tuple #[.agg #[.int .i64 x], .bool true]) w := by kernel_rfl
theorem caught_panic (g b0 b1 : Nat) (x : Int) (older : List PanicEntry) (A : Option Addr) (n c : Nat) (v1 v2 : Value) (w : World) (hq : w.cell? ⟨b1, 0, none⟩ = some (.pointer (some ⟨g, 0, none⟩))) (hp : w.cell? ⟨b0, 0, none⟩ = some (.slice A n c)) (h0 : w.cell? ⟨g, 0, none⟩ = some v1) (h1 : w.cell? ⟨g, 1, none⟩ = some v2)
    (hf : ∀ i, w.frozen? ⟨g, i, none⟩ = false) :
    CallsD Try.prog 70 #[.pointer (some ⟨b0, 0, none⟩), .pointer (some ⟨b1, 0, none⟩)] (.panicking ({ v := fault x, recovered := false } :: older)) w fun e u' w' =>
      e = .returned (.tuple #[]) ∧ u' = .panicking ({ v := fault x, recovered := true } :: older) ∧ w' = (((w.setCell ⟨g, 0, none⟩ (.slice A n c)).setCell ⟨g, 1, none⟩ (.int .i64 x)).alloc (.cells #[.int .i64 x] 108)).drew := by
  have hf0 := hf 0
  have hf1 := hf 1
  clear hf
  have ta := assert_fault x
  have lt0 := World.block_lt_of_cell? w _ h0
  have lt1 := World.block_lt_of_cell? w _ hq
  have lt2 := World.block_lt_of_cell? w _ hp
  refine callsD_of_wpS Try.func70 rfl fun c₀ cs hu => ?_
  apply wpS_seq
  apply wpS_region
  simp [wpOpsS, go_sem, recoverD, hu, Try.ntmps70, Exit.thenS]
  refine wpS_of_wp ?_
  rw [frame20]
  go_wp2_with fail
  go_region
  go_wp2_with fail
  simp [bodyPostS, results, Try.results70]
theorem caught_none (b0 b1 : Nat) (w : World) :
    CallsD Try.prog 70 #[.pointer (some ⟨b0, 0, none⟩), .pointer (some ⟨b1, 0, none⟩)] .returning w fun e u' w' => e = .returned (.tuple #[]) ∧ u' = .returning ∧ w' = w := by
  refine callsD_of_wpS Try.func70 rfl fun c₀ cs hu => ?_
  apply wpS_seq
  apply wpS_region
  simp [wpOpsS, go_sem, recoverD, hu, Try.ntmps70, Exit.thenS]
  refine wpS_of_wp ?_
  rw [frame20]
  go_wp2_with fail
  cases c₀
  simp_all [bodyPostS, results, Try.results70]

/-- The closure that Int hands to reading: a number. -/
theorem int1_ok (g b1 b2 m : Nat) (A : Option Addr) (n c : Nat) (bs rest : List UInt8) (v : Value) (w : World) (hR : Rdr w g A n c bs 0) (hd : Vint.dec bs = .ok (m, rest)) (h1 : w.cell? ⟨b1, 0, none⟩ = some (.pointer (some ⟨g, 0, none⟩))) (h2 : w.cell? ⟨b2, 0, none⟩ = some v) (hf : w.frozen? ⟨b2, 0, none⟩ = false) (hb : g ≠ b2) :
    Calls Try.prog 65 #[.pointer (some ⟨b1, 0, none⟩), .pointer (some ⟨b2, 0, none⟩)] w fun e w' => e = .returned (.tuple #[]) ∧
      ∃ w1 A' c', w.grownBy w1 (some g) ∧ w.heap.size = w1.heap.size ∧ Rdr w1 g A' rest.length c' rest 0 ∧ w' = w1.setCell ⟨b2, 0, none⟩ (.int .i64 m) := by
  have HD := Lib.hid hd
  clear hd
  go_enter Try.func65, Try.ntmps65
  go_wp2_with fail
  refine (number_any _ _ _ _ _ _ hR).mono ?_
  rintro e w1 ⟨hg, hs, hm⟩
  rw [HD.out] at hm
  obtain ⟨rfl, A', c', hR'⟩ := hm
  have e2 := hg.block b2 (World.block_lt_of_cell? w _ h2) (fun e => hb (by injection e with e; exact e.symm))
  have h2' : w1.cell? ⟨b2, 0, none⟩ = some v := (World.cell?_of_block (a := ⟨b2, 0, none⟩) e2).trans h2
  have hf' : w1.frozen? ⟨b2, 0, none⟩ = false := (World.frozen?_of_block (a := ⟨b2, 0, none⟩) e2).trans hf
  have HS := Lib.hid hs
  clear hs e2
  go_wp2_with fail
  go_end0
  exact ⟨rfl, w1, A', c', hg, HS.out, hR', rfl⟩
theorem int1_bad (g b1 b2 x : Nat) (A : Option Addr) (n c : Nat) (bs : List UInt8) (w : World) (hR : Rdr w g A n c bs 0) (hd : Vint.dec bs = .error x) (h1 : w.cell? ⟨b1, 0, none⟩ = some (.pointer (some ⟨g, 0, none⟩))) :
    Calls Try.prog 65 #[.pointer (some ⟨b1, 0, none⟩), .pointer (some ⟨b2, 0, none⟩)] w fun e w' => e = .panicked [{ v := fault (x : Nat), recovered := false }] ∧
      ∃ A' n' c' rest, w.grownBy w' (some g) ∧ w.heap.size = w'.heap.size ∧ Rdr w' g A' n' c' rest 0 := by
  have HD := Lib.hid hd
  clear hd
  go_enter Try.func65, Try.ntmps65
  go_wp2_with fail
  refine (number_any _ _ _ _ _ _ hR).mono ?_
  rintro e w1 ⟨hg, hs, hm⟩
  rw [HD.out] at hm
  obtain ⟨rfl, A', n', c', rest, hR'⟩ := hm
  have HS := Lib.hid hs
  clear hs
  go_wp2_with fail
  exact ⟨rfl, rfl, A', n', c', rest, hg, HS.out, hR'⟩

theorem reading_fail (g e : Nat) (A : Option Addr) (n c : Nat) (bs : List UInt8) (w : World) (hR : Rdr w g A n c bs e) (he : e ≠ 0) (f : Value) :
    Calls Try.prog 64 #[.pointer (some ⟨g, 0, none⟩), f] w fun r w' => r = .returned (.tuple #[]) ∧ Below w.heap.size w w' := by
  have h1 := hR.cell1
  have hlt := hR.lt
  have hne : ((e : Int) != 0) = true := by rw [bne_iff_ne]; omega
  go_enter_defers Try.func64, Try.ntmps64
  go_wp2_with fail
  exact ⟨_, results_none rfl _ _ _, rfl, (Below.refl _ _).alloc (Nat.le_refl _) _⟩
/-- the world in which reading calls what it was handed -/
def readW (w : World) (g : Nat) (A : Option Addr) (n c : Nat) : World := (w.alloc (.cells #[.pointer (some ⟨g, 0, none⟩)] 87)).alloc (.cells #[.slice A n c] 59)
/-- the world behind a panic that was caught -/
def backW (w : World) (g : Nat) (A : Option Addr) (n c : Nat) (x : Int) : World := (((w.setCell ⟨g, 0, none⟩ (.slice A n c)).setCell ⟨g, 1, none⟩ (.int .i64 x)).alloc (.cells #[.int .i64 x] 108)).drew
def ReadDone (g : Nat) (A : Option Addr) (n c : Nat) (R : Ending → World → Prop) (r : Ending) (w' : World) : Prop :=
  r = .returned (.tuple #[]) ∧ (R (.returned (.tuple #[])) w' ∨ ∃ x w1, R (.panicked [{ v := fault x, recovered := false }]) w1 ∧ w' = backW w1 g A n c x)
theorem reading_any (g k : Nat) (cap : Array Value) (A : Option Addr) (n c : Nat) (bs : List UInt8) (w : World) (hR : Rdr w g A n c bs 0) (R : Ending → World → Prop)
    (hk : ∀ args w, (callFunc k args).run Try.prog w = .ok (.enter k args) w)
    (hdo : Calls Try.prog k cap (readW w g A n c) R)
    (hend : ∀ e w1, R e w1 → e = .returned (.tuple #[]) ∨ ∃ x A' n' c' rest, e = .panicked [{ v := fault x, recovered := false }] ∧ (readW w g A n c).grownBy w1 (some g) ∧ Rdr w1 g A' n' c' rest 0) :
    Calls Try.prog 64 #[.pointer (some ⟨g, 0, none⟩), .func (.func k) #[] cap] w (ReadDone g A n c R) := by
  have hc0 := hR.cell0
  have hc1 := hR.cell1
  have hlt := hR.lt
  have HD := Lib.hid hdo
  have HE := Lib.hid hend
  clear hdo hend
  have hmf : ∀ (fn : Fn) (first cap : Array Value) (w : World), (Instr.makeFunc fn first cap).run Try.prog w = .ok (.func fn first cap) w := fun _ _ _ _ => rfl
  go_enter_defers Try.func64, Try.ntmps64
  go_wp2_with fail
  refine (show Calls Try.prog k cap (readW w g A n c) R from HD.out).mono ?_
  intro e w1 hr
  rcases HE.out _ _ hr with rfl | ⟨x, A', n', c', rest, rfl, hg, hR1⟩
  · have HR := Lib.hid hr
    clear hr
    go_wp2_with fail
    refine leaves_cons (f := 70) (args := #[.pointer (some ⟨w.heap.size + 1, 0, none⟩), .pointer (some ⟨w.heap.size, 0, none⟩)]) (by simp) (by simp [go_sem]) ?_
    refine (caught_none _ _ _).mono ?_
    rintro e u' w'' ⟨rfl, rfl, rfl⟩
    exact ⟨_, results_none rfl _ _ _, rfl, .inl HR.out⟩
  · have HR := Lib.hid hr
    clear hr
    go_wp2_with fail
    refine leaves_cons (f := 70) (args := #[.pointer (some ⟨w.heap.size + 1, 0, none⟩), .pointer (some ⟨w.heap.size, 0, none⟩)]) (by simp) (by simp [go_sem]) ?_
    have z1 : (readW w g A n c).heap.size = w.heap.size + 2 := by simp [readW]
    have z2 : (readW w g A n c).cell? ⟨w.heap.size, 0, none⟩ = some (.pointer (some ⟨g, 0, none⟩)) := by simp [readW, go_sem]
    have z3 : (readW w g A n c).cell? ⟨w.heap.size + 1, 0, none⟩ = some (.slice A n c) := by simp [readW, go_sem]
    have b1 := hg.block w.heap.size (by omega) (fun e => by injection e; omega)
    have b2 := hg.block (w.heap.size + 1) (by omega) (fun e => by injection e; omega)
    refine (caught_panic g _ _ x [] A n c _ _ _ ((World.cell?_of_block (a := ⟨w.heap.size, 0, none⟩) b1).trans z2) ((World.cell?_of_block (a := ⟨w.heap.size + 1, 0, none⟩) b2).trans z3) hR1.cell0 hR1.cell1 hR1.free).mono ?_
    rintro e u' w'' ⟨rfl, rfl, rfl⟩
    exact ⟨_, results_none rfl _ _ _, rfl, .inr ⟨x, w1, HR.out, rfl⟩⟩

theorem readW_below (w : World) (g : Nat) (A : Option Addr) (n c : Nat) : Below w.heap.size w (readW w g A n c) := ((Below.refl _ _).alloc (Nat.le_refl _) _).alloc (by simp) _
theorem backW_only {a w : World} {g : Nat} (h : a.grownBy w (some g)) (A : Option Addr) (n c : Nat) (x : Int) : a.grownBy (backW w g A n c x) (some g) := only_drew (only_alloc (only_set (only_set h _) _) _)
theorem backW_blk {w : World} {g b : Nat} {t : TypeId} {cs : Array Value} (h : Blk w b t cs) (hne : b ≠ g) (A : Option Addr) (n c : Nat) (x : Int) : Blk (backW w g A n c x) b t cs :=
  ((h.far (p := ⟨g, 0, none⟩) hne _).far (p := ⟨g, 1, none⟩) hne _).alloc _
theorem backW_rdr {w : World} {g n c n' c' : Nat} {A A' : Option Addr} {bs rest : List UInt8} (h : Rdr w g A' n' c' rest 0) (hb : RdB w g A n bs) (hn : n ≤ c) (hc : c ≤ maxLen) (x : Nat) : Rdr (backW w g A n c x) g A n c bs x := by
  have h0 : Blk w g 105 #[.slice A' n' c', .int .i64 (0 : Nat)] := h.1
  have h1 := (((h0.set_ 0 (.slice A n c)).set_ 1 (.int .i64 x)).alloc (.cells #[.int .i64 x] 108)).drew
  refine ⟨h1, ⟨hb.1, ?_⟩, hn, hc⟩
  exact ((hb.2.setCell (p := ⟨g, 0, none⟩) (Nat.le_refl _) _).setCell (p := ⟨g, 1, none⟩) (Nat.le_refl _) _).alloc (by have := h.lt; simp [World.setCell]; omega) _
theorem Rdr.only {w w' : World} {g : Nat} {A : Option Addr} {n : Nat} {bs : List UInt8} (hb : RdB w g A n bs) (hg : w.grownBy w' (some g)) (h : g < w.heap.size) : RdB w' g A n bs :=
  ⟨hb.1, hb.2.keep fun p hp => World.cell?_of_block (hg.block p.block (by omega) (fun e => by injection e; omega))⟩
/-- Another reader's block may turn. -/
theorem Rdr.far {w w' : World} {g h : Nat} {A A' : Option Addr} {n c n' c' : Nat} {bs bs' : List UInt8} {e e' : Nat} (hR : Rdr w g A n c bs e) (hH : Rdr w h A' n' c' bs' e') (hne : g ≠ h) (hg : w.grownBy w' (some h)) : Rdr w' g A n c bs e := by
  have hb : Blk w h 105 #[.slice A' n' c', .int .i64 (e' : Nat)] := hH.1
  refine ⟨(hg.block g hR.lt (fun e => hne (by injection e))).trans hR.1, ⟨hR.2.1.1, fun j u hu => ?_⟩, hR.2.2⟩
  obtain ⟨a, ha, hab, hc⟩ := hR.2.1.2 j u hu
  have hlt := World.block_lt_of_cell? w _ hc
  refine ⟨a, ha, hab, (World.cell?_of_block (hg.block _ hlt (fun e => ?_))).trans hc⟩
  have e1 : (a.add j).block = h := by injection e
  obtain ⟨x, hx⟩ : ∃ x, u = bv x := by
    have hj := List.mem_of_getElem? hu
    obtain ⟨x, _, rfl⟩ := List.mem_map.1 hj
    exact ⟨x, rfl⟩
  subst hx
  have h1 : w.heap[(a.add j).block]? = some (.cells #[.slice A' n' c', .int .i64 (e' : Nat)] 105 (0, 0)) := by rw [e1]; exact hb
  unfold World.cell? at hc
  rw [h1] at hc
  simp only at hc
  split at hc
  · cases hc
  · generalize (a.add j).off = q at hc
    match q, hc with
    | 0, hc => simp at hc
    | 1, hc => simp at hc
    | q + 2, hc => simp at hc
/-- A reader's step: Int. -/
def IntDone (w : World) (g : Nat) (bs : List UInt8) (e : Nat) (r : Ending) (w' : World) : Prop :=
  r = .returned (.int .i64 ((Vint.intM bs e).1 : Nat)) ∧ w.grownBy w' (some g) ∧ ∃ A' c', Rdr w' g A' (Vint.intM bs e).2.1.length c' (Vint.intM bs e).2.1 (Vint.intM bs e).2.2
/-- what Int's last statements leave: the result's own variable is read and stored again -/
theorem int_tail {w w2 : World} {g m : Nat} {A' : Option Addr} {n' c' : Nat} {bs' : List UInt8} {e' : Nat} (hlt : g < w.heap.size) (hr : Rdr w2 g A' n' c' bs' e') (hg : w.grownBy w2 (some g)) :
    w.grownBy (w2.setCell ⟨w.heap.size + 1, 0, none⟩ (.int .i64 m)) (some g) ∧ Rdr (w2.setCell ⟨w.heap.size + 1, 0, none⟩ (.int .i64 m)) g A' n' c' bs' e' :=
  ⟨only_new hg (by show _ ≤ w.heap.size + 1; omega) _, hr.below ((Below.refl _ _).setCell (by show _ ≤ w.heap.size + 1; omega) _)⟩
theorem int_any (g : Nat) (A : Option Addr) (n c : Nat) (bs : List UInt8) (e : Nat) (w : World) (hR : Rdr w g A n c bs e) :
    Calls Try.prog 54 #[.pointer (some ⟨g, 0, none⟩)] w (IntDone w g bs e) := by
  obtain rfl := hR.2.1.1
  have hlt := hR.lt
  have hmf : ∀ (fn : Fn) (first cap : Array Value) (w : World), (Instr.makeFunc fn first cap).run Try.prog w = .ok (.func fn first cap) w := fun _ _ _ _ => rfl
  have hck : ∀ args w, (callFunc 65 args).run Try.prog w = .ok (.enter 65 args) w := by
    intro args w
    simp [go_sem]
  obtain ⟨W, hW⟩ : ∃ W, W = (w.alloc (.cells #[.pointer (some ⟨g, 0, none⟩)] 87)).alloc (.cells #[.int .i64 0] 3) := ⟨_, rfl⟩
  have hBW : Below w.heap.size w W := by rw [hW]; exact ((Below.refl _ _).alloc (Nat.le_refl _) _).alloc (by simp) _
  have hRW : Rdr W g A bs.length c bs e := hR.below (hBW.mono (by omega))
  have q1 : Blk W w.heap.size 87 #[.pointer (some ⟨g, 0, none⟩)] := by rw [hW]; exact (Blk.new w _ _).alloc _
  have q2 : Blk W (w.heap.size + 1) 3 #[.int .i64 0] := by rw [hW]; have := Blk.new (w.alloc (.cells #[.pointer (some ⟨g, 0, none⟩)] 87)) 3 #[.int .i64 0]; simpa using this
  have q4 : W.heap.size = w.heap.size + 2 := by rw [hW]; simp
  have hGW : w.grownBy W (some g) := only_of_below hBW _
  have HW := Lib.hid hW
  have Q4 := Lib.hid q4
  clear hW q4
  by_cases he : e = 0
  · subst he
    have y1 := (readW_below W g A bs.length c)
    have y2 := hRW.below (y1.mono (by have := Q4.out; omega))
    have y3 := q1.below y1 q1.lt
    have y4 := q2.below y1 q2.lt
    have y6 : w.grownBy (readW W g A bs.length c) (some g) := only_of_below (hBW.trans (y1.mono (by have := Q4.out; omega))) _
    have hne : some g ≠ some (w.heap.size + 1) := fun e => by injection e; omega
    rcases hd : Vint.dec bs with x | ⟨m, rest⟩
    · have hI := Vint.intM_bad hd
      have HI := Lib.hid hI
      have HD := Lib.hid hd
      clear hI hd
      go_enter Try.func54, Try.ntmps54
      go_wp2_with fail
      rw [← HW.out]
      refine (reading_any g _ _ A _ c bs W hRW _ hck (int1_bad g _ _ x A _ c bs _ y2 HD.out (y3.cell 0)) ?_).mono ?_
      · rintro e' w1 ⟨rfl, A', n', c', rest, z1, z2, z3⟩
        exact .inr ⟨_, A', n', c', rest, rfl, z1, z3⟩
      rintro e' w2 ⟨rfl, hr⟩
      rcases hr with ⟨h, _⟩ | ⟨x', w1, ⟨hx, A', n', c', rest, z1, z2, z3⟩, rfl⟩
      · cases h
      · obtain rfl : x' = x := by injection hx with h; injection h with h; injection h with h; injection h with _ h; injection h with h; injection h with h; injection h with h; injection h
        have c1 := (backW_blk (y4.grown z1 hne) (fun e => hne (by rw [e])) A bs.length c x)
        have r2 : Rdr (backW w1 g A bs.length c x) g A bs.length c bs x := backW_rdr z3 (Rdr.only y2.2.1 z1 y2.lt) hR.2.2.1 hR.2.2.2 x
        have g2 := backW_only (y6.trans z1) A bs.length c x
        generalize backW w1 g A bs.length c x = w2 at *
        have c2 := c1.cell 0
        have c3 := c1.free 0
        have HT := Lib.hid (int_tail (m := 0) hlt r2 g2)
        go_wp2_with fail
        refine bodyPost_ret (v := .int .i64 0) (by simp [results, Try.results54, go_sem, c2]) rfl ?_
        unfold IntDone
        rw [HI.out]
        exact ⟨rfl, HT.out.1, A, c, HT.out.2⟩
    · have hI := Vint.intM_ok hd
      have HI := Lib.hid hI
      have HD := Lib.hid hd
      clear hI hd
      go_enter Try.func54, Try.ntmps54
      go_wp2_with fail
      rw [← HW.out]
      refine (reading_any g _ _ A _ c bs W hRW _ hck (int1_ok g _ _ m A _ c bs rest _ _ y2 HD.out (y3.cell 0) (y4.cell 0) (y4.free 0) (fun e => hne (by rw [e]))) ?_).mono ?_
      · rintro e' w1 ⟨rfl, h⟩
        exact .inl rfl
      rintro e' w2 ⟨rfl, hr⟩
      rcases hr with ⟨_, w1, A', c', z1, z2, z3, rfl⟩ | ⟨x', w1, ⟨hx, _⟩, rfl⟩
      · have c1 := (y4.grown z1 hne).set_ 0 (.int .i64 m)
        have ht := int_tail (m := m) hlt z3 (y6.trans z1)
        obtain ⟨t1, t2⟩ := ht
        generalize w1.setCell ⟨w.heap.size + 1, 0, none⟩ (.int .i64 m) = w2 at *
        have c2 := c1.cell 0
        have c3 := c1.free 0
        have HT := Lib.hid (int_tail (m := m) hlt t2 t1)
        go_wp2_with fail
        refine bodyPost_ret (v := .int .i64 m) (by simp [results, Try.results54, go_sem, c2]) rfl ?_
        unfold IntDone
        rw [HI.out]
        exact ⟨rfl, HT.out.1, A', c', HT.out.2⟩
      · cases hx
  · have hI := Vint.intM_fail (l := bs) he
    have HI := Lib.hid hI
    clear hI
    go_enter Try.func54, Try.ntmps54
    go_wp2_with fail
    rw [← HW.out]
    refine (reading_fail g e A _ c bs W hRW he _).mono ?_
    rintro e' w2 ⟨rfl, hb2⟩
    have c1 := q2.below hb2 q2.lt
    have r2 := hRW.below (hb2.mono (by have := Q4.out; omega))
    have g2 : w.grownBy w2 (some g) := only_of_below (hBW.trans (hb2.mono (by have := Q4.out; omega))) _
    have c2 := c1.cell 0
    have c3 := c1.free 0
    have HT := Lib.hid (int_tail (m := 0) hlt r2 g2)
    go_wp2_with fail
    refine bodyPost_ret (v := .int .i64 0) (by simp [results, Try.results54, go_sem, c2]) rfl ?_
    unfold IntDone
    rw [HI.out]
    exact ⟨rfl, HT.out.1, A, c, HT.out.2⟩
end Go.Proofs.Ytacmdkjodnaohaa

/- The walk of vint.Reader's Fail. -/
namespace Go.Proofs.Ytacmdkjodnaohaa
open Go.RowKit
theorem grown_refl0 (w : World) (row : Option Nat) : w.grownBy w row := ⟨rfl, rfl, rfl, Nat.le_refl _, fun _ _ _ => rfl⟩
theorem fail1_any (b x : Nat) (hx : x ≠ 0) (w : World) (h : w.cell? ⟨b, 0, none⟩ = some (.int .i64 (x : Nat))) :
    Calls Try.prog 67 #[.pointer (some ⟨b, 0, none⟩)] w fun e w' => e = .panicked [{ v := fault (x : Nat), recovered := false }] ∧ w = w' := by
  have hd : (((x : Nat) : Int) != 0) = true := by rw [bne_iff_ne]; omega
  go_enter Try.func67, Try.ntmps67
  go_wp2
  exact ⟨rfl, rfl, rfl⟩
/-- what Fail leaves -/
def FailDone (w : World) (g x : Nat) (bs : List UInt8) (e : Nat) (r : Ending) (w' : World) : Prop :=
  r = .returned (.tuple #[]) ∧ w.grownBy w' (some g) ∧ ∃ A' c', Rdr w' g A' bs.length c' bs (if e = 0 then x else e)
theorem fail_any (g x : Nat) (hx : x ≠ 0) (A : Option Addr) (n c : Nat) (bs : List UInt8) (e : Nat) (w : World) (hR : Rdr w g A n c bs e) :
    Calls Try.prog 55 #[.pointer (some ⟨g, 0, none⟩), .int .i64 (x : Nat)] w (FailDone w g x bs e) := by
  unfold FailDone
  obtain rfl := hR.2.1.1
  have hlt := hR.lt
  have hmf : ∀ (fn : Fn) (first cap : Array Value) (w : World), (Instr.makeFunc fn first cap).run Try.prog w = .ok (.func fn first cap) w := fun _ _ _ _ => rfl
  have hck : ∀ args w, (callFunc 67 args).run Try.prog w = .ok (.enter 67 args) w := by
    intro args w
    simp [go_sem]
  obtain ⟨W, hW⟩ : ∃ W, W = w.alloc (.cells #[.int .i64 (x : Nat)] 32) := ⟨_, rfl⟩
  have hBW : Below w.heap.size w W := by rw [hW]; exact (Below.refl _ _).alloc (Nat.le_refl _) _
  have hRW : Rdr W g A bs.length c bs e := hR.below (hBW.mono (by omega))
  have q1 : Blk W w.heap.size 32 #[.int .i64 (x : Nat)] := by rw [hW]; exact Blk.new w _ _
  have q4 : W.heap.size = w.heap.size + 1 := by rw [hW]; simp
  have HW := Lib.hid hW
  have Q4 := Lib.hid q4
  clear hW q4
  by_cases he : e = 0
  · subst he
    rw [if_pos rfl]
    have y1 := (readW_below W g A bs.length c)
    have y2 := hRW.below (y1.mono (by have := Q4.out; omega))
    have y3 := q1.below y1 q1.lt
    have y6 : w.grownBy (readW W g A bs.length c) (some g) := only_of_below (hBW.trans (y1.mono (by have := Q4.out; omega))) _
    go_enter Try.func55, Try.ntmps55
    go_wp2_with fail
    rw [← HW.out]
    refine (reading_any g _ _ A _ c bs W hRW _ hck (fail1_any _ x hx _ (y3.cell 0)) ?_).mono ?_
    · rintro e' w1 ⟨rfl, rfl⟩
      exact .inr ⟨_, A, bs.length, c, bs, rfl, grown_refl0 _ _, y2⟩
    rintro e' w2 ⟨rfl, hr⟩
    rcases hr with ⟨h, _⟩ | ⟨x', w1, ⟨hx', rfl⟩, rfl⟩
    · cases h
    · obtain rfl : x' = x := by injection hx' with h; injection h with h; injection h with h; injection h with _ h; injection h with h; injection h with h; injection h with h; injection h
      have r2 : Rdr (backW (readW W g A bs.length c) g A bs.length c x) g A bs.length c bs x := backW_rdr y2 y2.2.1 hR.2.2.1 hR.2.2.2 x
      have g2 := backW_only y6 A bs.length c x
      generalize backW (readW W g A bs.length c) g A bs.length c x = w2 at *
      go_wp2_with fail
      go_end0
      exact ⟨rfl, g2, A, c, r2⟩
  · rw [if_neg he]
    go_enter Try.func55, Try.ntmps55
    go_wp2_with fail
    rw [← HW.out]
    refine (reading_fail g e A _ c bs W hRW he _).mono ?_
    rintro e' w2 ⟨rfl, h2⟩
    have r2 := hRW.below (h2.mono (by have := Q4.out; omega))
    have g2 : w.grownBy w2 (some g) := only_of_below (hBW.trans (h2.mono (by have := Q4.out; omega))) _
    go_wp2_with fail
    go_end0
    exact ⟨rfl, g2, A, c, r2⟩
end Go.Proofs.Ytacmdkjodnaohaa

/- The walk of the reference of layer 2: Put. -/
namespace Go.Proofs.Ytacmdkjodnaohaa
open Go.RowKit

theorem rput_bad (A : Option Addr) (n c : Nat) (x : Int) (w : World) (hx : x < 0 ∨ 1099511627776 < x) :
    Calls Try.prog 52 #[.slice A n c, .int .i64 x] w fun e w' => e = .returned (.tuple #[.slice none 0 0, .int .i64 2]) ∧ w = w' := by
  rcases hx with hx | hx
  · have hd : decide (x < 0) = true := decide_eq_true (by omega)
    go_enter Try.func52, Try.ntmps52
    go_wp2_with fail
    go_ret2
    exact ⟨rfl, rfl⟩
  · have hd : decide (x < 0) = false := decide_eq_false (by omega)
    have hd1 : decide (1099511627776 < x) = true := decide_eq_true (by omega)
    go_enter Try.func52, Try.ntmps52
    go_wp2_with fail
    go_ret2
    exact ⟨rfl, rfl⟩
theorem u8_ref (m : Nat) : IntKind.u8.wrap (128 + (m : Int) % 128) = ((UInt8.ofNat (m % 128 + 128)).toNat : Int) := by
  rw [IntKind.wrap_u8', Vint.toNat_ofNat]; omega
set_option maxRecDepth 100000 in
theorem rput_ok (A : Option Addr) (n c : Nat) (bs : List UInt8) (x : Nat) (B : Nat) (w : World) (hb : RdB w B A n bs) (hB : B ≤ w.heap.size) (hl : n ≤ 140737488355000) (hx : x ≤ 1099511627776) :
    Calls Try.prog 52 #[.slice A n c, .int .i64 x] w (GiveBE w (bs ++ Vint.enc x) 0) := by
  have hd : decide ((x : Int) < 0) = false := decide_eq_false (by omega)
  have hd1 : decide (1099511627776 < (x : Int)) = false := decide_eq_false (by omega)
  go_enter Try.func52, Try.ntmps52
  go_wp2_with (at_builtin; refine wpList_appB rfl (.tmp 13) (.tmp 14) rfl rfl (OwnB.made w w.heap.size [] #[] 0 rfl rfl (Nat.le_refl _) (Nat.zero_le _)) rfl (hb.alloc hB _) (by omega) (by simp) ?_)
  intro A1 c1 w1 ho _ _ hbl0
  have hbl : Below w.heap.size w w1 := ((Below.refl _ _).alloc (Nat.le_refl _) _).trans hbl0
  clear hd hd1 hbl0
  have hn1 := ho.1
  have hl1 : bs.length ≤ 140737488355000 := by rw [← hb.1]; exact hl
  have HN1 := Lib.hid hn1
  clear hn1
  go_wp2_with fail
  go_loopw [1, 6] (fun i v wr => ∃ (m f : Nat) (pre : List UInt8) (A' : Option Addr) (n' c' : Nat), i = .int .i64 m ∧ v = .slice A' n' c' ∧ m < 128 ^ (f + 1) ∧ f ≤ 5 ∧ m ≤ 1099511627776 ∧ pre.length + f ≤ 5 ∧ pre ++ Vint.encF f m = Vint.enc x ∧
      OwnB wr w.heap.size A' n' c' (bs ++ pre) ∧ Below w.heap.size w wr) (fun i _ _ => (intOf i).toNat)
  case atStart => exact ⟨x, 5, [], A1, _, c1, rfl, rfl, by have : (128 : Nat) ^ 6 = 4398046511104 := by decide
                                                           show x < 128 ^ 6; omega, by omega, hx, by simp, rfl, by simpa using ho, hbl⟩
  case round =>
    obtain ⟨m, f, pre, A', n', c', rfl, rfl, hm, hf5, hmt, hpf, hpre, hown, hbel⟩ := hrel
    have hlen := hown.1
    rw [List.length_append] at hlen
    have hln : n' ≤ 140737488355005 := by omega
    have HL := Lib.hid hlen
    have HP := Lib.hid hpre
    clear hlen hpre
    by_cases hge : 128 ≤ m
    · have hf : 1 ≤ f := by
        rcases Nat.eq_zero_or_pos f with h0 | h0
        · subst h0; simp at hm; omega
        · exact h0
      obtain ⟨f, rfl⟩ : ∃ f', f = f' + 1 := ⟨f - 1, by omega⟩
      have a1 := u8_ref m
      go_wp2_with (at_builtin; refine wpList_appB rfl (.tmp 18) (.tmp 23) rfl rfl (hown.alloc _) rfl (RdB.made _ [UInt8.ofNat (m % 128 + 128)] _ _ _ ?hx1) ?hx0 ?hx2 ?_)
      case hx0 => show n' + 1 ≤ _; omega
      case hx2 => have := hbel.size; simp; omega
      intro A2 c2 w3 ho2 _ _ hbl2
      have hbel3 : Below w.heap.size w w3 := (hbel.alloc hbel.size _).trans hbl2
      go_wp2_with fail
      go_roundw
      case rel =>
        refine ⟨m / 128, f, pre ++ [UInt8.ofNat (m % 128 + 128)], _, _, _, rfl, rfl, ?_, by omega, by omega, by simp; omega, ?_, by simpa using ho2, hbel3⟩
        · rw [Nat.pow_succ] at hm; omega
        · rw [← HP.out]
          conv => rhs; unfold Vint.encF
          rw [if_neg (by omega)]; simp
      case measure => simp [intOf]; omega
    · have a1 := u8_byte m
      go_wp2_with (at_builtin; refine wpList_appB rfl (.tmp 27) (.tmp 30) rfl rfl (hown.alloc _) rfl (RdB.made _ [UInt8.ofNat m] _ _ _ ?hy1) ?hy0 ?hy2 ?_)
      case hy0 => show n' + 1 ≤ _; omega
      case hy2 => have := hbel.size; simp; omega
      intro A2 c2 w3 ho2 _ _ hbl2
      have hbel3 : Below w.heap.size w w3 := (hbel.alloc hbel.size _).trans hbl2
      go_wp2_with fail
      go_ret2
      refine ⟨_, _, _, rfl, ?_, hbel3⟩
      have e : Vint.encF f m = [UInt8.ofNat m] := by
        cases f with
        | zero => rfl
        | succ f => unfold Vint.encF; rw [if_pos (by omega)]
      rw [← HP.out, e]
      simpa using ho2

end Go.Proofs.Ytacmdkjodnaohaa

/- The walk of the document's Put. -/
namespace Go.Proofs.Ytacmdkjodnaohaa
open Go.RowKit
open Dot
theorem encs_app (a b : List Int) : encs (a ++ b) = encs a ++ encs b := by unfold encs; rw [List.flatMap_append]
theorem encs_one (x : Int) : encs [x] = Vint.enc x.toNat := by simp [encs]
theorem encs_two (x y : Int) : encs [x, y] = Vint.enc x.toNat ++ Vint.enc y.toNat := by simp [encs]
set_option maxRecDepth 100000 in
set_option maxHeartbeats 2000000 in
theorem drput_any (U : List Int) (A0 : Option Addr) (n0 c0 : Nat) (l0 : List Dt) (w : World) (hU : U.length = 8) (hr : RdD w w.heap.size A0 n0 l0) :
    Calls Try.prog 30 #[.agg (uc U (.slice A0 n0 c0))] w (GiveBE w (if rightB U l0 = true then encs (putL U l0) else []) (if rightB U l0 = true then 0 else 2)) := by
  have HU := Lib.hid hU
  have HS := Lib.hid (uc_size hU (.slice A0 n0 c0))
  have hra := fun w' (hb : Below w.heap.size w w') => rright_any U hU A0 n0 c0 l0 w' ((hr.below hb).more hb.size)
  have hix := fun w (k : Nat) (hk : k < 8) => run_index8 w U hU k hk
  have HIX := Lib.hid hix
  have HUL := Lib.hid (show (U.map (Value.int .i64)).length = 8 by rw [List.length_map, hU])
  have HRA := Lib.hid hra
  clear hra hix
  have HN := Lib.hid hr.1
  obtain ⟨sc, hsc⟩ : ∃ sc, sc = uc U (.slice A0 n0 c0) := ⟨_, rfl⟩
  rw [← hsc] at HS HRA ⊢
  have HSC := Lib.hid hsc
  clear hsc
  obtain ⟨BS, hBS⟩ : ∃ BS, BS = if rightB U l0 = true then encs (putL U l0) else [] := ⟨_, rfl⟩
  obtain ⟨E, hE⟩ : ∃ E, E = if rightB U l0 = true then 0 else 2 := ⟨_, rfl⟩
  rw [← hBS, ← hE]
  have HBS := Lib.hid hBS
  have HE := Lib.hid hE
  clear hBS hE
  go_enter Try.func30, Try.ntmps30
  go_upto_region 1 with fail
  refine nameW ?_
  intro wv hwv
  obtain ⟨b, hb⟩ : ∃ b, b = w.heap.size := ⟨_, rfl⟩
  rw [← hb]
  have kb : Blk wv b 35 sc := by rw [hwv, hb]; exact Blk.new w _ _
  have gb : Below w.heap.size w wv := by rw [hwv]; exact (Below.refl _ _).alloc (Nat.le_refl _) _
  have hbw : w.heap.size ≤ b := by omega
  clear hwv hb
  go_wp2_with ((with_reducible refine wpList_ld rowRS kb HS.out ?_ ?_); rotate_left; (rfl))
  refine (HRA.out _ gb).mono ?_
  rintro e w1 ⟨rfl, h1⟩
  replace gb := gb.trans (h1.mono gb.size)
  replace kb := kb.below h1 kb.lt
  clear h1 wv
  rename World => wv
  cases hright : rightB U l0
  case false =>
    have hBS2 : BS = [] := by rw [HBS.out, hright]; rfl
    have hE2 : E = 2 := by rw [HE.out, hright]; rfl
    clear HRA HBS HE
    subst hBS2 hE2
    go_wp2_with fail
    go_ret2
    exact ⟨none, 0, 0, rfl, OwnB.nil _ _, gb⟩
  case true =>
  have hBS2 : BS = encs (putL U l0) := by rw [HBS.out, hright]; rfl
  have hE2 : E = 0 := by rw [HE.out, hright]; rfl
  clear HBS HE
  have HBS := Lib.hid hBS2
  clear hBS2
  subst hE2
  have hbd := putL_bd hright
  have hbe := (right_iff _ _).1 hright
  have hn7 : n0 ≤ 768 := by rw [HN.out]; exact hbe.2.1
  have hub : ∀ x ∈ U, 0 ≤ x ∧ x ≤ 1099511627776 := fun x hx => hbd x (by unfold putL; simp [hx])
  have hnb : ∀ x ∈ nums l0, 0 ≤ x ∧ x ≤ 1099511627776 := fun x hx => hbd x (by unfold putL; simp [hx])
  have HUB := Lib.hid hub
  have HNB := Lib.hid hnb
  clear hbd hbe hright HRA hub hnb
  have hrv := hr.below gb
  have t8 : wv.cell? ⟨b, 8, none⟩ = some (.slice A0 n0 c0) := (kb.cell 8).trans (by rw [HSC.out]; exact uc_last HU.out _)
  have hbv := kb.lt
  rw [HSC.out] at kb
  have hrg := uc_range kb
  have T8 := Lib.hid t8
  clear hr kb t8
  go_upto_region 4 with fail
  go_upto_region 5 with ((with_reducible refine wpList_ldm row8 hrg HUL.out ?_ ?_); rotate_left; (rfl))
  rw [show (U.map (Value.int .i64)).toArray = uI U from rfl]
  clear hrg
  obtain ⟨wo, rfl⟩ : ∃ wo, wo = wv := ⟨_, rfl⟩
  go_loopw [4, 14] (fun t i wr => ∃ (j : Nat) (A : Option Addr) (nb cb : Nat), j ≤ 8 ∧ i = .int .i64 j ∧ t = .slice A nb cb ∧ OwnB wr wo.heap.size A nb cb (encs (U.take j)) ∧ Below wo.heap.size wo wr) (fun _ i _ => 8 - (intOf i).toNat)
  case atStart => exact ⟨0, none, 0, 0, by omega, rfl, rfl, OwnB.nil _ _, Below.refl _ _⟩
  case round =>
  obtain ⟨j, A, nb, cb, hj, rfl, rfl, ob, bl⟩ := hrel
  by_cases hlt : j < 8
  case pos =>
    have hjl : j < U.length := by rw [HU.out]; exact hlt
    have hx1 := fun w => HIX.out w j hlt
    have hgd : U.getD j 0 = U[j] := by rw [List.getD_eq_getElem?_getD, List.getElem?_eq_getElem hjl]; rfl
    simp only [hgd] at hx1
    have hxb := HUB.out _ (List.getElem_mem hjl)
    have hes := encs_snoc U hjl
    have HES := Lib.hid hes
    have hel := encs_len (U.take j)
    have hnb : nb ≤ 48 := by
      have h1 := ob.1
      have h2 : (U.take j).length ≤ j := List.length_take_le _ _
      omega
    clear hes hel hgd
    generalize U[j] = x at *
    obtain ⟨x, rfl⟩ := Int.eq_ofNat_of_zero_le hxb.1
    rw [Int.toNat_natCast] at HES
    have hkd : decide ((j : Int) < 8) = true := decide_eq_true (by omega)
    go_wp2_with fail
    refine (rput_ok A nb cb _ x wr.heap.size wr ob.rd (Nat.le_refl _) (by omega) (by omega)).mono ?_
    rintro e w4 ⟨A4, n4, c4, rfl, o4, b4⟩
    have O4 : OwnB w4 wo.heap.size A4 n4 c4 (encs (U.take (j + 1))) := by rw [HES.out]; exact o4.mono bl.size
    have B4 := bl.trans (b4.mono bl.size)
    have HO := Lib.hid O4
    clear O4 o4 b4 ob bl
    go_wp2_with fail
    go_roundw
    case rel => exact ⟨j + 1, A4, n4, c4, by omega, by go_num, rfl, HO.out, B4⟩
    case measure => simp [intOf]; omega
  case neg =>
  obtain rfl : j = 8 := by omega
  rw [show U.take 8 = U from List.take_of_length_le (by rw [HU.out]; exact Nat.le_refl _)] at ob
  have hnb : nb ≤ 48 := by
    have h1 := ob.1
    have h2 := encs_len U
    rw [HU.out] at h2
    omega
  have t8 : wr.cell? ⟨b, 8, none⟩ = some (.slice A0 n0 c0) := (bl.cell (p := ⟨b, 8, none⟩) hbv).trans T8.out
  go_wp2_with fail
  refine (rput_ok A nb cb _ n0 wr.heap.size wr ob.rd (Nat.le_refl _) (by omega) (by omega)).mono ?_
  rintro e w4 ⟨A4, n4, c4, rfl, o4, b4⟩
  have O4 : OwnB w4 wo.heap.size A4 n4 c4 (encs (U ++ [((n0 : Nat) : Int)] ++ nums (l0.take 0))) := by
    rw [encs_app, encs_app, encs_one, Int.toNat_natCast, show encs (nums (l0.take 0)) = [] from rfl, List.append_nil]
    exact o4.mono bl.size
  have B4 := bl.trans (b4.mono bl.size)
  have t84 : w4.cell? ⟨b, 8, none⟩ = some (.slice A0 n0 c0) := (B4.cell (p := ⟨b, 8, none⟩) hbv).trans T8.out
  have hUl := HU.out
  clear o4 b4 ob bl t8 hnb
  go_wp2_with fail
  clear t84
  go_loopw [4, 35] (fun t i wr => ∃ (k : Nat) (A : Option Addr) (nb cb : Nat), k ≤ n0 ∧ i = .int .i64 k ∧ t = .slice A nb cb ∧ OwnB wr wo.heap.size A nb cb (encs (U ++ [((n0 : Nat) : Int)] ++ nums (l0.take k))) ∧ Below wo.heap.size wo wr) (fun _ i _ => n0 - (intOf i).toNat)
  case atStart => exact ⟨0, A4, n4, c4, by omega, rfl, rfl, O4, B4⟩
  case round =>
    clear O4 B4
    obtain ⟨k, A, nb, cb, hk, rfl, rfl, ob, bl⟩ := hrel
    by_cases hlt : k < n0
    · have hkl : k < l0.length := by rw [← HN.out]; exact hlt
      obtain ⟨ad, rfl, hdt⟩ := (hrv.below (bl.mono gb.size)).2 k _ (List.getElem?_eq_getElem hkl)
      have hsn : nums (l0.take (k + 1)) = nums (l0.take k) ++ [l0[k].1, l0[k].2] := by rw [take_snoc l0 hkl, nums_snoc]
      have hm1 : l0[k].1 ∈ nums l0 := by unfold nums; rw [List.mem_flatMap]; exact ⟨_, List.getElem_mem hkl, by simp⟩
      have hm2 : l0[k].2 ∈ nums l0 := by unfold nums; rw [List.mem_flatMap]; exact ⟨_, List.getElem_mem hkl, by simp⟩
      have hx1 := HNB.out _ hm1
      have hx2 := HNB.out _ hm2
      have hel := encs_len (U ++ [((n0 : Nat) : Int)] ++ nums (l0.take k))
      have hnb : nb ≤ 15000 := by
        have h1 := ob.1
        rw [List.length_append, List.length_append, nums_len, HU.out] at hel
        have h2 : (l0.take k).length ≤ k := List.length_take_le _ _
        rw [List.length_singleton] at hel
        omega
      clear hm1 hm2 hel
      generalize l0[k] = d at *
      obtain ⟨x, q⟩ := d
      obtain ⟨q5, q0, q1⟩ := hdt
      simp only at q0 q1 hsn hx1 hx2
      obtain ⟨x, rfl⟩ := Int.eq_ofNat_of_zero_le hx1.1
      obtain ⟨q, rfl⟩ := Int.eq_ofNat_of_zero_le hx2.1
      have HSN := Lib.hid hsn
      clear hsn
      obtain ⟨wn, hwn⟩ : ∃ wn, wn = wr.alloc (.cells #[.int .i64 (x : Nat), .int .i64 (q : Nat)] 27) := ⟨_, rfl⟩
      obtain ⟨gd, hgd⟩ : ∃ gd, gd = wr.heap.size := ⟨_, rfl⟩
      have kn : Blk wn gd 27 #[.int .i64 (x : Nat), .int .i64 (q : Nat)] := by rw [hwn, hgd]; exact Blk.new wr _ _
      have o1 : OwnB wn wo.heap.size A nb cb (encs (U ++ [((n0 : Nat) : Int)] ++ nums (l0.take k))) := by rw [hwn]; exact ob.alloc _
      have b1 : Below wo.heap.size wo wn := by rw [hwn]; exact bl.alloc bl.size _
      have HW := Lib.hid hwn
      have HGD := Lib.hid hgd
      have hk0 : (0 : Int) ≤ (k : Int) := by omega
      have hk1 : (k : Int) < (n0 : Int) := by omega
      clear hwn hgd ob bl
      go_upto_region 13 with fail
      rw [← HW.out, ← HGD.out]
      have t0 : wn.cell? ⟨gd, 0, none⟩ = some (.int .i64 (x : Nat)) := kn.cell 0
      clear q0 q1 q5
      go_wp2_with fail
      refine (rput_ok A nb cb _ x wn.heap.size wn o1.rd (Nat.le_refl _) (by omega) (by omega)).mono ?_
      rintro e w4 ⟨A4, n4, c4, rfl, o4, b4⟩
      have kn4 := kn.below b4 kn.lt
      have t1 : w4.cell? ⟨gd, 1, none⟩ = some (.int .i64 (q : Nat)) := kn4.cell 1
      have hn4 : n4 ≤ 15010 := by
        have h1 := o4.1
        have h2 := o1.1
        have h3 := Vint.enc_length x
        rw [List.length_append] at h1
        omega
      have bw4 := b1.trans (b4.mono b1.size)
      clear kn b4 t0 o1
      go_wp2_with fail
      refine (rput_ok A4 n4 c4 _ q w4.heap.size w4 o4.rd (Nat.le_refl _) (by omega) (by omega)).mono ?_
      rintro e w5 ⟨A5, n5, c5, rfl, o5, b5⟩
      have O5 : OwnB w5 wo.heap.size A5 n5 c5 (encs (U ++ [((n0 : Nat) : Int)] ++ nums (l0.take (k + 1)))) := by
        rw [HSN.out, ← List.append_assoc, encs_app, encs_two, Int.toNat_natCast, Int.toNat_natCast, ← List.append_assoc]
        exact o5.mono bw4.size
      have B5 := bw4.trans (b5.mono bw4.size)
      have HO := Lib.hid O5
      clear O5 o5 b5 t1 kn4 o4 bw4 b1
      go_wp2_with fail
      go_roundw
      case rel => exact ⟨k + 1, A5, n5, c5, by omega, by go_num, rfl, HO.out, B5⟩
      case measure => simp [intOf]; omega
    · obtain rfl : k = n0 := by omega
      rw [List.take_of_length_le (l := l0) (by have := HN.out; omega)] at ob
      go_wp2_with fail
      go_ret2
      exact ⟨A, nb, cb, rfl, by rw [HBS.out]; unfold putL; rw [← HN.out]; exact ob.mono gb.size, gb.trans (bl.mono gb.size)⟩
end Go.Proofs.Ytacmdkjodnaohaa

/- Plain laws: the set of bytes; no program in sight. -/
namespace Go.Proofs.Ytacmdkjodnaohaa
open Dot
/-- so many numbers: what they are, what is left, how the reader stands -/
def rdI : Nat → List UInt8 → Nat → List Int × List UInt8 × Nat
  | 0, l, e => ([], l, e)
  | k + 1, l, e => ((rdI k l e).1 ++ [((Vint.intM (rdI k l e).2.1 (rdI k l e).2.2).1 : Int)], (Vint.intM (rdI k l e).2.1 (rdI k l e).2.2).2)
/-- a dot -/
def rdD1 (s : List UInt8 × Nat) : Dt × List UInt8 × Nat :=
  ((((Vint.intM s.1 s.2).1 : Int), ((Vint.intM (Vint.intM s.1 s.2).2.1 (Vint.intM s.1 s.2).2.2).1 : Int)), (Vint.intM (Vint.intM s.1 s.2).2.1 (Vint.intM s.1 s.2).2.2).2)
/-- up to so many dots -/
def rdDs : Nat → List UInt8 → Nat → List Dt × List UInt8 × Nat
  | 0, l, e => ([], l, e)
  | k + 1, l, e => if (rdDs k l e).2.2 = 0 then ((rdDs k l e).1 ++ [(rdD1 (rdDs k l e).2).1], (rdD1 (rdDs k l e).2).2) else rdDs k l e
def failM (n e : Nat) : Nat := if 768 < n then (if e = 0 then 6 else e) else e
/-- what is read of bytes -/
def rdU (bs : List UInt8) : List Int := (rdI 8 bs 0).1
def rdN (bs : List UInt8) : Nat × List UInt8 × Nat := Vint.intM (rdI 8 bs 0).2.1 (rdI 8 bs 0).2.2
def rdL (bs : List UInt8) : List Dt × List UInt8 × Nat := rdDs (rdN bs).1 (rdN bs).2.1 (failM (rdN bs).1 (rdN bs).2.2)
def getE (bs : List UInt8) : Nat := if (rdL bs).2.2 = 0 ∧ ((rdL bs).2.1 ≠ [] ∨ rightB (rdU bs) (rdL bs).1 = false) then 4 else (rdL bs).2.2
def getU (bs : List UInt8) : List Int := if getE bs = 0 then rdU bs else uptoS noG
def getL (bs : List UInt8) : List Dt := if getE bs = 0 then (rdL bs).1 else []
theorem rdI_len (l : List UInt8) (e : Nat) : ∀ k, (rdI k l e).1.length = k := by
  intro k
  induction k with
  | zero => rfl
  | succ k ih => rw [rdI, List.length_append, ih]; rfl
theorem rdDs_stuck (l : List UInt8) (e k : Nat) (h : (rdDs k l e).2.2 ≠ 0) : ∀ m, k ≤ m → rdDs m l e = rdDs k l e := by
  intro m
  induction m with
  | zero => intro hk; obtain rfl : k = 0 := by omega
            rfl
  | succ m ih =>
    intro hk
    by_cases e1 : k = m + 1
    · rw [e1]
    · have h1 := ih (by omega)
      rw [rdDs, if_neg (by rw [h1]; exact h), h1]
theorem intM_err {l : List UInt8} {e : Nat} (h : e ≠ 0) : Vint.intM l e = (0, l, e) := by unfold Vint.intM; rw [if_neg h]
theorem intM_small (l : List UInt8) (e : Nat) : (Vint.intM l e).2.2 ≠ 0 → (Vint.intM l e).1 = 0 := by
  unfold Vint.intM
  by_cases h : e = 0
  · rw [if_pos h]
    cases Vint.dec l with
    | error x => intro _; rfl
    | ok p => intro h; exact absurd rfl h
  · rw [if_neg h]; intro _; rfl
theorem intM_put {n : Nat} (h : n ≤ 1099511627776) (r : List UInt8) : Vint.intM (Vint.enc n ++ r) 0 = (n, r, 0) := by
  unfold Vint.intM
  rw [if_pos rfl, Vint.dec_enc (by unfold Vint.top; exact h)]
theorem intM_good {l : List UInt8} {e : Nat} (h : (Vint.intM l e).2.2 = 0) : e = 0 ∧ l = Vint.enc (Vint.intM l e).1 ++ (Vint.intM l e).2.1 ∧ (Vint.intM l e).1 ≤ 1099511627776 := by
  unfold Vint.intM at h ⊢
  by_cases he : e = 0
  · rw [if_pos he] at h ⊢
    cases hd : Vint.dec l with
    | error x =>
      rw [hd] at h
      have := Vint.dec_err hd
      simp only at h
      omega
    | ok p =>
      obtain ⟨n, r⟩ := p
      have := Vint.dec_ok hd
      exact ⟨he, this.1, this.2⟩
  · rw [if_neg he] at h
    exact absurd h he
theorem rdI_put (U : List Int) (hb : ∀ x ∈ U, 0 ≤ x ∧ x ≤ 1099511627776) : ∀ k, k ≤ U.length → ∀ r, rdI k (encs (U.take k) ++ r) 0 = (U.take k, r, 0) := by
  intro k
  induction k with
  | zero => intro _ r; rfl
  | succ k ih =>
    intro hk r
    have hkl : k < U.length := by omega
    have hx := hb _ (List.getElem_mem hkl)
    have h1 := ih (by omega) (Vint.enc U[k].toNat ++ r)
    rw [encs_snoc U hkl, List.append_assoc, rdI, h1, intM_put (by omega), take_snoc U hkl]
    have : ((U[k].toNat : Nat) : Int) = U[k] := by omega
    simp only [this]
theorem rdDs_put (l : List Dt) (hb : ∀ x ∈ nums l, 0 ≤ x ∧ x ≤ 1099511627776) : ∀ k, k ≤ l.length → ∀ r, rdDs k (encs (nums (l.take k)) ++ r) 0 = (l.take k, r, 0) := by
  intro k
  induction k with
  | zero => intro _ r; rfl
  | succ k ih =>
    intro hk r
    have hkl : k < l.length := by omega
    have hm1 : l[k].1 ∈ nums l := by unfold nums; rw [List.mem_flatMap]; exact ⟨_, List.getElem_mem hkl, by simp⟩
    have hm2 : l[k].2 ∈ nums l := by unfold nums; rw [List.mem_flatMap]; exact ⟨_, List.getElem_mem hkl, by simp⟩
    have hx := hb _ hm1
    have hy := hb _ hm2
    have h1 := ih (by omega) (Vint.enc l[k].1.toNat ++ (Vint.enc l[k].2.toNat ++ r))
    rw [take_snoc l hkl, nums_snoc, encs_app, encs_two, List.append_assoc, List.append_assoc, rdDs, h1, if_pos rfl]
    unfold rdD1
    simp only
    rw [intM_put (by omega)]
    simp only
    rw [intM_put (by omega)]
    have e1 : ((l[k].1.toNat : Nat) : Int) = l[k].1 := by omega
    have e2 : ((l[k].2.toNat : Nat) : Int) = l[k].2 := by omega
    simp only [e1, e2]
theorem get_put {U : List Int} {l : List Dt} (hU : U.length = 8) (h : rightB U l = true) : rdU (encs (putL U l)) = U ∧ rdL (encs (putL U l)) = (l, [], 0) ∧ getE (encs (putL U l)) = 0 := by
  have hb := putL_bd h
  have hle := ((right_iff _ _).1 h).2.1
  have hub : ∀ x ∈ U, 0 ≤ x ∧ x ≤ 1099511627776 := fun x hx => hb x (by unfold putL; simp [hx])
  have hnb : ∀ x ∈ nums l, 0 ≤ x ∧ x ≤ 1099511627776 := fun x hx => hb x (by unfold putL; simp [hx])
  have e0 : encs (putL U l) = encs (U.take 8) ++ (Vint.enc l.length ++ (encs (nums (l.take l.length)) ++ [])) := by
    unfold putL
    rw [encs_app, encs_app, encs_one, Int.toNat_natCast, List.take_length, List.take_of_length_le (by omega), List.append_nil, List.append_assoc]
  have h1 := rdI_put U hub 8 (by omega) (Vint.enc l.length ++ (encs (nums (l.take l.length)) ++ []))
  rw [← e0, List.take_of_length_le (l := U) (by omega)] at h1
  have h2 : rdN (encs (putL U l)) = (l.length, encs (nums (l.take l.length)) ++ [], 0) := by
    unfold rdN
    rw [h1]
    exact intM_put (by omega) _
  have h3 : rdU (encs (putL U l)) = U := by unfold rdU; rw [h1]
  have h4 : rdL (encs (putL U l)) = (l, [], 0) := by
    unfold rdL
    rw [h2]
    simp only
    have hf : failM l.length 0 = 0 := by unfold failM; rw [if_neg (by omega)]
    rw [hf, rdDs_put l hnb l.length (Nat.le_refl _), List.take_length]
  refine ⟨h3, h4, ?_⟩
  unfold getE
  rw [h4, h3, if_neg (by simp [h])]
theorem rdI_good (b : List UInt8) : ∀ k, (rdI k b 0).2.2 = 0 → b = encs (rdI k b 0).1 ++ (rdI k b 0).2.1 := by
  intro k
  induction k with
  | zero => intro _; rfl
  | succ k ih =>
    intro h
    have h' : (Vint.intM (rdI k b 0).2.1 (rdI k b 0).2.2).2.2 = 0 := h
    obtain ⟨h1, h2, h3⟩ := intM_good h'
    have h4 := ih h1
    rw [rdI]
    simp only
    rw [encs_app, encs_one, Int.toNat_natCast, List.append_assoc, ← h2]
    exact h4
theorem rdDs_good (b : List UInt8) : ∀ k, (rdDs k b 0).2.2 = 0 → b = encs (nums (rdDs k b 0).1) ++ (rdDs k b 0).2.1 ∧ (rdDs k b 0).1.length = k := by
  intro k
  induction k with
  | zero => intro _; exact ⟨rfl, rfl⟩
  | succ k ih =>
    intro h
    by_cases h0 : (rdDs k b 0).2.2 = 0
    · obtain ⟨h4, h5⟩ := ih h0
      rw [rdDs, if_pos h0] at h ⊢
      have h' : (Vint.intM (Vint.intM (rdDs k b 0).2.1 (rdDs k b 0).2.2).2.1 (Vint.intM (rdDs k b 0).2.1 (rdDs k b 0).2.2).2.2).2.2 = 0 := h
      obtain ⟨h1, h2, h3⟩ := intM_good h'
      obtain ⟨g1, g2, g3⟩ := intM_good h1
      simp only
      rw [nums_snoc, encs_app, List.length_append, h5]
      refine ⟨?_, rfl⟩
      unfold rdD1
      simp only
      rw [encs_two, Int.toNat_natCast, Int.toNat_natCast, List.append_assoc, List.append_assoc, ← h2, ← g2]
      exact h4
    · rw [rdDs, if_neg h0] at h
      exact absurd h h0
theorem failM_zero {n e : Nat} (h : failM n e = 0) : e = 0 ∧ n ≤ 768 := by
  unfold failM at h
  by_cases h1 : 768 < n
  · rw [if_pos h1] at h
    by_cases h2 : e = 0
    · rw [if_pos h2] at h; omega
    · rw [if_neg h2] at h; exact absurd h h2
  · rw [if_neg h1] at h; exact ⟨h, by omega⟩
theorem rdDs_zero (b : List UInt8) (e : Nat) : ∀ k, (rdDs k b e).2.2 = 0 → e = 0 := by
  intro k
  induction k with
  | zero => exact id
  | succ k ih =>
    intro h
    by_cases h0 : (rdDs k b e).2.2 = 0
    · exact ih h0
    · rw [rdDs, if_neg h0] at h
      exact absurd h h0
/-- bytes that are a set's are put as they were -/
theorem put_get {b : List UInt8} (h : getE b = 0) : rightB (getU b) (getL b) = true ∧ encs (putL (getU b) (getL b)) = b ∧ (getU b).length = 8 := by
  have hU : getU b = rdU b := by unfold getU; rw [if_pos h]
  have hL : getL b = (rdL b).1 := by unfold getL; rw [if_pos h]
  rw [hU, hL]
  have hc : (rdL b).2.2 = 0 ∧ (rdL b).2.1 = [] ∧ rightB (rdU b) (rdL b).1 = true := by
    unfold getE at h
    by_cases h1 : (rdL b).2.2 = 0 ∧ ((rdL b).2.1 ≠ [] ∨ rightB (rdU b) (rdL b).1 = false)
    · rw [if_pos h1] at h; omega
    · rw [if_neg h1] at h
      refine ⟨h, ?_, ?_⟩
      · by_cases h2 : (rdL b).2.1 = []
        · exact h2
        · exact absurd ⟨h, .inl h2⟩ h1
      · cases h2 : rightB (rdU b) (rdL b).1 with
        | true => rfl
        | false => exact absurd ⟨h, .inr h2⟩ h1
  obtain ⟨c1, c2, c3⟩ := hc
  have d00 : rdL b = rdDs (rdN b).1 (rdN b).2.1 (failM (rdN b).1 (rdN b).2.2) := by rw [rdL]
  have c11 := c1
  rw [d00] at c11
  have f0 := rdDs_zero _ _ _ c11
  clear c11
  obtain ⟨f1, f2⟩ := failM_zero f0
  have d0 : rdL b = rdDs (rdN b).1 (rdN b).2.1 0 := by rw [d00, f0]
  clear d00
  have c1' : (rdDs (rdN b).1 (rdN b).2.1 0).2.2 = 0 := by rw [← d0]; exact c1
  obtain ⟨d1, d2⟩ := rdDs_good _ _ c1'
  rw [← d0] at d1 d2
  have hN : rdN b = Vint.intM (rdI 8 b 0).2.1 (rdI 8 b 0).2.2 := by rw [rdN]
  have f1' := f1
  rw [hN] at f1'
  obtain ⟨n1, n2, n3⟩ := intM_good f1'
  rw [← hN] at n2
  have hUu : rdU b = (rdI 8 b 0).1 := by rw [rdU]
  have i1 := rdI_good b 8 n1
  refine ⟨c3, ?_, by rw [hUu]; exact rdI_len b 0 8⟩
  unfold putL
  rw [encs_app, encs_app, encs_one, Int.toNat_natCast, d2, List.append_assoc]
  rw [c2, List.append_nil] at d1
  rw [← d1, ← n2, hUu]
  exact i1.symm
end Go.Proofs.Ytacmdkjodnaohaa

/- The walk of the program's Get (printed by wip/gen/dotget.py). -/
namespace Go.Proofs.Ytacmdkjodnaohaa
open Go.RowKit
open Dot
/-- eight numbers, of which the first are known -/
def pad8 (l : List Int) : List Int := l ++ List.replicate (8 - l.length) 0
theorem pad8_len {l : List Int} (h : l.length ≤ 8) : (pad8 l).length = 8 := by unfold pad8; rw [List.length_append, List.length_replicate]; omega
theorem pad8_set {l : List Int} (h : l.length < 8) (v : Int) : (pad8 l).set l.length v = pad8 (l ++ [v]) := by
  unfold pad8
  rw [List.set_append_right _ _ (Nat.le_refl _), Nat.sub_self, List.length_append, List.length_singleton, List.append_assoc]
  congr 1
  obtain ⟨j, hj⟩ : ∃ j, 8 - l.length = j + 1 := ⟨7 - l.length, by omega⟩
  rw [hj, show 8 - (l.length + 1) = j by omega]
  rfl
theorem pad8_all {l : List Int} (h : l.length = 8) : pad8 l = l := by unfold pad8; rw [h]; simp
def GetEnd (w : World) (bs : List UInt8) (e : Ending) (w' : World) : Prop := ∃ A m c, e = .returned (.tuple #[.agg (uc (getU bs) (.slice A m c)), .int .i64 ((getE bs : Nat) : Int)]) ∧ OwnD w' w.heap.size A m c (getL bs) ∧ Below w.heap.size w w'
theorem zero9 : (#[.int .i64 0, .int .i64 0, .int .i64 0, .int .i64 0, .int .i64 0, .int .i64 0, .int .i64 0, .int .i64 0, .slice none 0 0] : Array Value) = uc (uptoS noG) (.slice none 0 0) := by kernel_rfl
theorem zero9p : (#[.int .i64 0, .int .i64 0, .int .i64 0, .int .i64 0, .int .i64 0, .int .i64 0, .int .i64 0, .int .i64 0, .slice none 0 0] : Array Value) = uc (pad8 []) (.slice none 0 0) := by kernel_rfl
theorem Rdr.blk {w : World} {g : Nat} {A : Option Addr} {n c : Nat} {bs : List UInt8} {e : Nat} (h : Rdr w g A n c bs e) : Blk w g 105 #[.slice A n c, .int .i64 (e : Nat)] := h.1
theorem get_bad {bs : List UInt8} (h : getE bs ≠ 0) : getU bs = uptoS noG ∧ getL bs = [] := by unfold getU getL; rw [if_neg h, if_neg h]; exact ⟨rfl, rfl⟩
set_option maxRecDepth 100000 in
set_option maxHeartbeats 1000000 in
theorem get_any (A : Option Addr) (n c : Nat) (bs : List UInt8) (B : Nat) (w : World) (hb : RdB w B A n bs) (hB : B ≤ w.heap.size) (hl : n ≤ 1000000000) :
    Calls Try.prog 31 #[.slice A n c] w (GetEnd w bs) := by
  unfold GetEnd
  have ZS := Lib.hid (show (#[.int .i64 0, .int .i64 0, .int .i64 0, .int .i64 0, .int .i64 0, .int .i64 0, .int .i64 0, .int .i64 0, .slice none 0 0] : Array Value).size = 9 from rfl)
  have ZS1 := Lib.hid (show (#[.int .i64 0, .int .i64 0, .int .i64 0, .int .i64 0, .int .i64 0, .int .i64 0, .int .i64 0, .int .i64 0, .slice none 0 0] : Array Value).all (·.oneCell') = true by rw [zero9]; exact uc_one rfl)
  obtain ⟨GE, hGE⟩ : ∃ GE, GE = getE bs := ⟨_, rfl⟩
  have HGE0 := Lib.hid hGE.symm
  clear hGE
  have HNB := Lib.hid hb.1
  go_enter Try.func31, Try.ntmps31
  go_upto_region 1 with fail
  refine nameW ?_
  intro wv hwv
  obtain ⟨b, hbb⟩ : ∃ b, b = w.heap.size := ⟨_, rfl⟩
  rw [← hbb]
  have kz : Blk wv b 30 #[.int .i64 0, .int .i64 0, .int .i64 0, .int .i64 0, .int .i64 0, .int .i64 0, .int .i64 0, .int .i64 0, .slice none 0 0] := by rw [hwv, hbb]; exact Blk.new w _ _
  have gb : Below w.heap.size w wv := by rw [hwv]; exact (Below.refl _ _).alloc (Nat.le_refl _) _
  have hbw : w.heap.size ≤ b := by omega
  have hrv : RdB wv B A n bs := hb.below (gb.mono hB)
  have hBv := Nat.le_trans hB gb.size
  clear hwv hbb hb
  go_wp2_with fail
  refine (new_any A n c bs B wv hrv hBv (by omega)).mono ?_
  rintro e w1 ⟨A1, c1, g, rfl, hg, hR, h1⟩
  have kz1 := kz.below h1 kz.lt
  have b1 := gb.trans (h1.mono gb.size)
  have hbg : b < g := Nat.lt_of_lt_of_le kz.lt hg
  clear kz h1 hrv gb
  obtain ⟨w2, hw2⟩ : ∃ w2, w2 = w1.alloc (.cells #[.int .i64 0, .int .i64 0, .int .i64 0, .int .i64 0, .int .i64 0, .int .i64 0, .int .i64 0, .int .i64 0, .slice none 0 0] 30) := ⟨_, rfl⟩
  obtain ⟨gs, hgs⟩ : ∃ gs, gs = w1.heap.size := ⟨_, rfl⟩
  have ks : Blk w2 gs 30 (uc (pad8 []) (.slice none 0 0)) := by rw [hw2, hgs, ← zero9p]; exact Blk.new w1 _ _
  have kz2 := kz1.alloc (.cells #[.int .i64 0, .int .i64 0, .int .i64 0, .int .i64 0, .int .i64 0, .int .i64 0, .int .i64 0, .int .i64 0, .slice none 0 0] 30)
  have b2 := b1.alloc b1.size (.cells #[.int .i64 0, .int .i64 0, .int .i64 0, .int .i64 0, .int .i64 0, .int .i64 0, .int .i64 0, .int .i64 0, .slice none 0 0] 30)
  have hgl := hR.lt
  have hR2 := hR.below ((Below.refl (g + 1) w1).alloc (by omega) (.cells #[.int .i64 0, .int .i64 0, .int .i64 0, .int .i64 0, .int .i64 0, .int .i64 0, .int .i64 0, .int .i64 0, .slice none 0 0] 30))
  rw [← hw2] at kz2 b2 hR2
  have hggs : g < gs := by omega
  have HW := Lib.hid hw2
  have HGS := Lib.hid hgs
  clear hw2 hgs kz1 b1 hR hgl
  go_upto_region 3 with fail
  rw [← HW.out, ← HGS.out]
  go_wp2_with fail
  go_loopw [12] (fun i wr => ∃ (k : Nat) (A' : Option Addr) (c' : Nat), k ≤ 8 ∧ i = .int .i64 k ∧ Rdr wr g A' (rdI k bs 0).2.1.length c' (rdI k bs 0).2.1 (rdI k bs 0).2.2 ∧ Blk wr gs 30 (uc (pad8 (rdI k bs 0).1) (.slice none 0 0)) ∧ Blk wr b 30 #[.int .i64 0, .int .i64 0, .int .i64 0, .int .i64 0, .int .i64 0, .int .i64 0, .int .i64 0, .int .i64 0, .slice none 0 0] ∧ Below w.heap.size w wr) (fun i _ => 8 - (intOf i).toNat)
  case atStart => exact ⟨0, A1, c1, by omega, rfl, hR2, ks, kz2, b2⟩
  case round =>
  clear hR2 ks kz2 b2
  obtain ⟨k, A1, c1, hk, rfl, hR, ks, kz, gW⟩ := hrel
  by_cases hlt : k < 8
  case pos =>
    have hln := rdI_len bs 0 k
    have hs : rdI (k + 1) bs 0 = ((rdI k bs 0).1 ++ [((Vint.intM (rdI k bs 0).2.1 (rdI k bs 0).2.2).1 : Int)], (Vint.intM (rdI k bs 0).2.1 (rdI k bs 0).2.2).2) := by rw [rdI]
    generalize rdI k bs 0 = S at *
    obtain ⟨L, r, e⟩ := S
    simp only at hs hR ks hln
    have hps := pad8_set (l := L) (by omega)
    have hpl := pad8_len (l := L) (by omega)
    have HSt := Lib.hid hs
    have HPS := Lib.hid hps
    have HPL := Lib.hid hpl
    have hk0 : (0 : Int) ≤ (k : Int) := by omega
    have hk1 : (k : Int) < 8 := by omega
    clear hs hps hpl
    go_wp2_with fail
    refine (int_any g A1 _ c1 r e wr hR).mono ?_
    rintro e' w3 ⟨rfl, g3, A2, c2, R3⟩
    generalize Vint.intM r e = V at *
    obtain ⟨v, r', e'⟩ := V
    simp only at R3 HSt
    have ks3 := ks.grown g3 (fun h => by injection h; omega)
    have kz3 := kz.grown g3 (fun h => by injection h; omega)
    have gW3 := gW.grown g3 gW.size (fun q hq => by injection hq; omega)
    have c0 : w3.cell? ⟨gs, k, none⟩ = some (.int .i64 ((pad8 L).getD k 0)) := (ks3.cell k).trans (uc_at HPL.out _ hlt)
    have f0 := ks3.free k
    have hset := uc_set HPL.out (.slice none 0 0) hlt ((v : Nat) : Int)
    rw [show (pad8 L).set k ((v : Nat) : Int) = pad8 (L ++ [((v : Nat) : Int)]) by rw [← hln]; exact HPS.out _] at hset
    have ks4 := ks3.set_ k (.int .i64 ((v : Nat) : Int))
    rw [hset] at ks4
    have kz4 := kz3.far (p := ⟨gs, k, none⟩) (by show b ≠ gs; omega) (.int .i64 ((v : Nat) : Int))
    have gW4 := gW3.setCell (p := ⟨gs, k, none⟩) (by show _ ≤ gs; omega) (.int .i64 ((v : Nat) : Int))
    have R4 := R3.below ((Below.refl (g + 1) w3).setCell (p := ⟨gs, k, none⟩) (by show _ ≤ gs; omega) (.int .i64 ((v : Nat) : Int)))
    have KS := Lib.hid ks4
    have KZ := Lib.hid kz4
    have GW := Lib.hid gW4
    have RR := Lib.hid R4
    clear hset ks4 kz4 gW4 R4 ks kz gW hR R3 ks3 kz3 gW3 g3
    go_wp2_with fail
    go_roundw
    case rel => exact ⟨k + 1, A2, c2, by omega, by go_num, by rw [HSt.out]; exact RR.out, by rw [HSt.out]; exact KS.out, KZ.out, GW.out⟩
    case measure => simp [intOf]; omega
  case neg =>
  obtain rfl : k = 8 := by omega
  have hUl := rdI_len bs 0 8
  have hNN : rdN bs = Vint.intM (rdI 8 bs 0).2.1 (rdI 8 bs 0).2.2 := by rw [rdN]
  have hUU : rdU bs = (rdI 8 bs 0).1 := by rw [rdU]
  rw [pad8_all hUl, ← hUU] at ks
  rw [← hUU] at hUl
  generalize rdI 8 bs 0 = S at *
  obtain ⟨L0, r, e⟩ := S
  simp only at hNN hR
  have HNN := Lib.hid hNN
  have HUL := Lib.hid hUl
  have HRL := Lib.hid (show rdL bs = rdDs (rdN bs).1 (rdN bs).2.1 (failM (rdN bs).1 (rdN bs).2.2) by rw [rdL])
  have hgedef : getE bs = if (rdL bs).2.2 = 0 ∧ ((rdL bs).2.1 ≠ [] ∨ rightB (rdU bs) (rdL bs).1 = false) then 4 else (rdL bs).2.2 := by rw [getE]
  have HGD := Lib.hid hgedef
  have hgu : getE bs = 0 → getU bs = rdU bs ∧ getL bs = (rdL bs).1 := fun h => by unfold getU getL; rw [if_pos h, if_pos h]; exact ⟨rfl, rfl⟩
  have HGU := Lib.hid hgu
  clear hNN hUU hUl hgedef hgu
  generalize rdU bs = U at *
  go_wp2_with fail
  refine (int_any g A1 _ c1 r e wr hR).mono ?_
  rintro e1 w3 ⟨rfl, g3, A2, c2, R3⟩
  have hsm := intM_small r e
  rw [← HNN.out] at R3 hsm ⊢
  generalize rdN bs = V at *
  obtain ⟨v, r, e⟩ := V
  simp only at R3 HRL hsm ⊢
  have ks3 := ks.grown g3 (fun h => by injection h; omega)
  have kz3 := kz.grown g3 (fun h => by injection h; omega)
  have gW3 := gW.grown g3 gW.size (fun q hq => by injection hq; omega)
  clear ks kz gW hR g3 HNN
  by_cases hbig : 768 < v
  case pos =>
    have he0 : e = 0 := by
      false_or_by_contra
      have := hsm (by assumption)
      omega
    subst he0
    have hfm : failM v 0 = 6 := by unfold failM; rw [if_pos hbig]; rfl
    have hrl := HRL.out
    rw [hfm, rdDs_stuck r 6 0 (show (6 : Nat) ≠ 0 by decide) v (by omega)] at hrl
    have hge : getE bs = 6 := by rw [HGD.out, hrl]; rfl
    have HGE := Lib.hid hge
    have hdb : decide ((768 : Int) < ((v : Nat) : Int)) = true := decide_eq_true (by omega)
    clear HRL HGD HGU hfm hrl hge hsm
    go_wp2_with fail
    refine (fail_any g 6 (by decide) A2 _ c2 r 0 _ R3).mono ?_
    rintro e1 w4 ⟨rfl, g4, A4, c4, R4⟩
    rw [if_pos rfl] at R4
    have kz4 := kz3.grown g4 (fun h => by injection h; omega)
    have gW4 := gW3.grown g4 gW3.size (fun q hq => by injection hq; omega)
    clear ks3 kz3 gW3 R3 g4
    go_wp2_with fail
    go_loopw [8] (fun i wr => ∃ k : Nat, k = 0 ∧ i = .int .i64 k ∧ w4 = wr) (fun _ _ => 0)
    case atStart => exact ⟨0, rfl, rfl, rfl⟩
    case round =>
      obtain ⟨k, hk0, rfl, rfl⟩ := hrel
      have hk1 : (k : Int) < ((v : Nat) : Int) := by omega
      clear hk0 hbig hdb
      have hR := R4
      have kz := kz4
      have gW := gW4
      clear R4 kz4 gW4
      go_wp2_with fail
      refine (err_any g _ _ _ _ _ _ hR).mono ?_
      rintro e w88 ⟨rfl, rfl⟩
      go_wp2_with fail
      refine (err_any g _ _ _ _ _ _ hR).mono ?_
      rintro e w89 ⟨rfl, rfl⟩
      have hxe : ((((6 : Nat) : Int)) != 0) = true := by rw [bne_iff_ne]; omega
      go_wp2_with fail
      refine (err_any g _ _ _ _ _ _ hR).mono ?_
      rintro e w90 ⟨rfl, rfl⟩
      go_wp2_with fail
      refine (err_any g _ _ _ _ _ _ hR).mono ?_
      rintro e w91 ⟨rfl, rfl⟩
      go_wp2_with ((with_reducible refine wpList_st rowS kz ZS.out ZS.out ZS1.out ?_ ?_ ?_); rotate_left; (rfl); (rfl); intro w92 k92 g92 z92)
      rw [zero9] at k92
      have gz := gW.grown g92 gW.size (fun q hq => by injection hq; omega)
      have hbad := get_bad (bs := bs) (by rw [HGE.out]; omega)
      refine bodyPost_ret (v := .tuple #[.agg (uc (uptoS noG) (.slice none 0 0)), .int .i64 ((6 : Nat) : Int)]) (results_blk2 rfl rowS k92 (by rfl) rfl rfl) rfl ⟨none, 0, 0, by rw [HGE.out, hbad.1], by rw [hbad.2]; exact OwnD.nil _ _, gz⟩
  case neg =>
    have hfm : failM v e = e := by unfold failM; rw [if_neg hbig]
    have hdb : decide ((768 : Int) < ((v : Nat) : Int)) = false := decide_eq_false (by omega)
    have hrl := HRL.out
    rw [hfm] at hrl
    have HRL2 := Lib.hid hrl
    clear hrl hfm HRL hsm
    go_wp2_with fail
    obtain ⟨wo, hwo⟩ : ∃ wo, wo = w3 := ⟨_, rfl⟩
    have hbs : g + 1 ≤ wo.heap.size := by rw [hwo]; exact R3.lt
    have hbs2 : gs < wo.heap.size := by rw [hwo]; exact ks3.lt
    have hbs3 : b < wo.heap.size := by omega
    have hbs4 : wo.heap.size ≤ w3.heap.size := by rw [hwo]; exact Nat.le_refl _
    have hwo0 : w.heap.size ≤ wo.heap.size := by rw [hwo]; exact gW3.size
    clear hwo
    go_loopw [8] (fun i wr => ∃ (k : Nat) (A' : Option Addr) (c' : Nat) (Ad : Option Addr) (m cd : Nat), k ≤ v ∧ i = .int .i64 k ∧ m ≤ k ∧ Rdr wr g A' (rdDs k r e).2.1.length c' (rdDs k r e).2.1 (rdDs k r e).2.2 ∧ Blk wr gs 30 (uc U (.slice Ad m cd)) ∧ OwnD wr wo.heap.size Ad m cd (rdDs k r e).1 ∧ Blk wr b 30 #[.int .i64 0, .int .i64 0, .int .i64 0, .int .i64 0, .int .i64 0, .int .i64 0, .int .i64 0, .int .i64 0, .slice none 0 0] ∧ Below w.heap.size w wr ∧ wo.heap.size ≤ wr.heap.size) (fun i _ => v - (intOf i).toNat)
    case atStart => exact ⟨0, A2, c2, none, 0, 0, by omega, rfl, by omega, R3, ks3, OwnD.nil _ _, kz3, gW3, hbs4⟩
    case round =>
    clear R3 ks3 kz3 gW3 hbs4
    obtain ⟨k, A2, c2, Ad, m, cd, hk, rfl, hmk, hR, ks, oD, kz, gW, hws⟩ := hrel
    have hk0 : (0 : Int) ≤ (k : Int) := by omega
    have hst : k < v → (rdDs k r e).2.2 = 0 → rdDs (k + 1) r e = ((rdDs k r e).1 ++ [(rdD1 (rdDs k r e).2).1], (rdD1 (rdDs k r e).2).2) := fun _ h => by rw [rdDs, if_pos h]
    have hfin : (k = v ∨ (rdDs k r e).2.2 ≠ 0) → rdDs v r e = rdDs k r e := fun h => by
      rcases h with h | h
      · rw [h]
      · exact rdDs_stuck r e k h v hk
    generalize rdDs k r e = S at *
    obtain ⟨L, r1, e1⟩ := S
    simp only at hR oD hst hfin
    have HST := Lib.hid hst
    have HFN := Lib.hid hfin
    clear hst hfin
    by_cases hgo : k < v ∧ e1 = 0
    case pos =>
      obtain ⟨hlt, rfl⟩ := hgo
      have hst := HST.out hlt rfl
      have HST2 := Lib.hid hst
      have hk1 : (k : Int) < ((v : Nat) : Int) := by omega
      have hv := hbig
      clear HST HFN hst HRL2 HGD HGU
      go_wp2_with fail
      refine (err_any g _ _ _ _ _ _ hR).mono ?_
      rintro e w40 ⟨rfl, rfl⟩
      go_wp2_with fail
      refine (int_any g A2 _ c2 r1 0 wr hR).mono ?_
      rintro e' w4 ⟨rfl, g4, A4, c4, R4⟩
      have hrd : rdD1 (r1, 0) = ((((Vint.intM r1 0).1 : Int), ((Vint.intM (Vint.intM r1 0).2.1 (Vint.intM r1 0).2.2).1 : Int)), (Vint.intM (Vint.intM r1 0).2.1 (Vint.intM r1 0).2.2).2) := by rw [rdD1]
      rw [hrd] at HST2
      clear hrd
      generalize Vint.intM r1 0 = V1 at *
      obtain ⟨x1, r2, e2⟩ := V1
      simp only at R4 HST2
      have ks4 := ks.grown g4 (fun h => by injection h; omega)
      have kz4 := kz.grown g4 (fun h => by injection h; omega)
      have gW4 := gW.grown g4 gW.size (fun q hq => by injection hq; omega)
      have o4 := oD.grown g4 (.inr (own_ne oD.2 hR.blk (by decide)))
      have hws4 := Nat.le_trans hws g4.size
      clear ks kz gW oD hR g4
      obtain ⟨wn, hwn⟩ : ∃ wn, wn = w4.alloc (.cells #[.int .i64 (x1 : Nat), .int .i64 0] 27) := ⟨_, rfl⟩
      obtain ⟨gd, hgd⟩ : ∃ gd, gd = w4.heap.size := ⟨_, rfl⟩
      have kn : Blk wn gd 27 #[.int .i64 (x1 : Nat), .int .i64 0] := by rw [hwn, hgd]; exact Blk.new w4 _ _
      have ks5 := ks4.alloc (.cells #[.int .i64 (x1 : Nat), .int .i64 0] 27)
      have kz5 := kz4.alloc (.cells #[.int .i64 (x1 : Nat), .int .i64 0] 27)
      have gW5 := gW4.alloc gW4.size (.cells #[.int .i64 (x1 : Nat), .int .i64 0] 27)
      have o5 := o4.alloc (.cells #[.int .i64 (x1 : Nat), .int .i64 0] 27)
      have R5 := R4.below ((Below.refl (g + 1) w4).alloc (by omega) (.cells #[.int .i64 (x1 : Nat), .int .i64 0] 27))
      have hAd : Ad.map (·.block) ≠ some gd := fun h => by have := (o4.lt gd h).2; omega
      have hgd2 : wo.heap.size ≤ gd := by omega
      have hws5 : wo.heap.size ≤ wn.heap.size := by rw [hwn]; simp; omega
      rw [← hwn] at ks5 kz5 gW5 o5 R5
      have HW := Lib.hid hwn
      have HGDd := Lib.hid hgd
      clear hwn hgd ks4 kz4 gW4 o4 R4 hws4
      go_upto_region 15 with fail
      rw [← HW.out, ← HGDd.out]
      go_wp2_with fail
      refine (int_any g A4 _ c4 r2 e2 wn R5).mono ?_
      rintro e' w6 ⟨rfl, g6, A6, c6, R6⟩
      generalize Vint.intM r2 e2 = V2 at *
      obtain ⟨x2, r3, e3⟩ := V2
      simp only at R6 HST2
      have ks6 := ks5.grown g6 (fun h => by injection h; omega)
      have kz6 := kz5.grown g6 (fun h => by injection h; omega)
      have kn6 := kn.grown g6 (fun h => by injection h; omega)
      have gW6 := gW5.grown g6 gW5.size (fun q hq => by injection hq; omega)
      have o6 := o5.grown g6 (.inr (own_ne o5.2 R5.blk (by decide)))
      have hws6 := Nat.le_trans hws5 g6.size
      have d1 : w6.cell? ⟨gd, 1, none⟩ = some (.int .i64 0) := kn6.cell 1
      have df := kn6.free 1
      have kn7 := kn6.set_ 1 (.int .i64 (x2 : Nat))
      have ks7 := ks6.far (p := ⟨gd, 1, none⟩) (by show gs ≠ gd; omega) (.int .i64 (x2 : Nat))
      have kz7 := kz6.far (p := ⟨gd, 1, none⟩) (by show b ≠ gd; omega) (.int .i64 (x2 : Nat))
      have gW7 := gW6.setCell (p := ⟨gd, 1, none⟩) (Nat.le_trans hwo0 hgd2) (.int .i64 (x2 : Nat))
      have o7 := o6.setFar (p := ⟨gd, 1, none⟩) hAd (.int .i64 (x2 : Nat))
      have R7 := R6.below ((Below.refl (g + 1) w6).setCell (p := ⟨gd, 1, none⟩) (by show _ ≤ gd; omega) (.int .i64 (x2 : Nat)))
      have hws7 : wo.heap.size ≤ (w6.setCell ⟨gd, 1, none⟩ (.int .i64 (x2 : Nat))).heap.size := by simpa [World.setCell] using hws6
      obtain ⟨w7, hw7⟩ : ∃ w7, w7 = w6.setCell ⟨gd, 1, none⟩ (.int .i64 (x2 : Nat)) := ⟨_, rfl⟩
      rw [← hw7] at kn7 ks7 kz7 gW7 o7 R7 hws7
      have HW7 := Lib.hid hw7
      clear hw7 ks5 kz5 gW5 o5 R5 ks6 kz6 gW6 o6 R6 kn kn6 g6 hws5 hws6
      go_upto_region 16 with fail
      rw [← HW7.out]
      have c8 : w7.cell? ⟨gs, 8, none⟩ = some (.slice Ad m cd) := (ks7.cell 8).trans (uc_last HUL.out _)
      have f8 := ks7.free 8
      have t0 : w7.cell? ⟨gd, 0, none⟩ = some (.int .i64 (x1 : Nat)) := kn7.cell 0
      have t1 : w7.cell? ⟨gd, 1, none⟩ = some (.int .i64 (x2 : Nat)) := kn7.cell 1
      clear d1 df
      have rX := Rd.made w7 #[.int .i64 (x1 : Nat), .int .i64 (x2 : Nat)] 27 (0, 0)
      have oX := o7.alloc (.cells #[.int .i64 (x1 : Nat), .int .i64 (x2 : Nat)] 27)
      go_wp2_with (at_builtin; refine stop ?_)
      unfold Stop
      refine wpList_appD rfl (.tmp 44) (.tmp 46) rfl (by rfl) oX (by rfl) (m := 1) (news := [(((x1 : Nat) : Int), ((x2 : Nat) : Int))]) rX rfl (by omega) (Nat.le_trans hws7 (by simp)) ?_
      intro A8 c8' w8 o8 g8 m8 b8
      have hne := own_ne oX.2 (ks7.alloc (.cells #[.int .i64 (x1 : Nat), .int .i64 (x2 : Nat)] 27)) (by decide)
      have hnez := own_ne oX.2 (kz7.alloc (.cells #[.int .i64 (x1 : Nat), .int .i64 (x2 : Nat)] 27)) (by decide)
      have ks8 := (ks7.alloc (.cells #[.int .i64 (x1 : Nat), .int .i64 (x2 : Nat)] 27)).grown g8 hne
      have kz8 := (kz7.alloc (.cells #[.int .i64 (x1 : Nat), .int .i64 (x2 : Nat)] 27)).grown g8 hnez
      have gW8 := (gW7.alloc gW7.size (.cells #[.int .i64 (x1 : Nat), .int .i64 (x2 : Nat)] 27)).trans (b8.mono hwo0)
      have R8 := (R7.below ((Below.refl (g + 1) w7).alloc (by omega) (.cells #[.int .i64 (x1 : Nat), .int .i64 (x2 : Nat)] 27))).below (b8.mono hbs)
      have hws8 := Nat.le_trans hws7 (Nat.le_trans (show w7.heap.size ≤ _ by simp) b8.size)
      have c9 : w8.cell? ⟨gs, 8, none⟩ = some (.slice Ad m cd) := (ks8.cell 8).trans (uc_last HUL.out _)
      have f9 := ks8.free 8
      have hne8 := own_ne o8.2 ks8 (by decide)
      have ks9 := ks8.set_ 8 (.slice A8 (m + 1) c8')
      rw [uc_setS HUL.out] at ks9
      have kz9 := kz8.far (p := ⟨gs, 8, none⟩) (by show b ≠ gs; omega) (.slice A8 (m + 1) c8')
      have gW9 := gW8.setCell (p := ⟨gs, 8, none⟩) (by show _ ≤ gs; omega) (.slice A8 (m + 1) c8')
      have o9 := o8.setFar (p := ⟨gs, 8, none⟩) hne8 (.slice A8 (m + 1) c8')
      have R9 := R8.below ((Below.refl (g + 1) w8).setCell (p := ⟨gs, 8, none⟩) (by show _ ≤ gs; omega) (.slice A8 (m + 1) c8'))
      have hws9 : wo.heap.size ≤ (w8.setCell ⟨gs, 8, none⟩ (.slice A8 (m + 1) c8')).heap.size := by simpa [World.setCell] using hws8
      have KS := Lib.hid ks9
      have KZ := Lib.hid kz9
      have GW := Lib.hid gW9
      have OO := Lib.hid o9
      have RR := Lib.hid R9
      have WS := Lib.hid hws9
      clear ks9 kz9 gW9 o9 R9 hws9 ks8 kz8 gW8 o8 R8 hws8 g8 m8 b8 rX oX ks7 kz7 gW7 o7 R7 hws7 kn7 t0 t1 c8 f8 hne hnez hne8
      go_wp2_with fail
      go_roundw
      case rel => exact ⟨_, _, _, _, _, _, _, _, _, _, _, _, _, _, _, _, _, _, _, _, _, _, _, _, ⟨k + 1, A6, c6, A8, m + 1, c8', by omega, by go_num, by omega, by rw [HST2.out]; exact RR.out, KS.out, by rw [HST2.out]; exact OO.out, KZ.out, GW.out, WS.out⟩, rfl⟩
      case measure => simp [intOf]; omega
    case neg =>
      have hf2 := HFN.out (by omega)
      have hrl := HRL2.out
      rw [hf2] at hrl
      have hge := HGD.out
      rw [hrl] at hge
      have hgu := HGU.out
      rw [hrl] at hgu
      simp only at hge hgu
      have HGEd := Lib.hid hge
      have HGUd := Lib.hid hgu
      have hr8 := fun w' (h : Below wr.heap.size wr w') => right_any U HUL.out Ad m cd L w' ((oD.rd.below h).more h.size)
      have HR8 := Lib.hid hr8
      clear HST HFN hf2 hrl hge hgu HRL2 HGD HGU hr8
      by_cases hlt : k < v
      case' pos =>
        have he1 : e1 ≠ 0 := fun h => hgo ⟨hlt, h⟩
        have hk1 : (k : Int) < ((v : Nat) : Int) := by omega
        have hq : (((e1 : Nat) : Int) == 0) = false := by rw [beq_eq_false_iff_ne]; omega
        go_wp2_with fail
        refine (err_any g _ _ _ _ _ _ hR).mono ?_
        rintro e w40 ⟨rfl, rfl⟩
        go_wp2_with fail
        refine (err_any g _ _ _ _ _ _ hR).mono ?_
        rintro e w41 ⟨rfl, rfl⟩
      case' neg =>
        obtain rfl : k = v := by omega
        clear hgo
        go_wp2_with fail
        refine (err_any g _ _ _ _ _ _ hR).mono ?_
        rintro e w41 ⟨rfl, rfl⟩
      all_goals
        by_cases he : e1 = 0
        case neg =>
          have hq2 : (((e1 : Nat) : Int) == 0) = false := by rw [beq_eq_false_iff_ne]; omega
          have hge := HGEd.out
          rw [if_neg (fun h => he h.1)] at hge
          have HGE := Lib.hid hge
          clear HGEd HGUd HR8 hge
          have hxe : ((((e1 : Nat) : Int)) != 0) = true := by rw [bne_iff_ne]; omega
          go_wp2_with fail
          refine (err_any g _ _ _ _ _ _ hR).mono ?_
          rintro e w90 ⟨rfl, rfl⟩
          go_wp2_with fail
          refine (err_any g _ _ _ _ _ _ hR).mono ?_
          rintro e w91 ⟨rfl, rfl⟩
          go_wp2_with ((with_reducible refine wpList_st rowS kz ZS.out ZS.out ZS1.out ?_ ?_ ?_); rotate_left; (rfl); (rfl); intro w92 k92 g92 z92)
          rw [zero9] at k92
          have gz := gW.grown g92 gW.size (fun q hq => by injection hq; omega)
          have hbad := get_bad (bs := bs) (by rw [HGE.out]; omega)
          refine bodyPost_ret (v := .tuple #[.agg (uc (uptoS noG) (.slice none 0 0)), .int .i64 ((e1 : Nat) : Int)]) (results_blk2 rfl rowS k92 (by rfl) rfl rfl) rfl ⟨none, 0, 0, by rw [HGE.out, hbad.1], by rw [hbad.2]; exact OwnD.nil _ _, gz⟩
        case pos =>
          subst he
          by_cases hrn : r1 = []
          case neg =>
            have hlen : (0 : Int) < ((r1.length : Nat) : Int) := by have := List.length_pos_iff.2 hrn; omega
            have hlen2 : 0 < r1.length := List.length_pos_iff.2 hrn
            have hge := HGEd.out
            rw [if_pos ⟨rfl, .inl hrn⟩] at hge
            have HGE := Lib.hid hge
            clear HGEd HGUd HR8 hge
            go_wp2_with fail
            refine (left_any g _ _ _ _ _ _ hR).mono ?_
            rintro e w42 ⟨rfl, rfl⟩
            go_wp2_with fail
            refine (fail_any g 4 (by decide) A2 _ c2 r1 0 _ hR).mono ?_
            rintro e w43 ⟨rfl, g4, A4, c4, R4⟩
            rw [if_pos rfl] at R4
            replace kz := kz.grown g4 (fun h => by injection h; omega)
            replace gW := gW.grown g4 gW.size (fun q hq => by injection hq; omega)
            replace hR := R4
            clear R4 g4
            have hxe : ((((4 : Nat) : Int)) != 0) = true := by rw [bne_iff_ne]; omega
            go_wp2_with fail
            refine (err_any g _ _ _ _ _ _ hR).mono ?_
            rintro e w90 ⟨rfl, rfl⟩
            go_wp2_with fail
            refine (err_any g _ _ _ _ _ _ hR).mono ?_
            rintro e w91 ⟨rfl, rfl⟩
            go_wp2_with ((with_reducible refine wpList_st rowS kz ZS.out ZS.out ZS1.out ?_ ?_ ?_); rotate_left; (rfl); (rfl); intro w92 k92 g92 z92)
            rw [zero9] at k92
            have gz := gW.grown g92 gW.size (fun q hq => by injection hq; omega)
            have hbad := get_bad (bs := bs) (by rw [HGE.out]; omega)
            refine bodyPost_ret (v := .tuple #[.agg (uc (uptoS noG) (.slice none 0 0)), .int .i64 ((4 : Nat) : Int)]) (results_blk2 rfl rowS k92 (by rfl) rfl rfl) rfl ⟨none, 0, 0, by rw [HGE.out, hbad.1], by rw [hbad.2]; exact OwnD.nil _ _, gz⟩
          case pos =>
            subst hrn
            have hUs := uc_size HUL.out (.slice Ad m cd)
            have HUS := Lib.hid hUs
            have HUO := Lib.hid (uc_one (U := U) (s := .slice Ad m cd) rfl)
            obtain ⟨su, hsu⟩ : ∃ su, su = uc U (.slice Ad m cd) := ⟨_, rfl⟩
            have hr8 := HR8.out
            rw [← hsu] at HUS HUO ks hr8
            have HR9 := Lib.hid hr8
            have HSU := Lib.hid hsu
            clear hUs hsu hr8 HR8
            go_wp2_with fail
            refine (left_any g _ _ _ _ _ _ hR).mono ?_
            rintro e w42 ⟨rfl, rfl⟩
            go_wp2_with ((with_reducible refine wpList_ldg rowS ks HUS.out ?_ ?_ ?_); rotate_left; (rfl); (rfl))
            refine (HR9.out _ (Below.refl _ _)).mono ?_
            rintro e w43 ⟨rfl, h3⟩
            have hglt := hR.lt
            replace hR := hR.below (h3.mono (by omega))
            replace kz := kz.below h3 kz.lt
            replace ks := ks.below h3 ks.lt
            replace gW := gW.trans (h3.mono gW.size)
            replace oD := oD.below h3 (Nat.le_refl _)
            cases hright : rightB U L
            case false =>
              have hge := HGEd.out
              rw [if_pos (by simp [hright])] at hge
              have HGE := Lib.hid hge
              clear HGEd HGUd hge hright h3 HR9
              go_wp2_with fail
              refine (fail_any g 4 (by decide) A2 _ c2 [] 0 _ hR).mono ?_
              rintro e w44 ⟨rfl, g4, A4, c4, R4⟩
              rw [if_pos rfl] at R4
              replace kz := kz.grown g4 (fun h => by injection h; omega)
              replace gW := gW.grown g4 gW.size (fun q hq => by injection hq; omega)
              replace hR := R4
              clear R4 g4
              have hxe : ((((4 : Nat) : Int)) != 0) = true := by rw [bne_iff_ne]; omega
              go_wp2_with fail
              refine (err_any g _ _ _ _ _ _ hR).mono ?_
              rintro e w90 ⟨rfl, rfl⟩
              go_wp2_with fail
              refine (err_any g _ _ _ _ _ _ hR).mono ?_
              rintro e w91 ⟨rfl, rfl⟩
              go_wp2_with ((with_reducible refine wpList_st rowS kz ZS.out ZS.out ZS1.out ?_ ?_ ?_); rotate_left; (rfl); (rfl); intro w92 k92 g92 z92)
              rw [zero9] at k92
              have gz := gW.grown g92 gW.size (fun q hq => by injection hq; omega)
              have hbad := get_bad (bs := bs) (by rw [HGE.out]; omega)
              refine bodyPost_ret (v := .tuple #[.agg (uc (uptoS noG) (.slice none 0 0)), .int .i64 ((4 : Nat) : Int)]) (results_blk2 rfl rowS k92 (by rfl) rfl rfl) rfl ⟨none, 0, 0, by rw [HGE.out, hbad.1], by rw [hbad.2]; exact OwnD.nil _ _, gz⟩
            case true =>
              have hge := HGEd.out
              rw [if_neg (by simp [hright])] at hge
              have hgu := HGUd.out hge
              clear HGEd HGUd hright h3 HR9
              have HGE := Lib.hid hge
              have HGUu := Lib.hid hgu
              clear hge hgu
              go_wp2_with fail
              refine (err_any g _ _ _ _ _ _ hR).mono ?_
              rintro e w90 ⟨rfl, rfl⟩
              go_wp2_with (first
                | ((with_reducible refine wpList_ld rowS ks HUS.out ?_ ?_); rotate_left; (rfl))
                | ((with_reducible refine wpList_st rowS kz HUS.out ZS.out HUO.out ?_ ?_ ?_); rotate_left; (rfl); (rfl); intro w92 k92 g92 z92))
              have o92 := oD.grown g92 (.inr (own_ne oD.2 kz (by decide)))
              have gz := gW.grown g92 gW.size (fun q hq => by injection hq; omega)
              refine bodyPost_ret (v := .tuple #[.agg su, .int .i64 0]) (results_blk2 rfl rowS k92 HUS.out rfl rfl) rfl ⟨Ad, m, cd, by rw [HGE.out, HGUu.out.1, HSU.out]; rfl, by rw [HGUu.out.2]; exact o92.mono hwo0, gz⟩
end Go.Proofs.Ytacmdkjodnaohaa

namespace Go.Proofs.Ytacmdkjodnaohaa.DotsetBack
open Go.ChangeShapes Go.WideShapes Go.ChangeAt Go.RowKit Go.Deep
open Dot
set_option linter.unusedVariables false
set_option linter.unusedSimpArgs false
theorem meet5 {a1 a2 a3 a4 a5 : Type} {F : a1 → a2 → a3 → a4 → a5 → Prop} {M : a1 → a2 → a3 → a4 → a5 → Prop} {G : Prop} (hmain : (∀ x1 x2 x3 x4 x5, F x1 x2 x3 x4 x5 → M x1 x2 x3 x4 x5) → G) (hkey : ∀ x1 x2 x3 x4 x5, F x1 x2 x3 x4 x5 → M x1 x2 x3 x4 x5) : G := hmain hkey
theorem get_facts (b : List UInt8) : (getU b).length = 8 ∧ Wf (getU b) ∧ (getL b).length ≤ 768 := by
  by_cases h : getE b = 0
  · obtain ⟨h1, _, h3⟩ := put_get h
    obtain ⟨r1, r2, _⟩ := (right_iff _ _).1 h1
    exact ⟨h3, fun x hx => by have := (numOk_iff x).1 (List.all_eq_true.1 r1 x hx); exact wf_of (by omega) (by omega), r2⟩
  · obtain ⟨h1, h2⟩ := get_bad h
    rw [h1, h2]
    exact ⟨upto_len _, upto_wf _, by simp⟩
theorem listG_in (l : List Dt) : InG (listG l) := fun n q h => by
  unfold listG at h
  rw [List.any_eq_true] at h
  obtain ⟨d, _, h⟩ := h
  simp only [Bool.and_eq_true, decide_eq_true_eq] at h
  have := (may_iff d).1 h.1.1
  omega
theorem listG_rev (l : List Dt) : listG l.reverse = listG l := by
  funext n q
  unfold listG
  rw [List.any_reverse]
theorem rev_take {l : List Dt} {k : Nat} (h : k < l.length) : l.reverse.take (k + 1) = l.reverse.take k ++ [l[l.length - 1 - k]] := by
  rw [take_snoc l.reverse (by rw [List.length_reverse]; exact h), List.getElem_reverse]
/-- a dot more: it is in, or nothing changes -/
theorem add_step (l : List Dt) (d : Dt) : (addE (uptoS (listG l)) (moreS (listG l)) d = 0 ∧ uptoS (addG (uptoS (listG l)) (moreS (listG l)) d) = uptoS (listG (l ++ [d])) ∧ moreS (addG (uptoS (listG l)) (moreS (listG l)) d) = moreS (listG (l ++ [d]))) ∨
    (addE (uptoS (listG l)) (moreS (listG l)) d ≠ 0 ∧ uptoS (listG (l ++ [d])) = uptoS (listG l) ∧ moreS (listG (l ++ [d])) = moreS (listG l)) := by
  have hc := has_closed (listG_in l)
  have hs := listG_snoc l d
  by_cases hm : mayB d = true
  · have hh : hasB (uptoS (listG l)) (moreS (listG l)) d = listG l d.1.toNat d.2.toNat := by unfold hasB; rw [hc, hm]; rfl
    rw [if_pos hm] at hs
    cases hg : listG l d.1.toNat d.2.toNat with
    | true =>
      right
      have hp : putG (listG l) d = listG l := by
        funext n q
        unfold putG
        by_cases e : (n : Int) = d.1 ∧ (q : Int) = d.2
        · have e1 : d.1.toNat = n := by omega
          have e2 : d.2.toNat = q := by omega
          rw [e1, e2] at hg
          rw [hg]; rfl
        · have : (decide ((n : Int) = d.1) && decide ((q : Int) = d.2)) = false := by
            rw [← Bool.not_eq_true]; simp only [Bool.and_eq_true, decide_eq_true_eq]; exact e
          rw [this, Bool.or_false]
      refine ⟨by unfold addE; rw [if_pos hm, hh, hg]; decide, ?_, ?_⟩ <;> rw [hs, hp]
    | false =>
      left
      have ha : addG (uptoS (listG l)) (moreS (listG l)) d = putG (listG l) d := by unfold addG; rw [if_pos ⟨hm, by rw [hh, hg]⟩, hc]
      refine ⟨by unfold addE; rw [if_pos hm, hh, hg]; rfl, ?_, ?_⟩ <;> rw [ha, hs]
  · right
    rw [if_neg hm] at hs
    refine ⟨by unfold addE; rw [if_neg hm]; decide, ?_, ?_⟩ <;> rw [hs]
theorem dput_v (U : List Int) (A : Option Addr) (n c : Nat) (l : List Dt) (w : World) (hU : U.length = 8) (hr : RdD w w.heap.size A n l) : Calls Try.prog 29 #[.agg (uc U (.slice A n c))] w (GiveBE w (if rightB U l = true then encs (putL U l) else []) (if rightB U l = true then 0 else 2)) := dput_any ⟨U, A, n, c, l⟩ w hU hr
theorem zeroU : (#[.int .i64 0, .int .i64 0, .int .i64 0, .int .i64 0, .int .i64 0, .int .i64 0, .int .i64 0, .int .i64 0, .slice none 0 0] : Array Value) = uc (uptoS (listG [])) (.slice none 0 0) := by kernel_rfl
theorem moreU : moreS (listG []) = [] := by kernel_rfl
set_option maxRecDepth 100000 in
set_option maxHeartbeats 1500000 in
theorem walk (A : Option Addr) (n c : Nat) (l : List Dt) (Ab : Option Addr) (nb cb : Nat) (bs : List UInt8) (w : World) (hr : RdD w w.heap.size A n l) (_ : n ≤ maxLen) (hb : RdB w w.heap.size Ab nb bs) (_ : nb ≤ maxLen) :
    Calls Try.prog 7 #[.slice A n c, .slice Ab nb cb] w fun e w' => e = .returned (.bool true) ∧ Below w.heap.size w w' := by
  have HNL := Lib.hid hr.1
  have HNB := Lib.hid hb.1
  have HRB := Lib.hid hb
  have HRL := Lib.hid hr
  clear hb hr
  go_enter Try.func7, Try.ntmps7
  go_wp2_with fail
  refine (alive06 w).mono ?_
  rintro e w1 ⟨rfl, b1⟩
  by_cases hbig : 300 < n
  · have hd : decide ((300 : Int) < (n : Int)) = true := decide_eq_true (by omega)
    go_wp2_with fail
    go_ret
    exact ⟨rfl, b1⟩
  have hd : decide ((300 : Int) < (n : Int)) = false := decide_eq_false (by omega)
  by_cases hbig2 : 3000 < nb
  · have hd2 : decide ((3000 : Int) < (nb : Int)) = true := decide_eq_true (by omega)
    go_wp2_with fail
    go_ret
    exact ⟨rfl, b1⟩
  have hd2 : decide ((3000 : Int) < (nb : Int)) = false := decide_eq_false (by omega)
  have hn1 : n ≤ 300 := by omega
  have hnb1 : nb ≤ 3000 := by omega
  obtain ⟨w2, hw2⟩ : ∃ w2, w2 = (w1.alloc (.cells #[.int .i64 0, .int .i64 0, .int .i64 0, .int .i64 0, .int .i64 0, .int .i64 0, .int .i64 0, .int .i64 0, .slice none 0 0] 30)).alloc (.cells #[.int .i64 0, .int .i64 0, .int .i64 0, .int .i64 0, .int .i64 0, .int .i64 0, .int .i64 0, .int .i64 0, .slice none 0 0] 30) := ⟨_, rfl⟩
  obtain ⟨gs, hgs⟩ : ∃ gs, gs = w1.heap.size := ⟨_, rfl⟩
  have ks : Blk w2 gs 30 (uc (uptoS (listG [])) (.slice none 0 0)) := by rw [hw2, hgs, ← zeroU]; exact (Blk.new w1 _ _).alloc _
  have kt : Blk w2 (gs + 1) 30 (uc (uptoS (listG [])) (.slice none 0 0)) := by
    have h := Blk.new (w1.alloc (.cells #[.int .i64 0, .int .i64 0, .int .i64 0, .int .i64 0, .int .i64 0, .int .i64 0, .int .i64 0, .int .i64 0, .slice none 0 0] 30)) 30 #[.int .i64 0, .int .i64 0, .int .i64 0, .int .i64 0, .int .i64 0, .int .i64 0, .int .i64 0, .int .i64 0, .slice none 0 0]
    rw [hw2, hgs, ← zeroU]
    simpa using h
  have gW : Below w.heap.size w w2 := by rw [hw2]; exact (b1.alloc b1.size _).alloc (by have := b1.size; simp; omega) _
  have hgw : w.heap.size ≤ gs := by rw [hgs]; exact b1.size
  have HW := Lib.hid hw2
  have HGS := Lib.hid hgs
  clear hw2 hgs b1 hbig hbig2
  go_upto_region 6 with fail
  rw [← HW.out, ← HGS.out]
  clear hd hd2
  go_wp2_with fail
  go_loopw [32] (fun i wr => ∃ (k : Nat) (As : Option Addr) (ms cs : Nat) (At : Option Addr) (mt ct : Nat), k ≤ n ∧ i = .int .i64 k ∧ Blk wr gs 30 (uc (uptoS (listG (l.take k))) (.slice As ms cs)) ∧ OwnD wr w.heap.size As ms cs (moreS (listG (l.take k))) ∧ Blk wr (gs + 1) 30 (uc (uptoS (listG (l.reverse.take k))) (.slice At mt ct)) ∧ OwnD wr w.heap.size At mt ct (moreS (listG (l.reverse.take k))) ∧ Below w.heap.size w wr) (fun i _ => n - (intOf i).toNat)
  case atStart => exact ⟨0, none, 0, 0, none, 0, 0, by omega, rfl, ks, by rw [List.take_zero, moreU]; exact OwnD.nil _ _, kt, by rw [List.take_zero, moreU]; exact OwnD.nil _ _, gW⟩
  case round =>
  clear ks kt gW
  obtain ⟨k, As, ms, cs, At, mt, ct, hk, rfl, ks, oS, kt, oT, gW⟩ := hrel
  by_cases hlt : k < n
  case pos =>
    have hkl : k < l.length := by rw [← HNL.out]; exact hlt
    have hjl : l.length - 1 - k < l.length := by omega
    have hrl := HRL.out.below gW
    obtain ⟨ad, hadE, hdt⟩ := hrl.2 k _ (List.getElem?_eq_getElem hkl)
    obtain ⟨ad2, hadE2, hdt2⟩ := hrl.2 (l.length - 1 - k) _ (List.getElem?_eq_getElem hjl)
    have has := add_step (l.take k) l[k]
    have hat := add_step (l.reverse.take k) l[l.length - 1 - k]
    rw [← take_snoc l hkl] at has
    rw [← rev_take hkl] at hat
    have als := upto_len (addG (uptoS (listG (l.take k))) (moreS (listG (l.take k))) l[k])
    have alt := upto_len (addG (uptoS (listG (l.reverse.take k))) (moreS (listG (l.reverse.take k))) l[l.length - 1 - k])
    have adds := fun (w' : World) (h : RdD w' w'.heap.size As ms (moreS (listG (l.take k)))) => add_any ⟨uptoS (listG (l.take k)), As, ms, cs, moreS (listG (l.take k))⟩ l[k].1 l[k].2 w' (upto_len _) h
    have addt := fun (w' : World) (h : RdD w' w'.heap.size At mt (moreS (listG (l.reverse.take k)))) => add_any ⟨uptoS (listG (l.reverse.take k)), At, mt, ct, moreS (listG (l.reverse.take k))⟩ l[l.length - 1 - k].1 l[l.length - 1 - k].2 w' (upto_len _) h
    unfold AddEnd at adds addt
    simp only at adds addt
    have lgs := upto_len (listG (l.take k))
    have lgt := upto_len (listG (l.reverse.take k))
    obtain ⟨j, hj⟩ : ∃ j, j = l.length - 1 - k := ⟨_, rfl⟩
    have hjn : j = n - 1 - k := by rw [hj, HNL.out]
    have hb1' : ((ad.add (k * 2)).block < w.heap.size) := hdt.1
    have hb2' : ((ad2.add ((l.length - 1 - k) * 2)).block < w.heap.size) := hdt2.1
    obtain ⟨_, q0, q1⟩ := hdt
    obtain ⟨_, p0, p1⟩ := hdt2
    have EP : ∀ d : Dt, ((d.1, d.2) : Dt) = d := fun _ => rfl
    simp only [EP] at adds addt
    generalize l[k] = d1 at *
    generalize l[l.length - 1 - k] = d2 at *
    rw [← hj] at hb2' p0 p1
    obtain ⟨x1, y1⟩ := d1
    obtain ⟨x2, y2⟩ := d2
    simp only at q0 q1 p0 p1 adds addt
    generalize uptoS (addG (uptoS (listG (l.take k))) (moreS (listG (l.take k))) (x1, y1)) = AUs at *
    generalize moreS (addG (uptoS (listG (l.take k))) (moreS (listG (l.take k))) (x1, y1)) = AMs at *
    generalize addE (uptoS (listG (l.take k))) (moreS (listG (l.take k))) (x1, y1) = AEs at *
    generalize uptoS (addG (uptoS (listG (l.reverse.take k))) (moreS (listG (l.reverse.take k))) (x2, y2)) = AUt at *
    generalize moreS (addG (uptoS (listG (l.reverse.take k))) (moreS (listG (l.reverse.take k))) (x2, y2)) = AMt at *
    generalize addE (uptoS (listG (l.reverse.take k))) (moreS (listG (l.reverse.take k))) (x2, y2) = AEt at *
    have HUs1 : ∃ Us1 Ms1, Us1 = uptoS (listG (l.take (k + 1))) ∧ Ms1 = moreS (listG (l.take (k + 1))) := ⟨_, _, rfl, rfl⟩
    have HUt1 : ∃ Ut1 Mt1, Ut1 = uptoS (listG (l.reverse.take (k + 1))) ∧ Mt1 = moreS (listG (l.reverse.take (k + 1))) := ⟨_, _, rfl, rfl⟩
    obtain ⟨Us1, Ms1, hUs1, hMs1⟩ := HUs1
    obtain ⟨Ut1, Mt1, hUt1, hMt1⟩ := HUt1
    rw [← hUs1, ← hMs1] at has
    rw [← hUt1, ← hMt1] at hat
    generalize uptoS (listG (l.take k)) = Us at *
    generalize moreS (listG (l.take k)) = Ms at *
    generalize uptoS (listG (l.reverse.take k)) = Ut at *
    generalize moreS (listG (l.reverse.take k)) = Mt at *
    have HSs := Lib.hid (uc_size lgs (.slice As ms cs))
    have HSt := Lib.hid (uc_size lgt (.slice At mt ct))
    obtain ⟨ss, hss⟩ : ∃ s, s = uc Us (.slice As ms cs) := ⟨_, rfl⟩
    obtain ⟨st, hst⟩ : ∃ s, s = uc Ut (.slice At mt ct) := ⟨_, rfl⟩
    rw [← hss] at HSs ks adds
    rw [← hst] at HSt kt addt
    have HSsE := Lib.hid hss
    have HStE := Lib.hid hst
    have HAs := Lib.hid has
    have HAt := Lib.hid hat
    have HALs := Lib.hid als
    have HALt := Lib.hid alt
    have ADDT := Lib.hid addt
    have HU1 := Lib.hid hUs1
    have HM1 := Lib.hid hMs1
    have HU2 := Lib.hid hUt1
    have HM2 := Lib.hid hMt1
    have hj0 : (0 : Int) ≤ (j : Int) := by omega
    have hj1 : (j : Int) < (n : Int) := by omega
    have ew1 : IntKind.i64.wrap ((n : Int) - 1) = (n : Int) - 1 := IntWalk.i64_in _ (by omega)
    have ew2 : IntKind.i64.wrap ((n : Int) - 1 - (k : Int)) = (j : Int) := by rw [show (n : Int) - 1 - (k : Int) = (j : Int) by omega]; exact IntWalk.i64_in _ (by omega)
    have hk0 : (0 : Int) ≤ (k : Int) := by omega
    have hk1 : (k : Int) < (n : Int) := by omega
    have hads := fun (w' : World) (hb : Below wr.heap.size wr w') => adds w' ((oS.rd.below hb).more hb.size)
    have HADDs := Lib.hid hads
    have HE1 := Lib.hid hadE
    have HE2 := Lib.hid hadE2
    obtain rfl := hadE
    obtain rfl : ad = ad2 := by injection hadE2
    clear hss hst has hat als alt addt hUs1 hMs1 hUt1 hMt1 lgs lgt hrl adds hads hadE2 HE1 HE2 hj EP hjl hjn
    have ks0 := ks
    obtain ⟨wrs, rfl⟩ : ∃ x, x = wr := ⟨_, rfl⟩
    go_upto_region 9 with fail
    have ks := ks0
    refine wp_region_held_drew (S := fun w' => Below wrs.heap.size wrs w') (by kernel_rfl) (Below.refl _ _).drew (fun hS => ?_)
    generalize wrs.drew = wds at *
    refine wpAnyH_take (i := 0) rfl (by kernel_rfl) (by kernel_rfl) (by kernel_rfl) (fun _ _ _ h => h) (yieldsIf_ld (by rfl) rowS (.tmp 5) rfl rfl (fun w hw => ks.below hw ks.lt) HSs.out) hS ?_
    simp only [Act.put, List.getElem_toArray, List.getElem_cons_zero, List.getElem_cons_succ, List.setIfInBounds_toArray, List.set_cons_succ, List.set_cons_zero]
    refine wpAnyH_take (i := 1) (v := ?rv198) rfl (by kernel_rfl) (by kernel_rfl) (by kernel_rfl) (fun _ _ _ h => h) (Or.inl ⟨by rfl, ?ry198⟩) hS ?_
    case ry198 => (intro wS hSw; clear hSw; go_simp; (try with_reducible rfl))
    simp only [Act.put, List.getElem_toArray, List.getElem_cons_zero, List.getElem_cons_succ, List.setIfInBounds_toArray, List.set_cons_succ, List.set_cons_zero]
    refine wpAnyH_take (i := 2) (v := ?rv201) rfl (by kernel_rfl) (by kernel_rfl) (by kernel_rfl) (fun _ _ _ h => h) (Or.inl ⟨by rfl, ?ry201⟩) hS ?_
    case ry201 => (intro wS hSw; clear hSw; go_simp; (try with_reducible rfl))
    simp only [Act.put, List.getElem_toArray, List.getElem_cons_zero, List.getElem_cons_succ, List.setIfInBounds_toArray, List.set_cons_succ, List.set_cons_zero]
    refine wpAnyH_take (i := 3) (v := ?rv204) rfl (by kernel_rfl) (by kernel_rfl) (by kernel_rfl) (fun _ _ _ h => h) (Or.inl ⟨by rfl, ?ry204⟩) hS ?_
    case ry204 => (intro wS hSw; clear hSw; go_simp; (try with_reducible rfl))
    simp only [Act.put, List.getElem_toArray, List.getElem_cons_zero, List.getElem_cons_succ, List.setIfInBounds_toArray, List.set_cons_succ, List.set_cons_zero]
    refine wpAnyH_take (i := 4) (v := ?rv207) rfl (by kernel_rfl) (by kernel_rfl) (by kernel_rfl) (fun _ _ _ h => h) (Or.inl ⟨by rfl, ?ry207⟩) hS ?_
    case ry207 => (intro wS hSw; have q0 := (hSw.cell (p := ad.add (k * 2)) (Nat.lt_of_lt_of_le hb1' gW.size)).trans q0; have q1 := (hSw.cell (p := ⟨(ad.add (k * 2)).block, (ad.add (k * 2)).off + 1, none⟩) (Nat.lt_of_lt_of_le hb1' gW.size)).trans q1; clear hSw; go_simp; (try with_reducible rfl))
    simp only [Act.put, List.getElem_toArray, List.getElem_cons_zero, List.getElem_cons_succ, List.setIfInBounds_toArray, List.set_cons_succ, List.set_cons_zero]
    apply meet5 (F := fun (wz : World) (A8 : Option Addr) (m8 c8 g8 : Nat) => Below wrs.heap.size wrs wz ∧ OwnD wz wrs.heap.size A8 m8 c8 AMs ∧ Blk wz g8 30 #[.int .i64 0, .int .i64 0, .int .i64 0, .int .i64 0, .int .i64 0, .int .i64 0, .int .i64 0, .int .i64 0, .slice none 0 0] ∧ wrs.heap.size ≤ g8)
    intro key
    · refine wpAnyH_ready (rs := [5, 9]) (by kernel_rfl) (by simp) ?_
      refine AllReadyH.cons rfl (fun K hK => ?afirst) (AllReadyH.cons rfl (fun K hK => ?asecond) .nil)
      case afirst =>
        go_simp
        refine (HADDs.out _ hS).mono ?_
        rintro e wn ⟨A8, m8, c8, rfl, o8, hh⟩
        replace o8 := o8.mono hS.size
        refine hK.out _ _ (hS.trans (hh.mono hS.size)) (fun hS => ?_)
        clear hK K hh
        refine wpAnyH_take (i := 6) (v := ?rv221) rfl (by kernel_rfl) (by kernel_rfl) (by kernel_rfl) (fun _ _ _ h => h) (Or.inl ⟨by rfl, ?ry221⟩) hS ?_
        case ry221 => (intro wS hSw; clear hSw; go_simp; (try with_reducible rfl))
        simp only [Act.put, List.getElem_toArray, List.getElem_cons_zero, List.getElem_cons_succ, List.setIfInBounds_toArray, List.set_cons_succ, List.set_cons_zero]
        refine wpAnyH_take (i := 7) (v := ?rv224) rfl (by kernel_rfl) (by kernel_rfl) (by kernel_rfl) (fun _ _ _ h => h) (Or.inl ⟨by rfl, ?ry224⟩) hS ?_
        case ry224 => (intro wS hSw; clear hSw; go_simp; (try with_reducible rfl))
        simp only [Act.put, List.getElem_toArray, List.getElem_cons_zero, List.getElem_cons_succ, List.setIfInBounds_toArray, List.set_cons_succ, List.set_cons_zero]
        refine wpAnyH_take (i := 8) (v := ?rv227) rfl (by kernel_rfl) (by kernel_rfl) (by kernel_rfl) (fun _ _ _ h => h) (Or.inl ⟨by rfl, ?ry227⟩) hS ?_
        case ry227 => (intro wS hSw; clear hSw; go_simp; (try with_reducible rfl))
        simp only [Act.put, List.getElem_toArray, List.getElem_cons_zero, List.getElem_cons_succ, List.setIfInBounds_toArray, List.set_cons_succ, List.set_cons_zero]
        refine wpAnyH_ready (rs := [9]) (by kernel_rfl) (by simp) ?_
        refine AllReadyH.cons rfl (fun K hK => ?_) .nil
        go_simp
        have hg8 := hS.size
        refine hK.out _ _ (hS.alloc hS.size _) (fun hS => ?_)
        clear hK K
        have k8 := Blk.new wn 30 #[.int .i64 0, .int .i64 0, .int .i64 0, .int .i64 0, .int .i64 0, .int .i64 0, .int .i64 0, .int .i64 0, .slice none 0 0]
        replace o8 := o8.alloc (.cells #[.int .i64 0, .int .i64 0, .int .i64 0, .int .i64 0, .int .i64 0, .int .i64 0, .int .i64 0, .int .i64 0, .slice none 0 0] 30)
        generalize wn.alloc (.cells #[.int .i64 0, .int .i64 0, .int .i64 0, .int .i64 0, .int .i64 0, .int .i64 0, .int .i64 0, .int .i64 0, .slice none 0 0] 30) = wm at *
        generalize wn.heap.size = g8 at *
        exact key wm A8 m8 c8 g8 ⟨hS, o8, k8, hg8⟩
      case asecond =>
        go_simp
        have hg8 := hS.size
        refine hK.out _ _ (hS.alloc hS.size _) (fun hS => ?_)
        clear hK K
        have k8 := Blk.new wds 30 #[.int .i64 0, .int .i64 0, .int .i64 0, .int .i64 0, .int .i64 0, .int .i64 0, .int .i64 0, .int .i64 0, .slice none 0 0]
        generalize wds.alloc (.cells #[.int .i64 0, .int .i64 0, .int .i64 0, .int .i64 0, .int .i64 0, .int .i64 0, .int .i64 0, .int .i64 0, .slice none 0 0] 30) = wm at *
        generalize wds.heap.size = g8 at *
        refine wpAnyH_ready (rs := [5]) (by kernel_rfl) (by simp) ?_
        refine AllReadyH.cons rfl (fun K hK => ?_) .nil
        go_simp
        refine (HADDs.out _ hS).mono ?_
        rintro e wn ⟨A8, m8, c8, rfl, o8, hh⟩
        replace o8 := o8.mono hS.size
        replace k8 := k8.below hh k8.lt
        refine hK.out _ _ (hS.trans (hh.mono hS.size)) (fun hS => ?_)
        clear hK K hh
        refine wpAnyH_take (i := 6) (v := ?rv258) rfl (by kernel_rfl) (by kernel_rfl) (by kernel_rfl) (fun _ _ _ h => h) (Or.inl ⟨by rfl, ?ry258⟩) hS ?_
        case ry258 => (intro wS hSw; clear hSw; go_simp; (try with_reducible rfl))
        simp only [Act.put, List.getElem_toArray, List.getElem_cons_zero, List.getElem_cons_succ, List.setIfInBounds_toArray, List.set_cons_succ, List.set_cons_zero]
        refine wpAnyH_take (i := 7) (v := ?rv261) rfl (by kernel_rfl) (by kernel_rfl) (by kernel_rfl) (fun _ _ _ h => h) (Or.inl ⟨by rfl, ?ry261⟩) hS ?_
        case ry261 => (intro wS hSw; clear hSw; go_simp; (try with_reducible rfl))
        simp only [Act.put, List.getElem_toArray, List.getElem_cons_zero, List.getElem_cons_succ, List.setIfInBounds_toArray, List.set_cons_succ, List.set_cons_zero]
        refine wpAnyH_take (i := 8) (v := ?rv264) rfl (by kernel_rfl) (by kernel_rfl) (by kernel_rfl) (fun _ _ _ h => h) (Or.inl ⟨by rfl, ?ry264⟩) hS ?_
        case ry264 => (intro wS hSw; clear hSw; go_simp; (try with_reducible rfl))
        simp only [Act.put, List.getElem_toArray, List.getElem_cons_zero, List.getElem_cons_succ, List.setIfInBounds_toArray, List.set_cons_succ, List.set_cons_zero]
        exact key wn A8 m8 c8 g8 ⟨hS, o8, k8, hg8⟩
    rename Below wrs.heap.size wrs wds => hSd
    clear hSd
    rintro wz A8 m8 c8 g8 ⟨hS, o8, k8, hg8⟩
    have HS8 := Lib.hid (uc_size HALs.out (.slice A8 m8 c8))
    have H81 := Lib.hid (uc_one (U := AUs) (s := .slice A8 m8 c8) rfl)
    obtain ⟨s8, hs8⟩ : ∃ s, s = uc AUs (.slice A8 m8 c8) := ⟨_, rfl⟩
    rw [← hs8] at HS8 H81 ⊢
    have HSE := Lib.hid hs8
    clear hs8
    refine wpAnyH_ready (rs := [10]) (by kernel_rfl) (by simp) ?_
    refine AllReadyH.cons rfl (fun K hK => ?_) .nil
    refine step_st rfl rowS (.tmp 8) (.tmp 42) rfl (by rfl) (by rfl) k8 HS8.out (by rfl) H81.out ?_
    intro wa ka ga za
    have oa := o8.grown ga (.inr (own_ne o8.2 k8 (by decide)))
    refine hK.out _ _ (hS.grown ga hS.size (fun q hq => by injection hq; omega)) (fun hS => ?_)
    clear hK K
    refine wpAnyH_take (i := 11) (v := ?rv284) rfl (by kernel_rfl) (by kernel_rfl) (by kernel_rfl) (fun _ _ _ h => h) (Or.inl ⟨by rfl, ?ry284⟩) hS ?_
    case ry284 => (intro wS hSw; clear hSw; go_simp; (try with_reducible rfl))
    simp only [Act.put, List.getElem_toArray, List.getElem_cons_zero, List.getElem_cons_succ, List.setIfInBounds_toArray, List.set_cons_succ, List.set_cons_zero]
    refine wpAnyH_done (by kernel_rfl) ?_ _
    rename Below wrs.heap.size wrs wz => hSz
    clear hSz ga za k8 o8
    have ksA := ks.below hS ks.lt
    have ktA := kt.below hS kt.lt
    have oTA := oT.below hS (Nat.le_refl _)
    have gWA := gW.trans (hS.mono gW.size)
    have gXA := hS.mono gW.size
    have oA1 := oa.mono gW.size
    rcases HAs.out with ⟨hq1, hq2, hq3⟩ | ⟨hq1, hq2, hq3⟩
    case inl =>
      subst hq1 hq2 hq3
      go_upto_region 12 with first
        | ((with_reducible refine wpList_ld rowS ka HS8.out ?_ ?_); rotate_left; (rfl))
        | ((with_reducible refine wpList_st rowS ksA HS8.out HSs.out H81.out ?_ ?_ ?_); rotate_left; (rfl); (rfl); intro wrt ksB gB zB)
      have kt0 := ktA.grown gB (fun h => by injection h with h; omega)
      have oT1 := oTA.grown gB (.inr (own_ne oTA.2 ksA (by decide)))
      have oS1 := oA1.grown gB (.inr (own_ne oA1.2 ksA (by decide)))
      have gW1 := gWA.grown gB gWA.size (fun q hq => by injection hq; omega)
      have gX1 := gXA.grown gB gWA.size (fun q hq => by injection hq; omega)
      rw [HSE.out] at ksB
      clear gB zB
      obtain ⟨As1, hAs1⟩ : ∃ x, x = A8 := ⟨_, rfl⟩
      obtain ⟨ms1, hms1⟩ : ∃ x, x = m8 := ⟨_, rfl⟩
      obtain ⟨cs1, hcs1⟩ : ∃ x, x = c8 := ⟨_, rfl⟩
      rw [← hAs1, ← hms1, ← hcs1] at ksB
      rw [← hAs1, ← hms1, ← hcs1] at oS1
      clear hAs1 hms1 hcs1
      replace p0 := (gX1.cell (p := ad.add (j * 2)) hb2').trans p0
      replace p1 := (gX1.cell (p := ⟨(ad.add (j * 2)).block, (ad.add (j * 2)).off + 1, none⟩) hb2').trans p1
      have HADDt := Lib.hid (fun (w' : World) (hb : Below wrt.heap.size wrt w') => ADDT.out w' ((oT1.rd.below hb).more hb.size))
      clear ks ks0 kt oS oT gW q0 q1 ksA ktA oTA gWA gXA oA1 oa ka hS HS8 H81 HSE hg8
      have kt := kt0
      refine wp_region_held_drew (S := fun w' => Below wrt.heap.size wrt w') (by kernel_rfl) (Below.refl _ _).drew (fun hS => ?_)
      generalize wrt.drew = wdt at *
      refine wpAnyH_take (i := 0) rfl (by kernel_rfl) (by kernel_rfl) (by kernel_rfl) (fun _ _ _ h => h) (yieldsIf_ld (by rfl) rowS (.tmp 6) rfl rfl (fun w hw => kt.below hw kt.lt) HSt.out) hS ?_
      simp only [Act.put, List.getElem_toArray, List.getElem_cons_zero, List.getElem_cons_succ, List.setIfInBounds_toArray, List.set_cons_succ, List.set_cons_zero]
      refine wpAnyH_take (i := 1) (v := ?rv324) rfl (by kernel_rfl) (by kernel_rfl) (by kernel_rfl) (fun _ _ _ h => h) (Or.inl ⟨by rfl, ?ry324⟩) hS ?_
      case ry324 => (intro wS hSw; clear hSw; go_simp; (try with_reducible rfl))
      simp only [Act.put, List.getElem_toArray, List.getElem_cons_zero, List.getElem_cons_succ, List.setIfInBounds_toArray, List.set_cons_succ, List.set_cons_zero]
      refine wpAnyH_take (i := 2) (v := ?rv327) rfl (by kernel_rfl) (by kernel_rfl) (by kernel_rfl) (fun _ _ _ h => h) (Or.inl ⟨by rfl, ?ry327⟩) hS ?_
      case ry327 => (intro wS hSw; clear hSw; go_simp; (try with_reducible rfl))
      simp only [Act.put, List.getElem_toArray, List.getElem_cons_zero, List.getElem_cons_succ, List.setIfInBounds_toArray, List.set_cons_succ, List.set_cons_zero]
      refine wpAnyH_take (i := 3) (v := ?rv330) rfl (by kernel_rfl) (by kernel_rfl) (by kernel_rfl) (fun _ _ _ h => h) (Or.inl ⟨by rfl, ?ry330⟩) hS ?_
      case ry330 => (intro wS hSw; clear hSw; go_simp; (try with_reducible rfl))
      simp only [Act.put, List.getElem_toArray, List.getElem_cons_zero, List.getElem_cons_succ, List.setIfInBounds_toArray, List.set_cons_succ, List.set_cons_zero]
      refine wpAnyH_take (i := 4) (v := ?rv333) rfl (by kernel_rfl) (by kernel_rfl) (by kernel_rfl) (fun _ _ _ h => h) (Or.inl ⟨by rfl, ?ry333⟩) hS ?_
      case ry333 => (intro wS hSw; clear hSw; go_simp; (try with_reducible rfl))
      simp only [Act.put, List.getElem_toArray, List.getElem_cons_zero, List.getElem_cons_succ, List.setIfInBounds_toArray, List.set_cons_succ, List.set_cons_zero]
      refine wpAnyH_take (i := 5) (v := ?rv336) rfl (by kernel_rfl) (by kernel_rfl) (by kernel_rfl) (fun _ _ _ h => h) (Or.inl ⟨by rfl, ?ry336⟩) hS ?_
      case ry336 => (intro wS hSw; clear hSw; go_simp; (try with_reducible rfl))
      simp only [Act.put, List.getElem_toArray, List.getElem_cons_zero, List.getElem_cons_succ, List.setIfInBounds_toArray, List.set_cons_succ, List.set_cons_zero]
      refine wpAnyH_take (i := 6) (v := ?rv339) rfl (by kernel_rfl) (by kernel_rfl) (by kernel_rfl) (fun _ _ _ h => h) (Or.inl ⟨by rfl, ?ry339⟩) hS ?_
      case ry339 => (intro wS hSw; clear hSw; go_simp; (try with_reducible rfl))
      simp only [Act.put, List.getElem_toArray, List.getElem_cons_zero, List.getElem_cons_succ, List.setIfInBounds_toArray, List.set_cons_succ, List.set_cons_zero]
      refine wpAnyH_take (i := 7) (v := ?rv342) rfl (by kernel_rfl) (by kernel_rfl) (by kernel_rfl) (fun _ _ _ h => h) (Or.inl ⟨by rfl, ?ry342⟩) hS ?_
      case ry342 => (intro wS hSw; clear hSw; go_simp; (try with_reducible rfl))
      simp only [Act.put, List.getElem_toArray, List.getElem_cons_zero, List.getElem_cons_succ, List.setIfInBounds_toArray, List.set_cons_succ, List.set_cons_zero]
      refine wpAnyH_take (i := 8) (v := ?rv345) rfl (by kernel_rfl) (by kernel_rfl) (by kernel_rfl) (fun _ _ _ h => h) (Or.inl ⟨by rfl, ?ry345⟩) hS ?_
      case ry345 => (intro wS hSw; have q0 := (hSw.cell (p := ad.add (j * 2)) (Nat.lt_of_lt_of_le hb2' gW1.size)).trans p0; have q1 := (hSw.cell (p := ⟨(ad.add (j * 2)).block, (ad.add (j * 2)).off + 1, none⟩) (Nat.lt_of_lt_of_le hb2' gW1.size)).trans p1; clear hSw; go_simp; (try with_reducible rfl))
      simp only [Act.put, List.getElem_toArray, List.getElem_cons_zero, List.getElem_cons_succ, List.setIfInBounds_toArray, List.set_cons_succ, List.set_cons_zero]
      apply meet5 (F := fun (wz : World) (A8 : Option Addr) (m8 c8 g8 : Nat) => Below wrt.heap.size wrt wz ∧ OwnD wz wrt.heap.size A8 m8 c8 AMt ∧ Blk wz g8 30 #[.int .i64 0, .int .i64 0, .int .i64 0, .int .i64 0, .int .i64 0, .int .i64 0, .int .i64 0, .int .i64 0, .slice none 0 0] ∧ wrt.heap.size ≤ g8)
      intro key
      · refine wpAnyH_ready (rs := [9, 13]) (by kernel_rfl) (by simp) ?_
        refine AllReadyH.cons rfl (fun K hK => ?bfirst) (AllReadyH.cons rfl (fun K hK => ?bsecond) .nil)
        case bfirst =>
          go_simp
          refine (HADDt.out _ hS).mono ?_
          rintro e wn ⟨A8, m8, c8, rfl, o8, hh⟩
          replace o8 := o8.mono hS.size
          refine hK.out _ _ (hS.trans (hh.mono hS.size)) (fun hS => ?_)
          clear hK K hh
          refine wpAnyH_take (i := 10) (v := ?rv359) rfl (by kernel_rfl) (by kernel_rfl) (by kernel_rfl) (fun _ _ _ h => h) (Or.inl ⟨by rfl, ?ry359⟩) hS ?_
          case ry359 => (intro wS hSw; clear hSw; go_simp; (try with_reducible rfl))
          simp only [Act.put, List.getElem_toArray, List.getElem_cons_zero, List.getElem_cons_succ, List.setIfInBounds_toArray, List.set_cons_succ, List.set_cons_zero]
          refine wpAnyH_take (i := 11) (v := ?rv362) rfl (by kernel_rfl) (by kernel_rfl) (by kernel_rfl) (fun _ _ _ h => h) (Or.inl ⟨by rfl, ?ry362⟩) hS ?_
          case ry362 => (intro wS hSw; clear hSw; go_simp; (try with_reducible rfl))
          simp only [Act.put, List.getElem_toArray, List.getElem_cons_zero, List.getElem_cons_succ, List.setIfInBounds_toArray, List.set_cons_succ, List.set_cons_zero]
          refine wpAnyH_take (i := 12) (v := ?rv365) rfl (by kernel_rfl) (by kernel_rfl) (by kernel_rfl) (fun _ _ _ h => h) (Or.inl ⟨by rfl, ?ry365⟩) hS ?_
          case ry365 => (intro wS hSw; clear hSw; go_simp; (try with_reducible rfl))
          simp only [Act.put, List.getElem_toArray, List.getElem_cons_zero, List.getElem_cons_succ, List.setIfInBounds_toArray, List.set_cons_succ, List.set_cons_zero]
          refine wpAnyH_ready (rs := [13]) (by kernel_rfl) (by simp) ?_
          refine AllReadyH.cons rfl (fun K hK => ?_) .nil
          go_simp
          have hg8 := hS.size
          refine hK.out _ _ (hS.alloc hS.size _) (fun hS => ?_)
          clear hK K
          have k8 := Blk.new wn 30 #[.int .i64 0, .int .i64 0, .int .i64 0, .int .i64 0, .int .i64 0, .int .i64 0, .int .i64 0, .int .i64 0, .slice none 0 0]
          replace o8 := o8.alloc (.cells #[.int .i64 0, .int .i64 0, .int .i64 0, .int .i64 0, .int .i64 0, .int .i64 0, .int .i64 0, .int .i64 0, .slice none 0 0] 30)
          generalize wn.alloc (.cells #[.int .i64 0, .int .i64 0, .int .i64 0, .int .i64 0, .int .i64 0, .int .i64 0, .int .i64 0, .int .i64 0, .slice none 0 0] 30) = wm at *
          generalize wn.heap.size = g8 at *
          exact key wm A8 m8 c8 g8 ⟨hS, o8, k8, hg8⟩
        case bsecond =>
          go_simp
          have hg8 := hS.size
          refine hK.out _ _ (hS.alloc hS.size _) (fun hS => ?_)
          clear hK K
          have k8 := Blk.new wdt 30 #[.int .i64 0, .int .i64 0, .int .i64 0, .int .i64 0, .int .i64 0, .int .i64 0, .int .i64 0, .int .i64 0, .slice none 0 0]
          generalize wdt.alloc (.cells #[.int .i64 0, .int .i64 0, .int .i64 0, .int .i64 0, .int .i64 0, .int .i64 0, .int .i64 0, .int .i64 0, .slice none 0 0] 30) = wm at *
          generalize wdt.heap.size = g8 at *
          refine wpAnyH_ready (rs := [9]) (by kernel_rfl) (by simp) ?_
          refine AllReadyH.cons rfl (fun K hK => ?_) .nil
          go_simp
          refine (HADDt.out _ hS).mono ?_
          rintro e wn ⟨A8, m8, c8, rfl, o8, hh⟩
          replace o8 := o8.mono hS.size
          replace k8 := k8.below hh k8.lt
          refine hK.out _ _ (hS.trans (hh.mono hS.size)) (fun hS => ?_)
          clear hK K hh
          refine wpAnyH_take (i := 10) (v := ?rv396) rfl (by kernel_rfl) (by kernel_rfl) (by kernel_rfl) (fun _ _ _ h => h) (Or.inl ⟨by rfl, ?ry396⟩) hS ?_
          case ry396 => (intro wS hSw; clear hSw; go_simp; (try with_reducible rfl))
          simp only [Act.put, List.getElem_toArray, List.getElem_cons_zero, List.getElem_cons_succ, List.setIfInBounds_toArray, List.set_cons_succ, List.set_cons_zero]
          refine wpAnyH_take (i := 11) (v := ?rv399) rfl (by kernel_rfl) (by kernel_rfl) (by kernel_rfl) (fun _ _ _ h => h) (Or.inl ⟨by rfl, ?ry399⟩) hS ?_
          case ry399 => (intro wS hSw; clear hSw; go_simp; (try with_reducible rfl))
          simp only [Act.put, List.getElem_toArray, List.getElem_cons_zero, List.getElem_cons_succ, List.setIfInBounds_toArray, List.set_cons_succ, List.set_cons_zero]
          refine wpAnyH_take (i := 12) (v := ?rv402) rfl (by kernel_rfl) (by kernel_rfl) (by kernel_rfl) (fun _ _ _ h => h) (Or.inl ⟨by rfl, ?ry402⟩) hS ?_
          case ry402 => (intro wS hSw; clear hSw; go_simp; (try with_reducible rfl))
          simp only [Act.put, List.getElem_toArray, List.getElem_cons_zero, List.getElem_cons_succ, List.setIfInBounds_toArray, List.set_cons_succ, List.set_cons_zero]
          exact key wn A8 m8 c8 g8 ⟨hS, o8, k8, hg8⟩
      rename Below wrt.heap.size wrt wdt => hSd
      clear hSd
      rintro wz A8 m8 c8 g8 ⟨hS, o8, k8, hg8⟩
      have HS8 := Lib.hid (uc_size HALt.out (.slice A8 m8 c8))
      have H81 := Lib.hid (uc_one (U := AUt) (s := .slice A8 m8 c8) rfl)
      obtain ⟨s8, hs8⟩ : ∃ s, s = uc AUt (.slice A8 m8 c8) := ⟨_, rfl⟩
      rw [← hs8] at HS8 H81 ⊢
      have HSE := Lib.hid hs8
      clear hs8
      refine wpAnyH_ready (rs := [14]) (by kernel_rfl) (by simp) ?_
      refine AllReadyH.cons rfl (fun K hK => ?_) .nil
      refine step_st rfl rowS (.tmp 10) (.tmp 58) rfl (by rfl) (by rfl) k8 HS8.out (by rfl) H81.out ?_
      intro wa ka ga za
      have oa := o8.grown ga (.inr (own_ne o8.2 k8 (by decide)))
      refine hK.out _ _ (hS.grown ga hS.size (fun q hq => by injection hq; omega)) (fun hS => ?_)
      clear hK K
      refine wpAnyH_take (i := 15) (v := ?rv422) rfl (by kernel_rfl) (by kernel_rfl) (by kernel_rfl) (fun _ _ _ h => h) (Or.inl ⟨by rfl, ?ry422⟩) hS ?_
      case ry422 => (intro wS hSw; clear hSw; go_simp; (try with_reducible rfl))
      simp only [Act.put, List.getElem_toArray, List.getElem_cons_zero, List.getElem_cons_succ, List.setIfInBounds_toArray, List.set_cons_succ, List.set_cons_zero]
      refine wpAnyH_done (by kernel_rfl) ?_ _
      rename Below wrt.heap.size wrt wz => hSz
      clear hSz ga za k8 o8
      have ksA := ksB.below hS ksB.lt
      have ktA := kt.below hS kt.lt
      have oSA := oS1.below hS (Nat.le_refl _)
      have gWA := gW1.trans (hS.mono gW1.size)
      have oA1 := oa.mono gW1.size
      rcases HAt.out with ⟨hq1, hq2, hq3⟩ | ⟨hq1, hq2, hq3⟩
      case inl =>
        subst hq1 hq2 hq3
        go_upto_region 15 with first
          | ((with_reducible refine wpList_ld rowS ka HS8.out ?_ ?_); rotate_left; (rfl))
          | ((with_reducible refine wpList_st rowS ktA HS8.out HSt.out H81.out ?_ ?_ ?_); rotate_left; (rfl); (rfl); intro wrz ktB gB zB)
        have ks9 := ksA.grown gB (fun h => by injection h with h; omega)
        have oS9 := oSA.grown gB (.inr (own_ne oSA.2 ktA (by decide)))
        have oT9 := oA1.grown gB (.inr (own_ne oA1.2 ktA (by decide)))
        have gW9 := gWA.grown gB gWA.size (fun q hq => by injection hq; omega)
        rw [HSE.out] at ktB
        have KS := Lib.hid ks9
        have OS := Lib.hid oS9
        have KT := Lib.hid ktB
        have OT := Lib.hid oT9
        have GW := Lib.hid gW9
        clear ks9 oS9 ktB oT9 gW9 gB zB ksA ktA oSA gWA oA1 p0 p1 hS
        go_wp2_with fail
        go_roundw
        case rel => exact ⟨k + 1, As1, ms1, cs1, A8, m8, c8, by omega, by go_num, by rw [← HU1.out]; exact KS.out, by rw [← HM1.out]; exact OS.out, by rw [← HU2.out]; exact KT.out, by rw [← HM2.out]; exact OT.out, GW.out⟩
        case measure => simp [intOf]; omega
      case inr =>
        subst hq2 hq3
        have hqf : (AEt == 0) = false := by rw [beq_eq_false_iff_ne]; exact hq1
        have oT9 := oT1.below hS (Nat.le_refl _)
        have ktB := ktA
        rw [HStE.out] at ktB
        have KS := Lib.hid ksA
        have OS := Lib.hid oSA
        have KT := Lib.hid ktB
        have OT := Lib.hid oT9
        have GW := Lib.hid gWA
        clear ktB oT9 ksA ktA oSA gWA oA1 p0 p1 hS hq1
        go_wp2_with fail
        go_roundw
        case rel => exact ⟨k + 1, As1, ms1, cs1, At, mt, ct, by omega, by go_num, by rw [← HU1.out]; exact KS.out, by rw [← HM1.out]; exact OS.out, by rw [← HU2.out]; exact KT.out, by rw [← HM2.out]; exact OT.out, GW.out⟩
        case measure => simp [intOf]; omega
    case inr =>
      subst hq2 hq3
      have hqf : (AEs == 0) = false := by rw [beq_eq_false_iff_ne]; exact hq1
      go_upto_region 12 with fail
      obtain ⟨wrt, rfl⟩ : ∃ x, x = wa := ⟨_, rfl⟩
      have kt0 := ktA
      have oT1 := oTA
      have oS1 := oS.below hS (Nat.le_refl _)
      have gW1 := gWA
      have gX1 := gXA
      have ksB := ksA
      rw [HSsE.out] at ksB
      clear hqf hq1
      obtain ⟨As1, hAs1⟩ : ∃ x, x = As := ⟨_, rfl⟩
      obtain ⟨ms1, hms1⟩ : ∃ x, x = ms := ⟨_, rfl⟩
      obtain ⟨cs1, hcs1⟩ : ∃ x, x = cs := ⟨_, rfl⟩
      rw [← hAs1, ← hms1, ← hcs1] at ksB
      rw [← hAs1, ← hms1, ← hcs1] at oS1
      clear hAs1 hms1 hcs1
      replace p0 := (gX1.cell (p := ad.add (j * 2)) hb2').trans p0
      replace p1 := (gX1.cell (p := ⟨(ad.add (j * 2)).block, (ad.add (j * 2)).off + 1, none⟩) hb2').trans p1
      have HADDt := Lib.hid (fun (w' : World) (hb : Below wrt.heap.size wrt w') => ADDT.out w' ((oT1.rd.below hb).more hb.size))
      clear ks ks0 kt oS oT gW q0 q1 ksA ktA oTA gWA gXA oA1 oa ka hS HS8 H81 HSE hg8
      have kt := kt0
      refine wp_region_held_drew (S := fun w' => Below wrt.heap.size wrt w') (by kernel_rfl) (Below.refl _ _).drew (fun hS => ?_)
      generalize wrt.drew = wdt at *
      refine wpAnyH_take (i := 0) rfl (by kernel_rfl) (by kernel_rfl) (by kernel_rfl) (fun _ _ _ h => h) (yieldsIf_ld (by rfl) rowS (.tmp 6) rfl rfl (fun w hw => kt.below hw kt.lt) HSt.out) hS ?_
      simp only [Act.put, List.getElem_toArray, List.getElem_cons_zero, List.getElem_cons_succ, List.setIfInBounds_toArray, List.set_cons_succ, List.set_cons_zero]
      refine wpAnyH_take (i := 1) (v := ?rv498) rfl (by kernel_rfl) (by kernel_rfl) (by kernel_rfl) (fun _ _ _ h => h) (Or.inl ⟨by rfl, ?ry498⟩) hS ?_
      case ry498 => (intro wS hSw; clear hSw; go_simp; (try with_reducible rfl))
      simp only [Act.put, List.getElem_toArray, List.getElem_cons_zero, List.getElem_cons_succ, List.setIfInBounds_toArray, List.set_cons_succ, List.set_cons_zero]
      refine wpAnyH_take (i := 2) (v := ?rv501) rfl (by kernel_rfl) (by kernel_rfl) (by kernel_rfl) (fun _ _ _ h => h) (Or.inl ⟨by rfl, ?ry501⟩) hS ?_
      case ry501 => (intro wS hSw; clear hSw; go_simp; (try with_reducible rfl))
      simp only [Act.put, List.getElem_toArray, List.getElem_cons_zero, List.getElem_cons_succ, List.setIfInBounds_toArray, List.set_cons_succ, List.set_cons_zero]
      refine wpAnyH_take (i := 3) (v := ?rv504) rfl (by kernel_rfl) (by kernel_rfl) (by kernel_rfl) (fun _ _ _ h => h) (Or.inl ⟨by rfl, ?ry504⟩) hS ?_
      case ry504 => (intro wS hSw; clear hSw; go_simp; (try with_reducible rfl))
      simp only [Act.put, List.getElem_toArray, List.getElem_cons_zero, List.getElem_cons_succ, List.setIfInBounds_toArray, List.set_cons_succ, List.set_cons_zero]
      refine wpAnyH_take (i := 4) (v := ?rv507) rfl (by kernel_rfl) (by kernel_rfl) (by kernel_rfl) (fun _ _ _ h => h) (Or.inl ⟨by rfl, ?ry507⟩) hS ?_
      case ry507 => (intro wS hSw; clear hSw; go_simp; (try with_reducible rfl))
      simp only [Act.put, List.getElem_toArray, List.getElem_cons_zero, List.getElem_cons_succ, List.setIfInBounds_toArray, List.set_cons_succ, List.set_cons_zero]
      refine wpAnyH_take (i := 5) (v := ?rv510) rfl (by kernel_rfl) (by kernel_rfl) (by kernel_rfl) (fun _ _ _ h => h) (Or.inl ⟨by rfl, ?ry510⟩) hS ?_
      case ry510 => (intro wS hSw; clear hSw; go_simp; (try with_reducible rfl))
      simp only [Act.put, List.getElem_toArray, List.getElem_cons_zero, List.getElem_cons_succ, List.setIfInBounds_toArray, List.set_cons_succ, List.set_cons_zero]
      refine wpAnyH_take (i := 6) (v := ?rv513) rfl (by kernel_rfl) (by kernel_rfl) (by kernel_rfl) (fun _ _ _ h => h) (Or.inl ⟨by rfl, ?ry513⟩) hS ?_
      case ry513 => (intro wS hSw; clear hSw; go_simp; (try with_reducible rfl))
      simp only [Act.put, List.getElem_toArray, List.getElem_cons_zero, List.getElem_cons_succ, List.setIfInBounds_toArray, List.set_cons_succ, List.set_cons_zero]
      refine wpAnyH_take (i := 7) (v := ?rv516) rfl (by kernel_rfl) (by kernel_rfl) (by kernel_rfl) (fun _ _ _ h => h) (Or.inl ⟨by rfl, ?ry516⟩) hS ?_
      case ry516 => (intro wS hSw; clear hSw; go_simp; (try with_reducible rfl))
      simp only [Act.put, List.getElem_toArray, List.getElem_cons_zero, List.getElem_cons_succ, List.setIfInBounds_toArray, List.set_cons_succ, List.set_cons_zero]
      refine wpAnyH_take (i := 8) (v := ?rv519) rfl (by kernel_rfl) (by kernel_rfl) (by kernel_rfl) (fun _ _ _ h => h) (Or.inl ⟨by rfl, ?ry519⟩) hS ?_
      case ry519 => (intro wS hSw; have q0 := (hSw.cell (p := ad.add (j * 2)) (Nat.lt_of_lt_of_le hb2' gW1.size)).trans p0; have q1 := (hSw.cell (p := ⟨(ad.add (j * 2)).block, (ad.add (j * 2)).off + 1, none⟩) (Nat.lt_of_lt_of_le hb2' gW1.size)).trans p1; clear hSw; go_simp; (try with_reducible rfl))
      simp only [Act.put, List.getElem_toArray, List.getElem_cons_zero, List.getElem_cons_succ, List.setIfInBounds_toArray, List.set_cons_succ, List.set_cons_zero]
      apply meet5 (F := fun (wz : World) (A8 : Option Addr) (m8 c8 g8 : Nat) => Below wrt.heap.size wrt wz ∧ OwnD wz wrt.heap.size A8 m8 c8 AMt ∧ Blk wz g8 30 #[.int .i64 0, .int .i64 0, .int .i64 0, .int .i64 0, .int .i64 0, .int .i64 0, .int .i64 0, .int .i64 0, .slice none 0 0] ∧ wrt.heap.size ≤ g8)
      intro key
      · refine wpAnyH_ready (rs := [9, 13]) (by kernel_rfl) (by simp) ?_
        refine AllReadyH.cons rfl (fun K hK => ?cfirst) (AllReadyH.cons rfl (fun K hK => ?csecond) .nil)
        case cfirst =>
          go_simp
          refine (HADDt.out _ hS).mono ?_
          rintro e wn ⟨A8, m8, c8, rfl, o8, hh⟩
          replace o8 := o8.mono hS.size
          refine hK.out _ _ (hS.trans (hh.mono hS.size)) (fun hS => ?_)
          clear hK K hh
          refine wpAnyH_take (i := 10) (v := ?rv533) rfl (by kernel_rfl) (by kernel_rfl) (by kernel_rfl) (fun _ _ _ h => h) (Or.inl ⟨by rfl, ?ry533⟩) hS ?_
          case ry533 => (intro wS hSw; clear hSw; go_simp; (try with_reducible rfl))
          simp only [Act.put, List.getElem_toArray, List.getElem_cons_zero, List.getElem_cons_succ, List.setIfInBounds_toArray, List.set_cons_succ, List.set_cons_zero]
          refine wpAnyH_take (i := 11) (v := ?rv536) rfl (by kernel_rfl) (by kernel_rfl) (by kernel_rfl) (fun _ _ _ h => h) (Or.inl ⟨by rfl, ?ry536⟩) hS ?_
          case ry536 => (intro wS hSw; clear hSw; go_simp; (try with_reducible rfl))
          simp only [Act.put, List.getElem_toArray, List.getElem_cons_zero, List.getElem_cons_succ, List.setIfInBounds_toArray, List.set_cons_succ, List.set_cons_zero]
          refine wpAnyH_take (i := 12) (v := ?rv539) rfl (by kernel_rfl) (by kernel_rfl) (by kernel_rfl) (fun _ _ _ h => h) (Or.inl ⟨by rfl, ?ry539⟩) hS ?_
          case ry539 => (intro wS hSw; clear hSw; go_simp; (try with_reducible rfl))
          simp only [Act.put, List.getElem_toArray, List.getElem_cons_zero, List.getElem_cons_succ, List.setIfInBounds_toArray, List.set_cons_succ, List.set_cons_zero]
          refine wpAnyH_ready (rs := [13]) (by kernel_rfl) (by simp) ?_
          refine AllReadyH.cons rfl (fun K hK => ?_) .nil
          go_simp
          have hg8 := hS.size
          refine hK.out _ _ (hS.alloc hS.size _) (fun hS => ?_)
          clear hK K
          have k8 := Blk.new wn 30 #[.int .i64 0, .int .i64 0, .int .i64 0, .int .i64 0, .int .i64 0, .int .i64 0, .int .i64 0, .int .i64 0, .slice none 0 0]
          replace o8 := o8.alloc (.cells #[.int .i64 0, .int .i64 0, .int .i64 0, .int .i64 0, .int .i64 0, .int .i64 0, .int .i64 0, .int .i64 0, .slice none 0 0] 30)
          generalize wn.alloc (.cells #[.int .i64 0, .int .i64 0, .int .i64 0, .int .i64 0, .int .i64 0, .int .i64 0, .int .i64 0, .int .i64 0, .slice none 0 0] 30) = wm at *
          generalize wn.heap.size = g8 at *
          exact key wm A8 m8 c8 g8 ⟨hS, o8, k8, hg8⟩
        case csecond =>
          go_simp
          have hg8 := hS.size
          refine hK.out _ _ (hS.alloc hS.size _) (fun hS => ?_)
          clear hK K
          have k8 := Blk.new wdt 30 #[.int .i64 0, .int .i64 0, .int .i64 0, .int .i64 0, .int .i64 0, .int .i64 0, .int .i64 0, .int .i64 0, .slice none 0 0]
          generalize wdt.alloc (.cells #[.int .i64 0, .int .i64 0, .int .i64 0, .int .i64 0, .int .i64 0, .int .i64 0, .int .i64 0, .int .i64 0, .slice none 0 0] 30) = wm at *
          generalize wdt.heap.size = g8 at *
          refine wpAnyH_ready (rs := [9]) (by kernel_rfl) (by simp) ?_
          refine AllReadyH.cons rfl (fun K hK => ?_) .nil
          go_simp
          refine (HADDt.out _ hS).mono ?_
          rintro e wn ⟨A8, m8, c8, rfl, o8, hh⟩
          replace o8 := o8.mono hS.size
          replace k8 := k8.below hh k8.lt
          refine hK.out _ _ (hS.trans (hh.mono hS.size)) (fun hS => ?_)
          clear hK K hh
          refine wpAnyH_take (i := 10) (v := ?rv570) rfl (by kernel_rfl) (by kernel_rfl) (by kernel_rfl) (fun _ _ _ h => h) (Or.inl ⟨by rfl, ?ry570⟩) hS ?_
          case ry570 => (intro wS hSw; clear hSw; go_simp; (try with_reducible rfl))
          simp only [Act.put, List.getElem_toArray, List.getElem_cons_zero, List.getElem_cons_succ, List.setIfInBounds_toArray, List.set_cons_succ, List.set_cons_zero]
          refine wpAnyH_take (i := 11) (v := ?rv573) rfl (by kernel_rfl) (by kernel_rfl) (by kernel_rfl) (fun _ _ _ h => h) (Or.inl ⟨by rfl, ?ry573⟩) hS ?_
          case ry573 => (intro wS hSw; clear hSw; go_simp; (try with_reducible rfl))
          simp only [Act.put, List.getElem_toArray, List.getElem_cons_zero, List.getElem_cons_succ, List.setIfInBounds_toArray, List.set_cons_succ, List.set_cons_zero]
          refine wpAnyH_take (i := 12) (v := ?rv576) rfl (by kernel_rfl) (by kernel_rfl) (by kernel_rfl) (fun _ _ _ h => h) (Or.inl ⟨by rfl, ?ry576⟩) hS ?_
          case ry576 => (intro wS hSw; clear hSw; go_simp; (try with_reducible rfl))
          simp only [Act.put, List.getElem_toArray, List.getElem_cons_zero, List.getElem_cons_succ, List.setIfInBounds_toArray, List.set_cons_succ, List.set_cons_zero]
          exact key wn A8 m8 c8 g8 ⟨hS, o8, k8, hg8⟩
      rename Below wrt.heap.size wrt wdt => hSd
      clear hSd
      rintro wz A8 m8 c8 g8 ⟨hS, o8, k8, hg8⟩
      have HS8 := Lib.hid (uc_size HALt.out (.slice A8 m8 c8))
      have H81 := Lib.hid (uc_one (U := AUt) (s := .slice A8 m8 c8) rfl)
      obtain ⟨s8, hs8⟩ : ∃ s, s = uc AUt (.slice A8 m8 c8) := ⟨_, rfl⟩
      rw [← hs8] at HS8 H81 ⊢
      have HSE := Lib.hid hs8
      clear hs8
      refine wpAnyH_ready (rs := [14]) (by kernel_rfl) (by simp) ?_
      refine AllReadyH.cons rfl (fun K hK => ?_) .nil
      refine step_st rfl rowS (.tmp 10) (.tmp 58) rfl (by rfl) (by rfl) k8 HS8.out (by rfl) H81.out ?_
      intro wa ka ga za
      have oa := o8.grown ga (.inr (own_ne o8.2 k8 (by decide)))
      refine hK.out _ _ (hS.grown ga hS.size (fun q hq => by injection hq; omega)) (fun hS => ?_)
      clear hK K
      refine wpAnyH_take (i := 15) (v := ?rv596) rfl (by kernel_rfl) (by kernel_rfl) (by kernel_rfl) (fun _ _ _ h => h) (Or.inl ⟨by rfl, ?ry596⟩) hS ?_
      case ry596 => (intro wS hSw; clear hSw; go_simp; (try with_reducible rfl))
      simp only [Act.put, List.getElem_toArray, List.getElem_cons_zero, List.getElem_cons_succ, List.setIfInBounds_toArray, List.set_cons_succ, List.set_cons_zero]
      refine wpAnyH_done (by kernel_rfl) ?_ _
      rename Below wrt.heap.size wrt wz => hSz
      clear hSz ga za k8 o8
      have ksA := ksB.below hS ksB.lt
      have ktA := kt.below hS kt.lt
      have oSA := oS1.below hS (Nat.le_refl _)
      have gWA := gW1.trans (hS.mono gW1.size)
      have oA1 := oa.mono gW1.size
      rcases HAt.out with ⟨hq1, hq2, hq3⟩ | ⟨hq1, hq2, hq3⟩
      case inl =>
        subst hq1 hq2 hq3
        go_upto_region 15 with first
          | ((with_reducible refine wpList_ld rowS ka HS8.out ?_ ?_); rotate_left; (rfl))
          | ((with_reducible refine wpList_st rowS ktA HS8.out HSt.out H81.out ?_ ?_ ?_); rotate_left; (rfl); (rfl); intro wrz ktB gB zB)
        have ks9 := ksA.grown gB (fun h => by injection h with h; omega)
        have oS9 := oSA.grown gB (.inr (own_ne oSA.2 ktA (by decide)))
        have oT9 := oA1.grown gB (.inr (own_ne oA1.2 ktA (by decide)))
        have gW9 := gWA.grown gB gWA.size (fun q hq => by injection hq; omega)
        rw [HSE.out] at ktB
        have KS := Lib.hid ks9
        have OS := Lib.hid oS9
        have KT := Lib.hid ktB
        have OT := Lib.hid oT9
        have GW := Lib.hid gW9
        clear ks9 oS9 ktB oT9 gW9 gB zB ksA ktA oSA gWA oA1 p0 p1 hS
        go_wp2_with fail
        go_roundw
        case rel => exact ⟨k + 1, As1, ms1, cs1, A8, m8, c8, by omega, by go_num, by rw [← HU1.out]; exact KS.out, by rw [← HM1.out]; exact OS.out, by rw [← HU2.out]; exact KT.out, by rw [← HM2.out]; exact OT.out, GW.out⟩
        case measure => simp [intOf]; omega
      case inr =>
        subst hq2 hq3
        have hqf : (AEt == 0) = false := by rw [beq_eq_false_iff_ne]; exact hq1
        have oT9 := oT1.below hS (Nat.le_refl _)
        have ktB := ktA
        rw [HStE.out] at ktB
        have KS := Lib.hid ksA
        have OS := Lib.hid oSA
        have KT := Lib.hid ktB
        have OT := Lib.hid oT9
        have GW := Lib.hid gWA
        clear ktB oT9 ksA ktA oSA gWA oA1 p0 p1 hS hq1
        go_wp2_with fail
        go_roundw
        case rel => exact ⟨k + 1, As1, ms1, cs1, At, mt, ct, by omega, by go_num, by rw [← HU1.out]; exact KS.out, by rw [← HM1.out]; exact OS.out, by rw [← HU2.out]; exact KT.out, by rw [← HM2.out]; exact OT.out, GW.out⟩
        case measure => simp [intOf]; omega
  case neg =>
    obtain rfl : k = n := by omega
    rw [List.take_of_length_le (l := l) (by have := HNL.out; omega)] at ks oS
    rw [List.take_of_length_le (l := l.reverse) (by have := HNL.out; rw [List.length_reverse]; omega), listG_rev] at kt oT
    have hGl := upto_len (listG l)
    have hGw := upto_wf (listG l)
    have hGr := right_closed (listG_in l)
    have hGn := more_len (listG l)
    obtain ⟨hg1, hg2, hg3⟩ := get_put hGl hGr
    have hgU : getU (encs (putL (uptoS (listG l)) (moreS (listG l)))) = uptoS (listG l) := by unfold getU; rw [if_pos hg3, hg1]
    have hgL : getL (encs (putL (uptoS (listG l)) (moreS (listG l)))) = moreS (listG l) := by unfold getL; rw [if_pos hg3, hg2]
    have hpb : (if rightB (uptoS (listG l)) (moreS (listG l)) = true then encs (putL (uptoS (listG l)) (moreS (listG l))) else []) = encs (putL (uptoS (listG l)) (moreS (listG l))) := if_pos hGr
    have hpe : (if rightB (uptoS (listG l)) (moreS (listG l)) = true then 0 else 2) = 0 := if_pos hGr
    have hpl : (encs (putL (uptoS (listG l)) (moreS (listG l)))).length ≤ 10000 := by
      have h1 := encs_len (putL (uptoS (listG l)) (moreS (listG l)))
      have h3 : (putL (uptoS (listG l)) (moreS (listG l))).length = 9 + 2 * (moreS (listG l)).length := by
        unfold putL
        rw [List.length_append, List.length_append, nums_len, hGl, List.length_singleton]
      omega
    have lput := fun (A' : Option Addr) (m' c' : Nat) (w' : World) (h : RdD w' w'.heap.size A' m' (moreS (listG l))) => (show Calls Try.prog 29 #[.agg (uc (uptoS (listG l)) (.slice A' m' c'))] w' (GiveBE w' (if rightB (uptoS (listG l)) (moreS (listG l)) = true then encs (putL (uptoS (listG l)) (moreS (listG l))) else []) (if rightB (uptoS (listG l)) (moreS (listG l)) = true then 0 else 2)) from dput_any ⟨uptoS (listG l), A', m', c', moreS (listG l)⟩ w' hGl h)
    rw [hpb, hpe] at lput
    unfold GiveBE at lput
    have lget := fun (A' : Option Addr) (m' c' B : Nat) (w' : World) (h : RdB w' B A' m' (encs (putL (uptoS (listG l)) (moreS (listG l))))) (h2 : B ≤ w'.heap.size) (h3 : m' ≤ 1000000000) => get_any A' m' c' _ B w' h h2 h3
    unfold GetEnd at lget
    rw [hgU, hgL, hg3] at lget
    have lright := fun (A' : Option Addr) (m' c' : Nat) (w' : World) (h : RdD w' w'.heap.size A' m' (moreS (listG l))) => right_any (uptoS (listG l)) hGl A' m' c' (moreS (listG l)) w' h
    rw [hGr] at lright
    clear hg1 hg2 hg3 hgU hgL hpb hpe hGr
    generalize encs (putL (uptoS (listG l)) (moreS (listG l))) = PB at *
    generalize uptoS (listG l) = GU at *
    generalize moreS (listG l) = GM at *
    have HS5 := Lib.hid (uc_size hGl (.slice As ms cs))
    have HS6 := Lib.hid (uc_size hGl (.slice At mt ct))
    have hm5 : ms ≤ 784 := by rw [oS.1]; exact hGn
    have hm6 : mt ≤ 784 := by rw [oT.1]; exact hGn
    have lfs := fun (w' : World) (h : RdD w' w'.heap.size As ms GM) => from_any GU hGl As ms cs GM w' h (by omega)
    have lft := fun (w' : World) (h : RdD w' w'.heap.size At mt GM) => from_any GU hGl At mt ct GM w' h (by omega)
    have lfu := fun (A' : Option Addr) (m' c' : Nat) (w' : World) (h : RdD w' w'.heap.size A' m' GM) => from_any GU hGl A' m' c' GM w' h (by have := h.1; omega)
    unfold CopyEnd at lfs lft lfu
    have lsame := fun (B' B'' : Option Addr) (n' d' n'' d'' : Nat) (w' : World) (h : RdD w' w'.heap.size B' n' GM) (h' : RdD w' w'.heap.size B'' n'' GM) => same_any GU GU hGl hGl hGw hGw B' B'' n' d' n'' d'' GM GM w' h h' (by have := h.1; omega)
    simp only [decide_true, Bool.and_true] at lsame
    have lps := lput As ms cs
    have lrs := lright As ms cs
    obtain ⟨s5, hs5⟩ : ∃ s, s = uc GU (.slice As ms cs) := ⟨_, rfl⟩
    obtain ⟨s6, hs6⟩ : ∃ s, s = uc GU (.slice At mt ct) := ⟨_, rfl⟩
    rw [← hs5] at HS5 lfs lps lrs ks
    rw [← hs6] at HS6 lft kt
    have LFS := Lib.hid lfs
    have LFT := Lib.hid lft
    have LFU := Lib.hid lfu
    have LSAME := Lib.hid lsame
    have LPS := Lib.hid lps
    have LRS := Lib.hid lrs
    have LGET := Lib.hid lget
    have HGL := Lib.hid hGl
    have HPL := Lib.hid hpl
    have HGN := Lib.hid hGn
    clear lfs lft lfu lsame lps lrs lget lput lright hs5 hs6 hGl hGw hpl hGn
    have rds : ∀ w', Below wr.heap.size wr w' → RdD w' w'.heap.size As ms GM := fun w' h => (oS.rd.below h).more h.size
    have rdt : ∀ w', Below wr.heap.size wr w' → RdD w' w'.heap.size At mt GM := fun w' h => (oT.rd.below h).more h.size
    have RDS := Lib.hid rds
    have RDT := Lib.hid rdt
    clear rds rdt oS oT
    go_upto_region 16 with fail
    refine wp_region_held_drew (S := fun w' => Below wr.heap.size wr w') (by kernel_rfl) (Below.refl _ _).drew (fun hS => ?_)
    generalize wr.drew = wd at *
    refine wpAnyH_take (i := 0) rfl (by kernel_rfl) (by kernel_rfl) (by kernel_rfl) (fun _ _ _ h => h) (yieldsIf_ld (by rfl) rowS (.tmp 5) rfl rfl (fun w hw => ks.below hw ks.lt) HS5.out) hS ?_
    simp only [Act.put, List.getElem_toArray, List.getElem_cons_zero, List.getElem_cons_succ, List.setIfInBounds_toArray, List.set_cons_succ, List.set_cons_zero]
    refine wpAnyH_take (i := 2) rfl (by kernel_rfl) (by kernel_rfl) (by kernel_rfl) (fun _ _ _ h => h) (yieldsIf_ld (by rfl) rowS (.tmp 6) rfl rfl (fun w hw => kt.below hw kt.lt) HS6.out) hS ?_
    simp only [Act.put, List.getElem_toArray, List.getElem_cons_zero, List.getElem_cons_succ, List.setIfInBounds_toArray, List.set_cons_succ, List.set_cons_zero]
    refine wpAnyH_ready (rs := [1]) (by kernel_rfl) (by simp) ?_
    refine AllReadyH.cons rfl (fun K hK => ?_) .nil
    go_simp
    refine (LFS.out _ (RDS.out _ hS)).mono ?_
    rintro e v1 ⟨B1, n1, d1, rfl, p1, hh⟩
    replace p1 := p1.rd
    refine hK.out _ _ (hS.trans (hh.mono hS.size)) (fun hS => ?_)
    clear hK K hh
    refine wpAnyH_ready (rs := [3]) (by kernel_rfl) (by simp) ?_
    refine AllReadyH.cons rfl (fun K hK => ?_) .nil
    go_simp
    refine (LFT.out _ (RDT.out _ hS)).mono ?_
    rintro e v2 ⟨B2, n2, d2, rfl, p2, hh⟩
    replace p1 := (p1.below hh).size
    replace p2 := p2.rd
    refine hK.out _ _ (hS.trans (hh.mono hS.size)) (fun hS => ?_)
    clear hK K hh
    refine wpAnyH_ready (rs := [4]) (by kernel_rfl) (by simp) ?_
    refine AllReadyH.cons rfl (fun K hK => ?_) .nil
    go_simp
    refine (LSAME.out B1 B2 n1 d1 n2 d2 _ p1 p2).mono ?_
    rintro e v3 ⟨rfl, hh⟩
    refine hK.out _ _ (hS.trans (hh.mono hS.size)) (fun hS => ?_)
    clear hK K hh p1 p2
    refine wpAnyH_take (i := 5) (v := ?rv738) rfl (by kernel_rfl) (by kernel_rfl) (by kernel_rfl) (fun _ _ _ h => h) (Or.inl ⟨by rfl, ?ry738⟩) hS ?_
    case ry738 => (intro wS hSw; clear hSw; go_simp; (try with_reducible rfl))
    simp only [Act.put, List.getElem_toArray, List.getElem_cons_zero, List.getElem_cons_succ, List.setIfInBounds_toArray, List.set_cons_succ, List.set_cons_zero]
    refine wpAnyH_take (i := 6) (v := ?rv741) rfl (by kernel_rfl) (by kernel_rfl) (by kernel_rfl) (fun _ _ _ h => h) (Or.inl ⟨by rfl, ?ry741⟩) hS ?_
    case ry741 => (intro wS hSw; clear hSw; go_simp; (try with_reducible rfl))
    simp only [Act.put, List.getElem_toArray, List.getElem_cons_zero, List.getElem_cons_succ, List.setIfInBounds_toArray, List.set_cons_succ, List.set_cons_zero]
    refine wpAnyH_take (i := 7) rfl (by kernel_rfl) (by kernel_rfl) (by kernel_rfl) (fun _ _ _ h => h) (yieldsIf_ld (by rfl) rowS (.tmp 5) rfl rfl (fun w hw => ks.below hw ks.lt) HS5.out) hS ?_
    simp only [Act.put, List.getElem_toArray, List.getElem_cons_zero, List.getElem_cons_succ, List.setIfInBounds_toArray, List.set_cons_succ, List.set_cons_zero]
    refine wpAnyH_ready (rs := [8]) (by kernel_rfl) (by simp) ?_
    refine AllReadyH.cons rfl (fun K hK => ?_) .nil
    rw [if_pos (by rfl)]
    go_simp
    refine (LRS.out _ (RDS.out _ hS)).mono ?_
    rintro e v4 ⟨rfl, hh⟩
    refine hK.out _ _ (hS.trans (hh.mono hS.size)) (fun hS => ?_)
    clear hK K hh
    refine wpAnyH_take (i := 9) (v := ?rv754) rfl (by kernel_rfl) (by kernel_rfl) (by kernel_rfl) (fun _ _ _ h => h) (Or.inl ⟨by rfl, ?ry754⟩) hS ?_
    case ry754 => (intro wS hSw; clear hSw; go_simp; (try with_reducible rfl))
    simp only [Act.put, List.getElem_toArray, List.getElem_cons_zero, List.getElem_cons_succ, List.setIfInBounds_toArray, List.set_cons_succ, List.set_cons_zero]
    refine wpAnyH_take (i := 10) (v := ?rv757) rfl (by kernel_rfl) (by kernel_rfl) (by kernel_rfl) (fun _ _ _ h => h) (Or.inl ⟨by rfl, ?ry757⟩) hS ?_
    case ry757 => (intro wS hSw; clear hSw; go_simp; (try with_reducible rfl))
    simp only [Act.put, List.getElem_toArray, List.getElem_cons_zero, List.getElem_cons_succ, List.setIfInBounds_toArray, List.set_cons_succ, List.set_cons_zero]
    refine wpAnyH_done (by kernel_rfl) ?_ _
    have ks4 := ks.below hS ks.lt
    go_wp2_with ((with_reducible refine wpList_ld rowS ks4 HS5.out ?_ ?_); rotate_left; (rfl))
    refine (LPS.out _ (RDS.out _ hS)).mono ?_
    rintro e v5 ⟨A5, m5, c5, rfl, o5, hh⟩
    have hS5 := hS.trans (hh.mono hS.size)
    have hm5' : m5 ≤ 10000 := by rw [o5.1]; exact HPL.out
    have r5 := o5.rd
    clear ks4 hh o5
    go_wp2_with fail
    refine (LGET.out A5 m5 c5 v5.heap.size v5 r5 (Nat.le_refl _) (by omega)).mono ?_
    rintro e v6 ⟨A6, m6, c6, rfl, o6, hh⟩
    have hS6 := hS5.trans (hh.mono hS5.size)
    have HS7 := Lib.hid (uc_size HGL.out (.slice A6 m6 c6))
    have H71 := Lib.hid (uc_one (U := GU) (s := .slice A6 m6 c6) rfl)
    have lfu := LFU.out A6 m6 c6
    obtain ⟨s7, hs7⟩ : ∃ s, s = uc GU (.slice A6 m6 c6) := ⟨_, rfl⟩
    rw [← hs7] at HS7 H71 lfu ⊢
    have LFU6 := Lib.hid lfu
    clear hh hs7 lfu r5
    go_upto_region 20 with ((with_reducible refine wpList_st rowS (Blk.new _ _ _) HS7.out ?_ H71.out ?_ ?_ ?_); (rfl); rotate_left; (rfl); (rfl); intro v7 k7 g7 z7)
    have p7 : Below v6.heap.size v6 v7 := ((Below.refl _ _).alloc (Nat.le_refl _) _).grown g7 (by simp) (fun q hq => by injection hq with hq; omega)
    have o7 := o6.below p7 (Nat.le_refl _)
    have hS7 := hS6.trans (p7.mono hS6.size)
    have ks7 := ks.below hS7 ks.lt
    obtain ⟨g14, hg14⟩ : ∃ g, g = v6.heap.size := ⟨_, rfl⟩
    rw [← hg14] at k7 ⊢
    have rdu : ∀ w', Below v7.heap.size v7 w' → RdD w' w'.heap.size A6 m6 GM := fun w' h => (o7.rd.below h).more h.size
    have RDU := Lib.hid rdu
    clear hg14 g7 z7 p7 o6 rdu o7 hS6 hS5
    have HS7B := Lib.hid hS7
    refine wp_region_held_drew (S := fun w' => Below v7.heap.size v7 w') (by kernel_rfl) (Below.refl _ _).drew (fun hS => ?_)
    generalize v7.drew = wd at *
    refine wpAnyH_take (i := 0) (v := ?rv793) rfl (by kernel_rfl) (by kernel_rfl) (by kernel_rfl) (fun _ _ _ h => h) (Or.inl ⟨by rfl, ?ry793⟩) hS ?_
    case ry793 => (intro wS hSw; clear hSw; go_simp; (try with_reducible rfl))
    simp only [Act.put, List.getElem_toArray, List.getElem_cons_zero, List.getElem_cons_succ, List.setIfInBounds_toArray, List.set_cons_succ, List.set_cons_zero]
    refine wpAnyH_take (i := 1) (v := ?rv796) rfl (by kernel_rfl) (by kernel_rfl) (by kernel_rfl) (fun _ _ _ h => h) (Or.inl ⟨by rfl, ?ry796⟩) hS ?_
    case ry796 => (intro wS hSw; clear hSw; go_simp; (try with_reducible rfl))
    simp only [Act.put, List.getElem_toArray, List.getElem_cons_zero, List.getElem_cons_succ, List.setIfInBounds_toArray, List.set_cons_succ, List.set_cons_zero]
    refine wpAnyH_take (i := 2) (v := ?rv799) rfl (by kernel_rfl) (by kernel_rfl) (by kernel_rfl) (fun _ _ _ h => h) (Or.inl ⟨by rfl, ?ry799⟩) hS ?_
    case ry799 => (intro wS hSw; clear hSw; go_simp; (try with_reducible rfl))
    simp only [Act.put, List.getElem_toArray, List.getElem_cons_zero, List.getElem_cons_succ, List.setIfInBounds_toArray, List.set_cons_succ, List.set_cons_zero]
    refine wpAnyH_take (i := 3) (v := ?rv802) rfl (by kernel_rfl) (by kernel_rfl) (by kernel_rfl) (fun _ _ _ h => h) (Or.inl ⟨by rfl, ?ry802⟩) hS ?_
    case ry802 => (intro wS hSw; clear hSw; go_simp; (try with_reducible rfl))
    simp only [Act.put, List.getElem_toArray, List.getElem_cons_zero, List.getElem_cons_succ, List.setIfInBounds_toArray, List.set_cons_succ, List.set_cons_zero]
    refine wpAnyH_take (i := 4) (v := ?rv805) rfl (by kernel_rfl) (by kernel_rfl) (by kernel_rfl) (fun _ _ _ h => h) (Or.inl ⟨by rfl, ?ry805⟩) hS ?_
    case ry805 => (intro wS hSw; clear hSw; go_simp; (try with_reducible rfl))
    simp only [Act.put, List.getElem_toArray, List.getElem_cons_zero, List.getElem_cons_succ, List.setIfInBounds_toArray, List.set_cons_succ, List.set_cons_zero]
    refine wpAnyH_take (i := 5) (v := ?rv808) rfl (by kernel_rfl) (by kernel_rfl) (by kernel_rfl) (fun _ _ _ h => h) (Or.inl ⟨by rfl, ?ry808⟩) hS ?_
    case ry808 => (intro wS hSw; clear hSw; go_simp; (try with_reducible rfl))
    simp only [Act.put, List.getElem_toArray, List.getElem_cons_zero, List.getElem_cons_succ, List.setIfInBounds_toArray, List.set_cons_succ, List.set_cons_zero]
    refine wpAnyH_take (i := 6) (v := ?rv811) rfl (by kernel_rfl) (by kernel_rfl) (by kernel_rfl) (fun _ _ _ h => h) (Or.inl ⟨by rfl, ?ry811⟩) hS ?_
    case ry811 => (intro wS hSw; clear hSw; go_simp; (try with_reducible rfl))
    simp only [Act.put, List.getElem_toArray, List.getElem_cons_zero, List.getElem_cons_succ, List.setIfInBounds_toArray, List.set_cons_succ, List.set_cons_zero]
    refine wpAnyH_take (i := 7) rfl (by kernel_rfl) (by kernel_rfl) (by kernel_rfl) (fun _ _ _ h => h) (yieldsIf_ld (by rfl) rowS (.tmp 14) rfl rfl (fun w hw => k7.below hw k7.lt) HS7.out) hS ?_
    simp only [Act.put, List.getElem_toArray, List.getElem_cons_zero, List.getElem_cons_succ, List.setIfInBounds_toArray, List.set_cons_succ, List.set_cons_zero]
    refine wpAnyH_take (i := 9) rfl (by kernel_rfl) (by kernel_rfl) (by kernel_rfl) (fun _ _ _ h => h) (yieldsIf_ld (by rfl) rowS (.tmp 5) rfl rfl (fun w hw => ks7.below hw ks7.lt) HS5.out) hS ?_
    simp only [Act.put, List.getElem_toArray, List.getElem_cons_zero, List.getElem_cons_succ, List.setIfInBounds_toArray, List.set_cons_succ, List.set_cons_zero]
    refine wpAnyH_ready (rs := [8]) (by kernel_rfl) (by simp) ?_
    refine AllReadyH.cons rfl (fun K hK => ?_) .nil
    rw [if_pos (by rfl)]
    go_simp
    refine (LFU6.out _ (RDU.out _ hS)).mono ?_
    rintro e u1 ⟨B1, n1, d1, rfl, p1, hh⟩
    replace p1 := p1.rd
    refine hK.out _ _ (hS.trans (hh.mono hS.size)) (fun hS => ?_)
    clear hK K hh
    refine wpAnyH_ready (rs := [10]) (by kernel_rfl) (by simp) ?_
    refine AllReadyH.cons rfl (fun K hK => ?_) .nil
    rw [if_pos (by rfl)]
    go_simp
    refine (LFS.out _ (RDS.out _ (HS7B.out.trans (hS.mono HS7B.out.size)))).mono ?_
    rintro e u2 ⟨B2, n2, d2, rfl, p2, hh⟩
    replace p1 := (p1.below hh).size
    replace p2 := p2.rd
    refine hK.out _ _ (hS.trans (hh.mono hS.size)) (fun hS => ?_)
    clear hK K hh
    refine wpAnyH_ready (rs := [11]) (by kernel_rfl) (by simp) ?_
    refine AllReadyH.cons rfl (fun K hK => ?_) .nil
    rw [if_pos (by rfl)]
    go_simp
    refine (LSAME.out B1 B2 n1 d1 n2 d2 _ p1 p2).mono ?_
    rintro e u3 ⟨rfl, hh⟩
    refine hK.out _ _ (hS.trans (hh.mono hS.size)) (fun hS => ?_)
    clear hK K hh p1 p2
    refine wpAnyH_take (i := 12) (v := ?rv845) rfl (by kernel_rfl) (by kernel_rfl) (by kernel_rfl) (fun _ _ _ h => h) (Or.inl ⟨by rfl, ?ry845⟩) hS ?_
    case ry845 => (intro wS hSw; clear hSw; go_simp; (try with_reducible rfl))
    simp only [Act.put, List.getElem_toArray, List.getElem_cons_zero, List.getElem_cons_succ, List.setIfInBounds_toArray, List.set_cons_succ, List.set_cons_zero]
    refine wpAnyH_take (i := 13) (v := ?rv848) rfl (by kernel_rfl) (by kernel_rfl) (by kernel_rfl) (fun _ _ _ h => h) (Or.inl ⟨by rfl, ?ry848⟩) hS ?_
    case ry848 => (intro wS hSw; clear hSw; go_simp; (try with_reducible rfl))
    simp only [Act.put, List.getElem_toArray, List.getElem_cons_zero, List.getElem_cons_succ, List.setIfInBounds_toArray, List.set_cons_succ, List.set_cons_zero]
    refine wpAnyH_done (by kernel_rfl) ?_ _
    have hSz := HS7B.out.trans (hS.mono HS7B.out.size)
    have gZ := gW.trans (hSz.mono gW.size)
    have hrb := HRB.out.below gZ
    clear hS hS7 hSz ks7 k7
    go_wp2_with fail
    refine (get_any Ab nb cb bs w.heap.size u3 hrb gZ.size (by omega)).mono ?_
    rintro e u4 ⟨A9, m9, c9, rfl, o9, hh⟩
    have gY := gZ.trans (hh.mono gZ.size)
    obtain ⟨fl, fw, fn⟩ := get_facts bs
    have HS9 := Lib.hid (uc_size fl (.slice A9 m9 c9))
    have H91 := Lib.hid (uc_one (U := getU bs) (s := .slice A9 m9 c9) rfl)
    have hm9 := o9.1
    have HM9 := Lib.hid hm9
    have r9 := o9.rd
    have hbad := fun h => (get_bad (bs := bs) h).2
    have hgood := fun h => put_get (b := bs) h
    have ht8 := uc_last fl (.slice A9 m9 c9)
    have lput := fun (w' : World) (h : RdD w' w'.heap.size A9 m9 (getL bs)) => dput_v (getU bs) A9 m9 c9 (getL bs) w' fl h
    generalize getU bs = GU9 at *
    generalize getL bs = GM9 at *
    generalize getE bs = GE9 at *
    obtain ⟨s9, hs9⟩ : ∃ s, s = uc GU9 (.slice A9 m9 c9) := ⟨_, rfl⟩
    rw [← hs9] at HS9 H91 ht8 lput ⊢
    have HBAD := Lib.hid hbad
    have HGOOD := Lib.hid hgood
    have HPUT9 := Lib.hid lput
    have HT8 := Lib.hid ht8
    clear hs9 hbad hgood lput ht8 hm9 fw fl fn hh hrb
    go_upto_region 23 with ((with_reducible refine wpList_st rowS (Blk.new _ _ _) HS9.out ?_ H91.out ?_ ?_ ?_); (rfl); rotate_left; (rfl); (rfl); intro u5 k5 g5 z5)
    have p5 : Below u4.heap.size u4 u5 := ((Below.refl _ _).alloc (Nat.le_refl _) _).grown g5 (by simp) (fun q hq => by injection hq with hq; omega)
    have r95 := (r9.below p5).more p5.size
    have gX := gY.trans (p5.mono gY.size)
    obtain ⟨g16, hg16⟩ : ∃ g, g = u4.heap.size := ⟨_, rfl⟩
    rw [← hg16] at k5 ⊢
    have hrb5 := HRB.out.below gX
    clear hg16 g5 z5 p5 r9 gY gZ
    by_cases hge : GE9 = 0
    case neg =>
      have hq : ((((GE9 : Nat) : Int)) != 0) = true := by rw [bne_iff_ne]; omega
      have hl0 := HBAD.out hge
      have hm0 : m9 = 0 := by rw [HM9.out, hl0]; rfl
      have t8 : u5.cell? ⟨g16, 8, none⟩ = some (.slice A9 m9 c9) := (k5.cell 8).trans HT8.out
      rw [hm0] at t8
      clear HM9 HBAD HGOOD HPUT9 hl0 r95 o9
      go_wp2_with fail
      go_ret
      exact ⟨rfl, gX⟩
    case pos =>
      obtain ⟨h1, h2, _⟩ := HGOOD.out hge
      have lput := HPUT9.out
      rw [h2, h1] at lput
      simp only [if_true] at lput
      unfold GiveBE at lput
      have HPT := Lib.hid lput
      clear HPUT9 h1 h2 lput HBAD HGOOD
      subst hge
      go_wp2_with ((with_reducible refine wpList_ld rowS k5 HS9.out ?_ ?_); rotate_left; (rfl))
      refine (HPT.out u5 r95).mono ?_
      rintro e u6 ⟨A6', m6', c6', rfl, o6', hh⟩
      have gV := gX.trans (hh.mono gX.size)
      have hrb6 := HRB.out.below gV
      have r6' := o6'.rd
      have hl6 : m6' ≤ 3000 := by rw [o6'.1, ← HNB.out]; exact hnb1
      clear hh o6' hrb5 gX k5 r95
      go_wp2_with fail
      refine (same_eq A6' Ab m6' c6' nb cb bs _ _ _ r6' hrb6 (by omega)).mono ?_
      rintro e u7 ⟨rfl, md, rfl⟩
      go_wp2_with fail
      go_ret
      exact ⟨rfl, below_drewN gV md⟩
set_option maxRecDepth 100000 in
theorem lifted (os : Os) (started : os.Started) (H : Type) (enc : TypeId × Value → H) :
    ReturnsInHanded {} Try.checked os 7 .any (Rows.dotsetBackSpec.pre6 enc Try.prog Try.f7 Rows.dotsetBackRow.domain false) (Rows.dotsetBackSpec.post enc Try.prog Try.f7 false true false false) := by
  refine returnsInHanded_of_change (C := Try.checked) own started (by kernel_rfl) Try.func7
    (ChangeSpec.witness6 (enc := enc) (C := Try.checked) false ⟨#[], #[.slice none 0 0, .slice none 0 0], []⟩ 8 (by kernel_rfl) (by kernel_rfl) (by kernel_rfl) (by kernel_rfl)) ?_
  intro W base args ds gs before hval0 hW hcnd _
  have hval : ∀ (j : Nat) t v, Try.f7.params[j]? = some t → args[j]? = some v → Value.okWide Try.prog W .any base t v := hval0
  have hW' := hW
  obtain ⟨p, q, hA0, hV, rfl, hfz, hnd⟩ := hW
  have hA : DataW.TrodAll enc Try.prog W 0 (fun _ => true) true Try.f7.params.toList args.toList ds p := hA0
  rw [Try.params7] at hA hval
  obtain ⟨v0, vs0, d0, ds0, p0, q0, hargs, rfl, rfl, h0, r0⟩ := trodAll_cons hA
  obtain ⟨v1, vs1, d1, ds1, p1, q1, rfl, rfl, rfl, h1, r1⟩ := trodAll_cons r0
  obtain ⟨rfl, rfl, rfl⟩ := trodAll_nil r1
  obtain rfl : args = #[v0, v1] := by cases args; simp_all
  obtain ⟨rfl, rfl⟩ := trodVars_none hV
  have lt0 : ∀ x ∈ p0, x.block < W.heap.size := by obtain ⟨m, hm⟩ := h0; exact DataW.trod_lt m _ _ _ hm
  have k0 := h0
  have lt1 : ∀ x ∈ p1, x.block < W.heap.size := by obtain ⟨m, hm⟩ := h1; exact DataW.trod_lt m _ _ _ hm
  have k1 := h1
  obtain ⟨A0, n0, c0, l0, rfl, hr0, hn0⟩ := open_dots (hval 0 23 v0 rfl rfl) h0
  obtain ⟨a1, n1, c1, b1, rfl, w1, l1⟩ := open_bytes (hval 1 59 v1 rfl rfl) h1
  clear hA0 hval0
  refine (walk A0 n0 c0 l0 a1 n1 c1 b1 W hr0 hn0 w1 l1).mono fun e W' ⟨he, bel⟩ => ?_
  subst he
  exact ⟨_, rfl, _, _, _, [], _, [], hW', trodAll_mk1 (shut_bool Try.underlying4 _), (trodAll_cons_mk (Below.trod laidOut (by kernel_rfl) (of_decide_eq_true (by kernel_rfl)) k0 bel lt0) (trodAll_cons_mk (Below.trod laidOut (by kernel_rfl) (of_decide_eq_true (by kernel_rfl)) k1 bel lt1) trodAll_mk0)), rfl, bel.frame _, fun h => by cases h⟩

theorem proved : Rows.DotsetBackSaid :=
  OpenClaim.holds_of_wide 7 Try.f7 rfl rfl rfl rfl rfl rfl rfl ⟨rfl, rfl, rfl, rfl, rfl⟩ rfl rfl rfl rfl rfl (by kernel_rfl) Try.func7 (by kernel_rfl)
    (of_decide_eq_true (by kernel_rfl)) (by unfold Func.isWrapper; first | (rw [if_pos (by decide +kernel)]; kernel_rfl) | (rw [if_neg (by decide +kernel)]; exact ⟨rfl, rfl⟩))
    (fun os started H enc _ => lifted os started H enc)
#print axioms proved
end Go.Proofs.Ytacmdkjodnaohaa.DotsetBack

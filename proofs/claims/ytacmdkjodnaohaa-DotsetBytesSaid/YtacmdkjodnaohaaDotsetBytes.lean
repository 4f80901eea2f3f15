/- DotsetBytes: any set's bytes, and the set that any bytes are, or the error, are the document's: the whole statement, without a condition. -/
import Derived.Test.YtacmdkjodnaohaaVintPut
import Derived.WideLaws
import Derived.Test.YtacmdkjodnaohaaSame
import Derived.Test.YtacmdkjodnaohaaBytes
import Derived.Test.YtacmdkjodnaohaaStop
import Derived.Test.YtacmdkjodnaohaaVintMath
import Derived.Test.YtacmdkjodnaohaaDotPut
import Derived.Test.YtacmdkjodnaohaaDotPlain
import Derived.Test.YtacmdkjodnaohaaDotOpen
/- The walks of package vint: New, and a reader's Int, Err, Left. -/
namespace Go.Proofs.Ytacmdkjodnaohaa
open Go.RowKit

/-- A reader: block g holds its slice and its error; the bytes lie below it. -/
def Rdr (w : World) (g : Nat) (A : Option Addr) (n c : Nat) (bs : List UInt8) (e : Nat) : Prop :=
  w.heap[g]? = some (.cells #[.slice A n c, .int .i64 (e : Nat)] 105 (0, 0)) ∧ RdB w g A n bs ∧ n ≤ c ∧ c ≤ maxLen
section
variable {w w' : World} {g : Nat} {A : Option Addr} {n c : Nat} {bs : List UInt8} {e : Nat}
theorem Rdr.lt (h : Rdr w g A n c bs e) : g < w.heap.size := lt_of_block h.1
theorem Rdr.cell0 (h : Rdr w g A n c bs e) : w.cell? ⟨g, 0, none⟩ = some (.slice A n c) := by have := h.1; simp [World.cell?, this]
theorem Rdr.cell1 (h : Rdr w g A n c bs e) : w.cell? ⟨g, 1, none⟩ = some (.int .i64 (e : Nat)) := by have := h.1; simp [World.cell?, this]
theorem Rdr.free (h : Rdr w g A n c bs e) (i : Nat) : w.frozen? ⟨g, i, none⟩ = false := by have := h.1; simp [World.frozen?, this]
theorem Rdr.below (h : Rdr w g A n c bs e) (hb : Below (g + 1) w w') : Rdr w' g A n c bs e :=
  ⟨(hb.block g (by omega)).trans h.1, h.2.1.below (hb.mono (by omega)), h.2.2⟩
end
def IsNew (w : World) (bs : List UInt8) (e : Ending) (w' : World) : Prop :=
  ∃ A c g, e = .returned (.pointer (some ⟨g, 0, none⟩)) ∧ w.heap.size ≤ g ∧ Rdr w' g A bs.length c bs 0 ∧ Below w.heap.size w w'
theorem new_any (A : Option Addr) (n c : Nat) (bs : List UInt8) (B : Nat) (w : World) (hb : RdB w B A n bs) (hB : B ≤ w.heap.size) (hl : n ≤ 140737488355000) :
    Calls Try.prog 53 #[.slice A n c] w (IsNew w bs) := by
  obtain rfl := hb.1
  go_enter Try.func53, Try.ntmps53
  go_wp2_with (go_at_call 63; refine (clone_any _ _ _ _ _ _ hb hB (by omega)).mono ?_; rintro e w1 ⟨A1, n1, c1, rfl, ho, hbl⟩)
  have hn := ho.1
  subst hn
  go_ret
  refine ⟨A1, c1, w1.heap.size, rfl, hbl.size, ⟨?_, ?_, ?_⟩, hbl.alloc hbl.size _⟩
  · exact heap_alloc_new w1 _
  · exact (ho.rd.alloc (Nat.le_refl _) _)
  · rcases ho.2.2 with ⟨h, h0⟩ | ⟨g, cap, cur, h, _, _, h1, h2, _⟩
    · injection h with _ _ h; subst h; exact ⟨by omega, by unfold maxLen; omega⟩
    · injection h with _ _ h; subst h; exact ⟨h1, h2⟩
theorem err_any (g : Nat) (A : Option Addr) (n c : Nat) (bs : List UInt8) (e : Nat) (w : World) (h : Rdr w g A n c bs e) :
    Calls Try.prog 56 #[.pointer (some ⟨g, 0, none⟩)] w fun r w' => r = .returned (.int .i64 (e : Nat)) ∧ w = w' := by
  have h1 := h.cell1
  go_enter Try.func56, Try.ntmps56
  go_wp2_with fail
  go_ret
  exact ⟨rfl, rfl⟩
theorem left_any (g : Nat) (A : Option Addr) (n c : Nat) (bs : List UInt8) (e : Nat) (w : World) (h : Rdr w g A n c bs e) :
    Calls Try.prog 57 #[.pointer (some ⟨g, 0, none⟩)] w fun r w' => r = .returned (.int .i64 (n : Nat)) ∧ w = w' := by
  have h1 := h.cell0
  go_enter Try.func57, Try.ntmps57
  go_wp2_with fail
  go_ret
  exact ⟨rfl, rfl⟩
theorem err_nil (w : World) : Calls Try.prog 56 #[.pointer none] w fun r w' => r = .returned (.int .i64 1) ∧ w = w' := by
  go_enter Try.func56, Try.ntmps56
  go_wp2_with fail
  go_ret
  exact ⟨rfl, rfl⟩
/-- a fault, as a panic's value -/
abbrev fault (x : Int) : Value := .iface 108 (.agg #[.int .i64 x])
theorem pass_neg (k : Int) (g : Nat) (w : World) (hk : k < 0) :
    Calls Try.prog 71 #[.pointer (some ⟨g, 0, none⟩), .int .i64 k] w fun r w' => r = .panicked [{ v := fault 2, recovered := false }] ∧ w = w' := by
  have hd : decide (k < 0) = true := decide_eq_true (by omega)
  go_enter Try.func71, Try.ntmps71
  go_wp2
  exact ⟨rfl, rfl, rfl⟩
theorem pass_short (k : Nat) (g : Nat) (A : Option Addr) (n c : Nat) (bs : List UInt8) (e : Nat) (w : World) (hR : Rdr w g A n c bs e) (hk : n < k) :
    Calls Try.prog 71 #[.pointer (some ⟨g, 0, none⟩), .int .i64 k] w fun r w' => r = .panicked [{ v := fault 3, recovered := false }] ∧ w = w' := by
  have h1 := hR.cell0
  have hd : decide ((k : Int) < 0) = false := decide_eq_false (by omega)
  have hd1 : decide ((n : Int) < (k : Int)) = true := decide_eq_true (by omega)
  go_enter Try.func71, Try.ntmps71
  go_wp2
  exact ⟨rfl, rfl, rfl⟩
/-- The reader's slice with k bytes passed. -/
theorem Rdr.pass {w : World} {g : Nat} {A : Option Addr} {n c : Nat} {bs : List UInt8} {e : Nat} (h : Rdr w g A n c bs e) {k : Nat} (hk : k ≤ n) :
    (c = k → Rdr (w.setCell ⟨g, 0, none⟩ (.slice A (n - k) 0)) g A (n - k) 0 (bs.drop k) e) ∧
    (¬ c = k → Rdr (w.setCell ⟨g, 0, none⟩ (.slice (A.map fun x => x.add k) (n - k) (c - k))) g (A.map fun x => x.add k) (n - k) (c - k) (bs.drop k) e) := by
  obtain ⟨h1, h2, h3, h4⟩ := h
  have hh : ∀ u, (w.setCell ⟨g, 0, none⟩ u).heap[g]? = some (.cells #[u, .int .i64 (e : Nat)] 105 (0, 0)) := by
    intro u
    simp [World.setCell, Array.getElem?_modify, h1]
  refine ⟨fun hc => ⟨hh _, ⟨by rw [List.length_drop, h2.1], ?_⟩, by omega, Nat.zero_le _⟩, fun hc => ⟨hh _, ?_, by omega, by omega⟩⟩
  · have : bs.drop k = [] := List.drop_eq_nil_of_le (by have := h2.1; omega)
    rw [this]
    exact Rd.nil _ _ _
  · have := h2.drop k
    exact ⟨this.1, this.2.setCell (Nat.le_refl _) _⟩
def Passed (w : World) (g k : Nat) (A : Option Addr) (c : Nat) (bs : List UInt8) (e : Nat) (r : Ending) (w' : World) : Prop :=
  ∃ A' n' c' u, r = .returned (.slice A k c) ∧ w' = w.setCell ⟨g, 0, none⟩ u ∧ Rdr w' g A' n' c' (bs.drop k) e
theorem pass_ok (k : Nat) (g : Nat) (A : Option Addr) (n c : Nat) (bs : List UInt8) (e : Nat) (w : World) (hR : Rdr w g A n c bs e) (hk : k ≤ n) :
    Calls Try.prog 71 #[.pointer (some ⟨g, 0, none⟩), .int .i64 k] w (Passed w g k A c bs e) := by
  have h1 := hR.cell0
  have h2 := hR.free 0
  have hn := hR.2.2.1
  have hm := hR.2.2.2
  have hp := Lib.hid (hR.pass hk)
  unfold maxLen at hm
  have hd : decide ((k : Int) < 0) = false := decide_eq_false (by omega)
  have hd1 : decide ((n : Int) < (k : Int)) = false := decide_eq_false (by omega)
  by_cases hck : c = k
  · subst hck
    obtain rfl : n = c := by omega
    have hp1 := hp.out.1 rfl
    rw [Nat.sub_self] at hp1
    have HP := Lib.hid hp1
    clear hp hp1
    go_enter Try.func71, Try.ntmps71
    go_wp2
    go_ret
    exact ⟨_, _, _, _, rfl, rfl, HP.out⟩
  · go_enter Try.func71, Try.ntmps71
    go_wp2
    go_ret
    exact ⟨_, _, _, _, rfl, rfl, hp.out.2 hck⟩

theorem i64_andNot128 : ∀ x : Fin 256, bits .andNot .i64 (x.val : Int) 128 = ((x.val % 128 : Nat) : Int) := by decide +kernel
/-- what 'number' leaves: a number and the rest; or a panic -/
def Numbered (w : World) (g : Nat) (bs : List UInt8) (r : Ending) (w' : World) : Prop :=
  w.grownBy w' (some g) ∧ w.heap.size = w'.heap.size ∧
  match Vint.dec bs with
  | .ok (n, rest) => r = .returned (.int .i64 (n : Nat)) ∧ ∃ A' c', Rdr w' g A' rest.length c' rest 0
  | .error x => r = .panicked [{ v := fault (x : Nat), recovered := false }] ∧ ∃ A' n' c' rest, Rdr w' g A' n' c' rest 0
theorem i64_or_nat (a b : Nat) (ha : a < 9223372036854775808) (hb : b < 9223372036854775808) : bits .or .i64 (a : Int) (b : Int) = ((a ||| b : Nat) : Int) := by
  have hx : a ||| b < 2 ^ 63 := Nat.or_lt_two_pow (by omega) (by omega)
  have hn : ∀ x : Nat, x < 9223372036854775808 → (BitVec.ofInt 64 (x : Int)).toNat = x := fun x hx => by
    rw [BitVec.ofInt_natCast, BitVec.toNat_ofNat]; exact Nat.mod_eq_of_lt (by omega)
  show IntKind.i64.wrap ((BitVec.ofInt 64 (a : Int) ||| BitVec.ofInt 64 (b : Int)).toNat : Int) = _
  rw [BitVec.toNat_or, hn a ha, hn b hb, IntKind.wrap_i64]
  omega
theorem pow128 (k : Nat) : (128 : Nat) ^ k = 2 ^ (7 * k) := by rw [show (128 : Nat) = 2 ^ 7 from rfl, ← Nat.pow_mul]
theorem or_shift (acc x k : Nat) (hacc : acc < 128 ^ k) (hk : k < 6) (hx : x < 128) : bits .or .i64 (acc : Int) (wrap64 ((x : Int) * 2 ^ (7 * k))) = ((acc + x * 128 ^ k : Nat) : Int) := by
  have h5 : 128 ^ k ≤ 128 ^ 5 := Nat.pow_le_pow_right (by decide) (by omega)
  have hm : x * 128 ^ k ≤ 127 * 128 ^ 5 := Nat.mul_le_mul (by omega) h5
  have e5 : (128 : Nat) ^ 5 = 34359738368 := by decide
  rw [e5] at h5 hm
  have e1 : ((x : Int) * 2 ^ (7 * k)) = ((x * 128 ^ k : Nat) : Int) := by rw [pow128]; push_cast; rfl
  rw [e1, IntWalk.wrap64_in _ ⟨by omega, by omega⟩, i64_or_nat _ _ (by omega) (by omega)]
  have e2 := Nat.shiftLeft_add_eq_or_of_lt (by rw [← pow128]; exact hacc : acc < 2 ^ (7 * k)) x
  rw [Nat.shiftLeft_eq, ← pow128] at e2
  rw [Nat.or_comm, ← e2, Nat.add_comm]
theorem passed_one {w wr w1 : World} {g : Nat} {A' : Option Addr} {n' c' : Nat} {x : UInt8} {rest : List UInt8} {u : Value} (hr : Rdr wr g A' n' c' (x :: rest) 0) (hg : w.grownBy wr (some g)) (hs : w.heap.size = wr.heap.size)
    (hw1 : w1 = wr.setCell ⟨g, 0, none⟩ u) : ∃ a, A' = some a ∧ w1.cell? a = some (bv x) ∧ w.grownBy w1 (some g) ∧ w.heap.size = w1.heap.size := by
  obtain ⟨a, hA, hab, hc⟩ := (hr.2.1).at_ (k := 0) (by simp)
  refine ⟨a, hA, ?_, by rw [hw1]; exact only_set hg _, by rw [hw1, hs]; simp [World.setCell]⟩
  rw [hw1, World.cell?_setCell_other _ _ _ _ (fun e => by rw [← e] at hab; exact absurd hab (Nat.lt_irrefl _))]
  simpa [Addr.add] using hc
set_option maxRecDepth 100000 in
theorem number_any (g : Nat) (A : Option Addr) (n c : Nat) (bs : List UInt8) (w : World) (hR : Rdr w g A n c bs 0) :
    Calls Try.prog 66 #[.pointer (some ⟨g, 0, none⟩)] w (Numbered w g bs) := by
  go_enter Try.func66, Try.ntmps66
  go_wp2_with fail
  go_loopw [3, 6] (fun v i wr => ∃ (k acc : Nat) (A' : Option Addr) (n' c' : Nat) (rest : List UInt8), k ≤ 6 ∧ i = .int .i64 k ∧ v = .int .i64 acc ∧ acc < 128 ^ k ∧ Vint.decF (6 - k) k acc rest = Vint.dec bs ∧
      Rdr wr g A' n' c' rest 0 ∧ w.grownBy wr (some g) ∧ w.heap.size = wr.heap.size) (fun _ i _ => 6 - (intOf i).toNat)
  case atStart => exact ⟨0, 0, A, n, c, bs, by omega, rfl, rfl, by decide, rfl, hR, World.grownBy.refl w _, rfl⟩
  case round =>
    obtain ⟨k, acc, A', n', c', rest, hk, rfl, rfl, hacc, hdec, hr, hg, hsz⟩ := hrel
    have HD := Lib.hid hdec
    have HZ := Lib.hid hsz
    clear hdec hsz
    by_cases hk6 : k = 6
    · subst hk6
      go_wp2
      refine ⟨rfl, hg, HZ.out, ?_⟩
      rw [← HD.out]
      exact ⟨rfl, _, _, _, _, hr⟩
    · have hlt : k < 6 := by omega
      rcases rest with _ | ⟨x, rest⟩
      · have hn0 := hr.2.1.1
        have H0 := Lib.hid hn0
        clear hn0
        go_wp2_with fail
        refine (pass_short 1 _ _ _ _ _ _ _ hr (by rw [H0.out]; simp)).mono ?_
        rintro e w1 ⟨rfl, rfl⟩
        refine ⟨rfl, hg, HZ.out, ?_⟩
        rw [← HD.out]
        obtain ⟨m, hm⟩ : ∃ m, 6 - k = m + 1 := ⟨5 - k, by omega⟩
        rw [hm]
        exact ⟨rfl, _, _, _, _, hr⟩
      · have hn' := hr.2.1.1
        have hx := x.toNat_lt
        have ea := i64_andNot128 ⟨x.toNat, hx⟩
        simp only at ea
        obtain ⟨N, hN⟩ : ∃ N, N = acc + x.toNat % 128 * 128 ^ k := ⟨_, rfl⟩
        have eo := or_shift acc (x.toNat % 128) k hacc hlt (by omega)
        rw [← hN] at eo
        rw [show ((x.toNat % 128 : Nat) : Int) = (x.toNat : Int) % 128 from rfl] at eo
        have hNb : N < 128 ^ (k + 1) := by
          rw [hN, Nat.pow_succ]
          have : x.toNat % 128 * 128 ^ k ≤ 127 * 128 ^ k := Nat.mul_le_mul_right _ (by omega)
          omega
        have h6 : 128 ^ (k + 1) ≤ 128 ^ 6 := Nat.pow_le_pow_right (by decide) (by omega)
        have e6 : (128 : Nat) ^ 6 = 4398046511104 := by decide
        rw [e6] at h6
        have hNt : N < 4398046511104 := by omega
        clear h6 e6
        have HNN := Lib.hid hN
        clear hN
        obtain ⟨m, hm⟩ : ∃ m, 6 - k = m + 1 := ⟨5 - k, by omega⟩
        have hdr : List.drop 1 (x :: rest) = rest := rfl
        by_cases h128 : 128 ≤ x.toNat
        · go_wp2_with fail
          refine (pass_ok 1 _ _ _ _ _ _ _ hr (by rw [hn']; simp)).mono ?_
          rintro e w1 ⟨A2, n2, c2, u, rfl, hw1, hr2⟩
          rw [hdr] at hr2
          obtain ⟨a, hA, hc1, hg1, hs1⟩ := passed_one hr hg HZ.out hw1
          subst hA
          have HS := Lib.hid hs1
          have HM := Lib.hid hm
          clear hw1 hn' hdr hs1 hm
          go_wp2_with fail
          go_roundw
          case rel =>
            refine ⟨k + 1, N, _, _, _, _, by omega, by go_num, rfl, hNb, ?_, hr2, hg1, HS.out⟩
            rw [← HD.out, HM.out, show 6 - (k + 1) = m by have := HM.out; omega]
            conv => rhs; unfold Vint.decF
            rw [if_pos h128, HNN.out]
          case measure => simp [intOf]; omega
        · have hxm : x.toNat % 128 = x.toNat := Nat.mod_eq_of_lt (by omega)
          have hdec2 : Vint.dec bs = if Vint.top < N ∨ (x.toNat = 0 ∧ 0 < k) then .error 4 else .ok (N, rest) := by
            rw [← HD.out, hm]
            conv => lhs; unfold Vint.decF
            rw [if_neg h128, HNN.out, hxm]
          have HD2 := Lib.hid hdec2
          have hd8 : decide ((128 : Int) ≤ (x.toNat : Int)) = false := decide_eq_false (by omega)
          have HM := Lib.hid hm
          clear hdec2 hxm hm HD
          by_cases hb : 1099511627776 < N
          · have HB := Lib.hid (HD2.out.trans (if_pos (.inl hb)))
            have ht : decide ((1099511627776 : Int) < (N : Int)) = true := decide_eq_true (by omega)
            clear HD2
            go_wp2_with fail
            refine (pass_ok 1 _ _ _ _ _ _ _ hr (by rw [hn']; simp)).mono ?_
            rintro e w1 ⟨A2, n2, c2, u, rfl, hw1, hr2⟩
            rw [hdr] at hr2
            obtain ⟨a, hA, hc1, hg1, hs1⟩ := passed_one hr hg HZ.out hw1
            subst hA
            have HS := Lib.hid hs1
            clear hw1 hn' hdr hs1
            go_wp2
            refine ⟨rfl, hg1, HS.out, ?_⟩
            rw [HB.out]
            exact ⟨rfl, _, _, _, _, hr2⟩
          · have ht : decide ((1099511627776 : Int) < (N : Int)) = false := decide_eq_false (by omega)
            have HNT : ¬ Vint.top < N := hb
            by_cases hx0 : x.toNat = 0
            · have hxe : ((x.toNat : Int) == 0) = true := by rw [hx0]; rfl
              by_cases hk0 : k = 0
              · rw [if_neg (fun h => by rcases h with h | h <;> omega)] at HD2
                have hkd : decide (0 < k) = false := decide_eq_false (by omega)
                have hk00 := Lib.hid hk0
                clear hk0
                have hx00 := Lib.hid hx0
                clear hx0
                go_wp2_with fail
                refine (pass_ok 1 _ _ _ _ _ _ _ hr (by rw [hn']; simp)).mono ?_
                rintro e w1 ⟨A2, n2, c2, u, rfl, hw1, hr2⟩
                rw [hdr] at hr2
                obtain ⟨a, hA, hc1, hg1, hs1⟩ := passed_one hr hg HZ.out hw1
                subst hA
                have HS := Lib.hid hs1
                clear hw1 hn' hdr hs1
                go_wp2
                go_ret
                refine ⟨hg1, HS.out, ?_⟩
                rw [HD2.out]
                have := hr2.2.1.1
                subst this
                exact ⟨rfl, _, _, hr2⟩
              · have HB := Lib.hid (HD2.out.trans (if_pos (.inr ⟨hx0, by omega⟩)))
                have hkd : 0 < k := by omega
                have hx00 := Lib.hid hx0
                clear HD2 hx0
                go_wp2_with fail
                refine (pass_ok 1 _ _ _ _ _ _ _ hr (by rw [hn']; simp)).mono ?_
                rintro e w1 ⟨A2, n2, c2, u, rfl, hw1, hr2⟩
                rw [hdr] at hr2
                obtain ⟨a, hA, hc1, hg1, hs1⟩ := passed_one hr hg HZ.out hw1
                subst hA
                have HS := Lib.hid hs1
                clear hw1 hn' hdr hs1
                go_wp2
                refine ⟨rfl, hg1, HS.out, ?_⟩
                rw [HB.out]
                exact ⟨rfl, _, _, _, _, hr2⟩
            · have hxe : ((x.toNat : Int) == 0) = false := by rw [beq_eq_false_iff_ne]; omega
              rw [if_neg (fun h => by rcases h with h | h <;> omega)] at HD2
              go_wp2_with fail
              refine (pass_ok 1 _ _ _ _ _ _ _ hr (by rw [hn']; simp)).mono ?_
              rintro e w1 ⟨A2, n2, c2, u, rfl, hw1, hr2⟩
              rw [hdr] at hr2
              obtain ⟨a, hA, hc1, hg1, hs1⟩ := passed_one hr hg HZ.out hw1
              subst hA
              have HS := Lib.hid hs1
              clear hw1 hn' hdr hs1
              go_wp2
              go_ret
              refine ⟨hg1, HS.out, ?_⟩
              rw [HD2.out]
              have := hr2.2.1.1
              subst this
              exact ⟨rfl, _, _, hr2⟩
end Go.Proofs.Ytacmdkjodnaohaa

/- The walks of a reader's 'reading' (a panic is caught) and Int. -/
namespace Go.Proofs.Ytacmdkjodnaohaa
open Go.RowKit

theorem frame20 (a b f : Value) : (#[a, b] ++ (Array.replicate 18 undef).setIfInBounds 3 f : Array Value) = #[a, b, undef, undef, undef, f, undef, undef, undef, undef, undef, undef, undef, undef, undef, undef, undef, undef, undef, undef] := by kernel_rfl
theorem assert_fault (x : Int) (w : World) : (Instr.typeAssert (fault x) 20 108 true).run Try.prog w = .ok (.tuple #[.agg #[.int .i64 x], .bool true]) w := by kernel_rfl
theorem caught_panic (g b0 b1 : Nat) (x : Int) (older : List PanicEntry) (A : Option Addr) (n c : Nat) (v1 v2 : Value) (w : World) (hq : w.cell? ⟨b1, 0, none⟩ = some (.pointer (some ⟨g, 0, none⟩))) (hp : w.cell? ⟨b0, 0, none⟩ = some (.slice A n c)) (h0 : w.cell? ⟨g, 0, none⟩ = some v1) (h1 : w.cell? ⟨g, 1, none⟩ = some v2)
    (hf : ∀ i, w.frozen? ⟨g, i, none⟩ = false) :
    CallsD Try.prog 70 #[.pointer (some ⟨b0, 0, none⟩), .pointer (some ⟨b1, 0, none⟩)] (.panicking ({ v := fault x, recovered := false } :: older)) w fun e u' w' =>
      e = .returned (.tuple #[]) ∧ u' = .panicking ({ v := fault x, recovered := true } :: older) ∧ w' = (((w.setCell ⟨g, 0, none⟩ (.slice A n c)).setCell ⟨g, 1, none⟩ (.int .i64 x)).alloc (.cells #[.int .i64 x] 108)).drew := by
  have hf0 := hf 0
  have hf1 := hf 1
  clear hf
  have ta := assert_fault x
  have lt0 := World.block_lt_of_cell? w _ h0
  have lt1 := World.block_lt_of_cell? w _ hq
  have lt2 := World.block_lt_of_cell? w _ hp
  refine callsD_of_wpS Try.func70 rfl fun c₀ cs hu => ?_
  apply wpS_seq
  apply wpS_region
  simp [wpOpsS, go_sem, recoverD, hu, Try.ntmps70, Exit.thenS]
  refine wpS_of_wp ?_
  rw [frame20]
  go_wp2_with fail
  go_region
  go_wp2_with fail
  simp [bodyPostS, results, Try.results70]
theorem caught_none (b0 b1 : Nat) (w : World) :
    CallsD Try.prog 70 #[.pointer (some ⟨b0, 0, none⟩), .pointer (some ⟨b1, 0, none⟩)] .returning w fun e u' w' => e = .returned (.tuple #[]) ∧ u' = .returning ∧ w' = w := by
  refine callsD_of_wpS Try.func70 rfl fun c₀ cs hu => ?_
  apply wpS_seq
  apply wpS_region
  simp [wpOpsS, go_sem, recoverD, hu, Try.ntmps70, Exit.thenS]
  refine wpS_of_wp ?_
  rw [frame20]
  go_wp2_with fail
  cases c₀
  simp_all [bodyPostS, results, Try.results70]

/-- The closure that Int hands to reading: a number. -/
theorem int1_ok (g b1 b2 m : Nat) (A : Option Addr) (n c : Nat) (bs rest : List UInt8) (v : Value) (w : World) (hR : Rdr w g A n c bs 0) (hd : Vint.dec bs = .ok (m, rest)) (h1 : w.cell? ⟨b1, 0, none⟩ = some (.pointer (some ⟨g, 0, none⟩))) (h2 : w.cell? ⟨b2, 0, none⟩ = some v) (hf : w.frozen? ⟨b2, 0, none⟩ = false) (hb : g ≠ b2) :
    Calls Try.prog 65 #[.pointer (some ⟨b1, 0, none⟩), .pointer (some ⟨b2, 0, none⟩)] w fun e w' => e = .returned (.tuple #[]) ∧
      ∃ w1 A' c', w.grownBy w1 (some g) ∧ w.heap.size = w1.heap.size ∧ Rdr w1 g A' rest.length c' rest 0 ∧ w' = w1.setCell ⟨b2, 0, none⟩ (.int .i64 m) := by
  have HD := Lib.hid hd
  clear hd
  go_enter Try.func65, Try.ntmps65
  go_wp2_with fail
  refine (number_any _ _ _ _ _ _ hR).mono ?_
  rintro e w1 ⟨hg, hs, hm⟩
  rw [HD.out] at hm
  obtain ⟨rfl, A', c', hR'⟩ := hm
  have e2 := hg.block b2 (World.block_lt_of_cell? w _ h2) (fun e => hb (by injection e with e; exact e.symm))
  have h2' : w1.cell? ⟨b2, 0, none⟩ = some v := (World.cell?_of_block (a := ⟨b2, 0, none⟩) e2).trans h2
  have hf' : w1.frozen? ⟨b2, 0, none⟩ = false := (World.frozen?_of_block (a := ⟨b2, 0, none⟩) e2).trans hf
  have HS := Lib.hid hs
  clear hs e2
  go_wp2_with fail
  go_end0
  exact ⟨rfl, w1, A', c', hg, HS.out, hR', rfl⟩
theorem int1_bad (g b1 b2 x : Nat) (A : Option Addr) (n c : Nat) (bs : List UInt8) (w : World) (hR : Rdr w g A n c bs 0) (hd : Vint.dec bs = .error x) (h1 : w.cell? ⟨b1, 0, none⟩ = some (.pointer (some ⟨g, 0, none⟩))) :
    Calls Try.prog 65 #[.pointer (some ⟨b1, 0, none⟩), .pointer (some ⟨b2, 0, none⟩)] w fun e w' => e = .panicked [{ v := fault (x : Nat), recovered := false }] ∧
      ∃ A' n' c' rest, w.grownBy w' (some g) ∧ w.heap.size = w'.heap.size ∧ Rdr w' g A' n' c' rest 0 := by
  have HD := Lib.hid hd
  clear hd
  go_enter Try.func65, Try.ntmps65
  go_wp2_with fail
  refine (number_any _ _ _ _ _ _ hR).mono ?_
  rintro e w1 ⟨hg, hs, hm⟩
  rw [HD.out] at hm
  obtain ⟨rfl, A', n', c', rest, hR'⟩ := hm
  have HS := Lib.hid hs
  clear hs
  go_wp2_with fail
  exact ⟨rfl, rfl, A', n', c', rest, hg, HS.out, hR'⟩

theorem reading_fail (g e : Nat) (A : Option Addr) (n c : Nat) (bs : List UInt8) (w : World) (hR : Rdr w g A n c bs e) (he : e ≠ 0) (f : Value) :
    Calls Try.prog 64 #[.pointer (some ⟨g, 0, none⟩), f] w fun r w' => r = .returned (.tuple #[]) ∧ Below w.heap.size w w' := by
  have h1 := hR.cell1
  have hlt := hR.lt
  have hne : ((e : Int) != 0) = true := by rw [bne_iff_ne]; omega
  go_enter_defers Try.func64, Try.ntmps64
  go_wp2_with fail
  exact ⟨_, results_none rfl _ _ _, rfl, (Below.refl _ _).alloc (Nat.le_refl _) _⟩
/-- the world in which reading calls what it was handed -/
def readW (w : World) (g : Nat) (A : Option Addr) (n c : Nat) : World := (w.alloc (.cells #[.pointer (some ⟨g, 0, none⟩)] 87)).alloc (.cells #[.slice A n c] 59)
/-- the world behind a panic that was caught -/
def backW (w : World) (g : Nat) (A : Option Addr) (n c : Nat) (x : Int) : World := (((w.setCell ⟨g, 0, none⟩ (.slice A n c)).setCell ⟨g, 1, none⟩ (.int .i64 x)).alloc (.cells #[.int .i64 x] 108)).drew
def ReadDone (g : Nat) (A : Option Addr) (n c : Nat) (R : Ending → World → Prop) (r : Ending) (w' : World) : Prop :=
  r = .returned (.tuple #[]) ∧ (R (.returned (.tuple #[])) w' ∨ ∃ x w1, R (.panicked [{ v := fault x, recovered := false }]) w1 ∧ w' = backW w1 g A n c x)
theorem reading_any (g k : Nat) (cap : Array Value) (A : Option Addr) (n c : Nat) (bs : List UInt8) (w : World) (hR : Rdr w g A n c bs 0) (R : Ending → World → Prop)
    (hk : ∀ args w, (callFunc k args).run Try.prog w = .ok (.enter k args) w)
    (hdo : Calls Try.prog k cap (readW w g A n c) R)
    (hend : ∀ e w1, R e w1 → e = .returned (.tuple #[]) ∨ ∃ x A' n' c' rest, e = .panicked [{ v := fault x, recovered := false }] ∧ (readW w g A n c).grownBy w1 (some g) ∧ Rdr w1 g A' n' c' rest 0) :
    Calls Try.prog 64 #[.pointer (some ⟨g, 0, none⟩), .func (.func k) #[] cap] w (ReadDone g A n c R) := by
  have hc0 := hR.cell0
  have hc1 := hR.cell1
  have hlt := hR.lt
  have HD := Lib.hid hdo
  have HE := Lib.hid hend
  clear hdo hend
  have hmf : ∀ (fn : Fn) (first cap : Array Value) (w : World), (Instr.makeFunc fn first cap).run Try.prog w = .ok (.func fn first cap) w := fun _ _ _ _ => rfl
  go_enter_defers Try.func64, Try.ntmps64
  go_wp2_with fail
  refine (show Calls Try.prog k cap (readW w g A n c) R from HD.out).mono ?_
  intro e w1 hr
  rcases HE.out _ _ hr with rfl | ⟨x, A', n', c', rest, rfl, hg, hR1⟩
  · have HR := Lib.hid hr
    clear hr
    go_wp2_with fail
    refine leaves_cons (f := 70) (args := #[.pointer (some ⟨w.heap.size + 1, 0, none⟩), .pointer (some ⟨w.heap.size, 0, none⟩)]) (by simp) (by simp [go_sem]) ?_
    refine (caught_none _ _ _).mono ?_
    rintro e u' w'' ⟨rfl, rfl, rfl⟩
    exact ⟨_, results_none rfl _ _ _, rfl, .inl HR.out⟩
  · have HR := Lib.hid hr
    clear hr
    go_wp2_with fail
    refine leaves_cons (f := 70) (args := #[.pointer (some ⟨w.heap.size + 1, 0, none⟩), .pointer (some ⟨w.heap.size, 0, none⟩)]) (by simp) (by simp [go_sem]) ?_
    have z1 : (readW w g A n c).heap.size = w.heap.size + 2 := by simp [readW]
    have z2 : (readW w g A n c).cell? ⟨w.heap.size, 0, none⟩ = some (.pointer (some ⟨g, 0, none⟩)) := by simp [readW, go_sem]
    have z3 : (readW w g A n c).cell? ⟨w.heap.size + 1, 0, none⟩ = some (.slice A n c) := by simp [readW, go_sem]
    have b1 := hg.block w.heap.size (by omega) (fun e => by injection e; omega)
    have b2 := hg.block (w.heap.size + 1) (by omega) (fun e => by injection e; omega)
    refine (caught_panic g _ _ x [] A n c _ _ _ ((World.cell?_of_block (a := ⟨w.heap.size, 0, none⟩) b1).trans z2) ((World.cell?_of_block (a := ⟨w.heap.size + 1, 0, none⟩) b2).trans z3) hR1.cell0 hR1.cell1 hR1.free).mono ?_
    rintro e u' w'' ⟨rfl, rfl, rfl⟩
    exact ⟨_, results_none rfl _ _ _, rfl, .inr ⟨x, w1, HR.out, rfl⟩⟩

theorem readW_below (w : World) (g : Nat) (A : Option Addr) (n c : Nat) : Below w.heap.size w (readW w g A n c) := ((Below.refl _ _).alloc (Nat.le_refl _) _).alloc (by simp) _
theorem backW_only {a w : World} {g : Nat} (h : a.grownBy w (some g)) (A : Option Addr) (n c : Nat) (x : Int) : a.grownBy (backW w g A n c x) (some g) := only_drew (only_alloc (only_set (only_set h _) _) _)
theorem backW_blk {w : World} {g b : Nat} {t : TypeId} {cs : Array Value} (h : Blk w b t cs) (hne : b ≠ g) (A : Option Addr) (n c : Nat) (x : Int) : Blk (backW w g A n c x) b t cs :=
  ((h.far (p := ⟨g, 0, none⟩) hne _).far (p := ⟨g, 1, none⟩) hne _).alloc _
theorem backW_rdr {w : World} {g n c n' c' : Nat} {A A' : Option Addr} {bs rest : List UInt8} (h : Rdr w g A' n' c' rest 0) (hb : RdB w g A n bs) (hn : n ≤ c) (hc : c ≤ maxLen) (x : Nat) : Rdr (backW w g A n c x) g A n c bs x := by
  have h0 : Blk w g 105 #[.slice A' n' c', .int .i64 (0 : Nat)] := h.1
  have h1 := (((h0.set_ 0 (.slice A n c)).set_ 1 (.int .i64 x)).alloc (.cells #[.int .i64 x] 108)).drew
  refine ⟨h1, ⟨hb.1, ?_⟩, hn, hc⟩
  exact ((hb.2.setCell (p := ⟨g, 0, none⟩) (Nat.le_refl _) _).setCell (p := ⟨g, 1, none⟩) (Nat.le_refl _) _).alloc (by have := h.lt; simp [World.setCell]; omega) _
theorem Rdr.only {w w' : World} {g : Nat} {A : Option Addr} {n : Nat} {bs : List UInt8} (hb : RdB w g A n bs) (hg : w.grownBy w' (some g)) (h : g < w.heap.size) : RdB w' g A n bs :=
  ⟨hb.1, hb.2.keep fun p hp => World.cell?_of_block (hg.block p.block (by omega) (fun e => by injection e; omega))⟩
/-- Another reader's block may turn. -/
theorem Rdr.far {w w' : World} {g h : Nat} {A A' : Option Addr} {n c n' c' : Nat} {bs bs' : List UInt8} {e e' : Nat} (hR : Rdr w g A n c bs e) (hH : Rdr w h A' n' c' bs' e') (hne : g ≠ h) (hg : w.grownBy w' (some h)) : Rdr w' g A n c bs e := by
  have hb : Blk w h 105 #[.slice A' n' c', .int .i64 (e' : Nat)] := hH.1
  refine ⟨(hg.block g hR.lt (fun e => hne (by injection e))).trans hR.1, ⟨hR.2.1.1, fun j u hu => ?_⟩, hR.2.2⟩
  obtain ⟨a, ha, hab, hc⟩ := hR.2.1.2 j u hu
  have hlt := World.block_lt_of_cell? w _ hc
  refine ⟨a, ha, hab, (World.cell?_of_block (hg.block _ hlt (fun e => ?_))).trans hc⟩
  have e1 : (a.add j).block = h := by injection e
  obtain ⟨x, hx⟩ : ∃ x, u = bv x := by
    have hj := List.mem_of_getElem? hu
    obtain ⟨x, _, rfl⟩ := List.mem_map.1 hj
    exact ⟨x, rfl⟩
  subst hx
  have h1 : w.heap[(a.add j).block]? = some (.cells #[.slice A' n' c', .int .i64 (e' : Nat)] 105 (0, 0)) := by rw [e1]; exact hb
  unfold World.cell? at hc
  rw [h1] at hc
  simp only at hc
  split at hc
  · cases hc
  · generalize (a.add j).off = q at hc
    match q, hc with
    | 0, hc => simp at hc
    | 1, hc => simp at hc
    | q + 2, hc => simp at hc
/-- A reader's step: Int. -/
def IntDone (w : World) (g : Nat) (bs : List UInt8) (e : Nat) (r : Ending) (w' : World) : Prop :=
  r = .returned (.int .i64 ((Vint.intM bs e).1 : Nat)) ∧ w.grownBy w' (some g) ∧ ∃ A' c', Rdr w' g A' (Vint.intM bs e).2.1.length c' (Vint.intM bs e).2.1 (Vint.intM bs e).2.2
/-- what Int's last statements leave: the result's own variable is read and stored again -/
theorem int_tail {w w2 : World} {g m : Nat} {A' : Option Addr} {n' c' : Nat} {bs' : List UInt8} {e' : Nat} (hlt : g < w.heap.size) (hr : Rdr w2 g A' n' c' bs' e') (hg : w.grownBy w2 (some g)) :
    w.grownBy (w2.setCell ⟨w.heap.size + 1, 0, none⟩ (.int .i64 m)) (some g) ∧ Rdr (w2.setCell ⟨w.heap.size + 1, 0, none⟩ (.int .i64 m)) g A' n' c' bs' e' :=
  ⟨only_new hg (by show _ ≤ w.heap.size + 1; omega) _, hr.below ((Below.refl _ _).setCell (by show _ ≤ w.heap.size + 1; omega) _)⟩
theorem int_any (g : Nat) (A : Option Addr) (n c : Nat) (bs : List UInt8) (e : Nat) (w : World) (hR : Rdr w g A n c bs e) :
    Calls Try.prog 54 #[.pointer (some ⟨g, 0, none⟩)] w (IntDone w g bs e) := by
  obtain rfl := hR.2.1.1
  have hlt := hR.lt
  have hmf : ∀ (fn : Fn) (first cap : Array Value) (w : World), (Instr.makeFunc fn first cap).run Try.prog w = .ok (.func fn first cap) w := fun _ _ _ _ => rfl
  have hck : ∀ args w, (callFunc 65 args).run Try.prog w = .ok (.enter 65 args) w := by
    intro args w
    simp [go_sem]
  obtain ⟨W, hW⟩ : ∃ W, W = (w.alloc (.cells #[.pointer (some ⟨g, 0, none⟩)] 87)).alloc (.cells #[.int .i64 0] 3) := ⟨_, rfl⟩
  have hBW : Below w.heap.size w W := by rw [hW]; exact ((Below.refl _ _).alloc (Nat.le_refl _) _).alloc (by simp) _
  have hRW : Rdr W g A bs.length c bs e := hR.below (hBW.mono (by omega))
  have q1 : Blk W w.heap.size 87 #[.pointer (some ⟨g, 0, none⟩)] := by rw [hW]; exact (Blk.new w _ _).alloc _
  have q2 : Blk W (w.heap.size + 1) 3 #[.int .i64 0] := by rw [hW]; have := Blk.new (w.alloc (.cells #[.pointer (some ⟨g, 0, none⟩)] 87)) 3 #[.int .i64 0]; simpa using this
  have q4 : W.heap.size = w.heap.size + 2 := by rw [hW]; simp
  have hGW : w.grownBy W (some g) := only_of_below hBW _
  have HW := Lib.hid hW
  have Q4 := Lib.hid q4
  clear hW q4
  by_cases he : e = 0
  · subst he
    have y1 := (readW_below W g A bs.length c)
    have y2 := hRW.below (y1.mono (by have := Q4.out; omega))
    have y3 := q1.below y1 q1.lt
    have y4 := q2.below y1 q2.lt
    have y6 : w.grownBy (readW W g A bs.length c) (some g) := only_of_below (hBW.trans (y1.mono (by have := Q4.out; omega))) _
    have hne : some g ≠ some (w.heap.size + 1) := fun e => by injection e; omega
    rcases hd : Vint.dec bs with x | ⟨m, rest⟩
    · have hI := Vint.intM_bad hd
      have HI := Lib.hid hI
      have HD := Lib.hid hd
      clear hI hd
      go_enter Try.func54, Try.ntmps54
      go_wp2_with fail
      rw [← HW.out]
      refine (reading_any g _ _ A _ c bs W hRW _ hck (int1_bad g _ _ x A _ c bs _ y2 HD.out (y3.cell 0)) ?_).mono ?_
      · rintro e' w1 ⟨rfl, A', n', c', rest, z1, z2, z3⟩
        exact .inr ⟨_, A', n', c', rest, rfl, z1, z3⟩
      rintro e' w2 ⟨rfl, hr⟩
      rcases hr with ⟨h, _⟩ | ⟨x', w1, ⟨hx, A', n', c', rest, z1, z2, z3⟩, rfl⟩
      · cases h
      · obtain rfl : x' = x := by injection hx with h; injection h with h; injection h with h; injection h with _ h; injection h with h; injection h with h; injection h with h; injection h
        have c1 := (backW_blk (y4.grown z1 hne) (fun e => hne (by rw [e])) A bs.length c x)
        have r2 : Rdr (backW w1 g A bs.length c x) g A bs.length c bs x := backW_rdr z3 (Rdr.only y2.2.1 z1 y2.lt) hR.2.2.1 hR.2.2.2 x
        have g2 := backW_only (y6.trans z1) A bs.length c x
        generalize backW w1 g A bs.length c x = w2 at *
        have c2 := c1.cell 0
        have c3 := c1.free 0
        have HT := Lib.hid (int_tail (m := 0) hlt r2 g2)
        go_wp2_with fail
        refine bodyPost_ret (v := .int .i64 0) (by simp [results, Try.results54, go_sem, c2]) rfl ?_
        unfold IntDone
        rw [HI.out]
        exact ⟨rfl, HT.out.1, A, c, HT.out.2⟩
    · have hI := Vint.intM_ok hd
      have HI := Lib.hid hI
      have HD := Lib.hid hd
      clear hI hd
      go_enter Try.func54, Try.ntmps54
      go_wp2_with fail
      rw [← HW.out]
      refine (reading_any g _ _ A _ c bs W hRW _ hck (int1_ok g _ _ m A _ c bs rest _ _ y2 HD.out (y3.cell 0) (y4.cell 0) (y4.free 0) (fun e => hne (by rw [e]))) ?_).mono ?_
      · rintro e' w1 ⟨rfl, h⟩
        exact .inl rfl
      rintro e' w2 ⟨rfl, hr⟩
      rcases hr with ⟨_, w1, A', c', z1, z2, z3, rfl⟩ | ⟨x', w1, ⟨hx, _⟩, rfl⟩
      · have c1 := (y4.grown z1 hne).set_ 0 (.int .i64 m)
        have ht := int_tail (m := m) hlt z3 (y6.trans z1)
        obtain ⟨t1, t2⟩ := ht
        generalize w1.setCell ⟨w.heap.size + 1, 0, none⟩ (.int .i64 m) = w2 at *
        have c2 := c1.cell 0
        have c3 := c1.free 0
        have HT := Lib.hid (int_tail (m := m) hlt t2 t1)
        go_wp2_with fail
        refine bodyPost_ret (v := .int .i64 m) (by simp [results, Try.results54, go_sem, c2]) rfl ?_
        unfold IntDone
        rw [HI.out]
        exact ⟨rfl, HT.out.1, A', c', HT.out.2⟩
      · cases hx
  · have hI := Vint.intM_fail (l := bs) he
    have HI := Lib.hid hI
    clear hI
    go_enter Try.func54, Try.ntmps54
    go_wp2_with fail
    rw [← HW.out]
    refine (reading_fail g e A _ c bs W hRW he _).mono ?_
    rintro e' w2 ⟨rfl, hb2⟩
    have c1 := q2.below hb2 q2.lt
    have r2 := hRW.below (hb2.mono (by have := Q4.out; omega))
    have g2 : w.grownBy w2 (some g) := only_of_below (hBW.trans (hb2.mono (by have := Q4.out; omega))) _
    have c2 := c1.cell 0
    have c3 := c1.free 0
    have HT := Lib.hid (int_tail (m := 0) hlt r2 g2)
    go_wp2_with fail
    refine bodyPost_ret (v := .int .i64 0) (by simp [results, Try.results54, go_sem, c2]) rfl ?_
    unfold IntDone
    rw [HI.out]
    exact ⟨rfl, HT.out.1, A, c, HT.out.2⟩
end Go.Proofs.Ytacmdkjodnaohaa

/- The walk of vint.Reader's Fail. -/
namespace Go.Proofs.Ytacmdkjodnaohaa
open Go.RowKit
theorem grown_refl0 (w : World) (row : Option Nat) : w.grownBy w row := ⟨rfl, rfl, rfl, Nat.le_refl _, fun _ _ _ => rfl⟩
theorem fail1_any (b x : Nat) (hx : x ≠ 0) (w : World) (h : w.cell? ⟨b, 0, none⟩ = some (.int .i64 (x : Nat))) :
    Calls Try.prog 67 #[.pointer (some ⟨b, 0, none⟩)] w fun e w' => e = .panicked [{ v := fault (x : Nat), recovered := false }] ∧ w = w' := by
  have hd : (((x : Nat) : Int) != 0) = true := by rw [bne_iff_ne]; omega
  go_enter Try.func67, Try.ntmps67
  go_wp2
  exact ⟨rfl, rfl, rfl⟩
/-- what Fail leaves -/
def FailDone (w : World) (g x : Nat) (bs : List UInt8) (e : Nat) (r : Ending) (w' : World) : Prop :=
  r = .returned (.tuple #[]) ∧ w.grownBy w' (some g) ∧ ∃ A' c', Rdr w' g A' bs.length c' bs (if e = 0 then x else e)
theorem fail_any (g x : Nat) (hx : x ≠ 0) (A : Option Addr) (n c : Nat) (bs : List UInt8) (e : Nat) (w : World) (hR : Rdr w g A n c bs e) :
    Calls Try.prog 55 #[.pointer (some ⟨g, 0, none⟩), .int .i64 (x : Nat)] w (FailDone w g x bs e) := by
  unfold FailDone
  obtain rfl := hR.2.1.1
  have hlt := hR.lt
  have hmf : ∀ (fn : Fn) (first cap : Array Value) (w : World), (Instr.makeFunc fn first cap).run Try.prog w = .ok (.func fn first cap) w := fun _ _ _ _ => rfl
  have hck : ∀ args w, (callFunc 67 args).run Try.prog w = .ok (.enter 67 args) w := by
    intro args w
    simp [go_sem]
  obtain ⟨W, hW⟩ : ∃ W, W = w.alloc (.cells #[.int .i64 (x : Nat)] 32) := ⟨_, rfl⟩
  have hBW : Below w.heap.size w W := by rw [hW]; exact (Below.refl _ _).alloc (Nat.le_refl _) _
  have hRW : Rdr W g A bs.length c bs e := hR.below (hBW.mono (by omega))
  have q1 : Blk W w.heap.size 32 #[.int .i64 (x : Nat)] := by rw [hW]; exact Blk.new w _ _
  have q4 : W.heap.size = w.heap.size + 1 := by rw [hW]; simp
  have HW := Lib.hid hW
  have Q4 := Lib.hid q4
  clear hW q4
  by_cases he : e = 0
  · subst he
    rw [if_pos rfl]
    have y1 := (readW_below W g A bs.length c)
    have y2 := hRW.below (y1.mono (by have := Q4.out; omega))
    have y3 := q1.below y1 q1.lt
    have y6 : w.grownBy (readW W g A bs.length c) (some g) := only_of_below (hBW.trans (y1.mono (by have := Q4.out; omega))) _
    go_enter Try.func55, Try.ntmps55
    go_wp2_with fail
    rw [← HW.out]
    refine (reading_any g _ _ A _ c bs W hRW _ hck (fail1_any _ x hx _ (y3.cell 0)) ?_).mono ?_
    · rintro e' w1 ⟨rfl, rfl⟩
      exact .inr ⟨_, A, bs.length, c, bs, rfl, grown_refl0 _ _, y2⟩
    rintro e' w2 ⟨rfl, hr⟩
    rcases hr with ⟨h, _⟩ | ⟨x', w1, ⟨hx', rfl⟩, rfl⟩
    · cases h
    · obtain rfl : x' = x := by injection hx' with h; injection h with h; injection h with h; injection h with _ h; injection h with h; injection h with h; injection h with h; injection h
      have r2 : Rdr (backW (readW W g A bs.length c) g A bs.length c x) g A bs.length c bs x := backW_rdr y2 y2.2.1 hR.2.2.1 hR.2.2.2 x
      have g2 := backW_only y6 A bs.length c x
      generalize backW (readW W g A bs.length c) g A bs.length c x = w2 at *
      go_wp2_with fail
      go_end0
      exact ⟨rfl, g2, A, c, r2⟩
  · rw [if_neg he]
    go_enter Try.func55, Try.ntmps55
    go_wp2_with fail
    rw [← HW.out]
    refine (reading_fail g e A _ c bs W hRW he _).mono ?_
    rintro e' w2 ⟨rfl, h2⟩
    have r2 := hRW.below (h2.mono (by have := Q4.out; omega))
    have g2 : w.grownBy w2 (some g) := only_of_below (hBW.trans (h2.mono (by have := Q4.out; omega))) _
    go_wp2_with fail
    go_end0
    exact ⟨rfl, g2, A, c, r2⟩
end Go.Proofs.Ytacmdkjodnaohaa

/- The walk of the reference of layer 2: Put. -/
namespace Go.Proofs.Ytacmdkjodnaohaa
open Go.RowKit

theorem rput_bad (A : Option Addr) (n c : Nat) (x : Int) (w : World) (hx : x < 0 ∨ 1099511627776 < x) :
    Calls Try.prog 52 #[.slice A n c, .int .i64 x] w fun e w' => e = .returned (.tuple #[.slice none 0 0, .int .i64 2]) ∧ w = w' := by
  rcases hx with hx | hx
  · have hd : decide (x < 0) = true := decide_eq_true (by omega)
    go_enter Try.func52, Try.ntmps52
    go_wp2_with fail
    go_ret2
    exact ⟨rfl, rfl⟩
  · have hd : decide (x < 0) = false := decide_eq_false (by omega)
    have hd1 : decide (1099511627776 < x) = true := decide_eq_true (by omega)
    go_enter Try.func52, Try.ntmps52
    go_wp2_with fail
    go_ret2
    exact ⟨rfl, rfl⟩
theorem u8_ref (m : Nat) : IntKind.u8.wrap (128 + (m : Int) % 128) = ((UInt8.ofNat (m % 128 + 128)).toNat : Int) := by
  rw [IntKind.wrap_u8', Vint.toNat_ofNat]; omega
set_option maxRecDepth 100000 in
theorem rput_ok (A : Option Addr) (n c : Nat) (bs : List UInt8) (x : Nat) (B : Nat) (w : World) (hb : RdB w B A n bs) (hB : B ≤ w.heap.size) (hl : n ≤ 140737488355000) (hx : x ≤ 1099511627776) :
    Calls Try.prog 52 #[.slice A n c, .int .i64 x] w (GiveBE w (bs ++ Vint.enc x) 0) := by
  have hd : decide ((x : Int) < 0) = false := decide_eq_false (by omega)
  have hd1 : decide (1099511627776 < (x : Int)) = false := decide_eq_false (by omega)
  go_enter Try.func52, Try.ntmps52
  go_wp2_with (at_builtin; refine wpList_appB rfl (.tmp 13) (.tmp 14) rfl rfl (OwnB.made w w.heap.size [] #[] 0 rfl rfl (Nat.le_refl _) (Nat.zero_le _)) rfl (hb.alloc hB _) (by omega) (by simp) ?_)
  intro A1 c1 w1 ho _ _ hbl0
  have hbl : Below w.heap.size w w1 := ((Below.refl _ _).alloc (Nat.le_refl _) _).trans hbl0
  clear hd hd1 hbl0
  have hn1 := ho.1
  have hl1 : bs.length ≤ 140737488355000 := by rw [← hb.1]; exact hl
  have HN1 := Lib.hid hn1
  clear hn1
  go_wp2_with fail
  go_loopw [1, 6] (fun i v wr => ∃ (m f : Nat) (pre : List UInt8) (A' : Option Addr) (n' c' : Nat), i = .int .i64 m ∧ v = .slice A' n' c' ∧ m < 128 ^ (f + 1) ∧ f ≤ 5 ∧ m ≤ 1099511627776 ∧ pre.length + f ≤ 5 ∧ pre ++ Vint.encF f m = Vint.enc x ∧
      OwnB wr w.heap.size A' n' c' (bs ++ pre) ∧ Below w.heap.size w wr) (fun i _ _ => (intOf i).toNat)
  case atStart => exact ⟨x, 5, [], A1, _, c1, rfl, rfl, by have : (128 : Nat) ^ 6 = 4398046511104 := by decide
                                                           show x < 128 ^ 6; omega, by omega, hx, by simp, rfl, by simpa using ho, hbl⟩
  case round =>
    obtain ⟨m, f, pre, A', n', c', rfl, rfl, hm, hf5, hmt, hpf, hpre, hown, hbel⟩ := hrel
    have hlen := hown.1
    rw [List.length_append] at hlen
    have hln : n' ≤ 140737488355005 := by omega
    have HL := Lib.hid hlen
    have HP := Lib.hid hpre
    clear hlen hpre
    by_cases hge : 128 ≤ m
    · have hf : 1 ≤ f := by
        rcases Nat.eq_zero_or_pos f with h0 | h0
        · subst h0; simp at hm; omega
        · exact h0
      obtain ⟨f, rfl⟩ : ∃ f', f = f' + 1 := ⟨f - 1, by omega⟩
      have a1 := u8_ref m
      go_wp2_with (at_builtin; refine wpList_appB rfl (.tmp 18) (.tmp 23) rfl rfl (hown.alloc _) rfl (RdB.made _ [UInt8.ofNat (m % 128 + 128)] _ _ _ ?hx1) ?hx0 ?hx2 ?_)
      case hx0 => show n' + 1 ≤ _; omega
      case hx2 => have := hbel.size; simp; omega
      intro A2 c2 w3 ho2 _ _ hbl2
      have hbel3 : Below w.heap.size w w3 := (hbel.alloc hbel.size _).trans hbl2
      go_wp2_with fail
      go_roundw
      case rel =>
        refine ⟨m / 128, f, pre ++ [UInt8.ofNat (m % 128 + 128)], _, _, _, rfl, rfl, ?_, by omega, by omega, by simp; omega, ?_, by simpa using ho2, hbel3⟩
        · rw [Nat.pow_succ] at hm; omega
        · rw [← HP.out]
          conv => rhs; unfold Vint.encF
          rw [if_neg (by omega)]; simp
      case measure => simp [intOf]; omega
    · have a1 := u8_byte m
      go_wp2_with (at_builtin; refine wpList_appB rfl (.tmp 27) (.tmp 30) rfl rfl (hown.alloc _) rfl (RdB.made _ [UInt8.ofNat m] _ _ _ ?hy1) ?hy0 ?hy2 ?_)
      case hy0 => show n' + 1 ≤ _; omega
      case hy2 => have := hbel.size; simp; omega
      intro A2 c2 w3 ho2 _ _ hbl2
      have hbel3 : Below w.heap.size w w3 := (hbel.alloc hbel.size _).trans hbl2
      go_wp2_with fail
      go_ret2
      refine ⟨_, _, _, rfl, ?_, hbel3⟩
      have e : Vint.encF f m = [UInt8.ofNat m] := by
        cases f with
        | zero => rfl
        | succ f => unfold Vint.encF; rw [if_pos (by omega)]
      rw [← HP.out, e]
      simpa using ho2

end Go.Proofs.Ytacmdkjodnaohaa

/- The walk of the document's reader's Int. -/
namespace Go.Proofs.Ytacmdkjodnaohaa
open Go.RowKit
namespace Vint
theorem decF_nil {i n : Nat} (hi : i < 6) : decF (6 - i) i n [] = .error 3 := by
  obtain ⟨k, hk⟩ : ∃ k, 6 - i = k + 1 := ⟨5 - i, by omega⟩
  rw [hk]; rfl
theorem decF_more {i n : Nat} (hi : i < 6) {c : UInt8} (r : List UInt8) (hc : 128 ≤ c.toNat) : decF (6 - i) i n (c :: r) = decF (6 - (i + 1)) (i + 1) (n + (c.toNat % 128) * 128 ^ i) r := by
  obtain ⟨k, hk⟩ : ∃ k, 6 - i = k + 1 := ⟨5 - i, by omega⟩
  rw [hk, show 6 - (i + 1) = k by omega]
  conv => lhs; unfold decF
  rw [if_pos hc]
theorem decF_bad {i n : Nat} (hi : i < 6) {c : UInt8} (r : List UInt8) (hc : c.toNat < 128) (h : top < n + c.toNat * 128 ^ i ∨ (c.toNat = 0 ∧ 0 < i)) : decF (6 - i) i n (c :: r) = .error 4 := by
  obtain ⟨k, hk⟩ : ∃ k, 6 - i = k + 1 := ⟨5 - i, by omega⟩
  rw [hk]
  unfold decF
  rw [if_neg (by omega), if_pos h]
theorem decF_good {i n : Nat} (hi : i < 6) {c : UInt8} (r : List UInt8) (hc : c.toNat < 128) (h1 : n + c.toNat * 128 ^ i ≤ top) (h2 : c.toNat ≠ 0 ∨ i = 0) : decF (6 - i) i n (c :: r) = .ok (n + c.toNat * 128 ^ i, r) := by
  obtain ⟨k, hk⟩ : ∃ k, 6 - i = k + 1 := ⟨5 - i, by omega⟩
  rw [hk]
  unfold decF
  rw [if_neg (by omega), if_neg (by omega)]
theorem pow128 {i : Nat} (hi : i < 6) : 1 ≤ 128 ^ i ∧ 128 ^ i ≤ 34359738368 := by
  match i, hi with
  | 0, _ => decide
  | 1, _ => decide
  | 2, _ => decide
  | 3, _ => decide
  | 4, _ => decide
  | 5, _ => decide
end Vint
/-- The document's reader: its bytes, where it is, its error. -/
def RRd (w : World) (g : Nat) (A : Option Addr) (n c at' e : Nat) : Prop := Blk w g 94 #[.slice A n c, .int .i64 (at' : Nat), .int .i64 (e : Nat)]
/-- What Int leaves. -/
def RInt (w : World) (g : Nat) (A : Option Addr) (n c at' : Nat) (bs : List UInt8) (e : Ending) (w' : World) : Prop :=
  w.grownBy w' (some g) ∧ match Vint.dec (bs.drop at') with
    | .ok (m, r) => e = .returned (.int .i64 (m : Nat)) ∧ RRd w' g A n c (n - r.length) 0
    | .error x => e = .returned (.int .i64 0) ∧ RRd w' g A n c at' x
theorem RInt.good {w w' : World} {g : Nat} {A : Option Addr} {n c at' : Nat} {bs : List UInt8} {e : Ending} {m : Nat} {r : List UInt8} (hd : Vint.dec (bs.drop at') = .ok (m, r)) (he : e = .returned (.int .i64 (m : Nat))) (hr : RRd w' g A n c (n - r.length) 0) (hg : w.grownBy w' (some g)) : RInt w g A n c at' bs e w' := by
  refine ⟨hg, ?_⟩
  rw [hd]
  exact ⟨he, hr⟩
theorem RInt.bad {w w' : World} {g : Nat} {A : Option Addr} {n c at' : Nat} {bs : List UInt8} {e : Ending} {x : Nat} (hd : Vint.dec (bs.drop at') = .error x) (he : e = .returned (.int .i64 0)) (hr : RRd w' g A n c at' x) (hg : w.grownBy w' (some g)) : RInt w g A n c at' bs e w' := by
  refine ⟨hg, ?_⟩
  rw [hd]
  exact ⟨he, hr⟩
theorem rint_fail (g : Nat) (A : Option Addr) (n c at' e : Nat) (w : World) (hR : RRd w g A n c at' e) (he : e ≠ 0) :
    Calls Try.prog 68 #[.pointer (some ⟨g, 0, none⟩)] w fun r w' => r = .returned (.int .i64 0) ∧ w = w' := by
  have c2 : w.cell? ⟨g, 2, none⟩ = some (.int .i64 (e : Nat)) := hR.cell 2
  have hq : ((e : Int) != 0) = true := by rw [bne_iff_ne]; omega
  go_enter Try.func68, Try.ntmps68
  go_wp2_with fail
  go_ret
  exact ⟨rfl, rfl⟩
set_option maxRecDepth 100000 in
set_option maxHeartbeats 1000000 in
theorem rint_any (g : Nat) (A : Option Addr) (n c at' : Nat) (bs : List UInt8) (B : Nat) (w : World) (hR : RRd w g A n c at' 0) (hb : RdB w B A n bs) (ha : at' ≤ n) (hn : n ≤ 1000000000000) :
    Calls Try.prog 68 #[.pointer (some ⟨g, 0, none⟩)] w (RInt w g A n c at' bs) := by
  have c0 : w.cell? ⟨g, 0, none⟩ = some (.slice A n c) := hR.cell 0
  have c1 : w.cell? ⟨g, 1, none⟩ = some (.int .i64 (at' : Nat)) := hR.cell 1
  have c2 : w.cell? ⟨g, 2, none⟩ = some (.int .i64 0) := hR.cell 2
  have f1 := hR.free 1
  have f2 := hR.free 2
  obtain rfl := hb.1
  go_enter Try.func68, Try.ntmps68
  go_wp2_with fail
  go_loopw [3, 4, 5, 6] (fun v p s j wr => ∃ (i m nn P : Nat), i ≤ 6 ∧ j = .int .i64 i ∧ v = .int .i64 nn ∧ p = .int .i64 P ∧ s = .int .i64 0 ∧ P = 128 ^ i ∧ nn < P ∧ at' + i ≤ bs.length ∧ Vint.dec (bs.drop at') = Vint.decF (6 - i) i nn (bs.drop (at' + i)) ∧ wr = w.drewN m) (fun _ _ _ j _ => 6 - (intOf j).toNat)
  case atStart => exact ⟨0, 0, 0, 1, by omega, rfl, rfl, rfl, rfl, rfl, by omega, ha, rfl, rfl⟩
  case round =>
    obtain ⟨i, m, nn, P, hi, rfl, rfl, rfl, rfl, hP, hnn, hai, hdec, rfl⟩ := hrel
    have HP := Lib.hid hP
    have HD := Lib.hid hdec
    clear hP hdec
    obtain ⟨q, hq⟩ : ∃ q, at' + i = q := ⟨_, rfl⟩
    by_cases h6 : i < 6
    · have hPb := Vint.pow128 h6
      rw [← HP.out] at hPb
      have hP1 := hPb.1
      have hP2 := hPb.2
      clear hPb
      have ew : IntKind.i64.wrap ((at' : Int) + (i : Int)) = (q : Int) := by rw [IntWalk.i64_in _ (by omega)]; omega
      by_cases hql : q < bs.length
      · obtain ⟨a, rfl, _, hcell⟩ := hb.at_ hql
        obtain ⟨x, hx⟩ : ∃ x, x = bs[q] := ⟨_, rfl⟩
        rw [← hx] at hcell
        have hdr : bs.drop q = x :: bs.drop (q + 1) := by rw [hx]; exact List.drop_eq_getElem_cons hql
        have HDR := Lib.hid hdr
        have HQ := Lib.hid hq
        clear hx hdr hq
        have hxb := x.toNat_lt
        have hd6 : decide ((i : Int) < 6) = true := decide_eq_true (by omega)
        have hdq : decide (bs.length ≤ q) = false := decide_eq_false (by omega)
        obtain ⟨V, hV⟩ : ∃ V, V = x.toNat % 128 * P := ⟨_, rfl⟩
        have hVb : V ≤ 127 * P := by rw [hV]; exact Nat.mul_le_mul_right _ (by omega)
        have em : IntKind.i64.wrap ((x.toNat : Int) % 128 * (P : Int)) = (V : Int) := by
          have e : (x.toNat : Int) % 128 * (P : Int) = (V : Int) := by rw [hV]; push_cast; rfl
          rw [e, IntWalk.i64_in _ (by omega)]
        have HV := Lib.hid hV
        clear hV
        by_cases hc : 128 ≤ x.toNat
        · have hd : decide ((x.toNat : Int) < 128) = false := decide_eq_false (by omega)
          go_wp2_with fail
          go_quiet (fail)
          go_wp2_with fail
          go_quiet (fail)
          go_wp2_with fail
          go_roundw
          case rel =>
            refine ⟨i + 1, _, nn + V, P * 128, by omega, by go_num, by go_num, by go_num, rfl, by rw [HP.out, Nat.pow_succ], by omega, by have := HQ.out; omega, ?_, rfl⟩
            rw [HD.out, show at' + (i + 1) = q + 1 by have := HQ.out; omega, HQ.out, HDR.out, Vint.decF_more h6 _ hc, ← HP.out, ← HV.out]
          case measure => simp [intOf]; omega
        have hd : decide ((x.toNat : Int) < 128) = true := decide_eq_true (by omega)
        have hVx : V = x.toNat * P := by rw [HV.out, Nat.mod_eq_of_lt (by omega)]
        have HVX := Lib.hid hVx
        clear hVx
        obtain ⟨N, hN⟩ : ∃ N, N = nn + V := ⟨_, rfl⟩
        have eN : IntKind.i64.wrap ((nn : Int) + (V : Int)) = (N : Int) := by rw [IntWalk.i64_in _ (by omega)]; omega
        have HN := Lib.hid hN
        clear hN
        have hs0 : ((i : Int) + 1 == 0) = false := by rw [beq_eq_false_iff_ne]; omega
        by_cases hbig : Vint.top < N
        · have hdt : decide ((1099511627776 : Int) < (N : Int)) = true := decide_eq_true (by unfold Vint.top at hbig; omega)
          have hdec : Vint.dec (bs.drop at') = .error 4 := by
            rw [HD.out, HQ.out, HDR.out]
            exact Vint.decF_bad h6 _ (by omega) (.inl (by rw [← HP.out, ← HVX.out, ← HN.out]; exact hbig))
          have HDD := Lib.hid hdec
          clear hdec hbig
          go_wp2_with fail
          go_quiet (fail)
          go_wp2_with fail
          go_quiet (fail)
          go_wp2_with fail
          go_quiet (fail)
          go_wp2_with fail
          go_ret
          exact RInt.bad HDD.out rfl (hR.set_ 2 (.int .i64 4)) (only_set (only_drewN (World.grownBy.refl _ _) _) _)
        have hdt : decide ((1099511627776 : Int) < (N : Int)) = false := decide_eq_false (by unfold Vint.top at hbig; omega)
        obtain ⟨q1, hq1⟩ : ∃ q1, q1 = q + 1 := ⟨_, rfl⟩
        have e1 : IntKind.i64.wrap ((at' : Int) + ((i : Int) + 1)) = (q1 : Int) := by rw [IntWalk.i64_in _ (by omega)]; have := HQ.out; omega
        have e2 : IntKind.i64.wrap ((q1 : Int) - 1) = (q : Int) := by rw [IntWalk.i64_in _ (by omega)]; omega
        have hfin : bs.length - (bs.drop (q + 1)).length = q1 := by rw [List.length_drop]; omega
        have HF := Lib.hid hfin
        have HQ1 := Lib.hid hq1
        clear hfin hq1
        by_cases hgood : x.toNat ≠ 0 ∨ i = 0
        · have hdec : Vint.dec (bs.drop at') = .ok (N, bs.drop (q + 1)) := by
            rw [HD.out, HQ.out, HDR.out, HN.out, HVX.out, HP.out]
            exact Vint.decF_good h6 _ (by omega) (by rw [← HP.out, ← HVX.out, ← HN.out]; omega) hgood
          have HDD := Lib.hid hdec
          clear hdec hbig
          by_cases hi0 : i = 0
          · subst hi0
            clear hgood
            have hqa : at' = q := by have := HQ.out; omega
            subst hqa
            have e1' : IntKind.i64.wrap ((at' : Int) + 1) = (q1 : Int) := by rw [IntWalk.i64_in _ (by omega)]; have := HQ1.out; omega
            go_wp2_with fail
            go_quiet (fail)
            go_wp2_with fail
            go_quiet (fail)
            go_wp2_with fail
            go_quiet (fail)
            go_wp2_with fail
            go_ret
            have hs := hR.set_ 1 (.int .i64 (q1 : Nat))
            refine RInt.good HDD.out rfl ?_ (only_set (only_drewN (World.grownBy.refl _ _) _) _)
            rw [HF.out]
            exact hs
          · have hx0 : x.toNat ≠ 0 := by omega
            have hi1 : 0 < i := by omega
            have hi2 : decide ((1 : Int) < (i : Int) + 1) = true := decide_eq_true (by omega)
            have hi3 : decide (0 < (i : Int)) = true := decide_eq_true (by omega)
            have hi4 : decide (0 < i) = true := decide_eq_true (by omega)
            have hxq : ((x.toNat : Int) == 0) = false := by rw [beq_eq_false_iff_ne]; omega
            clear hgood
            go_wp2_with fail
            go_quiet (fail)
            go_wp2_with fail
            go_quiet (fail)
            go_wp2_with fail
            go_quiet (fail)
            go_wp2_with fail
            go_ret
            have hs := hR.set_ 1 (.int .i64 (q1 : Nat))
            refine RInt.good HDD.out rfl ?_ (only_set (only_drewN (World.grownBy.refl _ _) _) _)
            rw [HF.out]
            exact hs
        · have hx0 : x.toNat = 0 := by omega
          have hi1 : 0 < i := by omega
          have hi2 : decide ((1 : Int) < (i : Int) + 1) = true := decide_eq_true (by omega)
          have hi3 : decide (0 < (i : Int)) = true := decide_eq_true (by omega)
          have hi4 : decide (0 < i) = true := decide_eq_true (by omega)
          have hdec : Vint.dec (bs.drop at') = .error 4 := by
            rw [HD.out, HQ.out, HDR.out]
            exact Vint.decF_bad h6 _ (by omega) (.inr ⟨hx0, hi1⟩)
          have HDD := Lib.hid hdec
          have hxq : ((x.toNat : Int) == 0) = true := by rw [beq_iff_eq]; omega
          clear hdec hbig hgood hx0
          go_wp2_with fail
          go_quiet (fail)
          go_wp2_with fail
          go_quiet (fail)
          go_wp2_with fail
          go_quiet (fail)
          go_wp2_with fail
          go_ret
          exact RInt.bad HDD.out rfl (hR.set_ 2 (.int .i64 4)) (only_set (only_drewN (World.grownBy.refl _ _) _) _)
      · have hqe : bs.length ≤ q := by omega
        have hdec : Vint.dec (bs.drop at') = .error 3 := by
          rw [HD.out, List.drop_eq_nil_of_le (by omega), Vint.decF_nil h6]
        have HDD := Lib.hid hdec
        clear hdec hq
        have hd6 : decide ((i : Int) < 6) = true := decide_eq_true (by omega)
        have hdq : decide (bs.length ≤ q) = true := decide_eq_true (by omega)
        go_wp2_with fail
        go_quiet (fail)
        go_wp2_with fail
        go_ret
        exact RInt.bad HDD.out rfl (hR.set_ 2 (.int .i64 3)) (only_set (only_drewN (World.grownBy.refl _ _) _) _)
    · obtain rfl : i = 6 := by omega
      have hdec : Vint.dec (bs.drop at') = .error 4 := HD.out
      have HDD := Lib.hid hdec
      clear hdec hq
      go_wp2_with fail
      go_quiet (fail)
      go_wp2_with fail
      go_ret
      exact RInt.bad HDD.out rfl (hR.set_ 2 (.int .i64 4)) (only_set (only_drewN (World.grownBy.refl _ _) _) _)
end Go.Proofs.Ytacmdkjodnaohaa

/- The walk of the document's Put. -/
namespace Go.Proofs.Ytacmdkjodnaohaa
open Go.RowKit
open Dot
theorem encs_app (a b : List Int) : encs (a ++ b) = encs a ++ encs b := by unfold encs; rw [List.flatMap_append]
theorem encs_one (x : Int) : encs [x] = Vint.enc x.toNat := by simp [encs]
theorem encs_two (x y : Int) : encs [x, y] = Vint.enc x.toNat ++ Vint.enc y.toNat := by simp [encs]
set_option maxRecDepth 100000 in
set_option maxHeartbeats 2000000 in
theorem drput_any (U : List Int) (A0 : Option Addr) (n0 c0 : Nat) (l0 : List Dt) (w : World) (hU : U.length = 8) (hr : RdD w w.heap.size A0 n0 l0) :
    Calls Try.prog 30 #[.agg (uc U (.slice A0 n0 c0))] w (GiveBE w (if rightB U l0 = true then encs (putL U l0) else []) (if rightB U l0 = true then 0 else 2)) := by
  have HU := Lib.hid hU
  have HS := Lib.hid (uc_size hU (.slice A0 n0 c0))
  have hra := fun w' (hb : Below w.heap.size w w') => rright_any U hU A0 n0 c0 l0 w' ((hr.below hb).more hb.size)
  have hix := fun w (k : Nat) (hk : k < 8) => run_index8 w U hU k hk
  have HIX := Lib.hid hix
  have HUL := Lib.hid (show (U.map (Value.int .i64)).length = 8 by rw [List.length_map, hU])
  have HRA := Lib.hid hra
  clear hra hix
  have HN := Lib.hid hr.1
  obtain ⟨sc, hsc⟩ : ∃ sc, sc = uc U (.slice A0 n0 c0) := ⟨_, rfl⟩
  rw [← hsc] at HS HRA ⊢
  have HSC := Lib.hid hsc
  clear hsc
  obtain ⟨BS, hBS⟩ : ∃ BS, BS = if rightB U l0 = true then encs (putL U l0) else [] := ⟨_, rfl⟩
  obtain ⟨E, hE⟩ : ∃ E, E = if rightB U l0 = true then 0 else 2 := ⟨_, rfl⟩
  rw [← hBS, ← hE]
  have HBS := Lib.hid hBS
  have HE := Lib.hid hE
  clear hBS hE
  go_enter Try.func30, Try.ntmps30
  go_upto_region 1 with fail
  refine nameW ?_
  intro wv hwv
  obtain ⟨b, hb⟩ : ∃ b, b = w.heap.size := ⟨_, rfl⟩
  rw [← hb]
  have kb : Blk wv b 35 sc := by rw [hwv, hb]; exact Blk.new w _ _
  have gb : Below w.heap.size w wv := by rw [hwv]; exact (Below.refl _ _).alloc (Nat.le_refl _) _
  have hbw : w.heap.size ≤ b := by omega
  clear hwv hb
  go_wp2_with ((with_reducible refine wpList_ld rowRS kb HS.out ?_ ?_); rotate_left; (rfl))
  refine (HRA.out _ gb).mono ?_
  rintro e w1 ⟨rfl, h1⟩
  replace gb := gb.trans (h1.mono gb.size)
  replace kb := kb.below h1 kb.lt
  clear h1 wv
  rename World => wv
  cases hright : rightB U l0
  case false =>
    have hBS2 : BS = [] := by rw [HBS.out, hright]; rfl
    have hE2 : E = 2 := by rw [HE.out, hright]; rfl
    clear HRA HBS HE
    subst hBS2 hE2
    go_wp2_with fail
    go_ret2
    exact ⟨none, 0, 0, rfl, OwnB.nil _ _, gb⟩
  case true =>
  have hBS2 : BS = encs (putL U l0) := by rw [HBS.out, hright]; rfl
  have hE2 : E = 0 := by rw [HE.out, hright]; rfl
  clear HBS HE
  have HBS := Lib.hid hBS2
  clear hBS2
  subst hE2
  have hbd := putL_bd hright
  have hbe := (right_iff _ _).1 hright
  have hn7 : n0 ≤ 768 := by rw [HN.out]; exact hbe.2.1
  have hub : ∀ x ∈ U, 0 ≤ x ∧ x ≤ 1099511627776 := fun x hx => hbd x (by unfold putL; simp [hx])
  have hnb : ∀ x ∈ nums l0, 0 ≤ x ∧ x ≤ 1099511627776 := fun x hx => hbd x (by unfold putL; simp [hx])
  have HUB := Lib.hid hub
  have HNB := Lib.hid hnb
  clear hbd hbe hright HRA hub hnb
  have hrv := hr.below gb
  have t8 : wv.cell? ⟨b, 8, none⟩ = some (.slice A0 n0 c0) := (kb.cell 8).trans (by rw [HSC.out]; exact uc_last HU.out _)
  have hbv := kb.lt
  rw [HSC.out] at kb
  have hrg := uc_range kb
  have T8 := Lib.hid t8
  clear hr kb t8
  go_upto_region 4 with fail
  go_upto_region 5 with ((with_reducible refine wpList_ldm row8 hrg HUL.out ?_ ?_); rotate_left; (rfl))
  rw [show (U.map (Value.int .i64)).toArray = uI U from rfl]
  clear hrg
  obtain ⟨wo, rfl⟩ : ∃ wo, wo = wv := ⟨_, rfl⟩
  go_loopw [4, 14] (fun t i wr => ∃ (j : Nat) (A : Option Addr) (nb cb : Nat), j ≤ 8 ∧ i = .int .i64 j ∧ t = .slice A nb cb ∧ OwnB wr wo.heap.size A nb cb (encs (U.take j)) ∧ Below wo.heap.size wo wr) (fun _ i _ => 8 - (intOf i).toNat)
  case atStart => exact ⟨0, none, 0, 0, by omega, rfl, rfl, OwnB.nil _ _, Below.refl _ _⟩
  case round =>
  obtain ⟨j, A, nb, cb, hj, rfl, rfl, ob, bl⟩ := hrel
  by_cases hlt : j < 8
  case pos =>
    have hjl : j < U.length := by rw [HU.out]; exact hlt
    have hx1 := fun w => HIX.out w j hlt
    have hgd : U.getD j 0 = U[j] := by rw [List.getD_eq_getElem?_getD, List.getElem?_eq_getElem hjl]; rfl
    simp only [hgd] at hx1
    have hxb := HUB.out _ (List.getElem_mem hjl)
    have hes := encs_snoc U hjl
    have HES := Lib.hid hes
    have hel := encs_len (U.take j)
    have hnb : nb ≤ 48 := by
      have h1 := ob.1
      have h2 : (U.take j).length ≤ j := List.length_take_le _ _
      omega
    clear hes hel hgd
    generalize U[j] = x at *
    obtain ⟨x, rfl⟩ := Int.eq_ofNat_of_zero_le hxb.1
    rw [Int.toNat_natCast] at HES
    have hkd : decide ((j : Int) < 8) = true := decide_eq_true (by omega)
    go_wp2_with fail
    refine (rput_ok A nb cb _ x wr.heap.size wr ob.rd (Nat.le_refl _) (by omega) (by omega)).mono ?_
    rintro e w4 ⟨A4, n4, c4, rfl, o4, b4⟩
    have O4 : OwnB w4 wo.heap.size A4 n4 c4 (encs (U.take (j + 1))) := by rw [HES.out]; exact o4.mono bl.size
    have B4 := bl.trans (b4.mono bl.size)
    have HO := Lib.hid O4
    clear O4 o4 b4 ob bl
    go_wp2_with fail
    go_roundw
    case rel => exact ⟨j + 1, A4, n4, c4, by omega, by go_num, rfl, HO.out, B4⟩
    case measure => simp [intOf]; omega
  case neg =>
  obtain rfl : j = 8 := by omega
  rw [show U.take 8 = U from List.take_of_length_le (by rw [HU.out]; exact Nat.le_refl _)] at ob
  have hnb : nb ≤ 48 := by
    have h1 := ob.1
    have h2 := encs_len U
    rw [HU.out] at h2
    omega
  have t8 : wr.cell? ⟨b, 8, none⟩ = some (.slice A0 n0 c0) := (bl.cell (p := ⟨b, 8, none⟩) hbv).trans T8.out
  go_wp2_with fail
  refine (rput_ok A nb cb _ n0 wr.heap.size wr ob.rd (Nat.le_refl _) (by omega) (by omega)).mono ?_
  rintro e w4 ⟨A4, n4, c4, rfl, o4, b4⟩
  have O4 : OwnB w4 wo.heap.size A4 n4 c4 (encs (U ++ [((n0 : Nat) : Int)] ++ nums (l0.take 0))) := by
    rw [encs_app, encs_app, encs_one, Int.toNat_natCast, show encs (nums (l0.take 0)) = [] from rfl, List.append_nil]
    exact o4.mono bl.size
  have B4 := bl.trans (b4.mono bl.size)
  have t84 : w4.cell? ⟨b, 8, none⟩ = some (.slice A0 n0 c0) := (B4.cell (p := ⟨b, 8, none⟩) hbv).trans T8.out
  have hUl := HU.out
  clear o4 b4 ob bl t8 hnb
  go_wp2_with fail
  clear t84
  go_loopw [4, 35] (fun t i wr => ∃ (k : Nat) (A : Option Addr) (nb cb : Nat), k ≤ n0 ∧ i = .int .i64 k ∧ t = .slice A nb cb ∧ OwnB wr wo.heap.size A nb cb (encs (U ++ [((n0 : Nat) : Int)] ++ nums (l0.take k))) ∧ Below wo.heap.size wo wr) (fun _ i _ => n0 - (intOf i).toNat)
  case atStart => exact ⟨0, A4, n4, c4, by omega, rfl, rfl, O4, B4⟩
  case round =>
    clear O4 B4
    obtain ⟨k, A, nb, cb, hk, rfl, rfl, ob, bl⟩ := hrel
    by_cases hlt : k < n0
    · have hkl : k < l0.length := by rw [← HN.out]; exact hlt
      obtain ⟨ad, rfl, hdt⟩ := (hrv.below (bl.mono gb.size)).2 k _ (List.getElem?_eq_getElem hkl)
      have hsn : nums (l0.take (k + 1)) = nums (l0.take k) ++ [l0[k].1, l0[k].2] := by rw [take_snoc l0 hkl, nums_snoc]
      have hm1 : l0[k].1 ∈ nums l0 := by unfold nums; rw [List.mem_flatMap]; exact ⟨_, List.getElem_mem hkl, by simp⟩
      have hm2 : l0[k].2 ∈ nums l0 := by unfold nums; rw [List.mem_flatMap]; exact ⟨_, List.getElem_mem hkl, by simp⟩
      have hx1 := HNB.out _ hm1
      have hx2 := HNB.out _ hm2
      have hel := encs_len (U ++ [((n0 : Nat) : Int)] ++ nums (l0.take k))
      have hnb : nb ≤ 15000 := by
        have h1 := ob.1
        rw [List.length_append, List.length_append, nums_len, HU.out] at hel
        have h2 : (l0.take k).length ≤ k := List.length_take_le _ _
        rw [List.length_singleton] at hel
        omega
      clear hm1 hm2 hel
      generalize l0[k] = d at *
      obtain ⟨x, q⟩ := d
      obtain ⟨q5, q0, q1⟩ := hdt
      simp only at q0 q1 hsn hx1 hx2
      obtain ⟨x, rfl⟩ := Int.eq_ofNat_of_zero_le hx1.1
      obtain ⟨q, rfl⟩ := Int.eq_ofNat_of_zero_le hx2.1
      have HSN := Lib.hid hsn
      clear hsn
      obtain ⟨wn, hwn⟩ : ∃ wn, wn = wr.alloc (.cells #[.int .i64 (x : Nat), .int .i64 (q : Nat)] 27) := ⟨_, rfl⟩
      obtain ⟨gd, hgd⟩ : ∃ gd, gd = wr.heap.size := ⟨_, rfl⟩
      have kn : Blk wn gd 27 #[.int .i64 (x : Nat), .int .i64 (q : Nat)] := by rw [hwn, hgd]; exact Blk.new wr _ _
      have o1 : OwnB wn wo.heap.size A nb cb (encs (U ++ [((n0 : Nat) : Int)] ++ nums (l0.take k))) := by rw [hwn]; exact ob.alloc _
      have b1 : Below wo.heap.size wo wn := by rw [hwn]; exact bl.alloc bl.size _
      have HW := Lib.hid hwn
      have HGD := Lib.hid hgd
      have hk0 : (0 : Int) ≤ (k : Int) := by omega
      have hk1 : (k : Int) < (n0 : Int) := by omega
      clear hwn hgd ob bl
      go_upto_region 13 with fail
      rw [← HW.out, ← HGD.out]
      have t0 : wn.cell? ⟨gd, 0, none⟩ = some (.int .i64 (x : Nat)) := kn.cell 0
      clear q0 q1 q5
      go_wp2_with fail
      refine (rput_ok A nb cb _ x wn.heap.size wn o1.rd (Nat.le_refl _) (by omega) (by omega)).mono ?_
      rintro e w4 ⟨A4, n4, c4, rfl, o4, b4⟩
      have kn4 := kn.below b4 kn.lt
      have t1 : w4.cell? ⟨gd, 1, none⟩ = some (.int .i64 (q : Nat)) := kn4.cell 1
      have hn4 : n4 ≤ 15010 := by
        have h1 := o4.1
        have h2 := o1.1
        have h3 := Vint.enc_length x
        rw [List.length_append] at h1
        omega
      have bw4 := b1.trans (b4.mono b1.size)
      clear kn b4 t0 o1
      go_wp2_with fail
      refine (rput_ok A4 n4 c4 _ q w4.heap.size w4 o4.rd (Nat.le_refl _) (by omega) (by omega)).mono ?_
      rintro e w5 ⟨A5, n5, c5, rfl, o5, b5⟩
      have O5 : OwnB w5 wo.heap.size A5 n5 c5 (encs (U ++ [((n0 : Nat) : Int)] ++ nums (l0.take (k + 1)))) := by
        rw [HSN.out, ← List.append_assoc, encs_app, encs_two, Int.toNat_natCast, Int.toNat_natCast, ← List.append_assoc]
        exact o5.mono bw4.size
      have B5 := bw4.trans (b5.mono bw4.size)
      have HO := Lib.hid O5
      clear O5 o5 b5 t1 kn4 o4 bw4 b1
      go_wp2_with fail
      go_roundw
      case rel => exact ⟨k + 1, A5, n5, c5, by omega, by go_num, rfl, HO.out, B5⟩
      case measure => simp [intOf]; omega
    · obtain rfl : k = n0 := by omega
      rw [List.take_of_length_le (l := l0) (by have := HN.out; omega)] at ob
      go_wp2_with fail
      go_ret2
      exact ⟨A, nb, cb, rfl, by rw [HBS.out]; unfold putL; rw [← HN.out]; exact ob.mono gb.size, gb.trans (bl.mono gb.size)⟩
end Go.Proofs.Ytacmdkjodnaohaa

/- Plain laws: the set of bytes; no program in sight. -/
namespace Go.Proofs.Ytacmdkjodnaohaa
open Dot
/-- so many numbers: what they are, what is left, how the reader stands -/
def rdI : Nat → List UInt8 → Nat → List Int × List UInt8 × Nat
  | 0, l, e => ([], l, e)
  | k + 1, l, e => ((rdI k l e).1 ++ [((Vint.intM (rdI k l e).2.1 (rdI k l e).2.2).1 : Int)], (Vint.intM (rdI k l e).2.1 (rdI k l e).2.2).2)
/-- a dot -/
def rdD1 (s : List UInt8 × Nat) : Dt × List UInt8 × Nat :=
  ((((Vint.intM s.1 s.2).1 : Int), ((Vint.intM (Vint.intM s.1 s.2).2.1 (Vint.intM s.1 s.2).2.2).1 : Int)), (Vint.intM (Vint.intM s.1 s.2).2.1 (Vint.intM s.1 s.2).2.2).2)
/-- up to so many dots -/
def rdDs : Nat → List UInt8 → Nat → List Dt × List UInt8 × Nat
  | 0, l, e => ([], l, e)
  | k + 1, l, e => if (rdDs k l e).2.2 = 0 then ((rdDs k l e).1 ++ [(rdD1 (rdDs k l e).2).1], (rdD1 (rdDs k l e).2).2) else rdDs k l e
def failM (n e : Nat) : Nat := if 768 < n then (if e = 0 then 6 else e) else e
/-- what is read of bytes -/
def rdU (bs : List UInt8) : List Int := (rdI 8 bs 0).1
def rdN (bs : List UInt8) : Nat × List UInt8 × Nat := Vint.intM (rdI 8 bs 0).2.1 (rdI 8 bs 0).2.2
def rdL (bs : List UInt8) : List Dt × List UInt8 × Nat := rdDs (rdN bs).1 (rdN bs).2.1 (failM (rdN bs).1 (rdN bs).2.2)
def getE (bs : List UInt8) : Nat := if (rdL bs).2.2 = 0 ∧ ((rdL bs).2.1 ≠ [] ∨ rightB (rdU bs) (rdL bs).1 = false) then 4 else (rdL bs).2.2
def getU (bs : List UInt8) : List Int := if getE bs = 0 then rdU bs else uptoS noG
def getL (bs : List UInt8) : List Dt := if getE bs = 0 then (rdL bs).1 else []
theorem rdI_len (l : List UInt8) (e : Nat) : ∀ k, (rdI k l e).1.length = k := by
  intro k
  induction k with
  | zero => rfl
  | succ k ih => rw [rdI, List.length_append, ih]; rfl
theorem rdDs_stuck (l : List UInt8) (e k : Nat) (h : (rdDs k l e).2.2 ≠ 0) : ∀ m, k ≤ m → rdDs m l e = rdDs k l e := by
  intro m
  induction m with
  | zero => intro hk; obtain rfl : k = 0 := by omega
            rfl
  | succ m ih =>
    intro hk
    by_cases e1 : k = m + 1
    · rw [e1]
    · have h1 := ih (by omega)
      rw [rdDs, if_neg (by rw [h1]; exact h), h1]
theorem intM_err {l : List UInt8} {e : Nat} (h : e ≠ 0) : Vint.intM l e = (0, l, e) := by unfold Vint.intM; rw [if_neg h]
theorem intM_small (l : List UInt8) (e : Nat) : (Vint.intM l e).2.2 ≠ 0 → (Vint.intM l e).1 = 0 := by
  unfold Vint.intM
  by_cases h : e = 0
  · rw [if_pos h]
    cases Vint.dec l with
    | error x => intro _; rfl
    | ok p => intro h; exact absurd rfl h
  · rw [if_neg h]; intro _; rfl
theorem intM_put {n : Nat} (h : n ≤ 1099511627776) (r : List UInt8) : Vint.intM (Vint.enc n ++ r) 0 = (n, r, 0) := by
  unfold Vint.intM
  rw [if_pos rfl, Vint.dec_enc (by unfold Vint.top; exact h)]
theorem intM_good {l : List UInt8} {e : Nat} (h : (Vint.intM l e).2.2 = 0) : e = 0 ∧ l = Vint.enc (Vint.intM l e).1 ++ (Vint.intM l e).2.1 ∧ (Vint.intM l e).1 ≤ 1099511627776 := by
  unfold Vint.intM at h ⊢
  by_cases he : e = 0
  · rw [if_pos he] at h ⊢
    cases hd : Vint.dec l with
    | error x =>
      rw [hd] at h
      have := Vint.dec_err hd
      simp only at h
      omega
    | ok p =>
      obtain ⟨n, r⟩ := p
      have := Vint.dec_ok hd
      exact ⟨he, this.1, this.2⟩
  · rw [if_neg he] at h
    exact absurd h he
theorem rdI_put (U : List Int) (hb : ∀ x ∈ U, 0 ≤ x ∧ x ≤ 1099511627776) : ∀ k, k ≤ U.length → ∀ r, rdI k (encs (U.take k) ++ r) 0 = (U.take k, r, 0) := by
  intro k
  induction k with
  | zero => intro _ r; rfl
  | succ k ih =>
    intro hk r
    have hkl : k < U.length := by omega
    have hx := hb _ (List.getElem_mem hkl)
    have h1 := ih (by omega) (Vint.enc U[k].toNat ++ r)
    rw [encs_snoc U hkl, List.append_assoc, rdI, h1, intM_put (by omega), take_snoc U hkl]
    have : ((U[k].toNat : Nat) : Int) = U[k] := by omega
    simp only [this]
theorem rdDs_put (l : List Dt) (hb : ∀ x ∈ nums l, 0 ≤ x ∧ x ≤ 1099511627776) : ∀ k, k ≤ l.length → ∀ r, rdDs k (encs (nums (l.take k)) ++ r) 0 = (l.take k, r, 0) := by
  intro k
  induction k with
  | zero => intro _ r; rfl
  | succ k ih =>
    intro hk r
    have hkl : k < l.length := by omega
    have hm1 : l[k].1 ∈ nums l := by unfold nums; rw [List.mem_flatMap]; exact ⟨_, List.getElem_mem hkl, by simp⟩
    have hm2 : l[k].2 ∈ nums l := by unfold nums; rw [List.mem_flatMap]; exact ⟨_, List.getElem_mem hkl, by simp⟩
    have hx := hb _ hm1
    have hy := hb _ hm2
    have h1 := ih (by omega) (Vint.enc l[k].1.toNat ++ (Vint.enc l[k].2.toNat ++ r))
    rw [take_snoc l hkl, nums_snoc, encs_app, encs_two, List.append_assoc, List.append_assoc, rdDs, h1, if_pos rfl]
    unfold rdD1
    simp only
    rw [intM_put (by omega)]
    simp only
    rw [intM_put (by omega)]
    have e1 : ((l[k].1.toNat : Nat) : Int) = l[k].1 := by omega
    have e2 : ((l[k].2.toNat : Nat) : Int) = l[k].2 := by omega
    simp only [e1, e2]
theorem get_put {U : List Int} {l : List Dt} (hU : U.length = 8) (h : rightB U l = true) : rdU (encs (putL U l)) = U ∧ rdL (encs (putL U l)) = (l, [], 0) ∧ getE (encs (putL U l)) = 0 := by
  have hb := putL_bd h
  have hle := ((right_iff _ _).1 h).2.1
  have hub : ∀ x ∈ U, 0 ≤ x ∧ x ≤ 1099511627776 := fun x hx => hb x (by unfold putL; simp [hx])
  have hnb : ∀ x ∈ nums l, 0 ≤ x ∧ x ≤ 1099511627776 := fun x hx => hb x (by unfold putL; simp [hx])
  have e0 : encs (putL U l) = encs (U.take 8) ++ (Vint.enc l.length ++ (encs (nums (l.take l.length)) ++ [])) := by
    unfold putL
    rw [encs_app, encs_app, encs_one, Int.toNat_natCast, List.take_length, List.take_of_length_le (by omega), List.append_nil, List.append_assoc]
  have h1 := rdI_put U hub 8 (by omega) (Vint.enc l.length ++ (encs (nums (l.take l.length)) ++ []))
  rw [← e0, List.take_of_length_le (l := U) (by omega)] at h1
  have h2 : rdN (encs (putL U l)) = (l.length, encs (nums (l.take l.length)) ++ [], 0) := by
    unfold rdN
    rw [h1]
    exact intM_put (by omega) _
  have h3 : rdU (encs (putL U l)) = U := by unfold rdU; rw [h1]
  have h4 : rdL (encs (putL U l)) = (l, [], 0) := by
    unfold rdL
    rw [h2]
    simp only
    have hf : failM l.length 0 = 0 := by unfold failM; rw [if_neg (by omega)]
    rw [hf, rdDs_put l hnb l.length (Nat.le_refl _), List.take_length]
  refine ⟨h3, h4, ?_⟩
  unfold getE
  rw [h4, h3, if_neg (by simp [h])]
theorem rdI_good (b : List UInt8) : ∀ k, (rdI k b 0).2.2 = 0 → b = encs (rdI k b 0).1 ++ (rdI k b 0).2.1 := by
  intro k
  induction k with
  | zero => intro _; rfl
  | succ k ih =>
    intro h
    have h' : (Vint.intM (rdI k b 0).2.1 (rdI k b 0).2.2).2.2 = 0 := h
    obtain ⟨h1, h2, h3⟩ := intM_good h'
    have h4 := ih h1
    rw [rdI]
    simp only
    rw [encs_app, encs_one, Int.toNat_natCast, List.append_assoc, ← h2]
    exact h4
theorem rdDs_good (b : List UInt8) : ∀ k, (rdDs k b 0).2.2 = 0 → b = encs (nums (rdDs k b 0).1) ++ (rdDs k b 0).2.1 ∧ (rdDs k b 0).1.length = k := by
  intro k
  induction k with
  | zero => intro _; exact ⟨rfl, rfl⟩
  | succ k ih =>
    intro h
    by_cases h0 : (rdDs k b 0).2.2 = 0
    · obtain ⟨h4, h5⟩ := ih h0
      rw [rdDs, if_pos h0] at h ⊢
      have h' : (Vint.intM (Vint.intM (rdDs k b 0).2.1 (rdDs k b 0).2.2).2.1 (Vint.intM (rdDs k b 0).2.1 (rdDs k b 0).2.2).2.2).2.2 = 0 := h
      obtain ⟨h1, h2, h3⟩ := intM_good h'
      obtain ⟨g1, g2, g3⟩ := intM_good h1
      simp only
      rw [nums_snoc, encs_app, List.length_append, h5]
      refine ⟨?_, rfl⟩
      unfold rdD1
      simp only
      rw [encs_two, Int.toNat_natCast, Int.toNat_natCast, List.append_assoc, List.append_assoc, ← h2, ← g2]
      exact h4
    · rw [rdDs, if_neg h0] at h
      exact absurd h h0
theorem failM_zero {n e : Nat} (h : failM n e = 0) : e = 0 ∧ n ≤ 768 := by
  unfold failM at h
  by_cases h1 : 768 < n
  · rw [if_pos h1] at h
    by_cases h2 : e = 0
    · rw [if_pos h2] at h; omega
    · rw [if_neg h2] at h; exact absurd h h2
  · rw [if_neg h1] at h; exact ⟨h, by omega⟩
theorem rdDs_zero (b : List UInt8) (e : Nat) : ∀ k, (rdDs k b e).2.2 = 0 → e = 0 := by
  intro k
  induction k with
  | zero => exact id
  | succ k ih =>
    intro h
    by_cases h0 : (rdDs k b e).2.2 = 0
    · exact ih h0
    · rw [rdDs, if_neg h0] at h
      exact absurd h h0
/-- bytes that are a set's are put as they were -/
theorem put_get {b : List UInt8} (h : getE b = 0) : rightB (getU b) (getL b) = true ∧ encs (putL (getU b) (getL b)) = b ∧ (getU b).length = 8 := by
  have hU : getU b = rdU b := by unfold getU; rw [if_pos h]
  have hL : getL b = (rdL b).1 := by unfold getL; rw [if_pos h]
  rw [hU, hL]
  have hc : (rdL b).2.2 = 0 ∧ (rdL b).2.1 = [] ∧ rightB (rdU b) (rdL b).1 = true := by
    unfold getE at h
    by_cases h1 : (rdL b).2.2 = 0 ∧ ((rdL b).2.1 ≠ [] ∨ rightB (rdU b) (rdL b).1 = false)
    · rw [if_pos h1] at h; omega
    · rw [if_neg h1] at h
      refine ⟨h, ?_, ?_⟩
      · by_cases h2 : (rdL b).2.1 = []
        · exact h2
        · exact absurd ⟨h, .inl h2⟩ h1
      · cases h2 : rightB (rdU b) (rdL b).1 with
        | true => rfl
        | false => exact absurd ⟨h, .inr h2⟩ h1
  obtain ⟨c1, c2, c3⟩ := hc
  have d00 : rdL b = rdDs (rdN b).1 (rdN b).2.1 (failM (rdN b).1 (rdN b).2.2) := by rw [rdL]
  have c11 := c1
  rw [d00] at c11
  have f0 := rdDs_zero _ _ _ c11
  clear c11
  obtain ⟨f1, f2⟩ := failM_zero f0
  have d0 : rdL b = rdDs (rdN b).1 (rdN b).2.1 0 := by rw [d00, f0]
  clear d00
  have c1' : (rdDs (rdN b).1 (rdN b).2.1 0).2.2 = 0 := by rw [← d0]; exact c1
  obtain ⟨d1, d2⟩ := rdDs_good _ _ c1'
  rw [← d0] at d1 d2
  have hN : rdN b = Vint.intM (rdI 8 b 0).2.1 (rdI 8 b 0).2.2 := by rw [rdN]
  have f1' := f1
  rw [hN] at f1'
  obtain ⟨n1, n2, n3⟩ := intM_good f1'
  rw [← hN] at n2
  have hUu : rdU b = (rdI 8 b 0).1 := by rw [rdU]
  have i1 := rdI_good b 8 n1
  refine ⟨c3, ?_, by rw [hUu]; exact rdI_len b 0 8⟩
  unfold putL
  rw [encs_app, encs_app, encs_one, Int.toNat_natCast, d2, List.append_assoc]
  rw [c2, List.append_nil] at d1
  rw [← d1, ← n2, hUu]
  exact i1.symm
end Go.Proofs.Ytacmdkjodnaohaa

/- The walk of the program's Get (printed by wip/gen/dotget.py). -/
namespace Go.Proofs.Ytacmdkjodnaohaa
open Go.RowKit
open Dot
/-- eight numbers, of which the first are known -/
def pad8 (l : List Int) : List Int := l ++ List.replicate (8 - l.length) 0
theorem pad8_len {l : List Int} (h : l.length ≤ 8) : (pad8 l).length = 8 := by unfold pad8; rw [List.length_append, List.length_replicate]; omega
theorem pad8_set {l : List Int} (h : l.length < 8) (v : Int) : (pad8 l).set l.length v = pad8 (l ++ [v]) := by
  unfold pad8
  rw [List.set_append_right _ _ (Nat.le_refl _), Nat.sub_self, List.length_append, List.length_singleton, List.append_assoc]
  congr 1
  obtain ⟨j, hj⟩ : ∃ j, 8 - l.length = j + 1 := ⟨7 - l.length, by omega⟩
  rw [hj, show 8 - (l.length + 1) = j by omega]
  rfl
theorem pad8_all {l : List Int} (h : l.length = 8) : pad8 l = l := by unfold pad8; rw [h]; simp
def GetEnd (w : World) (bs : List UInt8) (e : Ending) (w' : World) : Prop := ∃ A m c, e = .returned (.tuple #[.agg (uc (getU bs) (.slice A m c)), .int .i64 ((getE bs : Nat) : Int)]) ∧ OwnD w' w.heap.size A m c (getL bs) ∧ Below w.heap.size w w'
theorem zero9 : (#[.int .i64 0, .int .i64 0, .int .i64 0, .int .i64 0, .int .i64 0, .int .i64 0, .int .i64 0, .int .i64 0, .slice none 0 0] : Array Value) = uc (uptoS noG) (.slice none 0 0) := by kernel_rfl
theorem zero9p : (#[.int .i64 0, .int .i64 0, .int .i64 0, .int .i64 0, .int .i64 0, .int .i64 0, .int .i64 0, .int .i64 0, .slice none 0 0] : Array Value) = uc (pad8 []) (.slice none 0 0) := by kernel_rfl
theorem Rdr.blk {w : World} {g : Nat} {A : Option Addr} {n c : Nat} {bs : List UInt8} {e : Nat} (h : Rdr w g A n c bs e) : Blk w g 105 #[.slice A n c, .int .i64 (e : Nat)] := h.1
theorem get_bad {bs : List UInt8} (h : getE bs ≠ 0) : getU bs = uptoS noG ∧ getL bs = [] := by unfold getU getL; rw [if_neg h, if_neg h]; exact ⟨rfl, rfl⟩
set_option maxRecDepth 100000 in
set_option maxHeartbeats 1000000 in
theorem get_any (A : Option Addr) (n c : Nat) (bs : List UInt8) (B : Nat) (w : World) (hb : RdB w B A n bs) (hB : B ≤ w.heap.size) (hl : n ≤ 1000000000) :
    Calls Try.prog 31 #[.slice A n c] w (GetEnd w bs) := by
  unfold GetEnd
  have ZS := Lib.hid (show (#[.int .i64 0, .int .i64 0, .int .i64 0, .int .i64 0, .int .i64 0, .int .i64 0, .int .i64 0, .int .i64 0, .slice none 0 0] : Array Value).size = 9 from rfl)
  have ZS1 := Lib.hid (show (#[.int .i64 0, .int .i64 0, .int .i64 0, .int .i64 0, .int .i64 0, .int .i64 0, .int .i64 0, .int .i64 0, .slice none 0 0] : Array Value).all (·.oneCell') = true by rw [zero9]; exact uc_one rfl)
  obtain ⟨GE, hGE⟩ : ∃ GE, GE = getE bs := ⟨_, rfl⟩
  have HGE0 := Lib.hid hGE.symm
  clear hGE
  have HNB := Lib.hid hb.1
  go_enter Try.func31, Try.ntmps31
  go_upto_region 1 with fail
  refine nameW ?_
  intro wv hwv
  obtain ⟨b, hbb⟩ : ∃ b, b = w.heap.size := ⟨_, rfl⟩
  rw [← hbb]
  have kz : Blk wv b 30 #[.int .i64 0, .int .i64 0, .int .i64 0, .int .i64 0, .int .i64 0, .int .i64 0, .int .i64 0, .int .i64 0, .slice none 0 0] := by rw [hwv, hbb]; exact Blk.new w _ _
  have gb : Below w.heap.size w wv := by rw [hwv]; exact (Below.refl _ _).alloc (Nat.le_refl _) _
  have hbw : w.heap.size ≤ b := by omega
  have hrv : RdB wv B A n bs := hb.below (gb.mono hB)
  have hBv := Nat.le_trans hB gb.size
  clear hwv hbb hb
  go_wp2_with fail
  refine (new_any A n c bs B wv hrv hBv (by omega)).mono ?_
  rintro e w1 ⟨A1, c1, g, rfl, hg, hR, h1⟩
  have kz1 := kz.below h1 kz.lt
  have b1 := gb.trans (h1.mono gb.size)
  have hbg : b < g := Nat.lt_of_lt_of_le kz.lt hg
  clear kz h1 hrv gb
  obtain ⟨w2, hw2⟩ : ∃ w2, w2 = w1.alloc (.cells #[.int .i64 0, .int .i64 0, .int .i64 0, .int .i64 0, .int .i64 0, .int .i64 0, .int .i64 0, .int .i64 0, .slice none 0 0] 30) := ⟨_, rfl⟩
  obtain ⟨gs, hgs⟩ : ∃ gs, gs = w1.heap.size := ⟨_, rfl⟩
  have ks : Blk w2 gs 30 (uc (pad8 []) (.slice none 0 0)) := by rw [hw2, hgs, ← zero9p]; exact Blk.new w1 _ _
  have kz2 := kz1.alloc (.cells #[.int .i64 0, .int .i64 0, .int .i64 0, .int .i64 0, .int .i64 0, .int .i64 0, .int .i64 0, .int .i64 0, .slice none 0 0] 30)
  have b2 := b1.alloc b1.size (.cells #[.int .i64 0, .int .i64 0, .int .i64 0, .int .i64 0, .int .i64 0, .int .i64 0, .int .i64 0, .int .i64 0, .slice none 0 0] 30)
  have hgl := hR.lt
  have hR2 := hR.below ((Below.refl (g + 1) w1).alloc (by omega) (.cells #[.int .i64 0, .int .i64 0, .int .i64 0, .int .i64 0, .int .i64 0, .int .i64 0, .int .i64 0, .int .i64 0, .slice none 0 0] 30))
  rw [← hw2] at kz2 b2 hR2
  have hggs : g < gs := by omega
  have HW := Lib.hid hw2
  have HGS := Lib.hid hgs
  clear hw2 hgs kz1 b1 hR hgl
  go_upto_region 3 with fail
  rw [← HW.out, ← HGS.out]
  go_wp2_with fail
  go_loopw [12] (fun i wr => ∃ (k : Nat) (A' : Option Addr) (c' : Nat), k ≤ 8 ∧ i = .int .i64 k ∧ Rdr wr g A' (rdI k bs 0).2.1.length c' (rdI k bs 0).2.1 (rdI k bs 0).2.2 ∧ Blk wr gs 30 (uc (pad8 (rdI k bs 0).1) (.slice none 0 0)) ∧ Blk wr b 30 #[.int .i64 0, .int .i64 0, .int .i64 0, .int .i64 0, .int .i64 0, .int .i64 0, .int .i64 0, .int .i64 0, .slice none 0 0] ∧ Below w.heap.size w wr) (fun i _ => 8 - (intOf i).toNat)
  case atStart => exact ⟨0, A1, c1, by omega, rfl, hR2, ks, kz2, b2⟩
  case round =>
  clear hR2 ks kz2 b2
  obtain ⟨k, A1, c1, hk, rfl, hR, ks, kz, gW⟩ := hrel
  by_cases hlt : k < 8
  case pos =>
    have hln := rdI_len bs 0 k
    have hs : rdI (k + 1) bs 0 = ((rdI k bs 0).1 ++ [((Vint.intM (rdI k bs 0).2.1 (rdI k bs 0).2.2).1 : Int)], (Vint.intM (rdI k bs 0).2.1 (rdI k bs 0).2.2).2) := by rw [rdI]
    generalize rdI k bs 0 = S at *
    obtain ⟨L, r, e⟩ := S
    simp only at hs hR ks hln
    have hps := pad8_set (l := L) (by omega)
    have hpl := pad8_len (l := L) (by omega)
    have HSt := Lib.hid hs
    have HPS := Lib.hid hps
    have HPL := Lib.hid hpl
    have hk0 : (0 : Int) ≤ (k : Int) := by omega
    have hk1 : (k : Int) < 8 := by omega
    clear hs hps hpl
    go_wp2_with fail
    refine (int_any g A1 _ c1 r e wr hR).mono ?_
    rintro e' w3 ⟨rfl, g3, A2, c2, R3⟩
    generalize Vint.intM r e = V at *
    obtain ⟨v, r', e'⟩ := V
    simp only at R3 HSt
    have ks3 := ks.grown g3 (fun h => by injection h; omega)
    have kz3 := kz.grown g3 (fun h => by injection h; omega)
    have gW3 := gW.grown g3 gW.size (fun q hq => by injection hq; omega)
    have c0 : w3.cell? ⟨gs, k, none⟩ = some (.int .i64 ((pad8 L).getD k 0)) := (ks3.cell k).trans (uc_at HPL.out _ hlt)
    have f0 := ks3.free k
    have hset := uc_set HPL.out (.slice none 0 0) hlt ((v : Nat) : Int)
    rw [show (pad8 L).set k ((v : Nat) : Int) = pad8 (L ++ [((v : Nat) : Int)]) by rw [← hln]; exact HPS.out _] at hset
    have ks4 := ks3.set_ k (.int .i64 ((v : Nat) : Int))
    rw [hset] at ks4
    have kz4 := kz3.far (p := ⟨gs, k, none⟩) (by show b ≠ gs; omega) (.int .i64 ((v : Nat) : Int))
    have gW4 := gW3.setCell (p := ⟨gs, k, none⟩) (by show _ ≤ gs; omega) (.int .i64 ((v : Nat) : Int))
    have R4 := R3.below ((Below.refl (g + 1) w3).setCell (p := ⟨gs, k, none⟩) (by show _ ≤ gs; omega) (.int .i64 ((v : Nat) : Int)))
    have KS := Lib.hid ks4
    have KZ := Lib.hid kz4
    have GW := Lib.hid gW4
    have RR := Lib.hid R4
    clear hset ks4 kz4 gW4 R4 ks kz gW hR R3 ks3 kz3 gW3 g3
    go_wp2_with fail
    go_roundw
    case rel => exact ⟨k + 1, A2, c2, by omega, by go_num, by rw [HSt.out]; exact RR.out, by rw [HSt.out]; exact KS.out, KZ.out, GW.out⟩
    case measure => simp [intOf]; omega
  case neg =>
  obtain rfl : k = 8 := by omega
  have hUl := rdI_len bs 0 8
  have hNN : rdN bs = Vint.intM (rdI 8 bs 0).2.1 (rdI 8 bs 0).2.2 := by rw [rdN]
  have hUU : rdU bs = (rdI 8 bs 0).1 := by rw [rdU]
  rw [pad8_all hUl, ← hUU] at ks
  rw [← hUU] at hUl
  generalize rdI 8 bs 0 = S at *
  obtain ⟨L0, r, e⟩ := S
  simp only at hNN hR
  have HNN := Lib.hid hNN
  have HUL := Lib.hid hUl
  have HRL := Lib.hid (show rdL bs = rdDs (rdN bs).1 (rdN bs).2.1 (failM (rdN bs).1 (rdN bs).2.2) by rw [rdL])
  have hgedef : getE bs = if (rdL bs).2.2 = 0 ∧ ((rdL bs).2.1 ≠ [] ∨ rightB (rdU bs) (rdL bs).1 = false) then 4 else (rdL bs).2.2 := by rw [getE]
  have HGD := Lib.hid hgedef
  have hgu : getE bs = 0 → getU bs = rdU bs ∧ getL bs = (rdL bs).1 := fun h => by unfold getU getL; rw [if_pos h, if_pos h]; exact ⟨rfl, rfl⟩
  have HGU := Lib.hid hgu
  clear hNN hUU hUl hgedef hgu
  generalize rdU bs = U at *
  go_wp2_with fail
  refine (int_any g A1 _ c1 r e wr hR).mono ?_
  rintro e1 w3 ⟨rfl, g3, A2, c2, R3⟩
  have hsm := intM_small r e
  rw [← HNN.out] at R3 hsm ⊢
  generalize rdN bs = V at *
  obtain ⟨v, r, e⟩ := V
  simp only at R3 HRL hsm ⊢
  have ks3 := ks.grown g3 (fun h => by injection h; omega)
  have kz3 := kz.grown g3 (fun h => by injection h; omega)
  have gW3 := gW.grown g3 gW.size (fun q hq => by injection hq; omega)
  clear ks kz gW hR g3 HNN
  by_cases hbig : 768 < v
  case pos =>
    have he0 : e = 0 := by
      false_or_by_contra
      have := hsm (by assumption)
      omega
    subst he0
    have hfm : failM v 0 = 6 := by unfold failM; rw [if_pos hbig]; rfl
    have hrl := HRL.out
    rw [hfm, rdDs_stuck r 6 0 (show (6 : Nat) ≠ 0 by decide) v (by omega)] at hrl
    have hge : getE bs = 6 := by rw [HGD.out, hrl]; rfl
    have HGE := Lib.hid hge
    have hdb : decide ((768 : Int) < ((v : Nat) : Int)) = true := decide_eq_true (by omega)
    clear HRL HGD HGU hfm hrl hge hsm
    go_wp2_with fail
    refine (fail_any g 6 (by decide) A2 _ c2 r 0 _ R3).mono ?_
    rintro e1 w4 ⟨rfl, g4, A4, c4, R4⟩
    rw [if_pos rfl] at R4
    have kz4 := kz3.grown g4 (fun h => by injection h; omega)
    have gW4 := gW3.grown g4 gW3.size (fun q hq => by injection hq; omega)
    clear ks3 kz3 gW3 R3 g4
    go_wp2_with fail
    go_loopw [8] (fun i wr => ∃ k : Nat, k = 0 ∧ i = .int .i64 k ∧ w4 = wr) (fun _ _ => 0)
    case atStart => exact ⟨0, rfl, rfl, rfl⟩
    case round =>
      obtain ⟨k, hk0, rfl, rfl⟩ := hrel
      have hk1 : (k : Int) < ((v : Nat) : Int) := by omega
      clear hk0 hbig hdb
      have hR := R4
      have kz := kz4
      have gW := gW4
      clear R4 kz4 gW4
      go_wp2_with fail
      refine (err_any g _ _ _ _ _ _ hR).mono ?_
      rintro e w88 ⟨rfl, rfl⟩
      go_wp2_with fail
      refine (err_any g _ _ _ _ _ _ hR).mono ?_
      rintro e w89 ⟨rfl, rfl⟩
      have hxe : ((((6 : Nat) : Int)) != 0) = true := by rw [bne_iff_ne]; omega
      go_wp2_with fail
      refine (err_any g _ _ _ _ _ _ hR).mono ?_
      rintro e w90 ⟨rfl, rfl⟩
      go_wp2_with fail
      refine (err_any g _ _ _ _ _ _ hR).mono ?_
      rintro e w91 ⟨rfl, rfl⟩
      go_wp2_with ((with_reducible refine wpList_st rowS kz ZS.out ZS.out ZS1.out ?_ ?_ ?_); rotate_left; (rfl); (rfl); intro w92 k92 g92 z92)
      rw [zero9] at k92
      have gz := gW.grown g92 gW.size (fun q hq => by injection hq; omega)
      have hbad := get_bad (bs := bs) (by rw [HGE.out]; omega)
      refine bodyPost_ret (v := .tuple #[.agg (uc (uptoS noG) (.slice none 0 0)), .int .i64 ((6 : Nat) : Int)]) (results_blk2 rfl rowS k92 (by rfl) rfl rfl) rfl ⟨none, 0, 0, by rw [HGE.out, hbad.1], by rw [hbad.2]; exact OwnD.nil _ _, gz⟩
  case neg =>
    have hfm : failM v e = e := by unfold failM; rw [if_neg hbig]
    have hdb : decide ((768 : Int) < ((v : Nat) : Int)) = false := decide_eq_false (by omega)
    have hrl := HRL.out
    rw [hfm] at hrl
    have HRL2 := Lib.hid hrl
    clear hrl hfm HRL hsm
    go_wp2_with fail
    obtain ⟨wo, hwo⟩ : ∃ wo, wo = w3 := ⟨_, rfl⟩
    have hbs : g + 1 ≤ wo.heap.size := by rw [hwo]; exact R3.lt
    have hbs2 : gs < wo.heap.size := by rw [hwo]; exact ks3.lt
    have hbs3 : b < wo.heap.size := by omega
    have hbs4 : wo.heap.size ≤ w3.heap.size := by rw [hwo]; exact Nat.le_refl _
    have hwo0 : w.heap.size ≤ wo.heap.size := by rw [hwo]; exact gW3.size
    clear hwo
    go_loopw [8] (fun i wr => ∃ (k : Nat) (A' : Option Addr) (c' : Nat) (Ad : Option Addr) (m cd : Nat), k ≤ v ∧ i = .int .i64 k ∧ m ≤ k ∧ Rdr wr g A' (rdDs k r e).2.1.length c' (rdDs k r e).2.1 (rdDs k r e).2.2 ∧ Blk wr gs 30 (uc U (.slice Ad m cd)) ∧ OwnD wr wo.heap.size Ad m cd (rdDs k r e).1 ∧ Blk wr b 30 #[.int .i64 0, .int .i64 0, .int .i64 0, .int .i64 0, .int .i64 0, .int .i64 0, .int .i64 0, .int .i64 0, .slice none 0 0] ∧ Below w.heap.size w wr ∧ wo.heap.size ≤ wr.heap.size) (fun i _ => v - (intOf i).toNat)
    case atStart => exact ⟨0, A2, c2, none, 0, 0, by omega, rfl, by omega, R3, ks3, OwnD.nil _ _, kz3, gW3, hbs4⟩
    case round =>
    clear R3 ks3 kz3 gW3 hbs4
    obtain ⟨k, A2, c2, Ad, m, cd, hk, rfl, hmk, hR, ks, oD, kz, gW, hws⟩ := hrel
    have hk0 : (0 : Int) ≤ (k : Int) := by omega
    have hst : k < v → (rdDs k r e).2.2 = 0 → rdDs (k + 1) r e = ((rdDs k r e).1 ++ [(rdD1 (rdDs k r e).2).1], (rdD1 (rdDs k r e).2).2) := fun _ h => by rw [rdDs, if_pos h]
    have hfin : (k = v ∨ (rdDs k r e).2.2 ≠ 0) → rdDs v r e = rdDs k r e := fun h => by
      rcases h with h | h
      · rw [h]
      · exact rdDs_stuck r e k h v hk
    generalize rdDs k r e = S at *
    obtain ⟨L, r1, e1⟩ := S
    simp only at hR oD hst hfin
    have HST := Lib.hid hst
    have HFN := Lib.hid hfin
    clear hst hfin
    by_cases hgo : k < v ∧ e1 = 0
    case pos =>
      obtain ⟨hlt, rfl⟩ := hgo
      have hst := HST.out hlt rfl
      have HST2 := Lib.hid hst
      have hk1 : (k : Int) < ((v : Nat) : Int) := by omega
      have hv := hbig
      clear HST HFN hst HRL2 HGD HGU
      go_wp2_with fail
      refine (err_any g _ _ _ _ _ _ hR).mono ?_
      rintro e w40 ⟨rfl, rfl⟩
      go_wp2_with fail
      refine (int_any g A2 _ c2 r1 0 wr hR).mono ?_
      rintro e' w4 ⟨rfl, g4, A4, c4, R4⟩
      have hrd : rdD1 (r1, 0) = ((((Vint.intM r1 0).1 : Int), ((Vint.intM (Vint.intM r1 0).2.1 (Vint.intM r1 0).2.2).1 : Int)), (Vint.intM (Vint.intM r1 0).2.1 (Vint.intM r1 0).2.2).2) := by rw [rdD1]
      rw [hrd] at HST2
      clear hrd
      generalize Vint.intM r1 0 = V1 at *
      obtain ⟨x1, r2, e2⟩ := V1
      simp only at R4 HST2
      have ks4 := ks.grown g4 (fun h => by injection h; omega)
      have kz4 := kz.grown g4 (fun h => by injection h; omega)
      have gW4 := gW.grown g4 gW.size (fun q hq => by injection hq; omega)
      have o4 := oD.grown g4 (.inr (own_ne oD.2 hR.blk (by decide)))
      have hws4 := Nat.le_trans hws g4.size
      clear ks kz gW oD hR g4
      obtain ⟨wn, hwn⟩ : ∃ wn, wn = w4.alloc (.cells #[.int .i64 (x1 : Nat), .int .i64 0] 27) := ⟨_, rfl⟩
      obtain ⟨gd, hgd⟩ : ∃ gd, gd = w4.heap.size := ⟨_, rfl⟩
      have kn : Blk wn gd 27 #[.int .i64 (x1 : Nat), .int .i64 0] := by rw [hwn, hgd]; exact Blk.new w4 _ _
      have ks5 := ks4.alloc (.cells #[.int .i64 (x1 : Nat), .int .i64 0] 27)
      have kz5 := kz4.alloc (.cells #[.int .i64 (x1 : Nat), .int .i64 0] 27)
      have gW5 := gW4.alloc gW4.size (.cells #[.int .i64 (x1 : Nat), .int .i64 0] 27)
      have o5 := o4.alloc (.cells #[.int .i64 (x1 : Nat), .int .i64 0] 27)
      have R5 := R4.below ((Below.refl (g + 1) w4).alloc (by omega) (.cells #[.int .i64 (x1 : Nat), .int .i64 0] 27))
      have hAd : Ad.map (·.block) ≠ some gd := fun h => by have := (o4.lt gd h).2; omega
      have hgd2 : wo.heap.size ≤ gd := by omega
      have hws5 : wo.heap.size ≤ wn.heap.size := by rw [hwn]; simp; omega
      rw [← hwn] at ks5 kz5 gW5 o5 R5
      have HW := Lib.hid hwn
      have HGDd := Lib.hid hgd
      clear hwn hgd ks4 kz4 gW4 o4 R4 hws4
      go_upto_region 15 with fail
      rw [← HW.out, ← HGDd.out]
      go_wp2_with fail
      refine (int_any g A4 _ c4 r2 e2 wn R5).mono ?_
      rintro e' w6 ⟨rfl, g6, A6, c6, R6⟩
      generalize Vint.intM r2 e2 = V2 at *
      obtain ⟨x2, r3, e3⟩ := V2
      simp only at R6 HST2
      have ks6 := ks5.grown g6 (fun h => by injection h; omega)
      have kz6 := kz5.grown g6 (fun h => by injection h; omega)
      have kn6 := kn.grown g6 (fun h => by injection h; omega)
      have gW6 := gW5.grown g6 gW5.size (fun q hq => by injection hq; omega)
      have o6 := o5.grown g6 (.inr (own_ne o5.2 R5.blk (by decide)))
      have hws6 := Nat.le_trans hws5 g6.size
      have d1 : w6.cell? ⟨gd, 1, none⟩ = some (.int .i64 0) := kn6.cell 1
      have df := kn6.free 1
      have kn7 := kn6.set_ 1 (.int .i64 (x2 : Nat))
      have ks7 := ks6.far (p := ⟨gd, 1, none⟩) (by show gs ≠ gd; omega) (.int .i64 (x2 : Nat))
      have kz7 := kz6.far (p := ⟨gd, 1, none⟩) (by show b ≠ gd; omega) (.int .i64 (x2 : Nat))
      have gW7 := gW6.setCell (p := ⟨gd, 1, none⟩) (Nat.le_trans hwo0 hgd2) (.int .i64 (x2 : Nat))
      have o7 := o6.setFar (p := ⟨gd, 1, none⟩) hAd (.int .i64 (x2 : Nat))
      have R7 := R6.below ((Below.refl (g + 1) w6).setCell (p := ⟨gd, 1, none⟩) (by show _ ≤ gd; omega) (.int .i64 (x2 : Nat)))
      have hws7 : wo.heap.size ≤ (w6.setCell ⟨gd, 1, none⟩ (.int .i64 (x2 : Nat))).heap.size := by simpa [World.setCell] using hws6
      obtain ⟨w7, hw7⟩ : ∃ w7, w7 = w6.setCell ⟨gd, 1, none⟩ (.int .i64 (x2 : Nat)) := ⟨_, rfl⟩
      rw [← hw7] at kn7 ks7 kz7 gW7 o7 R7 hws7
      have HW7 := Lib.hid hw7
      clear hw7 ks5 kz5 gW5 o5 R5 ks6 kz6 gW6 o6 R6 kn kn6 g6 hws5 hws6
      go_upto_region 16 with fail
      rw [← HW7.out]
      have c8 : w7.cell? ⟨gs, 8, none⟩ = some (.slice Ad m cd) := (ks7.cell 8).trans (uc_last HUL.out _)
      have f8 := ks7.free 8
      have t0 : w7.cell? ⟨gd, 0, none⟩ = some (.int .i64 (x1 : Nat)) := kn7.cell 0
      have t1 : w7.cell? ⟨gd, 1, none⟩ = some (.int .i64 (x2 : Nat)) := kn7.cell 1
      clear d1 df
      have rX := Rd.made w7 #[.int .i64 (x1 : Nat), .int .i64 (x2 : Nat)] 27 (0, 0)
      have oX := o7.alloc (.cells #[.int .i64 (x1 : Nat), .int .i64 (x2 : Nat)] 27)
      go_wp2_with (at_builtin; refine stop ?_)
      unfold Stop
      refine wpList_appD rfl (.tmp 44) (.tmp 46) rfl (by rfl) oX (by rfl) (m := 1) (news := [(((x1 : Nat) : Int), ((x2 : Nat) : Int))]) rX rfl (by omega) (Nat.le_trans hws7 (by simp)) ?_
      intro A8 c8' w8 o8 g8 m8 b8
      have hne := own_ne oX.2 (ks7.alloc (.cells #[.int .i64 (x1 : Nat), .int .i64 (x2 : Nat)] 27)) (by decide)
      have hnez := own_ne oX.2 (kz7.alloc (.cells #[.int .i64 (x1 : Nat), .int .i64 (x2 : Nat)] 27)) (by decide)
      have ks8 := (ks7.alloc (.cells #[.int .i64 (x1 : Nat), .int .i64 (x2 : Nat)] 27)).grown g8 hne
      have kz8 := (kz7.alloc (.cells #[.int .i64 (x1 : Nat), .int .i64 (x2 : Nat)] 27)).grown g8 hnez
      have gW8 := (gW7.alloc gW7.size (.cells #[.int .i64 (x1 : Nat), .int .i64 (x2 : Nat)] 27)).trans (b8.mono hwo0)
      have R8 := (R7.below ((Below.refl (g + 1) w7).alloc (by omega) (.cells #[.int .i64 (x1 : Nat), .int .i64 (x2 : Nat)] 27))).below (b8.mono hbs)
      have hws8 := Nat.le_trans hws7 (Nat.le_trans (show w7.heap.size ≤ _ by simp) b8.size)
      have c9 : w8.cell? ⟨gs, 8, none⟩ = some (.slice Ad m cd) := (ks8.cell 8).trans (uc_last HUL.out _)
      have f9 := ks8.free 8
      have hne8 := own_ne o8.2 ks8 (by decide)
      have ks9 := ks8.set_ 8 (.slice A8 (m + 1) c8')
      rw [uc_setS HUL.out] at ks9
      have kz9 := kz8.far (p := ⟨gs, 8, none⟩) (by show b ≠ gs; omega) (.slice A8 (m + 1) c8')
      have gW9 := gW8.setCell (p := ⟨gs, 8, none⟩) (by show _ ≤ gs; omega) (.slice A8 (m + 1) c8')
      have o9 := o8.setFar (p := ⟨gs, 8, none⟩) hne8 (.slice A8 (m + 1) c8')
      have R9 := R8.below ((Below.refl (g + 1) w8).setCell (p := ⟨gs, 8, none⟩) (by show _ ≤ gs; omega) (.slice A8 (m + 1) c8'))
      have hws9 : wo.heap.size ≤ (w8.setCell ⟨gs, 8, none⟩ (.slice A8 (m + 1) c8')).heap.size := by simpa [World.setCell] using hws8
      have KS := Lib.hid ks9
      have KZ := Lib.hid kz9
      have GW := Lib.hid gW9
      have OO := Lib.hid o9
      have RR := Lib.hid R9
      have WS := Lib.hid hws9
      clear ks9 kz9 gW9 o9 R9 hws9 ks8 kz8 gW8 o8 R8 hws8 g8 m8 b8 rX oX ks7 kz7 gW7 o7 R7 hws7 kn7 t0 t1 c8 f8 hne hnez hne8
      go_wp2_with fail
      go_roundw
      case rel => exact ⟨_, _, _, _, _, _, _, _, _, _, _, _, _, _, _, _, _, _, _, _, _, _, _, _, ⟨k + 1, A6, c6, A8, m + 1, c8', by omega, by go_num, by omega, by rw [HST2.out]; exact RR.out, KS.out, by rw [HST2.out]; exact OO.out, KZ.out, GW.out, WS.out⟩, rfl⟩
      case measure => simp [intOf]; omega
    case neg =>
      have hf2 := HFN.out (by omega)
      have hrl := HRL2.out
      rw [hf2] at hrl
      have hge := HGD.out
      rw [hrl] at hge
      have hgu := HGU.out
      rw [hrl] at hgu
      simp only at hge hgu
      have HGEd := Lib.hid hge
      have HGUd := Lib.hid hgu
      have hr8 := fun w' (h : Below wr.heap.size wr w') => right_any U HUL.out Ad m cd L w' ((oD.rd.below h).more h.size)
      have HR8 := Lib.hid hr8
      clear HST HFN hf2 hrl hge hgu HRL2 HGD HGU hr8
      by_cases hlt : k < v
      case' pos =>
        have he1 : e1 ≠ 0 := fun h => hgo ⟨hlt, h⟩
        have hk1 : (k : Int) < ((v : Nat) : Int) := by omega
        have hq : (((e1 : Nat) : Int) == 0) = false := by rw [beq_eq_false_iff_ne]; omega
        go_wp2_with fail
        refine (err_any g _ _ _ _ _ _ hR).mono ?_
        rintro e w40 ⟨rfl, rfl⟩
        go_wp2_with fail
        refine (err_any g _ _ _ _ _ _ hR).mono ?_
        rintro e w41 ⟨rfl, rfl⟩
      case' neg =>
        obtain rfl : k = v := by omega
        clear hgo
        go_wp2_with fail
        refine (err_any g _ _ _ _ _ _ hR).mono ?_
        rintro e w41 ⟨rfl, rfl⟩
      all_goals
        by_cases he : e1 = 0
        case neg =>
          have hq2 : (((e1 : Nat) : Int) == 0) = false := by rw [beq_eq_false_iff_ne]; omega
          have hge := HGEd.out
          rw [if_neg (fun h => he h.1)] at hge
          have HGE := Lib.hid hge
          clear HGEd HGUd HR8 hge
          have hxe : ((((e1 : Nat) : Int)) != 0) = true := by rw [bne_iff_ne]; omega
          go_wp2_with fail
          refine (err_any g _ _ _ _ _ _ hR).mono ?_
          rintro e w90 ⟨rfl, rfl⟩
          go_wp2_with fail
          refine (err_any g _ _ _ _ _ _ hR).mono ?_
          rintro e w91 ⟨rfl, rfl⟩
          go_wp2_with ((with_reducible refine wpList_st rowS kz ZS.out ZS.out ZS1.out ?_ ?_ ?_); rotate_left; (rfl); (rfl); intro w92 k92 g92 z92)
          rw [zero9] at k92
          have gz := gW.grown g92 gW.size (fun q hq => by injection hq; omega)
          have hbad := get_bad (bs := bs) (by rw [HGE.out]; omega)
          refine bodyPost_ret (v := .tuple #[.agg (uc (uptoS noG) (.slice none 0 0)), .int .i64 ((e1 : Nat) : Int)]) (results_blk2 rfl rowS k92 (by rfl) rfl rfl) rfl ⟨none, 0, 0, by rw [HGE.out, hbad.1], by rw [hbad.2]; exact OwnD.nil _ _, gz⟩
        case pos =>
          subst he
          by_cases hrn : r1 = []
          case neg =>
            have hlen : (0 : Int) < ((r1.length : Nat) : Int) := by have := List.length_pos_iff.2 hrn; omega
            have hlen2 : 0 < r1.length := List.length_pos_iff.2 hrn
            have hge := HGEd.out
            rw [if_pos ⟨rfl, .inl hrn⟩] at hge
            have HGE := Lib.hid hge
            clear HGEd HGUd HR8 hge
            go_wp2_with fail
            refine (left_any g _ _ _ _ _ _ hR).mono ?_
            rintro e w42 ⟨rfl, rfl⟩
            go_wp2_with fail
            refine (fail_any g 4 (by decide) A2 _ c2 r1 0 _ hR).mono ?_
            rintro e w43 ⟨rfl, g4, A4, c4, R4⟩
            rw [if_pos rfl] at R4
            replace kz := kz.grown g4 (fun h => by injection h; omega)
            replace gW := gW.grown g4 gW.size (fun q hq => by injection hq; omega)
            replace hR := R4
            clear R4 g4
            have hxe : ((((4 : Nat) : Int)) != 0) = true := by rw [bne_iff_ne]; omega
            go_wp2_with fail
            refine (err_any g _ _ _ _ _ _ hR).mono ?_
            rintro e w90 ⟨rfl, rfl⟩
            go_wp2_with fail
            refine (err_any g _ _ _ _ _ _ hR).mono ?_
            rintro e w91 ⟨rfl, rfl⟩
            go_wp2_with ((with_reducible refine wpList_st rowS kz ZS.out ZS.out ZS1.out ?_ ?_ ?_); rotate_left; (rfl); (rfl); intro w92 k92 g92 z92)
            rw [zero9] at k92
            have gz := gW.grown g92 gW.size (fun q hq => by injection hq; omega)
            have hbad := get_bad (bs := bs) (by rw [HGE.out]; omega)
            refine bodyPost_ret (v := .tuple #[.agg (uc (uptoS noG) (.slice none 0 0)), .int .i64 ((4 : Nat) : Int)]) (results_blk2 rfl rowS k92 (by rfl) rfl rfl) rfl ⟨none, 0, 0, by rw [HGE.out, hbad.1], by rw [hbad.2]; exact OwnD.nil _ _, gz⟩
          case pos =>
            subst hrn
            have hUs := uc_size HUL.out (.slice Ad m cd)
            have HUS := Lib.hid hUs
            have HUO := Lib.hid (uc_one (U := U) (s := .slice Ad m cd) rfl)
            obtain ⟨su, hsu⟩ : ∃ su, su = uc U (.slice Ad m cd) := ⟨_, rfl⟩
            have hr8 := HR8.out
            rw [← hsu] at HUS HUO ks hr8
            have HR9 := Lib.hid hr8
            have HSU := Lib.hid hsu
            clear hUs hsu hr8 HR8
            go_wp2_with fail
            refine (left_any g _ _ _ _ _ _ hR).mono ?_
            rintro e w42 ⟨rfl, rfl⟩
            go_wp2_with ((with_reducible refine wpList_ldg rowS ks HUS.out ?_ ?_ ?_); rotate_left; (rfl); (rfl))
            refine (HR9.out _ (Below.refl _ _)).mono ?_
            rintro e w43 ⟨rfl, h3⟩
            have hglt := hR.lt
            replace hR := hR.below (h3.mono (by omega))
            replace kz := kz.below h3 kz.lt
            replace ks := ks.below h3 ks.lt
            replace gW := gW.trans (h3.mono gW.size)
            replace oD := oD.below h3 (Nat.le_refl _)
            cases hright : rightB U L
            case false =>
              have hge := HGEd.out
              rw [if_pos (by simp [hright])] at hge
              have HGE := Lib.hid hge
              clear HGEd HGUd hge hright h3 HR9
              go_wp2_with fail
              refine (fail_any g 4 (by decide) A2 _ c2 [] 0 _ hR).mono ?_
              rintro e w44 ⟨rfl, g4, A4, c4, R4⟩
              rw [if_pos rfl] at R4
              replace kz := kz.grown g4 (fun h => by injection h; omega)
              replace gW := gW.grown g4 gW.size (fun q hq => by injection hq; omega)
              replace hR := R4
              clear R4 g4
              have hxe : ((((4 : Nat) : Int)) != 0) = true := by rw [bne_iff_ne]; omega
              go_wp2_with fail
              refine (err_any g _ _ _ _ _ _ hR).mono ?_
              rintro e w90 ⟨rfl, rfl⟩
              go_wp2_with fail
              refine (err_any g _ _ _ _ _ _ hR).mono ?_
              rintro e w91 ⟨rfl, rfl⟩
              go_wp2_with ((with_reducible refine wpList_st rowS kz ZS.out ZS.out ZS1.out ?_ ?_ ?_); rotate_left; (rfl); (rfl); intro w92 k92 g92 z92)
              rw [zero9] at k92
              have gz := gW.grown g92 gW.size (fun q hq => by injection hq; omega)
              have hbad := get_bad (bs := bs) (by rw [HGE.out]; omega)
              refine bodyPost_ret (v := .tuple #[.agg (uc (uptoS noG) (.slice none 0 0)), .int .i64 ((4 : Nat) : Int)]) (results_blk2 rfl rowS k92 (by rfl) rfl rfl) rfl ⟨none, 0, 0, by rw [HGE.out, hbad.1], by rw [hbad.2]; exact OwnD.nil _ _, gz⟩
            case true =>
              have hge := HGEd.out
              rw [if_neg (by simp [hright])] at hge
              have hgu := HGUd.out hge
              clear HGEd HGUd hright h3 HR9
              have HGE := Lib.hid hge
              have HGUu := Lib.hid hgu
              clear hge hgu
              go_wp2_with fail
              refine (err_any g _ _ _ _ _ _ hR).mono ?_
              rintro e w90 ⟨rfl, rfl⟩
              go_wp2_with (first
                | ((with_reducible refine wpList_ld rowS ks HUS.out ?_ ?_); rotate_left; (rfl))
                | ((with_reducible refine wpList_st rowS kz HUS.out ZS.out HUO.out ?_ ?_ ?_); rotate_left; (rfl); (rfl); intro w92 k92 g92 z92))
              have o92 := oD.grown g92 (.inr (own_ne oD.2 kz (by decide)))
              have gz := gW.grown g92 gW.size (fun q hq => by injection hq; omega)
              refine bodyPost_ret (v := .tuple #[.agg su, .int .i64 0]) (results_blk2 rfl rowS k92 HUS.out rfl rfl) rfl ⟨Ad, m, cd, by rw [HGE.out, HGUu.out.1, HSU.out]; rfl, by rw [HGUu.out.2]; exact o92.mono hwo0, gz⟩
end Go.Proofs.Ytacmdkjodnaohaa

/- The walks of the document's Read: its reader's Int and Fail, as the plain law has them. -/
namespace Go.Proofs.Ytacmdkjodnaohaa
open Go.RowKit
open Dot
/-- the document's reader: what is left of the bytes, how it stands -/
def RSt (w : World) (g : Nat) (A : Option Addr) (n c : Nat) (bs r : List UInt8) (e : Nat) : Prop := ∃ at', at' ≤ n ∧ RRd w g A n c at' e ∧ bs.drop at' = r
def RIntM (w : World) (g : Nat) (A : Option Addr) (n c : Nat) (bs r : List UInt8) (e : Nat) (x : Ending) (w' : World) : Prop :=
  x = .returned (.int .i64 ((Vint.intM r e).1 : Nat)) ∧ w.grownBy w' (some g) ∧ RSt w' g A n c bs (Vint.intM r e).2.1 (Vint.intM r e).2.2
theorem rint_m (g : Nat) (A : Option Addr) (n c B : Nat) (bs r : List UInt8) (e : Nat) (w : World) (hR : RSt w g A n c bs r e) (hb : RdB w B A n bs) (hn : n ≤ 1000000000) :
    Calls Try.prog 68 #[.pointer (some ⟨g, 0, none⟩)] w (RIntM w g A n c bs r e) := by
  obtain ⟨at', ha, hR, rfl⟩ := hR
  by_cases he : e = 0
  · subst he
    refine (rint_any g A n c at' bs B w hR hb ha (by omega)).mono ?_
    rintro x w' ⟨hg, h⟩
    unfold RIntM Vint.intM
    rw [if_pos rfl]
    cases hd : Vint.dec (bs.drop at') with
    | error y =>
      rw [hd] at h
      exact ⟨h.1, hg, at', ha, h.2, rfl⟩
    | ok p =>
      obtain ⟨m, r⟩ := p
      rw [hd] at h
      obtain ⟨h1, h2⟩ := h
      refine ⟨h1, hg, n - r.length, by omega, h2, ?_⟩
      have hl := hb.1
      have hdo := (Vint.dec_ok hd).1
      have hlen := congrArg List.length hdo
      rw [List.length_drop, List.length_append] at hlen
      rw [show n - r.length = at' + (Vint.enc m).length by omega, ← List.drop_drop, hdo, List.drop_left]
  · refine (rint_fail g A n c at' e w hR he).mono ?_
    rintro x w' ⟨rfl, rfl⟩
    unfold RIntM
    rw [intM_err he]
    exact ⟨rfl, grown_refl _ _, at', ha, hR, rfl⟩
theorem rfail_m (g x : Nat) (A : Option Addr) (n c : Nat) (bs r : List UInt8) (e : Nat) (w : World) (hR : RSt w g A n c bs r e) :
    Calls Try.prog 69 #[.pointer (some ⟨g, 0, none⟩), .int .i64 (x : Nat)] w fun k w' => k = .returned (.tuple #[]) ∧ w.grownBy w' (some g) ∧ RSt w' g A n c bs r (if e = 0 then x else e) := by
  obtain ⟨at', ha, hR, hd⟩ := hR
  have c2 : w.cell? ⟨g, 2, none⟩ = some (.int .i64 (e : Nat)) := hR.cell 2
  have f2 := hR.free 2
  have HD := Lib.hid hd
  by_cases he : e = 0
  · subst he
    rw [if_pos rfl]
    have k2 := Blk.set_ hR 2 (.int .i64 (x : Nat))
    have g2 := only_set (i := 2) (grown_refl w (some g)) (.int .i64 (x : Nat))
    have K2 := Lib.hid k2
    have G2 := Lib.hid g2
    clear k2 g2 hR hd
    go_enter Try.func69, Try.ntmps69
    go_wp2_with fail
    go_end0
    exact ⟨rfl, G2.out, at', ha, K2.out, HD.out⟩
  · rw [if_neg he]
    have hq : (((e : Nat) : Int) == 0) = false := by rw [beq_eq_false_iff_ne]; omega
    clear hd
    go_enter Try.func69, Try.ntmps69
    go_wp2_with fail
    go_end0
    exact ⟨rfl, grown_refl _ _, at', ha, hR, HD.out⟩
end Go.Proofs.Ytacmdkjodnaohaa

/- The walk of the document's Read (printed by wip/gen/dotread.py). -/
namespace Go.Proofs.Ytacmdkjodnaohaa
open Go.RowKit
open Dot
theorem RSt.map {w w' : World} {g : Nat} {A : Option Addr} {n c : Nat} {bs r : List UInt8} {e : Nat} (h : RSt w g A n c bs r e) (f : ∀ t cs, Blk w g t cs → Blk w' g t cs) : RSt w' g A n c bs r e := by
  obtain ⟨at', h1, h2, h3⟩ := h
  exact ⟨at', h1, f _ _ h2, h3⟩
theorem grown_on {a w w' : World} {b : Nat} {row : Option Nat} (h0 : a.grownBy w row) (h : w.grownBy w' (some b)) (hb : a.heap.size ≤ b) : a.grownBy w' row :=
  ⟨h.os.trans h0.os, h.tape.trans h0.tape, h.output.trans h0.output, Nat.le_trans h0.size h.size, fun k hk hne => (h.block k (Nat.lt_of_lt_of_le hk h0.size) (fun e => by injection e; omega)).trans (h0.block k hk hne)⟩
def ReadEnd (w : World) (g : Nat) (A : Option Addr) (n c : Nat) (bs : List UInt8) (e : Ending) (w' : World) : Prop :=
  ∃ A' m c', e = .returned (.agg (uc (rdU bs) (.slice A' m c'))) ∧ OwnD w' w.heap.size A' m c' (rdL bs).1 ∧ RSt w' g A n c bs (rdL bs).2.1 (rdL bs).2.2 ∧ w.grownBy w' (some g)
set_option maxRecDepth 100000 in
set_option maxHeartbeats 1000000 in
theorem read_any (g : Nat) (A : Option Addr) (n c B : Nat) (bs : List UInt8) (w : World) (hR : RSt w g A n c bs bs 0) (hb : RdB w B A n bs) (hB : B ≤ g) (hglt : g < w.heap.size) (hn : n ≤ 1000000000) :
    Calls Try.prog 58 #[.pointer (some ⟨g, 0, none⟩)] w (ReadEnd w g A n c bs) := by
  unfold ReadEnd
  have ZS := Lib.hid (show (#[.int .i64 0, .int .i64 0, .int .i64 0, .int .i64 0, .int .i64 0, .int .i64 0, .int .i64 0, .int .i64 0, .slice none 0 0] : Array Value).size = 9 from rfl)
  have hbg : RdB w g A n bs := hb.more hB
  have HBG := Lib.hid hbg
  clear hb hbg
  go_enter Try.func58, Try.ntmps58
  go_upto_region 2 with fail
  refine nameW ?_
  intro wv hwv
  obtain ⟨b, hbb⟩ : ∃ b, b = w.heap.size := ⟨_, rfl⟩
  rw [← hbb]
  have kz : Blk wv b 35 #[.int .i64 0, .int .i64 0, .int .i64 0, .int .i64 0, .int .i64 0, .int .i64 0, .int .i64 0, .int .i64 0, .slice none 0 0] := by rw [hwv, hbb]; exact (Blk.new w _ _).alloc _
  have ks : Blk wv (b + 1) 35 (uc (pad8 []) (.slice none 0 0)) := by
    have h := Blk.new (w.alloc (.cells #[.int .i64 0, .int .i64 0, .int .i64 0, .int .i64 0, .int .i64 0, .int .i64 0, .int .i64 0, .int .i64 0, .slice none 0 0] 35)) 35 #[.int .i64 0, .int .i64 0, .int .i64 0, .int .i64 0, .int .i64 0, .int .i64 0, .int .i64 0, .int .i64 0, .slice none 0 0]
    rw [hwv, hbb, ← zero9p]
    simpa using h
  have gW : w.grownBy wv (some g) := by rw [hwv]; exact only_alloc (only_alloc (grown_refl _ _) _) _
  have hR1 : RSt wv g A n c bs bs 0 := by rw [hwv]; exact hR.map (fun _ _ k => (k.alloc _).alloc _)
  have hwb : w.heap.size ≤ b := by omega
  have hgb : g < b := by omega
  clear hwv hbb hR
  go_wp2_with fail
  go_loopw [8] (fun i wr => ∃ (k : Nat), k ≤ 8 ∧ i = .int .i64 k ∧ RSt wr g A n c bs (rdI k bs 0).2.1 (rdI k bs 0).2.2 ∧ Blk wr (b + 1) 35 (uc (pad8 (rdI k bs 0).1) (.slice none 0 0)) ∧ Blk wr b 35 #[.int .i64 0, .int .i64 0, .int .i64 0, .int .i64 0, .int .i64 0, .int .i64 0, .int .i64 0, .int .i64 0, .slice none 0 0] ∧ w.grownBy wr (some g)) (fun i _ => 8 - (intOf i).toNat)
  case atStart => exact ⟨0, by omega, rfl, hR1, ks, kz, gW⟩
  case round =>
  clear hR1 ks kz gW
  obtain ⟨k, hk, rfl, hR, ks, kz, gW⟩ := hrel
  have hrb := Rdr.only HBG.out gW hglt
  by_cases hlt : k < 8
  case pos =>
    have hln := rdI_len bs 0 k
    have hs : rdI (k + 1) bs 0 = ((rdI k bs 0).1 ++ [((Vint.intM (rdI k bs 0).2.1 (rdI k bs 0).2.2).1 : Int)], (Vint.intM (rdI k bs 0).2.1 (rdI k bs 0).2.2).2) := by rw [rdI]
    generalize rdI k bs 0 = S at *
    obtain ⟨L, r, e⟩ := S
    simp only at hs hR ks hln
    have hps := pad8_set (l := L) (by omega)
    have hpl := pad8_len (l := L) (by omega)
    have HSt := Lib.hid hs
    have HPS := Lib.hid hps
    have HPL := Lib.hid hpl
    have hk0 : (0 : Int) ≤ (k : Int) := by omega
    have hk1 : (k : Int) < 8 := by omega
    clear hs hps hpl
    go_wp2_with fail
    refine (rint_m g A n c g bs r e wr hR hrb hn).mono ?_
    rintro e' w3 ⟨rfl, g3, R3⟩
    generalize Vint.intM r e = V at *
    obtain ⟨v, r', e'⟩ := V
    simp only at R3 HSt
    have ks3 := ks.grown g3 (fun h => by injection h; omega)
    have kz3 := kz.grown g3 (fun h => by injection h; omega)
    have gW3 := grown_trans gW g3
    have c0 : w3.cell? ⟨b + 1, k, none⟩ = some (.int .i64 ((pad8 L).getD k 0)) := (ks3.cell k).trans (uc_at HPL.out _ hlt)
    have f0 := ks3.free k
    have hset := uc_set HPL.out (.slice none 0 0) hlt ((v : Nat) : Int)
    rw [show (pad8 L).set k ((v : Nat) : Int) = pad8 (L ++ [((v : Nat) : Int)]) by rw [← hln]; exact HPS.out _] at hset
    have ks4 := ks3.set_ k (.int .i64 ((v : Nat) : Int))
    rw [hset] at ks4
    have kz4 := kz3.far (p := ⟨b + 1, k, none⟩) (by show b ≠ b + 1; omega) (.int .i64 ((v : Nat) : Int))
    have gW4 := only_new gW3 (p := ⟨b + 1, k, none⟩) (by show _ ≤ b + 1; omega) (.int .i64 ((v : Nat) : Int))
    have R4 := R3.map (fun _ _ q => q.far (p := ⟨b + 1, k, none⟩) (by show g ≠ b + 1; omega) (.int .i64 ((v : Nat) : Int)))
    have KS := Lib.hid ks4
    have KZ := Lib.hid kz4
    have GW := Lib.hid gW4
    have RR := Lib.hid R4
    clear hset ks4 kz4 gW4 R4 ks kz gW hR R3 ks3 kz3 gW3 g3 hrb
    go_wp2_with fail
    go_roundw
    case rel => exact ⟨k + 1, by omega, by go_num, by rw [HSt.out]; exact RR.out, by rw [HSt.out]; exact KS.out, KZ.out, GW.out⟩
    case measure => simp [intOf]; omega
  case neg =>
  obtain rfl : k = 8 := by omega
  have hUl := rdI_len bs 0 8
  have hNN : rdN bs = Vint.intM (rdI 8 bs 0).2.1 (rdI 8 bs 0).2.2 := by rw [rdN]
  have hUU : rdU bs = (rdI 8 bs 0).1 := by rw [rdU]
  rw [pad8_all hUl, ← hUU] at ks
  rw [← hUU] at hUl
  generalize rdI 8 bs 0 = S at *
  obtain ⟨L0, r, e⟩ := S
  simp only at hNN hR
  have HNN := Lib.hid hNN
  have HUL := Lib.hid hUl
  have HRL := Lib.hid (show rdL bs = rdDs (rdN bs).1 (rdN bs).2.1 (failM (rdN bs).1 (rdN bs).2.2) by rw [rdL])
  clear hNN hUU hUl
  generalize hUe : rdU bs = U at *
  have HUE := Lib.hid hUe
  clear hUe
  go_wp2_with fail
  refine (rint_m g A n c g bs r e wr hR hrb hn).mono ?_
  rintro e1 w3 ⟨rfl, g3, R3⟩
  have hsm := intM_small r e
  rw [← HNN.out] at R3 hsm ⊢
  generalize rdN bs = V at *
  obtain ⟨v, r, e⟩ := V
  simp only at R3 HRL hsm ⊢
  have ks3 := ks.grown g3 (fun h => by injection h; omega)
  have kz3 := kz.grown g3 (fun h => by injection h; omega)
  have gW3 := grown_trans gW g3
  clear ks kz gW hR g3 HNN hrb
  by_cases hbig : 768 < v
  case pos =>
    have he0 : e = 0 := by
      false_or_by_contra
      have := hsm (by assumption)
      omega
    subst he0
    have hfm : failM v 0 = 6 := by unfold failM; rw [if_pos hbig]; rfl
    have hrl := HRL.out
    rw [hfm, rdDs_stuck r 6 0 (show (6 : Nat) ≠ 0 by decide) v (by omega)] at hrl
    have hrl2 : rdL bs = ([], r, 6) := hrl
    have HRLx := Lib.hid hrl2
    have hdb : decide ((768 : Int) < ((v : Nat) : Int)) = true := decide_eq_true (by omega)
    clear HRL hfm hrl hrl2 hsm
    go_wp2_with fail
    refine (rfail_m g 6 A n c bs r 0 _ R3).mono ?_
    rintro e1 w4 ⟨rfl, g4, R4⟩
    rw [if_pos rfl] at R4
    have ks4 := ks3.grown g4 (fun h => by injection h; omega)
    have kz4 := kz3.grown g4 (fun h => by injection h; omega)
    have gW4 := grown_trans gW3 g4
    clear ks3 kz3 gW3 R3 g4
    go_wp2_with fail
    go_loopw [6] (fun i wr => ∃ k : Nat, k = 0 ∧ i = .int .i64 k ∧ w4 = wr) (fun _ _ => 0)
    case atStart => exact ⟨0, rfl, rfl, rfl⟩
    case round =>
      obtain ⟨k, hk0, rfl, rfl⟩ := hrel
      have hk1 : (k : Int) < ((v : Nat) : Int) := by omega
      clear hk0 hbig hdb
      have hR := R4
      have ks := ks4
      have kz := kz4
      have gW := gW4
      have oD : OwnD w4 w4.heap.size none 0 0 [] := OwnD.nil _ _
      obtain ⟨Ad, hAd⟩ : ∃ Ad : Option Addr, Ad = none := ⟨_, rfl⟩
      obtain ⟨m, hm0⟩ : ∃ m : Nat, m = 0 := ⟨_, rfl⟩
      obtain ⟨cd, hcd⟩ : ∃ cd : Nat, cd = 0 := ⟨_, rfl⟩
      have oD : OwnD w4 w4.heap.size Ad m cd [] := by rw [hAd, hm0, hcd]; exact OwnD.nil _ _
      rw [show (uc U (.slice none 0 0)) = uc U (.slice Ad m cd) by rw [hAd, hm0, hcd]] at ks
      have hwo0 : w.heap.size ≤ w4.heap.size := gW.size
      obtain ⟨at9, _, k9, _⟩ := R4
      have c2 : w4.cell? ⟨g, 2, none⟩ = some (.int .i64 6) := k9.cell 2
      clear kz4 gW4 ks4 k9 hAd hm0 hcd
      go_upto_region 15 with fail
      clear c2
      have HUS := Lib.hid (uc_size HUL.out (.slice Ad m cd))
      have HUO := Lib.hid (uc_one (U := U) (s := .slice Ad m cd) rfl)
      obtain ⟨su, hsu⟩ : ∃ su, su = uc U (.slice Ad m cd) := ⟨_, rfl⟩
      rw [← hsu] at HUS HUO ks
      have HSU := Lib.hid hsu
      clear hsu
      go_wp2_with (first
        | ((with_reducible refine wpList_ld rowRS ks HUS.out ?_ ?_); rotate_left; (rfl))
        | ((with_reducible refine wpList_st rowRS kz HUS.out ZS.out HUO.out ?_ ?_ ?_); rotate_left; (rfl); (rfl); intro w92 k92 g92 z92))
      have o92 := oD.grown g92 (.inr (own_ne oD.2 kz (by decide)))
      have gz := grown_on gW g92 hwb
      have r92 := hR.map (fun _ _ k => k.grown g92 (fun h => by injection h; omega))
      have hrl := HRLx.out
      exact bodyPost_ret (v := .agg su) (results_blk rfl rowRS k92 HUS.out rfl) rfl ⟨Ad, m, cd, by rw [HSU.out, HUE.out], by rw [hrl]; exact o92.mono hwo0, by rw [hrl]; exact r92, gz⟩
  case neg =>
    have hfm : failM v e = e := by unfold failM; rw [if_neg hbig]
    have hdb : decide ((768 : Int) < ((v : Nat) : Int)) = false := decide_eq_false (by omega)
    have hrl := HRL.out
    rw [hfm] at hrl
    have HRL2 := Lib.hid hrl
    clear hrl hfm HRL hsm
    go_wp2_with fail
    obtain ⟨wo, hwo⟩ : ∃ wo, wo = w3 := ⟨_, rfl⟩
    have hbs2 : b + 1 < wo.heap.size := by rw [hwo]; exact ks3.lt
    have hbs4 : wo.heap.size ≤ w3.heap.size := by rw [hwo]; exact Nat.le_refl _
    have hwo0 : w.heap.size ≤ wo.heap.size := by rw [hwo]; exact gW3.size
    clear hwo
    go_loopw [6] (fun i wr => ∃ (k : Nat) (Ad : Option Addr) (m cd : Nat), k ≤ v ∧ i = .int .i64 k ∧ m ≤ k ∧ RSt wr g A n c bs (rdDs k r e).2.1 (rdDs k r e).2.2 ∧ Blk wr (b + 1) 35 (uc U (.slice Ad m cd)) ∧ OwnD wr wo.heap.size Ad m cd (rdDs k r e).1 ∧ Blk wr b 35 #[.int .i64 0, .int .i64 0, .int .i64 0, .int .i64 0, .int .i64 0, .int .i64 0, .int .i64 0, .int .i64 0, .slice none 0 0] ∧ w.grownBy wr (some g) ∧ wo.heap.size ≤ wr.heap.size) (fun i _ => v - (intOf i).toNat)
    case atStart => exact ⟨0, none, 0, 0, by omega, rfl, by omega, R3, ks3, OwnD.nil _ _, kz3, gW3, hbs4⟩
    case round =>
    clear R3 ks3 kz3 gW3 hbs4
    obtain ⟨k, Ad, m, cd, hk, rfl, hmk, hR, ks, oD, kz, gW, hws⟩ := hrel
    have hk0 : (0 : Int) ≤ (k : Int) := by omega
    have hst : k < v → (rdDs k r e).2.2 = 0 → rdDs (k + 1) r e = ((rdDs k r e).1 ++ [(rdD1 (rdDs k r e).2).1], (rdD1 (rdDs k r e).2).2) := fun _ h => by rw [rdDs, if_pos h]
    have hfin : (k = v ∨ (rdDs k r e).2.2 ≠ 0) → rdDs v r e = rdDs k r e := fun h => by
      rcases h with h | h
      · rw [h]
      · exact rdDs_stuck r e k h v hk
    generalize rdDs k r e = S at *
    obtain ⟨L, r1, e1⟩ := S
    simp only at hR oD hst hfin
    have HST := Lib.hid hst
    have HFN := Lib.hid hfin
    clear hst hfin
    have hrb := Rdr.only HBG.out gW hglt
    obtain ⟨at9, h91, k9, h92⟩ := hR
    have c2 : wr.cell? ⟨g, 2, none⟩ = some (.int .i64 (e1 : Nat)) := k9.cell 2
    have hR : RSt wr g A n c bs r1 e1 := ⟨at9, h91, k9, h92⟩
    clear h91 k9 h92
    by_cases hgo : k < v ∧ e1 = 0
    case pos =>
      obtain ⟨hlt, rfl⟩ := hgo
      have hst := HST.out hlt rfl
      have HST2 := Lib.hid hst
      have hk1 : (k : Int) < ((v : Nat) : Int) := by omega
      have hv := hbig
      clear HST HFN hst HRL2
      go_wp2_with fail
      clear c2
      refine (rint_m g A n c g bs r1 0 wr hR hrb hn).mono ?_
      rintro e' w4 ⟨rfl, g4, R4⟩
      have hrd : rdD1 (r1, 0) = ((((Vint.intM r1 0).1 : Int), ((Vint.intM (Vint.intM r1 0).2.1 (Vint.intM r1 0).2.2).1 : Int)), (Vint.intM (Vint.intM r1 0).2.1 (Vint.intM r1 0).2.2).2) := by rw [rdD1]
      rw [hrd] at HST2
      clear hrd
      generalize Vint.intM r1 0 = V1 at *
      obtain ⟨x1, r2, e2⟩ := V1
      simp only at R4 HST2
      have ks4 := ks.grown g4 (fun h => by injection h; omega)
      have kz4 := kz.grown g4 (fun h => by injection h; omega)
      have gW4 := grown_trans gW g4
      have o4 := oD.grown g4 (.inr (fun h => by have := (oD.lt g h).1; omega))
      have hws4 := Nat.le_trans hws g4.size
      have hrb4 := Rdr.only HBG.out gW4 hglt
      clear ks kz gW oD hR g4 hrb
      have hri := rint_m g A n c g bs r2 e2
      unfold RIntM at hri
      generalize Vint.intM r2 e2 = V2 at *
      obtain ⟨x2, r3, e3⟩ := V2
      simp only at hri HST2
      have HRI := Lib.hid hri
      clear hri
      go_upto_region 14 with fail
      have c8 : w4.cell? ⟨b + 1, 8, none⟩ = some (.slice Ad m cd) := (ks4.cell 8).trans (uc_last HUL.out _)
      refine wp_region_held_drew (S := fun _ => True) (by kernel_rfl) trivial (fun hS => ?_)
      replace ks4 := ks4.drew
      replace kz4 := kz4.drew
      replace gW4 : w.grownBy w4.drew (some g) := only_drew gW4
      replace o4 := o4.drew
      replace R4 : RSt w4.drew g A n c bs r2 e2 := R4.map (fun _ _ q => q.drew)
      replace hrb4 : RdB w4.drew g A n bs := Rdr.only HBG.out gW4 hglt
      replace c8 : w4.drew.cell? ⟨b + 1, 8, none⟩ = some (.slice Ad m cd) := (ks4.cell 8).trans (uc_last HUL.out _)
      replace hws4 : wo.heap.size ≤ w4.drew.heap.size := hws4
      generalize w4.drew = wd at *
      refine wpAnyH_take (i := 0) (v := ?rv253) rfl (by kernel_rfl) (by kernel_rfl) (by kernel_rfl) (fun _ _ _ h => h) (Or.inl ⟨by rfl, ?ry253⟩) hS ?_
      case ry253 => (intro wS hSw; clear hSw; go_simp; (try with_reducible rfl))
      simp only [Act.put, List.getElem_toArray, List.getElem_cons_zero, List.getElem_cons_succ, List.setIfInBounds_toArray, List.set_cons_succ, List.set_cons_zero]
      refine wpAnyH_take (i := 2) (v := ?rv256) rfl (by kernel_rfl) (by kernel_rfl) (by kernel_rfl) (fun _ _ _ h => h) (Or.inl ⟨by rfl, ?ry256⟩) hS ?_
      case ry256 => (intro wS hSw; clear hSw; go_simp; (try with_reducible rfl))
      simp only [Act.put, List.getElem_toArray, List.getElem_cons_zero, List.getElem_cons_succ, List.setIfInBounds_toArray, List.set_cons_succ, List.set_cons_zero]
      refine wpAnyH_take (i := 3) (v := ?rv259) rfl (by kernel_rfl) (by kernel_rfl) (by kernel_rfl) (fun _ _ _ h => h) (Or.inl ⟨by rfl, ?ry259⟩) hS ?_
      case ry259 => (intro wS hSw; clear hSw; go_simp; (try with_reducible rfl))
      simp only [Act.put, List.getElem_toArray, List.getElem_cons_zero, List.getElem_cons_succ, List.setIfInBounds_toArray, List.set_cons_succ, List.set_cons_zero]
      clear c8
      refine wpAnyH_ready (rs := [1, 4]) (by kernel_rfl) (by simp) ?_
      refine AllReadyH.cons rfl (fun K hK => ?first) (AllReadyH.cons rfl (fun K hK => ?second) .nil)
      case' first =>
        have c8 : wd.cell? ⟨b + 1, 8, none⟩ = some (.slice Ad m cd) := (ks4.cell 8).trans (uc_last HUL.out _)
        go_simp
        refine hK.out _ _ trivial (fun hS => ?_)
        clear hK K c8
        refine wpAnyH_ready (rs := [4]) (by kernel_rfl) (by simp) ?_
        refine AllReadyH.cons rfl (fun K hK => ?_) .nil
        go_simp
        refine (HRI.out _ R4 hrb4 hn).mono ?_
        rintro e' w6 ⟨rfl, g6, R6⟩
        have ks6 := ks4.grown g6 (fun h => by injection h; omega)
        have kz6 := kz4.grown g6 (fun h => by injection h; omega)
        have gW6 := grown_trans gW4 g6
        have o6 := o4.grown g6 (.inr (fun h => by have := (o4.lt g h).1; omega))
        have hws6 := Nat.le_trans hws4 g6.size
        refine hK.out _ _ trivial (fun hS => ?_)
        clear hK K ks4 kz4 gW4 o4 hws4 R4 hrb4 g6
        refine wpAnyH_take (i := 5) (v := ?rv282) rfl (by kernel_rfl) (by kernel_rfl) (by kernel_rfl) (fun _ _ _ h => h) (Or.inl ⟨by rfl, ?ry282⟩) hS ?_
        case ry282 => (intro wS hSw; clear hSw; go_simp; (try with_reducible rfl))
        simp only [Act.put, List.getElem_toArray, List.getElem_cons_zero, List.getElem_cons_succ, List.setIfInBounds_toArray, List.set_cons_succ, List.set_cons_zero]
        refine wpAnyH_ready (rs := [6]) (by kernel_rfl) (by simp) ?_
        refine AllReadyH.cons rfl (fun K hK => ?_) .nil
        go_simp
        have ks7 := ks6.alloc (.cells #[.int .i64 (x1 : Nat), .int .i64 (x2 : Nat)] 27)
        have kz7 := kz6.alloc (.cells #[.int .i64 (x1 : Nat), .int .i64 (x2 : Nat)] 27)
        have gW7 := only_alloc gW6 (.cells #[.int .i64 (x1 : Nat), .int .i64 (x2 : Nat)] 27)
        have o7 := o6.alloc (.cells #[.int .i64 (x1 : Nat), .int .i64 (x2 : Nat)] 27)
        have R7 := R6.map (w' := w6.alloc (.cells #[.int .i64 (x1 : Nat), .int .i64 (x2 : Nat)] 27)) (fun _ _ q => q.alloc _)
        have rX := Rd.made w6 #[.int .i64 (x1 : Nat), .int .i64 (x2 : Nat)] 27 (0, 0)
        have hws7 : wo.heap.size ≤ (w6.alloc (.cells #[.int .i64 (x1 : Nat), .int .i64 (x2 : Nat)] 27)).heap.size := by simp; omega
        refine hK.out _ _ trivial (fun hS => ?_)
        clear hK K ks6 kz6 gW6 o6 R6 hws6
        generalize w6.alloc (.cells #[.int .i64 (x1 : Nat), .int .i64 (x2 : Nat)] 27) = w7 at *
        generalize w6.heap.size = gx at *
      case' second =>
        go_simp
        refine (HRI.out _ R4 hrb4 hn).mono ?_
        rintro e' w6 ⟨rfl, g6, R6⟩
        have ks6 := ks4.grown g6 (fun h => by injection h; omega)
        have kz6 := kz4.grown g6 (fun h => by injection h; omega)
        have gW6 := grown_trans gW4 g6
        have o6 := o4.grown g6 (.inr (fun h => by have := (o4.lt g h).1; omega))
        have hws6 := Nat.le_trans hws4 g6.size
        refine hK.out _ _ trivial (fun hS => ?_)
        clear hK K ks4 kz4 gW4 o4 hws4 R4 hrb4 g6
        refine wpAnyH_take (i := 5) (v := ?rv310) rfl (by kernel_rfl) (by kernel_rfl) (by kernel_rfl) (fun _ _ _ h => h) (Or.inl ⟨by rfl, ?ry310⟩) hS ?_
        case ry310 => (intro wS hSw; clear hSw; go_simp; (try with_reducible rfl))
        simp only [Act.put, List.getElem_toArray, List.getElem_cons_zero, List.getElem_cons_succ, List.setIfInBounds_toArray, List.set_cons_succ, List.set_cons_zero]
        refine wpAnyH_ready (rs := [1, 6]) (by kernel_rfl) (by simp) ?_
        refine AllReadyH.cons rfl (fun K hK => ?third) (AllReadyH.cons rfl (fun K hK => ?fourth) .nil)
      case' third =>
        have c8 : w6.cell? ⟨b + 1, 8, none⟩ = some (.slice Ad m cd) := (ks6.cell 8).trans (uc_last HUL.out _)
        go_simp
        refine hK.out _ _ trivial (fun hS => ?_)
        clear hK K c8
        refine wpAnyH_ready (rs := [6]) (by kernel_rfl) (by simp) ?_
        refine AllReadyH.cons rfl (fun K hK => ?_) .nil
        go_simp
        have ks7 := ks6.alloc (.cells #[.int .i64 (x1 : Nat), .int .i64 (x2 : Nat)] 27)
        have kz7 := kz6.alloc (.cells #[.int .i64 (x1 : Nat), .int .i64 (x2 : Nat)] 27)
        have gW7 := only_alloc gW6 (.cells #[.int .i64 (x1 : Nat), .int .i64 (x2 : Nat)] 27)
        have o7 := o6.alloc (.cells #[.int .i64 (x1 : Nat), .int .i64 (x2 : Nat)] 27)
        have R7 := R6.map (w' := w6.alloc (.cells #[.int .i64 (x1 : Nat), .int .i64 (x2 : Nat)] 27)) (fun _ _ q => q.alloc _)
        have rX := Rd.made w6 #[.int .i64 (x1 : Nat), .int .i64 (x2 : Nat)] 27 (0, 0)
        have hws7 : wo.heap.size ≤ (w6.alloc (.cells #[.int .i64 (x1 : Nat), .int .i64 (x2 : Nat)] 27)).heap.size := by simp; omega
        refine hK.out _ _ trivial (fun hS => ?_)
        clear hK K ks6 kz6 gW6 o6 R6 hws6
        generalize w6.alloc (.cells #[.int .i64 (x1 : Nat), .int .i64 (x2 : Nat)] 27) = w7 at *
        generalize w6.heap.size = gx at *
      case' fourth =>
        go_simp
        have ks7 := ks6.alloc (.cells #[.int .i64 (x1 : Nat), .int .i64 (x2 : Nat)] 27)
        have kz7 := kz6.alloc (.cells #[.int .i64 (x1 : Nat), .int .i64 (x2 : Nat)] 27)
        have gW7 := only_alloc gW6 (.cells #[.int .i64 (x1 : Nat), .int .i64 (x2 : Nat)] 27)
        have o7 := o6.alloc (.cells #[.int .i64 (x1 : Nat), .int .i64 (x2 : Nat)] 27)
        have R7 := R6.map (w' := w6.alloc (.cells #[.int .i64 (x1 : Nat), .int .i64 (x2 : Nat)] 27)) (fun _ _ q => q.alloc _)
        have rX := Rd.made w6 #[.int .i64 (x1 : Nat), .int .i64 (x2 : Nat)] 27 (0, 0)
        have hws7 : wo.heap.size ≤ (w6.alloc (.cells #[.int .i64 (x1 : Nat), .int .i64 (x2 : Nat)] 27)).heap.size := by simp; omega
        refine hK.out _ _ trivial (fun hS => ?_)
        clear hK K ks6 kz6 gW6 o6 R6 hws6
        generalize w6.alloc (.cells #[.int .i64 (x1 : Nat), .int .i64 (x2 : Nat)] 27) = w7 at *
        generalize w6.heap.size = gx at *
        refine wpAnyH_ready (rs := [1]) (by kernel_rfl) (by simp) ?_
        refine AllReadyH.cons rfl (fun K hK => ?_) .nil
        have c8 : w7.cell? ⟨b + 1, 8, none⟩ = some (.slice Ad m cd) := (ks7.cell 8).trans (uc_last HUL.out _)
        go_simp
        refine hK.out _ _ trivial (fun hS => ?_)
        clear hK K c8
      all_goals
        refine wpAnyH_ready (rs := [7]) (by kernel_rfl) (by simp) ?_
        refine AllReadyH.cons rfl (fun K hK => ?_) .nil
        refine step_appD rfl (.tmp 38) (.tmp 43) rfl (by rfl) o7 (by rfl) (m := 1) (news := [(((x1 : Nat) : Int), ((x2 : Nat) : Int))]) rX rfl (by omega) hws7 ?_
        intro A8 c8' w8 o8 g8 m8 b8
        have ks8 := ks7.grown g8 (own_ne o7.2 ks7 (by decide))
        have kz8 := kz7.grown g8 (own_ne o7.2 kz7 (by decide))
        have gW8 := only_below gW7 (b8.mono hwo0)
        have R8 := R7.map (fun _ _ q => q.grown g8 (fun h => by have := (o7.lt g h).1; omega))
        have hws8 := Nat.le_trans hws7 b8.size
        refine hK.out _ _ trivial (fun hS => ?_)
        clear hK K ks7 kz7 gW7 o7 R7 hws7 g8 m8 b8 rX
        refine wpAnyH_take (i := 8) (v := ?rv365) rfl (by kernel_rfl) (by kernel_rfl) (by kernel_rfl) (fun _ _ _ h => h) (Or.inl ⟨by rfl, ?ry365⟩) hS ?_
        case ry365 => (intro wS hSw; clear hSw; go_simp; (try with_reducible rfl))
        simp only [Act.put, List.getElem_toArray, List.getElem_cons_zero, List.getElem_cons_succ, List.setIfInBounds_toArray, List.set_cons_succ, List.set_cons_zero]
        have c9 : w8.cell? ⟨b + 1, 8, none⟩ = some (.slice Ad m cd) := (ks8.cell 8).trans (uc_last HUL.out _)
        have f9 := ks8.free 8
        have hne8 := own_ne o8.2 ks8 (by decide)
        have ks9 := ks8.set_ 8 (.slice A8 (m + 1) c8')
        rw [uc_setS HUL.out] at ks9
        have kz9 := kz8.far (p := ⟨b + 1, 8, none⟩) (by show b ≠ b + 1; omega) (.slice A8 (m + 1) c8')
        have gW9 := only_new gW8 (p := ⟨b + 1, 8, none⟩) (by show _ ≤ b + 1; omega) (.slice A8 (m + 1) c8')
        have o9 := o8.setFar (p := ⟨b + 1, 8, none⟩) hne8 (.slice A8 (m + 1) c8')
        have R9 := R8.map (fun _ _ q => q.far (p := ⟨b + 1, 8, none⟩) (by show g ≠ b + 1; omega) (.slice A8 (m + 1) c8'))
        have hws9 : wo.heap.size ≤ (w8.setCell ⟨b + 1, 8, none⟩ (.slice A8 (m + 1) c8')).heap.size := by simpa [World.setCell] using hws8
        have KS := Lib.hid ks9
        have KZ := Lib.hid kz9
        have GW := Lib.hid gW9
        have OO := Lib.hid o9
        have RR := Lib.hid R9
        have WS := Lib.hid hws9
        clear ks9 kz9 gW9 o9 R9 hws9 ks8 kz8 gW8 o8 R8 hws8 hne8
        refine wpAnyH_ready (rs := [9]) (by kernel_rfl) (by simp) ?_
        refine AllReadyH.cons rfl (fun K hK => ?_) .nil
        go_simp
        refine hK.out _ _ trivial (fun hS => ?_)
        clear hK K c9 f9
        refine wpAnyH_done (by kernel_rfl) ?_ _
        go_wp2_with fail
        go_roundw
        case rel => exact ⟨_, _, _, _, _, _, _, _, _, _, _, _, _, _, _, _, _, _, _, _, _, _, _, _, _, ⟨k + 1, A8, m + 1, c8', by omega, by go_num, by omega, by rw [HST2.out]; exact RR.out, KS.out, by rw [HST2.out]; exact OO.out, KZ.out, GW.out, WS.out⟩, rfl⟩
        case measure => simp [intOf]; omega
    case neg =>
      have hf2 := HFN.out (by omega)
      have hrl := HRL2.out
      rw [hf2] at hrl
      have HRLx := Lib.hid hrl
      clear HST HFN hf2 hrl HRL2 hrb
      by_cases hlt : k < v
      case' pos =>
        have he1 : e1 ≠ 0 := fun h => hgo ⟨hlt, h⟩
        have hk1 : (k : Int) < ((v : Nat) : Int) := by omega
        have hq : (((e1 : Nat) : Int) == 0) = false := by rw [beq_eq_false_iff_ne]; omega
        go_upto_region 15 with fail
        clear c2
      case' neg =>
        obtain rfl : k = v := by omega
        clear hgo
        go_upto_region 15 with fail
        clear c2
      all_goals
        have HUS := Lib.hid (uc_size HUL.out (.slice Ad m cd))
        have HUO := Lib.hid (uc_one (U := U) (s := .slice Ad m cd) rfl)
        obtain ⟨su, hsu⟩ : ∃ su, su = uc U (.slice Ad m cd) := ⟨_, rfl⟩
        rw [← hsu] at HUS HUO ks
        have HSU := Lib.hid hsu
        clear hsu
        go_wp2_with (first
          | ((with_reducible refine wpList_ld rowRS ks HUS.out ?_ ?_); rotate_left; (rfl))
          | ((with_reducible refine wpList_st rowRS kz HUS.out ZS.out HUO.out ?_ ?_ ?_); rotate_left; (rfl); (rfl); intro w92 k92 g92 z92))
        have o92 := oD.grown g92 (.inr (own_ne oD.2 kz (by decide)))
        have gz := grown_on gW g92 hwb
        have r92 := hR.map (fun _ _ k => k.grown g92 (fun h => by injection h; omega))
        have hrl := HRLx.out
        exact bodyPost_ret (v := .agg su) (results_blk rfl rowRS k92 HUS.out rfl) rfl ⟨Ad, m, cd, by rw [HSU.out, HUE.out], by rw [hrl]; exact o92.mono hwo0, by rw [hrl]; exact r92, gz⟩
end Go.Proofs.Ytacmdkjodnaohaa

/- The walk of the document's Get (printed by wip/gen/dotrget2.py). -/
namespace Go.Proofs.Ytacmdkjodnaohaa
open Go.RowKit
open Dot
set_option maxRecDepth 100000 in
set_option maxHeartbeats 1000000 in
theorem rget_any (A : Option Addr) (n c : Nat) (bs : List UInt8) (B : Nat) (w : World) (hb : RdB w B A n bs) (hB : B ≤ w.heap.size) (hl : n ≤ 1000000000) :
    Calls Try.prog 32 #[.slice A n c] w (GetEnd w bs) := by
  unfold GetEnd
  have ZS := Lib.hid (show (#[.int .i64 0, .int .i64 0, .int .i64 0, .int .i64 0, .int .i64 0, .int .i64 0, .int .i64 0, .int .i64 0, .slice none 0 0] : Array Value).size = 9 from rfl)
  have ZS1 := Lib.hid (show (#[.int .i64 0, .int .i64 0, .int .i64 0, .int .i64 0, .int .i64 0, .int .i64 0, .int .i64 0, .int .i64 0, .slice none 0 0] : Array Value).all (·.oneCell') = true by rw [zero9]; exact uc_one rfl)
  have HNB := Lib.hid hb.1
  go_enter Try.func32, Try.ntmps32
  go_upto_region 2 with fail
  refine nameW ?_
  intro wv hwv
  obtain ⟨b, hbb⟩ : ∃ b, b = w.heap.size := ⟨_, rfl⟩
  rw [← hbb]
  have kz : Blk wv b 35 #[.int .i64 0, .int .i64 0, .int .i64 0, .int .i64 0, .int .i64 0, .int .i64 0, .int .i64 0, .int .i64 0, .slice none 0 0] := by rw [hwv, hbb]; exact (Blk.new w _ _).alloc _
  have kr : Blk wv (b + 1) 94 #[.slice A n c, .int .i64 0, .int .i64 0] := by
    have h := Blk.new (w.alloc (.cells #[.int .i64 0, .int .i64 0, .int .i64 0, .int .i64 0, .int .i64 0, .int .i64 0, .int .i64 0, .int .i64 0, .slice none 0 0] 35)) 94 #[.slice A n c, .int .i64 0, .int .i64 0]
    rw [hwv, hbb]
    simpa using h
  have gW : Below w.heap.size w wv := by rw [hwv]; exact ((Below.refl _ _).alloc (Nat.le_refl _) _).alloc (by simp) _
  have hwb : w.heap.size ≤ b := by omega
  have hrv : RdB wv B A n bs := hb.below (gW.mono hB)
  have hBb : B ≤ b := by omega
  have hwv1 := gW.size
  clear hwv hbb hb
  have hRs : RSt wv (b + 1) A n c bs bs 0 := ⟨0, Nat.zero_le _, kr, rfl⟩
  have hgl := kr.lt
  clear kr
  obtain ⟨g, hg⟩ : ∃ g, g = b + 1 := ⟨_, rfl⟩
  rw [← hg] at hRs hgl ⊢
  have hbg : b < g := by omega
  have hBg : B ≤ g := by omega
  clear hg hBb
  go_wp2_with fail
  refine (read_any g A n c B bs wv hRs hrv hBg hgl (by omega)).mono ?_
  rintro e w1 ⟨A1, m1, c1, rfl, o1, R1, g1⟩
  have kz1 := kz.grown g1 (fun h => by injection h; omega)
  have gW1 := gW.grown g1 gW.size (fun q hq => by injection hq; omega)
  have hgl1 := Nat.lt_of_lt_of_le hgl g1.size
  have hUl : (rdU bs).length = 8 := rdI_len bs 0 8
  have hgedef : getE bs = if (rdL bs).2.2 = 0 ∧ ((rdL bs).2.1 ≠ [] ∨ rightB (rdU bs) (rdL bs).1 = false) then 4 else (rdL bs).2.2 := by rw [getE]
  have hgu : getE bs = 0 → getU bs = rdU bs ∧ getL bs = (rdL bs).1 := fun h => by unfold getU getL; rw [if_pos h, if_pos h]; exact ⟨rfl, rfl⟩
  generalize rdL bs = S at *
  obtain ⟨L, r, e⟩ := S
  simp only at o1 R1 hgedef hgu
  have HGEd := Lib.hid hgedef
  have HGUd := Lib.hid hgu
  have HUL := Lib.hid hUl
  have HUS := Lib.hid (uc_size hUl (.slice A1 m1 c1))
  have HUO := Lib.hid (uc_one (U := rdU bs) (s := .slice A1 m1 c1) rfl)
  have hra := fun w' (h : Below w1.heap.size w1 w') => rright_any (rdU bs) hUl A1 m1 c1 L w' ((o1.rd.below h).more h.size)
  obtain ⟨su, hsu⟩ : ∃ su, su = uc (rdU bs) (.slice A1 m1 c1) := ⟨_, rfl⟩
  rw [← hsu] at HUS HUO hra ⊢
  have HRA := Lib.hid hra
  have HSU := Lib.hid hsu
  clear hUl hgedef hgu hsu hra kz gW hgl hRs hrv g1
  go_upto_region 3 with ((with_reducible refine wpList_st rowRS (Blk.new _ _ _) HUS.out ?_ HUO.out ?_ ?_ ?_); (rfl); rotate_left; (rfl); (rfl); intro w2 k2 g2 z2)
  have q2 : Below w1.heap.size w1 w2 := ((Below.refl _ _).alloc (Nat.le_refl _) _).grown g2 (by simp) (fun q hq => by injection hq with hq; omega)
  have kz := kz1.below q2 kz1.lt
  have gW := gW1.trans (q2.mono gW1.size)
  have o2 := o1.below q2 (Nat.le_refl _)
  have R2 : RSt w2 g A n c bs r e := R1.map (fun _ _ k => k.below q2 hgl1)
  have hgl := Nat.lt_of_lt_of_le hgl1 q2.size
  obtain ⟨gs, hgs⟩ : ∃ gs, gs = w1.heap.size := ⟨_, rfl⟩
  have hggs : g < gs := by omega
  have hw1g : w1.heap.size ≤ gs := by omega
  rw [← hgs] at k2 ⊢
  clear hgs g2 z2 kz1 gW1 o1 R1 hgl1
  obtain ⟨at', hat, kR, hdr⟩ := R2
  have c1' : w2.cell? ⟨g, 1, none⟩ = some (.int .i64 (at' : Nat)) := kR.cell 1
  have c2 : w2.cell? ⟨g, 2, none⟩ = some (.int .i64 (e : Nat)) := kR.cell 2
  have f2 := kR.free 2
  have hrn : r = [] ↔ at' = n := by
    have := HNB.out
    have h2 := congrArg List.length hdr
    rw [List.length_drop] at h2
    constructor
    · intro h; rw [h] at h2; simp at h2; omega
    · intro h; rw [← List.length_eq_zero_iff]; omega
  have HRN := Lib.hid hrn
  obtain ⟨kzc, hkzc⟩ : ∃ kzc : Array Value, kzc = #[.int .i64 0, .int .i64 0, .int .i64 0, .int .i64 0, .int .i64 0, .int .i64 0, .int .i64 0, .int .i64 0, .slice none 0 0] := ⟨_, rfl⟩
  rw [← hkzc] at kz
  have KZS := Lib.hid (show kzc.size = 9 by rw [hkzc]; rfl)
  clear hkzc hrn hdr
  have hk4 := Blk.set_ kR 2 (.int .i64 4)
  by_cases he : e = 0
  case neg =>
    have hq : (((e : Nat) : Int) == 0) = false := by rw [beq_eq_false_iff_ne]; omega
    have hge := HGEd.out
    rw [if_neg (fun h => he h.1)] at hge
    have HGE := Lib.hid hge
    clear HGEd HGUd HRA hge c1' hk4 f2 kR
    have hxe : ((((e : Nat) : Int)) != 0) = true := by rw [bne_iff_ne]; omega
    go_upto_region 6 with fail
    refine wp_region_held_drew (S := fun w' => w'.cell? ⟨g, 2, none⟩ = some (.int .i64 ((e : Nat) : Int)) ∧ Blk w' b 35 kzc ∨ w'.cell? ⟨g, 2, none⟩ = some (.int .i64 ((e : Nat) : Int))) (by kernel_rfl) (.inr c2) (fun hS => ?_)
    replace kz := kz.drew
    replace gW := gW.drew
    have c2d : (w2).drew.cell? ⟨g, 2, none⟩ = some (.int .i64 ((e : Nat) : Int)) := c2
    clear c2 hS
    generalize (w2).drew = wd at *
    have hS := Or.inr (a := wd.cell? ⟨g, 2, none⟩ = some (.int .i64 ((e : Nat) : Int)) ∧ Blk wd b 35 kzc) c2d
    refine wpAnyH_take (i := 0) (v := ?rv106) rfl (by kernel_rfl) (by kernel_rfl) (by kernel_rfl) (fun _ _ _ h => h) (Or.inl ⟨by rfl, ?ry106⟩) hS ?_
    case ry106 => (intro wS hSw; clear hSw; go_simp; (try with_reducible rfl))
    simp only [Act.put, List.getElem_toArray, List.getElem_cons_zero, List.getElem_cons_succ, List.setIfInBounds_toArray, List.set_cons_succ, List.set_cons_zero]
    refine wpAnyH_take (i := 1) (v := ?rv109) rfl (by kernel_rfl) (by kernel_rfl) (by kernel_rfl) (fun _ _ _ h => h) (Or.inl ⟨by rfl, ?ry109⟩) hS ?_
    case ry109 => (intro wS hSw; clear hSw; go_simp; (try with_reducible rfl))
    simp only [Act.put, List.getElem_toArray, List.getElem_cons_zero, List.getElem_cons_succ, List.setIfInBounds_toArray, List.set_cons_succ, List.set_cons_zero]
    refine wpAnyH_take (i := 2) (v := ?rv112) rfl (by kernel_rfl) (by kernel_rfl) (by kernel_rfl) (fun _ _ _ h => h) (Or.inl ⟨by rfl, ?ry112⟩) hS ?_
    case ry112 => (intro wS hSw; clear hSw; go_simp; (try with_reducible rfl))
    simp only [Act.put, List.getElem_toArray, List.getElem_cons_zero, List.getElem_cons_succ, List.setIfInBounds_toArray, List.set_cons_succ, List.set_cons_zero]
    refine wpAnyH_take (i := 3) (v := ?rv115) rfl (by kernel_rfl) (by kernel_rfl) (by kernel_rfl) (fun _ _ _ h => h) (Or.inl ⟨by rfl, ?ry115⟩) hS ?_
    case ry115 => (intro wS hSw; clear hSw; go_simp; (try with_reducible rfl))
    simp only [Act.put, List.getElem_toArray, List.getElem_cons_zero, List.getElem_cons_succ, List.setIfInBounds_toArray, List.set_cons_succ, List.set_cons_zero]
    refine wpAnyH_take (i := 4) (v := ?rv118) rfl (by kernel_rfl) (by kernel_rfl) (by kernel_rfl) (fun _ _ _ h => h) (Or.inl ⟨by rfl, ?ry118⟩) hS ?_
    case ry118 => (intro wS hSw; have c2 := (hSw.elim (fun h => h.1) id); clear hSw; go_simp; (try with_reducible rfl))
    simp only [Act.put, List.getElem_toArray, List.getElem_cons_zero, List.getElem_cons_succ, List.setIfInBounds_toArray, List.set_cons_succ, List.set_cons_zero]
    refine wpAnyH_ready (rs := [5]) (by kernel_rfl) (by simp) ?_
    refine AllReadyH.cons rfl (fun K hK => ?_) .nil
    refine step_st rfl rowRS (.tmp 2) (.tmp 38) rfl (by rfl) (by rfl) kz ZS.out KZS.out ZS1.out ?_
    intro w92 k92 g92 z92
    rw [zero9] at k92
    have gz := gW.grown g92 gW.size (fun q hq => by injection hq; omega)
    refine hK.out _ _ (.inr ((grown_cell (p := ⟨g, 2, none⟩) g92 (World.block_lt_of_cell? wd _ c2d) (by show g ≠ b; omega)).trans c2d)) (fun hS => ?_)
    clear hK K
    refine wpAnyH_take (i := 6) (v := ?rv129) rfl (by kernel_rfl) (by kernel_rfl) (by kernel_rfl) (fun _ _ _ h => h) (Or.inl ⟨by rfl, ?ry129⟩) hS ?_
    case ry129 => (intro wS hSw; clear hSw; go_simp; (try with_reducible rfl))
    simp only [Act.put, List.getElem_toArray, List.getElem_cons_zero, List.getElem_cons_succ, List.setIfInBounds_toArray, List.set_cons_succ, List.set_cons_zero]
    refine wpAnyH_done (by kernel_rfl) ?_ _
    go_wp2_with fail
    have hbad := get_bad (bs := bs) (by rw [HGE.out]; omega)
    refine bodyPost_ret (v := .tuple #[.agg (uc (uptoS noG) (.slice none 0 0)), .int .i64 ((e : Nat) : Int)]) (results_blk2 rfl rowRS k92 (by rfl) rfl rfl) rfl ⟨none, 0, 0, by rw [HGE.out, hbad.1], by rw [hbad.2]; exact OwnD.nil _ _, gz⟩
  case pos =>
    subst he
    by_cases hlt : at' < n
    case pos =>
      have hge := HGEd.out
      rw [if_pos (by have := HRN.out; simp [this]; omega)] at hge
      have HGE := Lib.hid hge
      have hl1 : ((at' : Nat) : Int) < ((n : Nat) : Int) := by omega
      have c4 : (w2.setCell ⟨g, 2, none⟩ (.int .i64 4)).cell? ⟨g, 2, none⟩ = some (.int .i64 4) := hk4.cell 2
      have kz4 := kz.far (p := ⟨g, 2, none⟩) (by show b ≠ g; omega) (.int .i64 4)
      have gW4 := gW.setCell (p := ⟨g, 2, none⟩) (by show _ ≤ g; omega) (.int .i64 4)
      obtain ⟨w3, hw3⟩ : ∃ w3, w3 = w2.setCell ⟨g, 2, none⟩ (.int .i64 4) := ⟨_, rfl⟩
      rw [← hw3] at c4 kz4 gW4
      have HW3 := Lib.hid hw3
      have hgl3 : g < w3.heap.size := World.block_lt_of_cell? w3 _ c4
      clear HGEd HGUd HRA hge hk4 kR hw3 hgl kz gW
      go_upto_region 5 with fail
      rw [← HW3.out]
      have c2 := c4
      have kz := kz4
      have gW := gW4
      have hgl := hgl3
      clear c4 kz4 gW4 hgl3 c1' f2
      have hxe : ((((4 : Nat) : Int)) != 0) = true := by rw [bne_iff_ne]; omega
      go_upto_region 6 with fail
      refine wp_region_held_drew (S := fun w' => w'.cell? ⟨g, 2, none⟩ = some (.int .i64 ((4 : Nat) : Int)) ∧ Blk w' b 35 kzc ∨ w'.cell? ⟨g, 2, none⟩ = some (.int .i64 ((4 : Nat) : Int))) (by kernel_rfl) (.inr c2) (fun hS => ?_)
      replace kz := kz.drew
      replace gW := gW.drew
      have c2d : (w3).drew.cell? ⟨g, 2, none⟩ = some (.int .i64 ((4 : Nat) : Int)) := c2
      clear c2 hS
      generalize (w3).drew = wd at *
      have hS := Or.inr (a := wd.cell? ⟨g, 2, none⟩ = some (.int .i64 ((4 : Nat) : Int)) ∧ Blk wd b 35 kzc) c2d
      refine wpAnyH_take (i := 0) (v := ?rv168) rfl (by kernel_rfl) (by kernel_rfl) (by kernel_rfl) (fun _ _ _ h => h) (Or.inl ⟨by rfl, ?ry168⟩) hS ?_
      case ry168 => (intro wS hSw; clear hSw; go_simp; (try with_reducible rfl))
      simp only [Act.put, List.getElem_toArray, List.getElem_cons_zero, List.getElem_cons_succ, List.setIfInBounds_toArray, List.set_cons_succ, List.set_cons_zero]
      refine wpAnyH_take (i := 1) (v := ?rv171) rfl (by kernel_rfl) (by kernel_rfl) (by kernel_rfl) (fun _ _ _ h => h) (Or.inl ⟨by rfl, ?ry171⟩) hS ?_
      case ry171 => (intro wS hSw; clear hSw; go_simp; (try with_reducible rfl))
      simp only [Act.put, List.getElem_toArray, List.getElem_cons_zero, List.getElem_cons_succ, List.setIfInBounds_toArray, List.set_cons_succ, List.set_cons_zero]
      refine wpAnyH_take (i := 2) (v := ?rv174) rfl (by kernel_rfl) (by kernel_rfl) (by kernel_rfl) (fun _ _ _ h => h) (Or.inl ⟨by rfl, ?ry174⟩) hS ?_
      case ry174 => (intro wS hSw; clear hSw; go_simp; (try with_reducible rfl))
      simp only [Act.put, List.getElem_toArray, List.getElem_cons_zero, List.getElem_cons_succ, List.setIfInBounds_toArray, List.set_cons_succ, List.set_cons_zero]
      refine wpAnyH_take (i := 3) (v := ?rv177) rfl (by kernel_rfl) (by kernel_rfl) (by kernel_rfl) (fun _ _ _ h => h) (Or.inl ⟨by rfl, ?ry177⟩) hS ?_
      case ry177 => (intro wS hSw; clear hSw; go_simp; (try with_reducible rfl))
      simp only [Act.put, List.getElem_toArray, List.getElem_cons_zero, List.getElem_cons_succ, List.setIfInBounds_toArray, List.set_cons_succ, List.set_cons_zero]
      refine wpAnyH_take (i := 4) (v := ?rv180) rfl (by kernel_rfl) (by kernel_rfl) (by kernel_rfl) (fun _ _ _ h => h) (Or.inl ⟨by rfl, ?ry180⟩) hS ?_
      case ry180 => (intro wS hSw; have c2 := (hSw.elim (fun h => h.1) id); clear hSw; go_simp; (try with_reducible rfl))
      simp only [Act.put, List.getElem_toArray, List.getElem_cons_zero, List.getElem_cons_succ, List.setIfInBounds_toArray, List.set_cons_succ, List.set_cons_zero]
      refine wpAnyH_ready (rs := [5]) (by kernel_rfl) (by simp) ?_
      refine AllReadyH.cons rfl (fun K hK => ?_) .nil
      refine step_st rfl rowRS (.tmp 2) (.tmp 38) rfl (by rfl) (by rfl) kz ZS.out KZS.out ZS1.out ?_
      intro w92 k92 g92 z92
      rw [zero9] at k92
      have gz := gW.grown g92 gW.size (fun q hq => by injection hq; omega)
      refine hK.out _ _ (.inr ((grown_cell (p := ⟨g, 2, none⟩) g92 (World.block_lt_of_cell? wd _ c2d) (by show g ≠ b; omega)).trans c2d)) (fun hS => ?_)
      clear hK K
      refine wpAnyH_take (i := 6) (v := ?rv191) rfl (by kernel_rfl) (by kernel_rfl) (by kernel_rfl) (fun _ _ _ h => h) (Or.inl ⟨by rfl, ?ry191⟩) hS ?_
      case ry191 => (intro wS hSw; clear hSw; go_simp; (try with_reducible rfl))
      simp only [Act.put, List.getElem_toArray, List.getElem_cons_zero, List.getElem_cons_succ, List.setIfInBounds_toArray, List.set_cons_succ, List.set_cons_zero]
      refine wpAnyH_done (by kernel_rfl) ?_ _
      go_wp2_with fail
      have hbad := get_bad (bs := bs) (by rw [HGE.out]; omega)
      refine bodyPost_ret (v := .tuple #[.agg (uc (uptoS noG) (.slice none 0 0)), .int .i64 ((4 : Nat) : Int)]) (results_blk2 rfl rowRS k92 (by rfl) rfl rfl) rfl ⟨none, 0, 0, by rw [HGE.out, hbad.1], by rw [hbad.2]; exact OwnD.nil _ _, gz⟩
    case neg =>
      obtain rfl : at' = n := by omega
      have hrr := HRN.out.2 rfl
      subst hrr
      go_wp2_with ((with_reducible refine wpList_ldg rowRS k2 HUS.out ?_ ?_ ?_); rotate_left; (rfl); (rfl))
      refine (HRA.out _ q2).mono ?_
      rintro e w3 ⟨rfl, h3⟩
      replace kz := kz.below h3 kz.lt
      replace gW := gW.trans (h3.mono gW.size)
      replace k2 := k2.below h3 k2.lt
      replace o2 := o2.below h3 (Nat.le_refl _)
      replace kR := Blk.below kR h3 hgl
      replace hgl := Nat.lt_of_lt_of_le hgl h3.size
      clear c1' c2 f2 hk4
      have c2 : w3.cell? ⟨g, 2, none⟩ = some (.int .i64 0) := kR.cell 2
      have f2 := kR.free 2
      have hk4 := Blk.set_ kR 2 (.int .i64 4)
      cases hright : rightB (rdU bs) L
      case false =>
        have hge := HGEd.out
        rw [if_pos (by simp [hright])] at hge
        have HGE := Lib.hid hge
        have c4 : (w3.setCell ⟨g, 2, none⟩ (.int .i64 4)).cell? ⟨g, 2, none⟩ = some (.int .i64 4) := hk4.cell 2
        have kz4 := kz.far (p := ⟨g, 2, none⟩) (by show b ≠ g; omega) (.int .i64 4)
        have gW4 := gW.setCell (p := ⟨g, 2, none⟩) (by show _ ≤ g; omega) (.int .i64 4)
        obtain ⟨w4, hw4⟩ : ∃ w4, w4 = w3.setCell ⟨g, 2, none⟩ (.int .i64 4) := ⟨_, rfl⟩
        rw [← hw4] at c4 kz4 gW4
        have HW4 := Lib.hid hw4
        have hgl3 : g < w4.heap.size := World.block_lt_of_cell? w4 _ c4
        clear HGEd HGUd HRA hge hk4 kR hw4 hgl kz gW h3 hright
        go_upto_region 5 with fail
        rw [← HW4.out]
        have c2 := c4
        have kz := kz4
        have gW := gW4
        have hgl := hgl3
        clear c4 kz4 gW4 hgl3 f2
        have hxe : ((((4 : Nat) : Int)) != 0) = true := by rw [bne_iff_ne]; omega
        go_upto_region 6 with fail
        refine wp_region_held_drew (S := fun w' => w'.cell? ⟨g, 2, none⟩ = some (.int .i64 ((4 : Nat) : Int)) ∧ Blk w' b 35 kzc ∨ w'.cell? ⟨g, 2, none⟩ = some (.int .i64 ((4 : Nat) : Int))) (by kernel_rfl) (.inr c2) (fun hS => ?_)
        replace kz := kz.drew
        replace gW := gW.drew
        have c2d : (w4).drew.cell? ⟨g, 2, none⟩ = some (.int .i64 ((4 : Nat) : Int)) := c2
        clear c2 hS
        generalize (w4).drew = wd at *
        have hS := Or.inr (a := wd.cell? ⟨g, 2, none⟩ = some (.int .i64 ((4 : Nat) : Int)) ∧ Blk wd b 35 kzc) c2d
        refine wpAnyH_take (i := 0) (v := ?rv244) rfl (by kernel_rfl) (by kernel_rfl) (by kernel_rfl) (fun _ _ _ h => h) (Or.inl ⟨by rfl, ?ry244⟩) hS ?_
        case ry244 => (intro wS hSw; clear hSw; go_simp; (try with_reducible rfl))
        simp only [Act.put, List.getElem_toArray, List.getElem_cons_zero, List.getElem_cons_succ, List.setIfInBounds_toArray, List.set_cons_succ, List.set_cons_zero]
        refine wpAnyH_take (i := 1) (v := ?rv247) rfl (by kernel_rfl) (by kernel_rfl) (by kernel_rfl) (fun _ _ _ h => h) (Or.inl ⟨by rfl, ?ry247⟩) hS ?_
        case ry247 => (intro wS hSw; clear hSw; go_simp; (try with_reducible rfl))
        simp only [Act.put, List.getElem_toArray, List.getElem_cons_zero, List.getElem_cons_succ, List.setIfInBounds_toArray, List.set_cons_succ, List.set_cons_zero]
        refine wpAnyH_take (i := 2) (v := ?rv250) rfl (by kernel_rfl) (by kernel_rfl) (by kernel_rfl) (fun _ _ _ h => h) (Or.inl ⟨by rfl, ?ry250⟩) hS ?_
        case ry250 => (intro wS hSw; clear hSw; go_simp; (try with_reducible rfl))
        simp only [Act.put, List.getElem_toArray, List.getElem_cons_zero, List.getElem_cons_succ, List.setIfInBounds_toArray, List.set_cons_succ, List.set_cons_zero]
        refine wpAnyH_take (i := 3) (v := ?rv253) rfl (by kernel_rfl) (by kernel_rfl) (by kernel_rfl) (fun _ _ _ h => h) (Or.inl ⟨by rfl, ?ry253⟩) hS ?_
        case ry253 => (intro wS hSw; clear hSw; go_simp; (try with_reducible rfl))
        simp only [Act.put, List.getElem_toArray, List.getElem_cons_zero, List.getElem_cons_succ, List.setIfInBounds_toArray, List.set_cons_succ, List.set_cons_zero]
        refine wpAnyH_take (i := 4) (v := ?rv256) rfl (by kernel_rfl) (by kernel_rfl) (by kernel_rfl) (fun _ _ _ h => h) (Or.inl ⟨by rfl, ?ry256⟩) hS ?_
        case ry256 => (intro wS hSw; have c2 := (hSw.elim (fun h => h.1) id); clear hSw; go_simp; (try with_reducible rfl))
        simp only [Act.put, List.getElem_toArray, List.getElem_cons_zero, List.getElem_cons_succ, List.setIfInBounds_toArray, List.set_cons_succ, List.set_cons_zero]
        refine wpAnyH_ready (rs := [5]) (by kernel_rfl) (by simp) ?_
        refine AllReadyH.cons rfl (fun K hK => ?_) .nil
        refine step_st rfl rowRS (.tmp 2) (.tmp 38) rfl (by rfl) (by rfl) kz ZS.out KZS.out ZS1.out ?_
        intro w92 k92 g92 z92
        rw [zero9] at k92
        have gz := gW.grown g92 gW.size (fun q hq => by injection hq; omega)
        refine hK.out _ _ (.inr ((grown_cell (p := ⟨g, 2, none⟩) g92 (World.block_lt_of_cell? wd _ c2d) (by show g ≠ b; omega)).trans c2d)) (fun hS => ?_)
        clear hK K
        refine wpAnyH_take (i := 6) (v := ?rv267) rfl (by kernel_rfl) (by kernel_rfl) (by kernel_rfl) (fun _ _ _ h => h) (Or.inl ⟨by rfl, ?ry267⟩) hS ?_
        case ry267 => (intro wS hSw; clear hSw; go_simp; (try with_reducible rfl))
        simp only [Act.put, List.getElem_toArray, List.getElem_cons_zero, List.getElem_cons_succ, List.setIfInBounds_toArray, List.set_cons_succ, List.set_cons_zero]
        refine wpAnyH_done (by kernel_rfl) ?_ _
        go_wp2_with fail
        have hbad := get_bad (bs := bs) (by rw [HGE.out]; omega)
        refine bodyPost_ret (v := .tuple #[.agg (uc (uptoS noG) (.slice none 0 0)), .int .i64 ((4 : Nat) : Int)]) (results_blk2 rfl rowRS k92 (by rfl) rfl rfl) rfl ⟨none, 0, 0, by rw [HGE.out, hbad.1], by rw [hbad.2]; exact OwnD.nil _ _, gz⟩
      case true =>
        have hge := HGEd.out
        rw [if_neg (by simp [hright])] at hge
        have hgu := HGUd.out hge
        clear HGEd HGUd hright h3 HRA
        have HGE := Lib.hid hge
        have HGUu := Lib.hid hgu
        clear hge hgu hk4 kR
        go_wp2_with (first
          | ((with_reducible refine wpList_ld rowRS k2 HUS.out ?_ ?_); rotate_left; (rfl))
          | ((with_reducible refine wpList_st rowRS kz HUS.out KZS.out HUO.out ?_ ?_ ?_); rotate_left; (rfl); (rfl); intro w92 k92 g92 z92))
        have o92 := o2.grown g92 (.inr (own_ne o2.2 kz (by decide)))
        have gz := gW.grown g92 gW.size (fun q hq => by injection hq; omega)
        refine bodyPost_ret (v := .tuple #[.agg su, .int .i64 0]) (results_blk2 rfl rowRS k92 HUS.out rfl rfl) rfl ⟨A1, m1, c1, by rw [HGE.out, HGUu.out.1, HSU.out]; rfl, by rw [HGUu.out.2]; exact o92.mono hwv1, gz⟩
end Go.Proofs.Ytacmdkjodnaohaa

namespace Go.Proofs.Ytacmdkjodnaohaa.DotsetBytes
open Go.ChangeShapes Go.WideShapes Go.ChangeAt Go.RowKit Go.Deep
open Dot
set_option linter.unusedVariables false
set_option linter.unusedSimpArgs false
theorem buildL {U : List Int} (h : U.length = 8) (A : Option Addr) (n c : Nat) (w : World) : (Instr.buildSlice 69 1 #[(0, .agg (uc U (.slice A n c)))]).run Try.prog w = .ok (.slice (some ⟨w.heap.size, 0, none⟩) 1 1) (w.alloc (.cells (uc U (.slice A n c)) 25)) := by
  obtain ⟨a, b, c, d, e, f, g, i, rfl⟩ := eight h
  kernel_rfl
theorem put_len (U : List Int) (l : List Dt) (hU : U.length = 8) : (if rightB U l = true then encs (putL U l) else []).length ≤ 10000 := by
  by_cases h : rightB U l = true
  · rw [if_pos h]
    have h1 := encs_len (putL U l)
    have h2 := ((right_iff _ _).1 h).2.1
    have h3 : (putL U l).length = 9 + 2 * l.length := by
      unfold putL
      rw [List.length_append, List.length_append, nums_len, hU, List.length_singleton]
    omega
  · rw [if_neg h]; simp
theorem get_facts (b : List UInt8) : (getU b).length = 8 ∧ Wf (getU b) ∧ (getL b).length ≤ 768 := by
  by_cases h : getE b = 0
  · obtain ⟨h1, _, h3⟩ := put_get h
    obtain ⟨r1, r2, _⟩ := (right_iff _ _).1 h1
    exact ⟨h3, fun x hx => by have := (numOk_iff x).1 (List.all_eq_true.1 r1 x hx); exact wf_of (by omega) (by omega), r2⟩
  · obtain ⟨h1, h2⟩ := get_bad h
    rw [h1, h2]
    exact ⟨upto_len _, upto_wf _, by simp⟩
set_option maxRecDepth 100000 in
set_option maxHeartbeats 1500000 in
theorem walk (U : List Int) (A : Option Addr) (n c : Nat) (l : List Dt) (Ab : Option Addr) (nb cb : Nat) (bs : List UInt8) (w : World) (hU : U.length = 8) (wU : Wf U) (hr : RdD w w.heap.size A n l) (_ : n ≤ maxLen) (hb : RdB w w.heap.size Ab nb bs) (_ : nb ≤ maxLen) :
    Calls Try.prog 6 #[.agg (uc U (.slice A n c)), .slice Ab nb cb] w fun e w' => e = .returned (.bool true) ∧ Below w.heap.size w w' := by
  have HS := Lib.hid (uc_size hU (.slice A n c))
  have HU := Lib.hid hU
  have WU := Lib.hid wU
  have HNL := Lib.hid hr.1
  have HNB := Lib.hid hb.1
  have hrow := fun (w' : World) (hb : Below w.heap.size w w') => rowset_one ⟨U, A, n, c, l⟩ hU ((hr.below hb).more hb.size) (Nat.le_refl _) 25 (0, 0)
  have hbl := buildL hU A n c
  obtain ⟨sc, hsc⟩ : ∃ sc, sc = uc U (.slice A n c) := ⟨_, rfl⟩
  simp only at hrow
  rw [← hsc] at HS hbl hrow ⊢
  have HROW := Lib.hid hrow
  have HBL := Lib.hid hbl
  have HSC := Lib.hid hsc
  have HRB := Lib.hid hb
  clear hsc hbl hrow hU wU hb
  go_enter Try.func6, Try.ntmps6
  go_upto_region 1 with fail
  refine nameW ?_
  intro wv hwv
  obtain ⟨b, hb⟩ : ∃ b, b = w.heap.size := ⟨_, rfl⟩
  rw [← hb]
  have kb : Blk wv b 25 sc := by rw [hwv, hb]; exact Blk.new w _ _
  have gb : Below w.heap.size w wv := by rw [hwv]; exact (Below.refl _ _).alloc (Nat.le_refl _) _
  have hbw : w.heap.size ≤ b := by omega
  clear hwv hb
  go_wp2_with fail
  refine (alive06 wv).mono ?_
  rintro e w1 ⟨rfl, h1⟩
  have kb1 := kb.below h1 kb.lt
  have b1 := gb.trans (h1.mono gb.size)
  clear kb gb h1
  go_wp2_with first
    | ((with_reducible refine wpList_ld rowLS kb1 HS.out ?_ ?_); rotate_left; (rfl))
    | ((refine wpList_bs (v := .slice (some ⟨w1.heap.size, 0, none⟩) 1 1) (w' := w1.alloc (.cells sc 25)) rfl 69 1 #[(0, .tmp 15)] rfl ?_ ?_); (simp only [List.map_toArray, List.map_cons, List.map_nil]; exact HBL.out w1))
  refine (great_any [⟨U, A, n, c, l⟩] 1 w1.heap.size _ rfl (by decide) ((HROW.out w1 b1).more (by simp))).mono ?_
  rintro e w2 ⟨rfl, h2⟩
  simp only [List.any_cons, List.any_nil, Bool.or_false]
  have bx := (b1.alloc b1.size (.cells sc 25)).trans (h2.mono (b1.alloc b1.size _).size)
  have by2 := ((Below.refl w1.heap.size w1).alloc (Nat.le_refl _) (.cells sc 25)).trans (h2.mono (by simp))
  have kb2 := kb1.below by2 kb1.lt
  clear kb1 b1 by2 h2 HROW HBL
  by_cases hbig : 1000 < n
  · have hd : decide (1000 < n) = true := decide_eq_true hbig
    rw [hd]
    go_wp2_with fail
    go_ret
    exact ⟨rfl, bx⟩
  have hd : decide (1000 < n) = false := decide_eq_false hbig
  have hn1 : n ≤ 1000 := by omega
  rw [hd]
  clear hbig hd
  by_cases hbig2 : 3000 < nb
  · have hd : decide ((3000 : Int) < (nb : Int)) = true := decide_eq_true (by omega)
    go_wp2_with fail
    go_ret
    exact ⟨rfl, bx⟩
  have hd : decide ((3000 : Int) < (nb : Int)) = false := decide_eq_false (by omega)
  have hnb1 : nb ≤ 3000 := by omega
  have hrx := hr.below bx
  clear hr hbig2
  have hU := HU.out
  have hto := fun (w' : World) (hb : Below w2.heap.size w2 w') => to_any U hU A n c l w' ((hrx.below (hb.mono bx.size)).more (Nat.le_trans bx.size hb.size)) (by omega)
  have href := fun (w' : World) (hb : Below w2.heap.size w2 w') => ref_any U hU A n c l w' ((hrx.below (hb.mono bx.size)).more (Nat.le_trans bx.size hb.size)) (by omega)
  rw [← HSC.out] at hto href
  unfold CopyEnd at hto href
  have hput : ∀ (A' : Option Addr) (m' c' : Nat) (w' : World), RdD w' w'.heap.size A' m' l → Calls Try.prog 29 #[.agg (uc U (.slice A' m' c'))] w' (GiveBE w' (if rightB U l = true then encs (putL U l) else []) (if rightB U l = true then 0 else 2)) := fun (A' : Option Addr) (m' c' : Nat) (w' : World) (h : RdD w' w'.heap.size A' m' l) => dput_any ⟨U, A', m', c', l⟩ w' hU h
  have hrput : ∀ (A' : Option Addr) (m' c' : Nat) (w' : World), RdD w' w'.heap.size A' m' l → Calls Try.prog 30 #[.agg (uc U (.slice A' m' c'))] w' (GiveBE w' (if rightB U l = true then encs (putL U l) else []) (if rightB U l = true then 0 else 2)) := fun (A' : Option Addr) (m' c' : Nat) (w' : World) (h : RdD w' w'.heap.size A' m' l) => drput_any U A' m' c' l w' hU h
  unfold GiveBE at hput hrput
  have hpl := put_len U l hU
  generalize (if rightB U l = true then encs (putL U l) else []) = PB at *
  generalize (if rightB U l = true then 0 else 2) = PE at *
  have hget := fun (A' : Option Addr) (m' c' B : Nat) (w' : World) (h : RdB w' B A' m' bs) (h2 : B ≤ w'.heap.size) (h3 : m' ≤ 1000000000) => get_any A' m' c' bs B w' h h2 h3
  have hrget := fun (A' : Option Addr) (m' c' B : Nat) (w' : World) (h : RdB w' B A' m' bs) (h2 : B ≤ w'.heap.size) (h3 : m' ≤ 1000000000) => rget_any A' m' c' bs B w' h h2 h3
  unfold GetEnd at hget hrget
  obtain ⟨hGl, hGw, hGn⟩ := get_facts bs
  generalize getU bs = GU at *
  generalize getL bs = GM at *
  generalize getE bs = GE at *
  have HTO := Lib.hid hto
  have HREF := Lib.hid href
  have HPUT := Lib.hid hput
  have HRPUT := Lib.hid hrput
  have HGET := Lib.hid hget
  have HRGET := Lib.hid hrget
  have HPL := Lib.hid hpl
  have HGL := Lib.hid hGl
  have HGW := Lib.hid hGw
  have HGN := Lib.hid hGn
  clear hto href hput hrput hget hrget hpl hGl hGw hGn hU hrx
  go_wp2_with ((with_reducible refine wpList_ld rowLS kb2 HS.out ?_ ?_); rotate_left; (rfl))
  clear hd
  refine (HTO.out w2 (Below.refl _ _)).mono ?_
  rintro e w3 ⟨A2, m2, c2, rfl, o2, h3⟩
  have y3 := h3
  have r2 := o2.rd
  go_wp2_with fail
  refine (HPUT.out A2 m2 c2 w3 r2).mono ?_
  rintro e w4 ⟨A3, m3, c3, rfl, o3, h4⟩
  have y4 := y3.trans (h4.mono y3.size)
  have kb4 := kb2.below y4 kb2.lt
  clear o2 h3 y3 r2 h4
  go_wp2_with ((with_reducible refine wpList_ld rowLS kb4 HS.out ?_ ?_); rotate_left; (rfl))
  refine (HREF.out w4 y4).mono ?_
  rintro e w5 ⟨A4, m4, c4, rfl, o4, h5⟩
  have r4 := o4.rd
  have o35 := o3.below h5 (Nat.le_refl _)
  have y5 := y4.trans (h5.mono y4.size)
  clear o4 h5 o3
  go_wp2_with fail
  refine (HRPUT.out A4 m4 c4 w5 r4).mono ?_
  rintro e w6 ⟨A5, m5, c5, rfl, o5, h6⟩
  have o36 := o35.below h6 (Nat.le_refl _)
  have y6 := y5.trans (h6.mono y5.size)
  have b6 := bx.trans (y6.mono bx.size)
  have hrb6 := HRB.out.below b6
  clear o35 h6 y5 r4 kb4
  go_wp2_with (at_builtin; refine stop ?_)
  unfold Stop
  refine wpList_appB rfl (.tmp 36) (.tmp 37) rfl rfl (OwnB.made w6 w6.heap.size [] #[] 0 rfl rfl (Nat.le_refl _) (Nat.zero_le _)) rfl (hrb6.alloc b6.size _) (by omega) (by simp) ?_
  intro A6 c6 w7 o7 g7 m7 h7
  rw [Nat.zero_add] at o7 ⊢
  have p7 : Below w6.heap.size w6 w7 := ((Below.refl _ _).alloc (Nat.le_refl _) _).trans h7
  have o37 := o36.below p7 (Nat.le_refl _)
  have o57 := o5.below p7 (Nat.le_refl _)
  have y7 := y6.trans (p7.mono y6.size)
  have r7 := o7.rd
  rw [List.nil_append] at r7
  clear o36 o5 g7 m7 h7 p7 hrb6 o7
  go_wp2_with fail
  refine (HGET.out A6 nb c6 w7.heap.size w7 r7 (Nat.le_refl _) (by omega)).mono ?_
  rintro e w8 ⟨A8, m8, c8, rfl, o8, h8⟩
  have o38 := o37.below h8 (Nat.le_refl _)
  have o58 := o57.below h8 (Nat.le_refl _)
  have y8 := y7.trans (h8.mono y7.size)
  have HS8 := Lib.hid (uc_size HGL.out (.slice A8 m8 c8))
  have H81 := Lib.hid (uc_one (U := GU) (s := .slice A8 m8 c8) rfl)
  have hm8 : m8 ≤ 768 := by rw [o8.1]; exact HGN.out
  have lfrom := fun (w' : World) (h : RdD w' w'.heap.size A8 m8 GM) => from_any GU HGL.out A8 m8 c8 GM w' h (by omega)
  unfold CopyEnd at lfrom
  obtain ⟨s8, hs8⟩ : ∃ s, s = uc GU (.slice A8 m8 c8) := ⟨_, rfl⟩
  rw [← hs8] at HS8 H81 lfrom ⊢
  have LFROM := Lib.hid lfrom
  clear o37 o57 r7 h8 hs8 lfrom
  go_upto_region 8 with ((with_reducible refine wpList_st rowS (Blk.new _ _ _) HS8.out ?_ H81.out ?_ ?_ ?_); (rfl); rotate_left; (rfl); (rfl); intro w9 k9 g9 z9)
  have p9 : Below w8.heap.size w8 w9 := ((Below.refl _ _).alloc (Nat.le_refl _) _).grown g9 (by simp) (fun q hq => by injection hq with hq; omega)
  have o39 := o38.below p9 (Nat.le_refl _)
  have o59 := o58.below p9 (Nat.le_refl _)
  have o89 := o8.below p9 (Nat.le_refl _)
  have y9 := y8.trans (p9.mono y8.size)
  obtain ⟨g8, hg⟩ : ∃ g, g = w8.heap.size := ⟨_, rfl⟩
  rw [← hg] at k9 ⊢
  clear hg g9 z9 p9 o38 o58 o8 y8
  have b9 := bx.trans (y9.mono bx.size)
  have hrb9 := HRB.out.below b9
  go_wp2_with fail
  refine (HRGET.out Ab nb cb w.heap.size w9 hrb9 b9.size (by omega)).mono ?_
  rintro e w10 ⟨A10, m10, c10, rfl, o10, h10⟩
  have o310 := o39.below h10 (Nat.le_refl _)
  have o510 := o59.below h10 (Nat.le_refl _)
  have o810 := o89.below h10 (Nat.le_refl _)
  have k10 := k9.below h10 k9.lt
  have y10 := y9.trans (h10.mono y9.size)
  have HS9 := Lib.hid (uc_size HGL.out (.slice A10 m10 c10))
  have H91 := Lib.hid (uc_one (U := GU) (s := .slice A10 m10 c10) rfl)
  have lsame := fun (B' : Option Addr) (n' d' : Nat) (w' : World) (h : RdD w' w'.heap.size B' n' GM) (h' : RdD w' w'.heap.size A10 m10 GM) => same_any GU GU HGL.out HGL.out HGW.out HGW.out B' A10 n' d' m10 c10 GM GM w' h h' (by have := HGN.out; rw [h.1]; omega)
  simp only [decide_true, Bool.and_true] at lsame
  obtain ⟨s9, hs9⟩ : ∃ s, s = uc GU (.slice A10 m10 c10) := ⟨_, rfl⟩
  rw [← hs9] at HS9 H91 lsame ⊢
  have LSAME := Lib.hid lsame
  clear o39 o59 o89 k9 y9 h10 hs9 lsame hrb9 b9
  go_upto_region 9 with ((with_reducible refine wpList_st rowRS (Blk.new _ _ _) HS9.out ?_ H91.out ?_ ?_ ?_); (rfl); rotate_left; (rfl); (rfl); intro w11 k11 g11 z11)
  have p11 : Below w10.heap.size w10 w11 := ((Below.refl _ _).alloc (Nat.le_refl _) _).grown g11 (by simp) (fun q hq => by injection hq with hq; omega)
  have o3 := o310.below p11 (Nat.le_refl _)
  have o5 := o510.below p11 (Nat.le_refl _)
  have o8 := o810.below p11 (Nat.le_refl _)
  have o9 := o10.below p11 (Nat.le_refl _)
  have k8 := k10.below p11 k10.lt
  have yC := y10.trans (p11.mono y10.size)
  have bC := bx.trans (yC.mono bx.size)
  obtain ⟨g9, hg⟩ : ∃ g, g = w10.heap.size := ⟨_, rfl⟩
  rw [← hg] at k11 ⊢
  clear hg g11 z11 p11 o310 o510 o810 o10 k10 y10
  have rd8 : ∀ w', Below w11.heap.size w11 w' → RdD w' w'.heap.size A8 m8 GM := fun w' h => (o8.rd.below h).more h.size
  have rd9 : ∀ w', Below w11.heap.size w11 w' → RdD w' w'.heap.size A10 m10 GM := fun w' h => (o9.rd.below h).more h.size
  have rb3 : ∀ w', Below w11.heap.size w11 w' → RdB w' w'.heap.size A3 m3 PB := fun w' h => (o3.rd.below h).more h.size
  have rb5 : ∀ w', Below w11.heap.size w11 w' → RdB w' w'.heap.size A5 m5 PB := fun w' h => (o5.rd.below h).more h.size
  have hm3 : m3 ≤ 10000 := by rw [o3.1]; exact HPL.out
  have RD8 := Lib.hid rd8
  have RD9 := Lib.hid rd9
  have RB3 := Lib.hid rb3
  have RB5 := Lib.hid rb5
  have hE1 : (((PE : Nat) : Int) == ((PE : Nat) : Int)) = true := by simp
  have hE2 : (((GE : Nat) : Int) == ((GE : Nat) : Int)) = true := by simp
  clear rd8 rd9 rb3 rb5 o3 o5 o8 o9
  refine wp_region_held_drew (S := fun w' => Below w11.heap.size w11 w') (by kernel_rfl) (Below.refl _ _).drew (fun hS => ?_)
  generalize w11.drew = wd at *
  refine wpAnyH_take (i := 0) (v := ?rv229) rfl (by kernel_rfl) (by kernel_rfl) (by kernel_rfl) (fun _ _ _ h => h) (Or.inl ⟨by rfl, ?ry229⟩) hS ?_
  case ry229 => (intro wS hSw; clear hSw; go_simp; (try with_reducible rfl))
  simp only [Act.put, List.getElem_toArray, List.getElem_cons_zero, List.getElem_cons_succ, List.setIfInBounds_toArray, List.set_cons_succ, List.set_cons_zero]
  refine wpAnyH_take (i := 1) (v := ?rv232) rfl (by kernel_rfl) (by kernel_rfl) (by kernel_rfl) (fun _ _ _ h => h) (Or.inl ⟨by rfl, ?ry232⟩) hS ?_
  case ry232 => (intro wS hSw; clear hSw; go_simp; (try with_reducible rfl))
  simp only [Act.put, List.getElem_toArray, List.getElem_cons_zero, List.getElem_cons_succ, List.setIfInBounds_toArray, List.set_cons_succ, List.set_cons_zero]
  refine wpAnyH_ready (rs := [2]) (by kernel_rfl) (by simp) ?_
  refine AllReadyH.cons rfl (fun K hK => ?_) .nil
  go_simp
  refine (same_eq A3 A5 m3 c3 m5 c5 PB _ _ _ (RB3.out _ hS) (RB5.out _ hS) (by omega)).mono ?_
  rintro e v1 ⟨rfl, md, rfl⟩
  refine hK.out _ _ (below_drewN hS md) (fun hS => ?_)
  clear hK K
  refine wpAnyH_take (i := 3) (v := ?rv242) rfl (by kernel_rfl) (by kernel_rfl) (by kernel_rfl) (fun _ _ _ h => h) (Or.inl ⟨by rfl, ?ry242⟩) hS ?_
  case ry242 => (intro wS hSw; clear hSw; go_simp; (try with_reducible rfl))
  simp only [Act.put, List.getElem_toArray, List.getElem_cons_zero, List.getElem_cons_succ, List.setIfInBounds_toArray, List.set_cons_succ, List.set_cons_zero]
  refine wpAnyH_take (i := 4) (v := ?rv245) rfl (by kernel_rfl) (by kernel_rfl) (by kernel_rfl) (fun _ _ _ h => h) (Or.inl ⟨by rfl, ?ry245⟩) hS ?_
  case ry245 => (intro wS hSw; clear hSw; go_simp; (try with_reducible rfl))
  simp only [Act.put, List.getElem_toArray, List.getElem_cons_zero, List.getElem_cons_succ, List.setIfInBounds_toArray, List.set_cons_succ, List.set_cons_zero]
  refine wpAnyH_take (i := 5) (v := ?rv248) rfl (by kernel_rfl) (by kernel_rfl) (by kernel_rfl) (fun _ _ _ h => h) (Or.inl ⟨by rfl, ?ry248⟩) hS ?_
  case ry248 => (intro wS hSw; clear hSw; go_simp; (try with_reducible rfl))
  simp only [Act.put, List.getElem_toArray, List.getElem_cons_zero, List.getElem_cons_succ, List.setIfInBounds_toArray, List.set_cons_succ, List.set_cons_zero]
  refine wpAnyH_take (i := 6) (v := ?rv251) rfl (by kernel_rfl) (by kernel_rfl) (by kernel_rfl) (fun _ _ _ h => h) (Or.inl ⟨by rfl, ?ry251⟩) hS ?_
  case ry251 => (intro wS hSw; clear hSw; go_simp; (try with_reducible rfl))
  simp only [Act.put, List.getElem_toArray, List.getElem_cons_zero, List.getElem_cons_succ, List.setIfInBounds_toArray, List.set_cons_succ, List.set_cons_zero]
  refine wpAnyH_take (i := 7) (v := ?rv254) rfl (by kernel_rfl) (by kernel_rfl) (by kernel_rfl) (fun _ _ _ h => h) (Or.inl ⟨by rfl, ?ry254⟩) hS ?_
  case ry254 => (intro wS hSw; clear hSw; go_simp; (try with_reducible rfl))
  simp only [Act.put, List.getElem_toArray, List.getElem_cons_zero, List.getElem_cons_succ, List.setIfInBounds_toArray, List.set_cons_succ, List.set_cons_zero]
  refine wpAnyH_take (i := 8) (v := ?rv257) rfl (by kernel_rfl) (by kernel_rfl) (by kernel_rfl) (fun _ _ _ h => h) (Or.inl ⟨by rfl, ?ry257⟩) hS ?_
  case ry257 => (intro wS hSw; clear hSw; go_simp; (try with_reducible rfl))
  simp only [Act.put, List.getElem_toArray, List.getElem_cons_zero, List.getElem_cons_succ, List.setIfInBounds_toArray, List.set_cons_succ, List.set_cons_zero]
  refine wpAnyH_take (i := 9) rfl (by kernel_rfl) (by kernel_rfl) (by kernel_rfl) (fun _ _ _ h => h) (yieldsIf_ld (by rfl) rowS (.tmp 9) rfl rfl (fun w hw => k8.below hw k8.lt) HS8.out) hS ?_
  simp only [Act.put, List.getElem_toArray, List.getElem_cons_zero, List.getElem_cons_succ, List.setIfInBounds_toArray, List.set_cons_succ, List.set_cons_zero]
  refine wpAnyH_take (i := 11) rfl (by kernel_rfl) (by kernel_rfl) (by kernel_rfl) (fun _ _ _ h => h) (yieldsIf_ld (by rfl) rowRS (.tmp 11) rfl rfl (fun w hw => k11.below hw k11.lt) HS9.out) hS ?_
  simp only [Act.put, List.getElem_toArray, List.getElem_cons_zero, List.getElem_cons_succ, List.setIfInBounds_toArray, List.set_cons_succ, List.set_cons_zero]
  refine wpAnyH_ready (rs := [10]) (by kernel_rfl) (by simp) ?_
  refine AllReadyH.cons rfl (fun K hK => ?_) .nil
  rw [if_pos (by rfl)]
  go_simp
  refine (LFROM.out _ (RD8.out _ hS)).mono ?_
  rintro e v2 ⟨B1, n1, d1, rfl, p1, hh⟩
  replace p1 := p1.rd
  refine hK.out _ _ (hS.trans (hh.mono hS.size)) (fun hS => ?_)
  clear hK K hh
  refine wpAnyH_ready (rs := [12]) (by kernel_rfl) (by simp) ?_
  refine AllReadyH.cons rfl (fun K hK => ?_) .nil
  rw [if_pos (by rfl)]
  go_simp
  refine (LSAME.out B1 n1 d1 _ p1 (RD9.out _ hS)).mono ?_
  rintro e v3 ⟨rfl, hh⟩
  refine hK.out _ _ (hS.trans (hh.mono hS.size)) (fun hS => ?_)
  clear hK K hh p1
  refine wpAnyH_take (i := 13) (v := ?rv281) rfl (by kernel_rfl) (by kernel_rfl) (by kernel_rfl) (fun _ _ _ h => h) (Or.inl ⟨by rfl, ?ry281⟩) hS ?_
  case ry281 => (intro wS hSw; clear hSw; go_simp; (try with_reducible rfl))
  simp only [Act.put, List.getElem_toArray, List.getElem_cons_zero, List.getElem_cons_succ, List.setIfInBounds_toArray, List.set_cons_succ, List.set_cons_zero]
  refine wpAnyH_take (i := 14) (v := ?rv284) rfl (by kernel_rfl) (by kernel_rfl) (by kernel_rfl) (fun _ _ _ h => h) (Or.inl ⟨by rfl, ?ry284⟩) hS ?_
  case ry284 => (intro wS hSw; clear hSw; go_simp; (try with_reducible rfl))
  simp only [Act.put, List.getElem_toArray, List.getElem_cons_zero, List.getElem_cons_succ, List.setIfInBounds_toArray, List.set_cons_succ, List.set_cons_zero]
  refine wpAnyH_take (i := 15) (v := ?rv287) rfl (by kernel_rfl) (by kernel_rfl) (by kernel_rfl) (fun _ _ _ h => h) (Or.inl ⟨by rfl, ?ry287⟩) hS ?_
  case ry287 => (intro wS hSw; clear hSw; go_simp; (try with_reducible rfl))
  simp only [Act.put, List.getElem_toArray, List.getElem_cons_zero, List.getElem_cons_succ, List.setIfInBounds_toArray, List.set_cons_succ, List.set_cons_zero]
  refine wpAnyH_take (i := 16) (v := ?rv290) rfl (by kernel_rfl) (by kernel_rfl) (by kernel_rfl) (fun _ _ _ h => h) (Or.inl ⟨by rfl, ?ry290⟩) hS ?_
  case ry290 => (intro wS hSw; clear hSw; go_simp; (try with_reducible rfl))
  simp only [Act.put, List.getElem_toArray, List.getElem_cons_zero, List.getElem_cons_succ, List.setIfInBounds_toArray, List.set_cons_succ, List.set_cons_zero]
  refine wpAnyH_take (i := 17) (v := ?rv293) rfl (by kernel_rfl) (by kernel_rfl) (by kernel_rfl) (fun _ _ _ h => h) (Or.inl ⟨by rfl, ?ry293⟩) hS ?_
  case ry293 => (intro wS hSw; clear hSw; go_simp; (try with_reducible rfl))
  simp only [Act.put, List.getElem_toArray, List.getElem_cons_zero, List.getElem_cons_succ, List.setIfInBounds_toArray, List.set_cons_succ, List.set_cons_zero]
  refine wpAnyH_take (i := 18) (v := ?rv296) rfl (by kernel_rfl) (by kernel_rfl) (by kernel_rfl) (fun _ _ _ h => h) (Or.inl ⟨by rfl, ?ry296⟩) hS ?_
  case ry296 => (intro wS hSw; clear hSw; go_simp; (try with_reducible rfl))
  simp only [Act.put, List.getElem_toArray, List.getElem_cons_zero, List.getElem_cons_succ, List.setIfInBounds_toArray, List.set_cons_succ, List.set_cons_zero]
  refine wpAnyH_take (i := 19) (v := ?rv299) rfl (by kernel_rfl) (by kernel_rfl) (by kernel_rfl) (fun _ _ _ h => h) (Or.inl ⟨by rfl, ?ry299⟩) hS ?_
  case ry299 => (intro wS hSw; clear hSw; go_simp; (try with_reducible rfl))
  simp only [Act.put, List.getElem_toArray, List.getElem_cons_zero, List.getElem_cons_succ, List.setIfInBounds_toArray, List.set_cons_succ, List.set_cons_zero]
  refine wpAnyH_done (by kernel_rfl) ?_ _
  go_wp2_with fail
  go_ret
  exact ⟨rfl, bC.trans (hS.mono bC.size)⟩
set_option maxRecDepth 100000 in
theorem lifted (os : Os) (started : os.Started) (H : Type) (enc : TypeId × Value → H) :
    ReturnsInHanded {} Try.checked os 6 .any (Rows.dotsetBytesSpec.pre6 enc Try.prog Try.f6 Rows.dotsetBytesRow.domain false) (Rows.dotsetBytesSpec.post enc Try.prog Try.f6 false true false false) := by
  refine returnsInHanded_of_change (C := Try.checked) own started (by kernel_rfl) Try.func6
    (ChangeSpec.witness6 (enc := enc) (C := Try.checked) false ⟨#[], #[.agg #[.int .i64 0, .int .i64 0, .int .i64 0, .int .i64 0, .int .i64 0, .int .i64 0, .int .i64 0, .int .i64 0, .slice none 0 0], .slice none 0 0], []⟩ 8 (by kernel_rfl) (by kernel_rfl) (by kernel_rfl) (by kernel_rfl)) ?_
  intro W base args ds gs before hval0 hW hcnd _
  have hval : ∀ (j : Nat) t v, Try.f6.params[j]? = some t → args[j]? = some v → Value.okWide Try.prog W .any base t v := hval0
  have hW' := hW
  obtain ⟨p, q, hA0, hV, rfl, hfz, hnd⟩ := hW
  have hA : DataW.TrodAll enc Try.prog W 0 (fun _ => true) true Try.f6.params.toList args.toList ds p := hA0
  rw [Try.params6] at hA hval
  obtain ⟨v0, vs0, d0, ds0, p0, q0, hargs, rfl, rfl, h0, r0⟩ := trodAll_cons hA
  obtain ⟨v1, vs1, d1, ds1, p1, q1, rfl, rfl, rfl, h1, r1⟩ := trodAll_cons r0
  obtain ⟨rfl, rfl, rfl⟩ := trodAll_nil r1
  obtain rfl : args = #[v0, v1] := by cases args; simp_all
  obtain ⟨rfl, rfl⟩ := trodVars_none hV
  have lt0 : ∀ x ∈ p0, x.block < W.heap.size := by obtain ⟨m, hm⟩ := h0; exact DataW.trod_lt m _ _ _ hm
  have k0 := h0
  have lt1 : ∀ x ∈ p1, x.block < W.heap.size := by obtain ⟨m, hm⟩ := h1; exact DataW.trod_lt m _ _ _ hm
  have k1 := h1
  obtain ⟨U0, A0, n0, c0, l0, rfl, hu0, wu0, hr0, hn0⟩ := open_set (hval 0 25 v0 rfl rfl) h0
  obtain ⟨a1, n1, c1, b1, rfl, w1, l1⟩ := open_bytes (hval 1 59 v1 rfl rfl) h1
  clear hA0 hval0
  refine (walk U0 A0 n0 c0 l0 a1 n1 c1 b1 W hu0 wu0 hr0 hn0 w1 l1).mono fun e W' ⟨he, bel⟩ => ?_
  subst he
  exact ⟨_, rfl, _, _, _, [], _, [], hW', trodAll_mk1 (shut_bool Try.underlying4 _), (trodAll_cons_mk (Below.trod laidOut (by kernel_rfl) (of_decide_eq_true (by kernel_rfl)) k0 bel lt0) (trodAll_cons_mk (Below.trod laidOut (by kernel_rfl) (of_decide_eq_true (by kernel_rfl)) k1 bel lt1) trodAll_mk0)), rfl, bel.frame _, fun h => by cases h⟩

theorem proved : Rows.DotsetBytesSaid :=
  OpenClaim.holds_of_wide 6 Try.f6 rfl rfl rfl rfl rfl rfl rfl ⟨rfl, rfl, rfl, rfl, rfl⟩ rfl rfl rfl rfl rfl (by kernel_rfl) Try.func6 (by kernel_rfl)
    (of_decide_eq_true (by kernel_rfl)) (by unfold Func.isWrapper; first | (rw [if_pos (by decide +kernel)]; kernel_rfl) | (rw [if_neg (by decide +kernel)]; exact ⟨rfl, rfl⟩))
    (fun os started H enc _ => lifted os started H enc)
#print axioms proved
end Go.Proofs.Ytacmdkjodnaohaa.DotsetBytes

/- The walk of the reference's Same, whatever the bytes. -/
import Derived.Test.YtocoohpekpkmkaaTallyWalks
import Derived.Test.YtocoohpekpkmkaaBytes
import Derived.Test.YtocoohpekpkmkaaVintWalks
import Derived.Laws.CopyOwn
import Derived.Test.YtocoohpekpkmkaaFramePut
import Derived.Test.YtocoohpekpkmkaaStop
import Derived.Test.YtocoohpekpkmkaaVintMath
import Derived.Test.YtocoohpekpkmkaaVintRead
import Derived.Test.YtocoohpekpkmkaaTallyAdd
import Derived.Test.YtocoohpekpkmkaaStep
import Derived.Deep.RegionHeld3
/- The walks of the document's tally: Right, own, Value. -/
namespace Go.Proofs.Ytocoohpekpkmkaa
set_option linter.unusedVariables false
set_option linter.unusedSimpArgs false
open Go.RowKit
open Tally
theorem not_in {x : Int} (h : ¬ inB x 0 top = true) : x < 0 ∨ top < x := by
  rw [inB_iff] at h; omega
set_option maxHeartbeats 1000000 in
theorem rright_any (l : List Int) (w : World) (hl : l.length = 16) :
    Calls Try.prog 93 #[.agg (tc l)] w fun e w' => e = .returned (.bool (rightB l)) ∧ Below w.heap.size w w' := by
  have k0 : Blk (w.alloc (.cells (tc l) 73)) w.heap.size 73 (tc l) := Blk.new w _ _
  have hb : Below w.heap.size w (w.alloc (.cells (tc l) 73)) := (Below.refl _ _).alloc (Nat.le_refl _) _
  have HL := Lib.hid hl
  clear hl
  go_enter Try.func93, Try.ntmps93
  go_upto_region 1 with fail
  refine nameW ?_
  intro wv hwv
  rw [← hwv] at k0 hb
  obtain ⟨g, hg⟩ : ∃ g, g = w.heap.size := ⟨_, rfl⟩
  rw [← hg] at k0 ⊢
  clear hwv hg
  go_wp2_with fail
  go_loop [3] (fun i => ∃ k : Nat, k ≤ 8 ∧ i = .int .i64 k ∧ ∀ j, j < k → inB (l.getD j 0) 0 top = true ∧ inB (l.getD (8 + j) 0) 0 top = true) (fun i => 8 - (intOf i).toNat)
  case atStart => exact ⟨0, by omega, rfl, fun j hj => absurd hj (by omega)⟩
  case round =>
    obtain ⟨k, hk, rfl, hall⟩ := hrel
    have HA := Lib.hid hall
    clear hall
    by_cases hlt : k < 8
    · have c1 := k0.tcell (i := k) (by rw [HL.out]; omega)
      have c2 := k0.tcell (i := 8 + k) (by rw [HL.out]; omega)
      obtain ⟨x, hx⟩ : ∃ x, l.getD k 0 = x := ⟨_, rfl⟩
      obtain ⟨y, hy⟩ : ∃ y, l.getD (8 + k) 0 = y := ⟨_, rfl⟩
      rw [hx] at c1
      rw [hy] at c2
      have HX := Lib.hid hx
      have HY := Lib.hid hy
      have hk0 : (0 : Int) ≤ (k : Int) := by omega
      have hk1 : (k : Int) < 8 := by omega
      clear hx hy
      have bad : inB x 0 top = false ∨ inB y 0 top = false → rightB l = false := fun h => by
        rcases h with h | h
        · exact right_bad (i := k) (by rw [HL.out]; omega) (by rw [HX.out]; exact h)
        · exact right_bad (i := 8 + k) (by rw [HL.out]; omega) (by rw [HY.out]; exact h)
      have BAD := Lib.hid bad
      clear bad
      by_cases hox : inB x 0 top = true
      · have hxb := (inB_iff _ _ _).1 hox
        have HOX := Lib.hid hox
        clear hox
        unfold top at hxb
        have d1 : decide (x < 0) = false := decide_eq_false (by omega)
        have d2 : decide (1099511627776 < x) = false := decide_eq_false (by omega)
        by_cases hoy : inB y 0 top = true
        · have hyb := (inB_iff _ _ _).1 hoy
          have HOY := Lib.hid hoy
          clear hoy
          unfold top at hyb
          have d3 : decide (y < 0) = false := decide_eq_false (by omega)
          have d4 : decide (1099511627776 < y) = false := decide_eq_false (by omega)
          go_wp2_with fail
          go_round
          case rel =>
            refine ⟨k + 1, by omega, by go_num, fun j hj => ?_⟩
            by_cases hjk : j = k
            · subst hjk; rw [HX.out, HY.out]; exact ⟨HOX.out, HOY.out⟩
            · exact HA.out j (by omega)
          case measure => simp [intOf]; omega
        · have hbd := Lib.hid (BAD.out (.inr (by simpa using hoy)))
          have hyb := not_in hoy
          unfold top at hyb
          clear hoy
          rcases hyb with hyb | hyb
          · have d3 : decide (y < 0) = true := decide_eq_true (by omega)
            go_wp2_with fail
            go_ret
            exact ⟨by rw [hbd.out]; rfl, hb⟩
          · have d3 : decide (y < 0) = false := decide_eq_false (by omega)
            have d4 : decide (1099511627776 < y) = true := decide_eq_true (by omega)
            go_wp2_with fail
            go_ret
            exact ⟨by rw [hbd.out]; rfl, hb⟩
      · have hbd := Lib.hid (BAD.out (.inl (by simpa using hox)))
        have hxb := not_in hox
        unfold top at hxb
        clear hox
        rcases hxb with hxb | hxb
        · have d3 : decide (x < 0) = true := decide_eq_true (by omega)
          go_wp2_with fail
          go_ret
          exact ⟨by rw [hbd.out]; rfl, hb⟩
        · have d3 : decide (x < 0) = false := decide_eq_false (by omega)
          have d4 : decide (1099511627776 < x) = true := decide_eq_true (by omega)
          go_wp2_with fail
          go_ret
          exact ⟨by rw [hbd.out]; rfl, hb⟩
    · have hr : rightB l = true := right_halves HL.out fun j hj => HA.out j (by omega)
      have HR := Lib.hid hr
      clear hr
      go_wp2_with fail
      go_ret
      exact ⟨by rw [HR.out]; rfl, hb⟩
end Go.Proofs.Ytocoohpekpkmkaa

/- The walk of the reference's Same. -/
namespace Go.Proofs.Ytocoohpekpkmkaa
set_option linter.unusedVariables false
set_option linter.unusedSimpArgs false
open Go.RowKit

/-- Two lists of bytes that are the same. -/
theorem same_eq (A1 A2 : Option Addr) (n1 c1 n2 c2 : Nat) (bs : List UInt8) (B1 B2 : Nat) (w : World) (h1 : RdB w B1 A1 n1 bs) (h2 : RdB w B2 A2 n2 bs) (hl : n1 ≤ 9223372036854775807) :
    Calls Try.prog 33 #[.slice A1 n1 c1, .slice A2 n2 c2] w fun e w' => e = .returned (.bool true) ∧ ∃ m, w' = w.drewN m := by
  obtain rfl := h1.1
  obtain rfl := h2.1
  go_enter Try.func33, Try.ntmps33
  go_wp2_with fail
  go_loopw [13] (fun i wr => ∃ k m : Nat, k ≤ bs.length ∧ i = .int .i64 k ∧ wr = w.drewN m) (fun i _ => bs.length - (intOf i).toNat)
  case atStart => exact ⟨0, 0, by omega, rfl, rfl⟩
  case round =>
    obtain ⟨k, m, hk, rfl, rfl⟩ := hrel
    by_cases hlt : k < bs.length
    · obtain ⟨a1, rfl, _, hc1⟩ := h1.at_ hlt
      obtain ⟨a2, rfl, _, hc2⟩ := h2.at_ hlt
      obtain ⟨x, hx⟩ : ∃ x, x = bs[k] := ⟨_, rfl⟩
      rw [← hx] at hc1 hc2
      clear hx
      have hq : ((x.toNat : Int) != (x.toNat : Int)) = false := by simp
      go_wp2_with fail
      go_quiet (fail)
      go_wp2_with fail
      go_roundw
      case rel => exact ⟨k + 1, _, by omega, by go_num, rfl⟩
      case measure => simp [intOf]; omega
    · go_wp2_with fail
      go_ret
      exact ⟨rfl, _, rfl⟩

end Go.Proofs.Ytocoohpekpkmkaa

/- The walks of the reference of layer 2: Put, Same, Lent, Kept. -/
namespace Go.Proofs.Ytocoohpekpkmkaa
set_option linter.unusedVariables false
set_option linter.unusedSimpArgs false
open Go.RowKit

theorem rput_bad (A : Option Addr) (n c : Nat) (x : Int) (w : World) (hx : x < 0 ∨ 1099511627776 < x) :
    Calls Try.prog 101 #[.slice A n c, .int .i64 x] w fun e w' => e = .returned (.tuple #[.slice none 0 0, .int .i64 2]) ∧ w = w' := by
  rcases hx with hx | hx
  · have hd : decide (x < 0) = true := decide_eq_true (by omega)
    go_enter Try.func101, Try.ntmps101
    go_wp2_with fail
    go_ret2
    exact ⟨rfl, rfl⟩
  · have hd : decide (x < 0) = false := decide_eq_false (by omega)
    have hd1 : decide (1099511627776 < x) = true := decide_eq_true (by omega)
    go_enter Try.func101, Try.ntmps101
    go_wp2_with fail
    go_ret2
    exact ⟨rfl, rfl⟩
theorem u8_ref (m : Nat) : IntKind.u8.wrap (128 + (m : Int) % 128) = ((UInt8.ofNat (m % 128 + 128)).toNat : Int) := by
  rw [IntKind.wrap_u8', Vint.toNat_ofNat]; omega
set_option maxRecDepth 100000 in
theorem rput_ok (A : Option Addr) (n c : Nat) (bs : List UInt8) (x : Nat) (B : Nat) (w : World) (hb : RdB w B A n bs) (hB : B ≤ w.heap.size) (hl : n ≤ 140737488355000) (hx : x ≤ 1099511627776) :
    Calls Try.prog 101 #[.slice A n c, .int .i64 x] w (GiveBE w (bs ++ Vint.enc x) 0) := by
  have hd : decide ((x : Int) < 0) = false := decide_eq_false (by omega)
  have hd1 : decide (1099511627776 < (x : Int)) = false := decide_eq_false (by omega)
  go_enter Try.func101, Try.ntmps101
  go_wp2_with (at_builtin; refine wpList_appB rfl (.tmp 13) (.tmp 14) rfl rfl (OwnB.made w w.heap.size [] #[] 0 rfl rfl (Nat.le_refl _) (Nat.zero_le _)) rfl (hb.alloc hB _) (by omega) (by simp) ?_)
  intro A1 c1 w1 ho _ _ hbl0
  have hbl : Below w.heap.size w w1 := ((Below.refl _ _).alloc (Nat.le_refl _) _).trans hbl0
  clear hd hd1 hbl0
  have hn1 := ho.1
  have hl1 : bs.length ≤ 140737488355000 := by rw [← hb.1]; exact hl
  have HN1 := Lib.hid hn1
  clear hn1
  go_wp2_with fail
  go_loopw [1, 6] (fun i v wr => ∃ (m f : Nat) (pre : List UInt8) (A' : Option Addr) (n' c' : Nat), i = .int .i64 m ∧ v = .slice A' n' c' ∧ m < 128 ^ (f + 1) ∧ f ≤ 5 ∧ m ≤ 1099511627776 ∧ pre.length + f ≤ 5 ∧ pre ++ Vint.encF f m = Vint.enc x ∧
      OwnB wr w.heap.size A' n' c' (bs ++ pre) ∧ Below w.heap.size w wr) (fun i _ _ => (intOf i).toNat)
  case atStart => exact ⟨x, 5, [], A1, _, c1, rfl, rfl, by have : (128 : Nat) ^ 6 = 4398046511104 := by decide
                                                           show x < 128 ^ 6; omega, by omega, hx, by simp, rfl, by simpa using ho, hbl⟩
  case round =>
    obtain ⟨m, f, pre, A', n', c', rfl, rfl, hm, hf5, hmt, hpf, hpre, hown, hbel⟩ := hrel
    have hlen := hown.1
    rw [List.length_append] at hlen
    have hln : n' ≤ 140737488355005 := by omega
    have HL := Lib.hid hlen
    have HP := Lib.hid hpre
    clear hlen hpre
    by_cases hge : 128 ≤ m
    · have hf : 1 ≤ f := by
        rcases Nat.eq_zero_or_pos f with h0 | h0
        · subst h0; simp at hm; omega
        · exact h0
      obtain ⟨f, rfl⟩ : ∃ f', f = f' + 1 := ⟨f - 1, by omega⟩
      have a1 := u8_ref m
      go_wp2_with (at_builtin; refine wpList_appB rfl (.tmp 18) (.tmp 23) rfl rfl (hown.alloc _) rfl (RdB.made _ [UInt8.ofNat (m % 128 + 128)] _ _ _ ?hx1) ?hx0 ?hx2 ?_)
      case hx0 => show n' + 1 ≤ _; omega
      case hx2 => have := hbel.size; simp; omega
      intro A2 c2 w3 ho2 _ _ hbl2
      have hbel3 : Below w.heap.size w w3 := (hbel.alloc hbel.size _).trans hbl2
      go_wp2_with fail
      go_roundw
      case rel =>
        refine ⟨m / 128, f, pre ++ [UInt8.ofNat (m % 128 + 128)], _, _, _, rfl, rfl, ?_, by omega, by omega, by simp; omega, ?_, by simpa using ho2, hbel3⟩
        · rw [Nat.pow_succ] at hm; omega
        · rw [← HP.out]
          conv => rhs; unfold Vint.encF
          rw [if_neg (by omega)]; simp
      case measure => simp [intOf]; omega
    · have a1 := u8_byte m
      go_wp2_with (at_builtin; refine wpList_appB rfl (.tmp 27) (.tmp 30) rfl rfl (hown.alloc _) rfl (RdB.made _ [UInt8.ofNat m] _ _ _ ?hy1) ?hy0 ?hy2 ?_)
      case hy0 => show n' + 1 ≤ _; omega
      case hy2 => have := hbel.size; simp; omega
      intro A2 c2 w3 ho2 _ _ hbl2
      have hbel3 : Below w.heap.size w w3 := (hbel.alloc hbel.size _).trans hbl2
      go_wp2_with fail
      go_ret2
      refine ⟨_, _, _, rfl, ?_, hbel3⟩
      have e : Vint.encF f m = [UInt8.ofNat m] := by
        cases f with
        | zero => rfl
        | succ f => unfold Vint.encF; rw [if_pos (by omega)]
      rw [← HP.out, e]
      simpa using ho2

/-- n zero bytes, as cells -/
def zerosB (n : Nat) : List Value := List.replicate n (bv 0)
theorem run_makeB (W : World) (n c : Nat) (hnc : n ≤ c) (hc : c ≤ 281474976710656) : (Instr.makeSlice 77 (.int .i64 (n : Int)) (.int .i64 (c : Int))).run Try.prog W = .ok (.slice (some ⟨W.heap.size, 0, none⟩) n c) (W.alloc (.cells (zerosB c).toArray 5)) := by
  obtain ⟨i0, hi, hz0, hz1, hz2⟩ := info_parts infoB
  have h := run_make (P := Try.prog) (w := W) 77 5 i0 (.int .u8 0) Try.underlying77 hi hz0 .i64 .i64 n c (by omega) (by omega) (by rw [hz2]; omega) (by omega)
  rw [hz1] at h
  simp only [Int.toNat_natCast, Nat.mul_one] at h
  rw [h]
  have e : madeCells (Value.int IntKind.u8 0).cells c = (zerosB c).toArray := by
    apply Array.toList_inj.1
    exact toList_madeCells_one (.int .u8 0) c
  rw [e]
theorem sizeB : (Try.prog.info? 5).map (·.size) = some 1 := by kernel_rfl
/-- a lent copy, k of its spare bytes marked -/
def lentL (bs : List UInt8) (k : Nat) : List Value := bs.map bv ++ (List.replicate k (bv 171) ++ List.replicate (4 - k) (bv 0))
theorem lentL_next (bs : List UInt8) (k : Nat) (hk : k < 4) : (lentL bs k).toArray.setIfInBounds (bs.length + k) (bv 171) = (lentL bs (k + 1)).toArray := by
  apply Array.toList_inj.1
  rw [Array.toList_setIfInBounds]
  show (lentL bs k).set _ _ = lentL bs (k + 1)
  unfold lentL
  rw [List.set_append, if_neg (by simp), List.length_map, Nat.add_sub_cancel_left]
  congr 1
  match k, hk with
  | 0, _ => rfl
  | 1, _ => rfl
  | 2, _ => rfl
  | 3, _ => rfl
def Lends (w : World) (bs : List UInt8) (e : Ending) (w' : World) : Prop :=
  ∃ g, e = .returned (.slice (some ⟨g, 0, none⟩) bs.length (bs.length + 4)) ∧ w.heap.size ≤ g ∧ Blk w' g 5 (lentL bs 4).toArray ∧ Below w.heap.size w w'
theorem lent_rd {w : World} {g : Nat} {bs : List UInt8} {k : Nat} (h1 : Blk w g 5 (lentL bs k).toArray) : RdB w w.heap.size (some ⟨g, 0, none⟩) bs.length bs := ⟨rfl, fun j u hu => ⟨_, rfl, h1.lt, by
    rw [add_mk, Nat.zero_add, h1.cell]
    have hj : j < (bs.map bv).length := by
      false_or_by_contra
      rw [List.getElem?_eq_none (by omega)] at hu; cases hu
    show (lentL bs k).toArray[j]? = _
    rw [List.getElem?_toArray]
    show (bs.map bv ++ _)[j]? = _
    rw [List.getElem?_append_left hj, hu]⟩⟩
theorem u8_next (z : UInt8) : IntKind.u8.wrap ((z.toNat : Int) + 1) = ((UInt8.ofNat (z.toNat + 1)).toNat : Int) := u8_byte (z.toNat + 1)
end Go.Proofs.Ytocoohpekpkmkaa

/- The walks of the document's Put of frames. -/
namespace Go.Proofs.Ytocoohpekpkmkaa
set_option linter.unusedVariables false
set_option linter.unusedSimpArgs false
open Go.RowKit
namespace Frame
theorem rput_long (A : Option Addr) (n c : Nat) (w : World) (hl : 4096 < n) :
    Calls Try.prog 60 #[.slice A n c] w fun e w' => e = .returned (.tuple #[.slice none 0 0, .int .i64 6]) ∧ w = w' := by
  have hd : decide ((4096 : Int) < (n : Int)) = true := decide_eq_true (by omega)
  go_enter Try.func60, Try.ntmps60
  go_wp2_with fail
  go_ret2
  exact ⟨rfl, rfl⟩
theorem rput_ok (A : Option Addr) (n c : Nat) (bs : List UInt8) (B : Nat) (w : World) (hb : RdB w B A n bs) (hB : B ≤ w.heap.size) (hl : n ≤ 4096) :
    Calls Try.prog 60 #[.slice A n c] w (GiveBE w (frm bs) 0) := by
  obtain rfl := hb.1
  have hd : decide ((4096 : Int) < (bs.length : Int)) = false := decide_eq_false (by omega)
  have hel := Vint.enc_length bs.length
  go_enter Try.func60, Try.ntmps60
  go_wp2_with fail
  refine (Go.Proofs.Ytocoohpekpkmkaa.rput_ok _ _ _ [1] bs.length _ _ (RdB.made _ [1] _ _ _ ?hx1) (by simp) (by simp) (by omega)).mono ?_
  case hx1 => rfl
  rintro e w1 ⟨A1, n1, c1, rfl, ho1, hb1⟩
  have hbl1 : Below w.heap.size w w1 := ((Below.refl _ _).alloc (Nat.le_refl _) _).trans (hb1.mono (by simp))
  have hr1 := (hb.more hB).below hbl1
  have ho1' := ho1.mono (base' := w.heap.size) (by simp)
  have hn1 := ho1.1
  rw [List.length_append] at hn1
  simp only [List.length_cons, List.length_nil] at hn1
  have hn7 : n1 ≤ 7 := by omega
  clear ho1 hel hn1
  go_wp2_with (at_builtin; refine wpList_appB rfl (.tmp 17) (.tmp 18) rfl rfl ho1' rfl hr1 ?hy0 hbl1.size ?_)
  case hy0 => omega
  intro A2 c2 w2 ho2 _ _ hbl2
  have hb2 := hbl1.trans hbl2
  have hd2 : OwnB w2 w.heap.size A2 (n1 + bs.length) c2 (head bs) := ho2
  clear ho2
  go_wp2_with fail
  refine (Crc.rsum_any _ _ _ _ _ _ hd2.rd (by unfold maxLen; omega)).mono ?_
  rintro e w3 ⟨rfl, rfl⟩
  have hs := Crc.sum_lt (head bs)
  obtain ⟨s, hs0⟩ : ∃ s, s = Crc.sum (head bs) := ⟨_, rfl⟩
  rw [← hs0] at hs ⊢
  have HS0 := Lib.hid hs0
  clear hs0
  go_wp2_with (at_builtin; refine wpList_appB rfl (.tmp 22) (.tmp 34) rfl rfl (hd2.alloc _) rfl (RdB.made _ (be s) _ _ _ ?hz1) ?hz0 ?hz2 ?_)
  case hz1 => simp [be, bv, Vint.toNat_ofNat]; omega
  case hz0 => show n1 + bs.length + 4 ≤ _; omega
  case hz2 => have := hb2.size; simp; omega
  intro A4 c4 w4 ho4 _ _ hbl4
  have hb4 := (hb2.alloc hb2.size _).trans hbl4
  go_wp2_with fail
  go_ret2
  refine ⟨_, _, _, rfl, ?_, hb4⟩
  rw [HS0.out] at ho4
  exact ho4
end Frame
end Go.Proofs.Ytocoohpekpkmkaa

/- The walk of the document's reader's Int. -/
namespace Go.Proofs.Ytocoohpekpkmkaa
set_option linter.unusedVariables false
set_option linter.unusedSimpArgs false
open Go.RowKit
namespace Vint
theorem decF_nil {i n : Nat} (hi : i < 6) : decF (6 - i) i n [] = .error 3 := by
  obtain ⟨k, hk⟩ : ∃ k, 6 - i = k + 1 := ⟨5 - i, by omega⟩
  rw [hk]; rfl
theorem decF_more {i n : Nat} (hi : i < 6) {c : UInt8} (r : List UInt8) (hc : 128 ≤ c.toNat) : decF (6 - i) i n (c :: r) = decF (6 - (i + 1)) (i + 1) (n + (c.toNat % 128) * 128 ^ i) r := by
  obtain ⟨k, hk⟩ : ∃ k, 6 - i = k + 1 := ⟨5 - i, by omega⟩
  rw [hk, show 6 - (i + 1) = k by omega]
  conv => lhs; unfold decF
  rw [if_pos hc]
theorem decF_bad {i n : Nat} (hi : i < 6) {c : UInt8} (r : List UInt8) (hc : c.toNat < 128) (h : top < n + c.toNat * 128 ^ i ∨ (c.toNat = 0 ∧ 0 < i)) : decF (6 - i) i n (c :: r) = .error 4 := by
  obtain ⟨k, hk⟩ : ∃ k, 6 - i = k + 1 := ⟨5 - i, by omega⟩
  rw [hk]
  unfold decF
  rw [if_neg (by omega), if_pos h]
theorem decF_good {i n : Nat} (hi : i < 6) {c : UInt8} (r : List UInt8) (hc : c.toNat < 128) (h1 : n + c.toNat * 128 ^ i ≤ top) (h2 : c.toNat ≠ 0 ∨ i = 0) : decF (6 - i) i n (c :: r) = .ok (n + c.toNat * 128 ^ i, r) := by
  obtain ⟨k, hk⟩ : ∃ k, 6 - i = k + 1 := ⟨5 - i, by omega⟩
  rw [hk]
  unfold decF
  rw [if_neg (by omega), if_neg (by omega)]
theorem pow128 {i : Nat} (hi : i < 6) : 1 ≤ 128 ^ i ∧ 128 ^ i ≤ 34359738368 := by
  match i, hi with
  | 0, _ => decide
  | 1, _ => decide
  | 2, _ => decide
  | 3, _ => decide
  | 4, _ => decide
  | 5, _ => decide
end Vint
/-- The document's reader: its bytes, where it is, its error. -/
def RRd (w : World) (g : Nat) (A : Option Addr) (n c at' e : Nat) : Prop := Blk w g 141 #[.slice A n c, .int .i64 (at' : Nat), .int .i64 (e : Nat)]
/-- What Int leaves. -/
def RInt (w : World) (g : Nat) (A : Option Addr) (n c at' : Nat) (bs : List UInt8) (e : Ending) (w' : World) : Prop :=
  w.grownBy w' (some g) ∧ match Vint.dec (bs.drop at') with
    | .ok (m, r) => e = .returned (.int .i64 (m : Nat)) ∧ RRd w' g A n c (n - r.length) 0
    | .error x => e = .returned (.int .i64 0) ∧ RRd w' g A n c at' x
theorem RInt.good {w w' : World} {g : Nat} {A : Option Addr} {n c at' : Nat} {bs : List UInt8} {e : Ending} {m : Nat} {r : List UInt8} (hd : Vint.dec (bs.drop at') = .ok (m, r)) (he : e = .returned (.int .i64 (m : Nat))) (hr : RRd w' g A n c (n - r.length) 0) (hg : w.grownBy w' (some g)) : RInt w g A n c at' bs e w' := by
  refine ⟨hg, ?_⟩
  rw [hd]
  exact ⟨he, hr⟩
theorem RInt.bad {w w' : World} {g : Nat} {A : Option Addr} {n c at' : Nat} {bs : List UInt8} {e : Ending} {x : Nat} (hd : Vint.dec (bs.drop at') = .error x) (he : e = .returned (.int .i64 0)) (hr : RRd w' g A n c at' x) (hg : w.grownBy w' (some g)) : RInt w g A n c at' bs e w' := by
  refine ⟨hg, ?_⟩
  rw [hd]
  exact ⟨he, hr⟩
theorem rint_fail (g : Nat) (A : Option Addr) (n c at' e : Nat) (w : World) (hR : RRd w g A n c at' e) (he : e ≠ 0) :
    Calls Try.prog 76 #[.pointer (some ⟨g, 0, none⟩)] w fun r w' => r = .returned (.int .i64 0) ∧ w = w' := by
  have c2 : w.cell? ⟨g, 2, none⟩ = some (.int .i64 (e : Nat)) := hR.cell 2
  have hq : ((e : Int) != 0) = true := by rw [bne_iff_ne]; omega
  go_enter Try.func76, Try.ntmps76
  go_wp2_with fail
  go_ret
  exact ⟨rfl, rfl⟩
set_option maxRecDepth 100000 in
set_option maxHeartbeats 1000000 in
theorem rint_any (g : Nat) (A : Option Addr) (n c at' : Nat) (bs : List UInt8) (B : Nat) (w : World) (hR : RRd w g A n c at' 0) (hb : RdB w B A n bs) (ha : at' ≤ n) (hn : n ≤ 1000000000000) :
    Calls Try.prog 76 #[.pointer (some ⟨g, 0, none⟩)] w (RInt w g A n c at' bs) := by
  have c0 : w.cell? ⟨g, 0, none⟩ = some (.slice A n c) := hR.cell 0
  have c1 : w.cell? ⟨g, 1, none⟩ = some (.int .i64 (at' : Nat)) := hR.cell 1
  have c2 : w.cell? ⟨g, 2, none⟩ = some (.int .i64 0) := hR.cell 2
  have f1 := hR.free 1
  have f2 := hR.free 2
  obtain rfl := hb.1
  go_enter Try.func76, Try.ntmps76
  go_wp2_with fail
  go_loopw [3, 4, 5, 6] (fun v p s j wr => ∃ (i m nn P : Nat), i ≤ 6 ∧ j = .int .i64 i ∧ v = .int .i64 nn ∧ p = .int .i64 P ∧ s = .int .i64 0 ∧ P = 128 ^ i ∧ nn < P ∧ at' + i ≤ bs.length ∧ Vint.dec (bs.drop at') = Vint.decF (6 - i) i nn (bs.drop (at' + i)) ∧ wr = w.drewN m) (fun _ _ _ j _ => 6 - (intOf j).toNat)
  case atStart => exact ⟨0, 0, 0, 1, by omega, rfl, rfl, rfl, rfl, rfl, by omega, ha, rfl, rfl⟩
  case round =>
    obtain ⟨i, m, nn, P, hi, rfl, rfl, rfl, rfl, hP, hnn, hai, hdec, rfl⟩ := hrel
    have HP := Lib.hid hP
    have HD := Lib.hid hdec
    clear hP hdec
    obtain ⟨q, hq⟩ : ∃ q, at' + i = q := ⟨_, rfl⟩
    by_cases h6 : i < 6
    · have hPb := Vint.pow128 h6
      rw [← HP.out] at hPb
      have hP1 := hPb.1
      have hP2 := hPb.2
      clear hPb
      have ew : IntKind.i64.wrap ((at' : Int) + (i : Int)) = (q : Int) := by rw [IntWalk.i64_in _ (by omega)]; omega
      by_cases hql : q < bs.length
      · obtain ⟨a, rfl, _, hcell⟩ := hb.at_ hql
        obtain ⟨x, hx⟩ : ∃ x, x = bs[q] := ⟨_, rfl⟩
        rw [← hx] at hcell
        have hdr : bs.drop q = x :: bs.drop (q + 1) := by rw [hx]; exact List.drop_eq_getElem_cons hql
        have HDR := Lib.hid hdr
        have HQ := Lib.hid hq
        clear hx hdr hq
        have hxb := x.toNat_lt
        have hd6 : decide ((i : Int) < 6) = true := decide_eq_true (by omega)
        have hdq : decide (bs.length ≤ q) = false := decide_eq_false (by omega)
        obtain ⟨V, hV⟩ : ∃ V, V = x.toNat % 128 * P := ⟨_, rfl⟩
        have hVb : V ≤ 127 * P := by rw [hV]; exact Nat.mul_le_mul_right _ (by omega)
        have em : IntKind.i64.wrap ((x.toNat : Int) % 128 * (P : Int)) = (V : Int) := by
          have e : (x.toNat : Int) % 128 * (P : Int) = (V : Int) := by rw [hV]; push_cast; rfl
          rw [e, IntWalk.i64_in _ (by omega)]
        have HV := Lib.hid hV
        clear hV
        by_cases hc : 128 ≤ x.toNat
        · have hd : decide ((x.toNat : Int) < 128) = false := decide_eq_false (by omega)
          go_wp2_with fail
          go_quiet (fail)
          go_wp2_with fail
          go_quiet (fail)
          go_wp2_with fail
          go_roundw
          case rel =>
            refine ⟨i + 1, _, nn + V, P * 128, by omega, by go_num, by go_num, by go_num, rfl, by rw [HP.out, Nat.pow_succ], by omega, by have := HQ.out; omega, ?_, rfl⟩
            rw [HD.out, show at' + (i + 1) = q + 1 by have := HQ.out; omega, HQ.out, HDR.out, Vint.decF_more h6 _ hc, ← HP.out, ← HV.out]
          case measure => simp [intOf]; omega
        have hd : decide ((x.toNat : Int) < 128) = true := decide_eq_true (by omega)
        have hVx : V = x.toNat * P := by rw [HV.out, Nat.mod_eq_of_lt (by omega)]
        have HVX := Lib.hid hVx
        clear hVx
        obtain ⟨N, hN⟩ : ∃ N, N = nn + V := ⟨_, rfl⟩
        have eN : IntKind.i64.wrap ((nn : Int) + (V : Int)) = (N : Int) := by rw [IntWalk.i64_in _ (by omega)]; omega
        have HN := Lib.hid hN
        clear hN
        have hs0 : ((i : Int) + 1 == 0) = false := by rw [beq_eq_false_iff_ne]; omega
        by_cases hbig : Vint.top < N
        · have hdt : decide ((1099511627776 : Int) < (N : Int)) = true := decide_eq_true (by unfold Vint.top at hbig; omega)
          have hdec : Vint.dec (bs.drop at') = .error 4 := by
            rw [HD.out, HQ.out, HDR.out]
            exact Vint.decF_bad h6 _ (by omega) (.inl (by rw [← HP.out, ← HVX.out, ← HN.out]; exact hbig))
          have HDD := Lib.hid hdec
          clear hdec hbig
          go_wp2_with fail
          go_quiet (fail)
          go_wp2_with fail
          go_quiet (fail)
          go_wp2_with fail
          go_quiet (fail)
          go_wp2_with fail
          go_ret
          exact RInt.bad HDD.out rfl (hR.set_ 2 (.int .i64 4)) (only_set (only_drewN (World.grownBy.refl _ _) _) _)
        have hdt : decide ((1099511627776 : Int) < (N : Int)) = false := decide_eq_false (by unfold Vint.top at hbig; omega)
        obtain ⟨q1, hq1⟩ : ∃ q1, q1 = q + 1 := ⟨_, rfl⟩
        have e1 : IntKind.i64.wrap ((at' : Int) + ((i : Int) + 1)) = (q1 : Int) := by rw [IntWalk.i64_in _ (by omega)]; have := HQ.out; omega
        have e2 : IntKind.i64.wrap ((q1 : Int) - 1) = (q : Int) := by rw [IntWalk.i64_in _ (by omega)]; omega
        have hfin : bs.length - (bs.drop (q + 1)).length = q1 := by rw [List.length_drop]; omega
        have HF := Lib.hid hfin
        have HQ1 := Lib.hid hq1
        clear hfin hq1
        by_cases hgood : x.toNat ≠ 0 ∨ i = 0
        · have hdec : Vint.dec (bs.drop at') = .ok (N, bs.drop (q + 1)) := by
            rw [HD.out, HQ.out, HDR.out, HN.out, HVX.out, HP.out]
            exact Vint.decF_good h6 _ (by omega) (by rw [← HP.out, ← HVX.out, ← HN.out]; omega) hgood
          have HDD := Lib.hid hdec
          clear hdec hbig
          by_cases hi0 : i = 0
          · subst hi0
            clear hgood
            have hqa : at' = q := by have := HQ.out; omega
            subst hqa
            have e1' : IntKind.i64.wrap ((at' : Int) + 1) = (q1 : Int) := by rw [IntWalk.i64_in _ (by omega)]; have := HQ1.out; omega
            go_wp2_with fail
            go_quiet (fail)
            go_wp2_with fail
            go_quiet (fail)
            go_wp2_with fail
            go_quiet (fail)
            go_wp2_with fail
            go_ret
            have hs := hR.set_ 1 (.int .i64 (q1 : Nat))
            refine RInt.good HDD.out rfl ?_ (only_set (only_drewN (World.grownBy.refl _ _) _) _)
            rw [HF.out]
            exact hs
          · have hx0 : x.toNat ≠ 0 := by omega
            have hi1 : 0 < i := by omega
            have hi2 : decide ((1 : Int) < (i : Int) + 1) = true := decide_eq_true (by omega)
            have hi3 : decide (0 < (i : Int)) = true := decide_eq_true (by omega)
            have hi4 : decide (0 < i) = true := decide_eq_true (by omega)
            have hxq : ((x.toNat : Int) == 0) = false := by rw [beq_eq_false_iff_ne]; omega
            clear hgood
            go_wp2_with fail
            go_quiet (fail)
            go_wp2_with fail
            go_quiet (fail)
            go_wp2_with fail
            go_quiet (fail)
            go_wp2_with fail
            go_ret
            have hs := hR.set_ 1 (.int .i64 (q1 : Nat))
            refine RInt.good HDD.out rfl ?_ (only_set (only_drewN (World.grownBy.refl _ _) _) _)
            rw [HF.out]
            exact hs
        · have hx0 : x.toNat = 0 := by omega
          have hi1 : 0 < i := by omega
          have hi2 : decide ((1 : Int) < (i : Int) + 1) = true := decide_eq_true (by omega)
          have hi3 : decide (0 < (i : Int)) = true := decide_eq_true (by omega)
          have hi4 : decide (0 < i) = true := decide_eq_true (by omega)
          have hdec : Vint.dec (bs.drop at') = .error 4 := by
            rw [HD.out, HQ.out, HDR.out]
            exact Vint.decF_bad h6 _ (by omega) (.inr ⟨hx0, hi1⟩)
          have HDD := Lib.hid hdec
          have hxq : ((x.toNat : Int) == 0) = true := by rw [beq_iff_eq]; omega
          clear hdec hbig hgood hx0
          go_wp2_with fail
          go_quiet (fail)
          go_wp2_with fail
          go_quiet (fail)
          go_wp2_with fail
          go_quiet (fail)
          go_wp2_with fail
          go_ret
          exact RInt.bad HDD.out rfl (hR.set_ 2 (.int .i64 4)) (only_set (only_drewN (World.grownBy.refl _ _) _) _)
      · have hqe : bs.length ≤ q := by omega
        have hdec : Vint.dec (bs.drop at') = .error 3 := by
          rw [HD.out, List.drop_eq_nil_of_le (by omega), Vint.decF_nil h6]
        have HDD := Lib.hid hdec
        clear hdec hq
        have hd6 : decide ((i : Int) < 6) = true := decide_eq_true (by omega)
        have hdq : decide (bs.length ≤ q) = true := decide_eq_true (by omega)
        go_wp2_with fail
        go_quiet (fail)
        go_wp2_with fail
        go_ret
        exact RInt.bad HDD.out rfl (hR.set_ 2 (.int .i64 3)) (only_set (only_drewN (World.grownBy.refl _ _) _) _)
    · obtain rfl : i = 6 := by omega
      have hdec : Vint.dec (bs.drop at') = .error 4 := HD.out
      have HDD := Lib.hid hdec
      clear hdec hq
      go_wp2_with fail
      go_quiet (fail)
      go_wp2_with fail
      go_ret
      exact RInt.bad HDD.out rfl (hR.set_ 2 (.int .i64 4)) (only_set (only_drewN (World.grownBy.refl _ _) _) _)
end Go.Proofs.Ytocoohpekpkmkaa

/- The document's reader: its Int and Fail, as the plain law has them. -/
namespace Go.Proofs.Ytocoohpekpkmkaa
set_option linter.unusedVariables false
set_option linter.unusedSimpArgs false
open Go.RowKit
theorem intM_err {l : List UInt8} {e : Nat} (h : e ≠ 0) : Vint.intM l e = (0, l, e) := by unfold Vint.intM; rw [if_neg h]
theorem intM_small (l : List UInt8) (e : Nat) : (Vint.intM l e).2.2 ≠ 0 → (Vint.intM l e).1 = 0 := by
  unfold Vint.intM
  by_cases h : e = 0
  · rw [if_pos h]
    cases Vint.dec l with
    | error x => intro _; rfl
    | ok p => intro h; exact absurd rfl h
  · rw [if_neg h]; intro _; rfl
theorem intM_put {n : Nat} (h : n ≤ 1099511627776) (r : List UInt8) : Vint.intM (Vint.enc n ++ r) 0 = (n, r, 0) := by
  unfold Vint.intM
  rw [if_pos rfl, Vint.dec_enc (by unfold Vint.top; exact h)]
theorem intM_good {l : List UInt8} {e : Nat} (h : (Vint.intM l e).2.2 = 0) : e = 0 ∧ l = Vint.enc (Vint.intM l e).1 ++ (Vint.intM l e).2.1 ∧ (Vint.intM l e).1 ≤ 1099511627776 := by
  unfold Vint.intM at h ⊢
  by_cases he : e = 0
  · rw [if_pos he] at h ⊢
    cases hd : Vint.dec l with
    | error x =>
      rw [hd] at h
      have := Vint.dec_err hd
      simp only at h
      omega
    | ok p =>
      obtain ⟨n, r⟩ := p
      have := Vint.dec_ok hd
      exact ⟨he, this.1, this.2⟩
  · rw [if_neg he] at h
    exact absurd h he
/-- the document's reader: what is left of the bytes, how it stands -/
def RSt (w : World) (g : Nat) (A : Option Addr) (n c : Nat) (bs r : List UInt8) (e : Nat) : Prop := ∃ at', at' ≤ n ∧ RRd w g A n c at' e ∧ bs.drop at' = r
def RIntM (w : World) (g : Nat) (A : Option Addr) (n c : Nat) (bs r : List UInt8) (e : Nat) (x : Ending) (w' : World) : Prop :=
  x = .returned (.int .i64 ((Vint.intM r e).1 : Nat)) ∧ w.grownBy w' (some g) ∧ RSt w' g A n c bs (Vint.intM r e).2.1 (Vint.intM r e).2.2
theorem rint_m (g : Nat) (A : Option Addr) (n c B : Nat) (bs r : List UInt8) (e : Nat) (w : World) (hR : RSt w g A n c bs r e) (hb : RdB w B A n bs) (hn : n ≤ 1000000000) :
    Calls Try.prog 76 #[.pointer (some ⟨g, 0, none⟩)] w (RIntM w g A n c bs r e) := by
  obtain ⟨at', ha, hR, rfl⟩ := hR
  by_cases he : e = 0
  · subst he
    refine (rint_any g A n c at' bs B w hR hb ha (by omega)).mono ?_
    rintro x w' ⟨hg, h⟩
    unfold RIntM Vint.intM
    rw [if_pos rfl]
    cases hd : Vint.dec (bs.drop at') with
    | error y =>
      rw [hd] at h
      exact ⟨h.1, hg, at', ha, h.2, rfl⟩
    | ok p =>
      obtain ⟨m, r⟩ := p
      rw [hd] at h
      obtain ⟨h1, h2⟩ := h
      refine ⟨h1, hg, n - r.length, by omega, h2, ?_⟩
      have hl := hb.1
      have hdo := (Vint.dec_ok hd).1
      have hlen := congrArg List.length hdo
      rw [List.length_drop, List.length_append] at hlen
      rw [show n - r.length = at' + (Vint.enc m).length by omega, ← List.drop_drop, hdo, List.drop_left]
  · refine (rint_fail g A n c at' e w hR he).mono ?_
    rintro x w' ⟨rfl, rfl⟩
    unfold RIntM
    rw [intM_err he]
    exact ⟨rfl, World.grownBy.refl _ _, at', ha, hR, rfl⟩
theorem rfail_m (g x : Nat) (A : Option Addr) (n c : Nat) (bs r : List UInt8) (e : Nat) (w : World) (hR : RSt w g A n c bs r e) :
    Calls Try.prog 77 #[.pointer (some ⟨g, 0, none⟩), .int .i64 (x : Nat)] w fun k w' => k = .returned (.tuple #[]) ∧ w.grownBy w' (some g) ∧ RSt w' g A n c bs r (if e = 0 then x else e) := by
  obtain ⟨at', ha, hR, hd⟩ := hR
  have c2 : w.cell? ⟨g, 2, none⟩ = some (.int .i64 (e : Nat)) := hR.cell 2
  have f2 := hR.free 2
  have HD := Lib.hid hd
  by_cases he : e = 0
  · subst he
    rw [if_pos rfl]
    have k2 := Blk.set_ hR 2 (.int .i64 (x : Nat))
    have g2 := only_set (i := 2) (World.grownBy.refl w (some g)) (.int .i64 (x : Nat))
    have K2 := Lib.hid k2
    have G2 := Lib.hid g2
    clear k2 g2 hR hd
    go_enter Try.func77, Try.ntmps77
    go_wp2_with fail
    go_end0
    exact ⟨rfl, G2.out, at', ha, K2.out, HD.out⟩
  · rw [if_neg he]
    have hq : (((e : Nat) : Int) == 0) = false := by rw [beq_eq_false_iff_ne]; omega
    clear hd
    go_enter Try.func77, Try.ntmps77
    go_wp2_with fail
    go_end0
    exact ⟨rfl, World.grownBy.refl _ _, at', ha, hR, HD.out⟩
theorem RSt.map {w w' : World} {g : Nat} {A : Option Addr} {n c : Nat} {bs r : List UInt8} {e : Nat} (h : RSt w g A n c bs r e) (f : ∀ t cs, Blk w g t cs → Blk w' g t cs) : RSt w' g A n c bs r e := by
  obtain ⟨at', h1, h2, h3⟩ := h
  exact ⟨at', h1, f _ _ h2, h3⟩
theorem grown_on {a w w' : World} {b : Nat} {row : Option Nat} (h0 : a.grownBy w row) (h : w.grownBy w' (some b)) (hb : a.heap.size ≤ b) : a.grownBy w' row :=
  ⟨h.os.trans h0.os, h.tape.trans h0.tape, h.output.trans h0.output, Nat.le_trans h0.size h.size, fun k hk hne => (h.block k (Nat.lt_of_lt_of_le hk h0.size) (fun e => by injection e; omega)).trans (h0.block k hk hne)⟩
end Go.Proofs.Ytocoohpekpkmkaa

/- The walk of the document's Get of frames. -/
namespace Go.Proofs.Ytocoohpekpkmkaa
set_option linter.unusedVariables false
set_option linter.unusedSimpArgs false
open Go.RowKit
namespace Frame
/-- What the document's Get leaves. -/
def RGetF (w : World) (bs : List UInt8) (e : Ending) (w' : World) : Prop :=
  Below w.heap.size w w' ∧ match dec bs with
    | .ok (x, r) => ∃ A1 c1 A2 c2, e = .returned (.tuple #[.slice A1 x.length c1, .slice A2 r.length c2, .int .i64 0]) ∧ OwnB w' w.heap.size A1 x.length c1 x ∧ OwnB w' w.heap.size A2 r.length c2 r
    | .error y => e = .returned (.tuple #[.slice none 0 0, .slice none 0 0, .int .i64 (y : Nat)])
theorem RGetF.bad {w w' : World} {bs : List UInt8} {e : Ending} {y : Nat} (h : dec bs = .error y) (he : e = .returned (.tuple #[.slice none 0 0, .slice none 0 0, .int .i64 (y : Nat)])) (hb : Below w.heap.size w w') : RGetF w bs e w' := by
  unfold RGetF
  rw [h]
  exact ⟨hb, he⟩
theorem RGetF.good {w w' : World} {bs x r : List UInt8} {e : Ending} {A5 A6 : Option Addr} {n5 n6 c5 c6 base : Nat} (hd : dec bs = .ok (x, r)) (hbase : w.heap.size ≤ base) (h5 : OwnB w' base A5 n5 c5 x) (h6 : OwnB w' base A6 n6 c6 r) (he : e = .returned (.tuple #[.slice A5 n5 c5, .slice A6 n6 c6, .int .i64 0])) (hb : Below w.heap.size w w') : RGetF w bs e w' := by
  unfold RGetF
  rw [hd]
  obtain rfl := h5.1
  obtain rfl := h6.1
  exact ⟨hb, A5, c5, A6, c6, he, h5.mono hbase, h6.mono hbase⟩
theorem apart_last {w : World} {base n c s : Nat} {A : Option Addr} {bs : List UInt8} (h : OwnB w base A n c bs) (hs : w.heap.size = s) : A.map (·.block) = none ∨ A.map (·.block) ≠ some s := .inr fun e => by have := (h.lt _ e).2; omega
theorem apart_moved {A : Option Addr} {b s g : Nat} (h : Moved A (some b) s) (h1 : b ≠ g) (h2 : s ≠ g) : A.map (·.block) = none ∨ A.map (·.block) ≠ some g := .inr fun e => by
  rcases h with h | h
  · rw [h] at e; injection e with e; exact h1 e
  · rw [h] at e; injection e with e; exact h2 e
theorem addNZ (a : Addr) (n : Nat) (hn : n ≠ 0) : a.add n = ⟨a.block, a.off + n, none⟩ := by unfold Addr.add; rw [if_neg hn]
theorem blk_at {w : World} {g : Nat} {t : TypeId} {cs : Array Value} (h : w.heap.size = g) : Blk (w.alloc (.cells cs t)) g t cs := h ▸ Blk.new w t cs
theorem bnext {a w : World} (h : Below a.heap.size a w) (o : Obj) : Below a.heap.size a (w.alloc o) := h.alloc h.size o
theorem own_emp {w : World} {g base : Nat} (h : Blk w g 5 #[]) (hb : base ≤ g) : OwnB w base (some ⟨g, 0, none⟩) 0 0 [] :=
  ⟨rfl, rfl, .inr ⟨g, 0, #[], rfl, hb, h, Nat.le_refl _, Nat.zero_le _, rfl, rfl⟩⟩
theorem four {l : List UInt8} {E : Nat} {z0 z1 z2 z3 : UInt8} (h0 : l[E]? = some z0) (h1 : l[E + 1]? = some z1) (h2 : l[E + 2]? = some z2) (h3 : l[E + 3]? = some z3) : (l.drop E).take 4 = [z0, z1, z2, z3] := by
  apply List.ext_getElem?
  intro i
  rw [List.getElem?_take]
  match i with
  | 0 => simpa using h0
  | 1 => simpa using h1
  | 2 => simpa using h2
  | 3 => simpa using h3
  | i + 4 =>
    rw [if_neg (by omega)]
    rfl
theorem be_four {S : Nat} {z0 z1 z2 z3 : UInt8} (hS : S < 4294967296) : ([z0, z1, z2, z3] = be S) ↔ ((z0.toNat : Int) = (S : Int) / 16777216 ∧ (z1.toNat : Int) = (S : Int) / 65536 % 256 ∧ (z2.toNat : Int) = (S : Int) / 256 % 256 ∧ (z3.toNat : Int) = (S : Int) % 256) := by
  unfold be
  simp only [List.cons.injEq, and_true, ← UInt8.toNat_inj, Vint.toNat_ofNat]
  constructor
  · rintro ⟨a, b, c, d⟩; omega
  · rintro ⟨a, b, c, d⟩; omega
set_option maxRecDepth 100000 in
set_option maxHeartbeats 1000000 in
theorem rget_any (A : Option Addr) (n c : Nat) (bs : List UInt8) (B : Nat) (w : World) (hb : RdB w B A n bs) (hB : B ≤ w.heap.size) (hl : n ≤ 1000000000000) (hc : n ≤ c) (hm : c ≤ maxLen) :
    Calls Try.prog 74 #[.slice A n c] w (RGetF w bs) := by
  obtain rfl := hb.1
  unfold maxLen at hm
  rcases bs with _ | ⟨v, t⟩
  · go_enter Try.func74, Try.ntmps74
    go_wp2_with fail
    go_ret3
    exact RGetF.bad dec_nil rfl (Below.refl _ _)
  have hd0 : (((v :: t).length : Int) == 0) = false := by rw [beq_eq_false_iff_ne]; simp; omega
  obtain ⟨a, rfl, hab, hv0⟩ := hb.at_ (k := 0) (by simp)
  have hv1 : w.cell? a = some (bv v) := by simpa [go_sem] using hv0
  clear hv0
  obtain ⟨L, hL⟩ : ∃ L, L = (v :: t).length := ⟨_, rfl⟩
  rw [← hL] at hb hl hc hd0 ⊢
  have hLt : t.length + 1 = L := by rw [hL]; simp
  have hd1 : 0 < L := by omega
  clear hL
  by_cases hv : v ≠ 1
  · have hq : ((v.toNat : Int) != 1) = true := by
      rw [bne_iff_ne]
      intro e
      exact hv (UInt8.toNat_inj.1 (by show v.toNat = 1; omega))
    go_enter Try.func74, Try.ntmps74
    go_wp2_with fail
    go_ret3
    exact RGetF.bad (dec_form hv) rfl (Below.refl _ _)
  have hv := Decidable.not_not.1 hv
  have hq : ((v.toNat : Int) != 1) = false := by rw [hv]; rfl
  have HV := Lib.hid hv
  clear hv
  go_enter Try.func74, Try.ntmps74
  go_wp2_with fail
  refine (rint_any _ _ _ _ 1 (v :: t) B _ (Blk.new _ _ _) (hb.alloc hB _) (by omega) (by omega)).mono ?_
  rintro e w2 ⟨hg2, hm2⟩
  have hb2 : Below w.heap.size w w2 := ((Below.refl _ _).alloc (Nat.le_refl _) _).trans (only_Below hg2 (Nat.le_refl _) (by simp))
  rw [show (v :: t).drop 1 = t from rfl] at hm2
  clear hg2
  rcases hdt : Vint.dec t with x | ⟨k, r⟩
  · rw [hdt] at hm2
    simp only at hm2
    obtain ⟨rfl, hR2⟩ := hm2
    have hx : x ≠ 0 := by have := Vint.dec_err hdt; omega
    have hq0 : ((x : Int) != 0) = true := by rw [bne_iff_ne]; omega
    have c2 : w2.cell? ⟨w.heap.size, 2, none⟩ = some (.int .i64 (x : Nat)) := hR2.cell 2
    have HD := Lib.hid hdt
    clear hdt
    go_wp2_with fail
    go_quiet (fail)
    go_wp2_with fail
    go_ret3
    refine RGetF.bad (y := x) ?_ rfl (below_drewN hb2 _)
    rw [HV.out]
    exact dec_int HD.out
  rw [hdt] at hm2
  simp only at hm2
  obtain ⟨rfl, hR2⟩ := hm2
  have hkt := (Vint.dec_ok hdt).2
  have hrl := (Vint.dec_ok_lt hdt).1
  unfold Vint.top at hkt
  obtain ⟨q, hq9⟩ : ∃ q, q = r.length := ⟨_, rfl⟩
  rw [← hq9] at hR2 hrl
  have HQ := Lib.hid hq9
  have HD := Lib.hid hdt
  clear hdt hq9
  obtain ⟨H, hH⟩ : ∃ H, H = L - q := ⟨_, rfl⟩
  rw [← hH] at hR2
  have hHq : H + q = L := by omega
  have HH := Lib.hid hHq
  have hHL : H ≤ L := by omega
  have c1 : w2.cell? ⟨w.heap.size, 1, none⟩ = some (.int .i64 (H : Nat)) := hR2.cell 1
  have c2 : w2.cell? ⟨w.heap.size, 2, none⟩ = some (.int .i64 0) := hR2.cell 2
  clear hH hHq
  by_cases hk : 4096 < k
  · have hdk : decide ((4096 : Int) < (k : Int)) = true := decide_eq_true (by omega)
    go_wp2_with fail
    go_ret3
    refine RGetF.bad (y := 6) ?_ rfl hb2
    rw [HV.out]
    exact dec_size HD.out hk
  have hdk : decide ((4096 : Int) < (k : Int)) = false := decide_eq_false (by omega)
  obtain ⟨E, hE⟩ : ∃ E, H + k = E := ⟨_, rfl⟩
  have eE : IntKind.i64.wrap ((H : Int) + (k : Int)) = (E : Int) := by rw [IntWalk.i64_in _ (by omega)]; omega
  have HE := Lib.hid hE
  have hEb : E ≤ 1000000005000 := by omega
  clear hE
  by_cases hs : L < E + 4
  · have hdk : decide ((L : Int) < (E : Int) + 4) = true := decide_eq_true (by omega)
    go_wp2_with fail
    go_ret3
    refine RGetF.bad (y := 3) ?_ rfl hb2
    rw [HV.out]
    exact dec_short HD.out (by omega) (by rw [← HQ.out]; have := HE.out; have := HH.out; omega)
  have hdk : decide ((L : Int) < (E : Int) + 4) = false := decide_eq_false (by omega)
  have hEL : E + 4 ≤ L := by omega
  have hcE : E ≤ c := by omega
  have hbw : RdB w2 B (some a) L (v :: t) := hb.below (hb2.mono hB)
  have rdP : RdB w2 B (some a) E ((v :: t).take E) := hbw.take (by omega)
  go_wp2_with fail
  refine (Crc.rsum_any _ _ _ _ _ _ rdP (by unfold maxLen; omega)).mono ?_
  rintro e w3 ⟨rfl, rfl⟩
  have hsl := Crc.sum_lt ((v :: t).take E)
  obtain ⟨S, hS⟩ : ∃ S, S = Crc.sum ((v :: t).take E) := ⟨_, rfl⟩
  rw [← hS] at hsl ⊢
  have HS := Lib.hid hS
  clear hS
  have hcell : ∀ i, i < 4 → ∃ z, (v :: t)[E + i]? = some z ∧ w2.cell? (a.add (E + i)) = some (bv z) := by
    intro i hi
    obtain ⟨a', e, _, hc⟩ := hbw.at_ (k := E + i) (by have := hbw.1; omega)
    injection e with e
    subst e
    exact ⟨_, List.getElem?_eq_getElem (by have := hbw.1; omega), hc⟩
  obtain ⟨z0, p0, q0⟩ := hcell 0 (by omega)
  obtain ⟨z1, p1, q1⟩ := hcell 1 (by omega)
  obtain ⟨z2, p2, q2⟩ := hcell 2 (by omega)
  obtain ⟨z3, p3, q3⟩ := hcell 3 (by omega)
  rw [Nat.add_zero] at p0 q0
  rw [addNZ a _ (by omega)] at q1 q2 q3
  have HP0 := Lib.hid p0
  have HP1 := Lib.hid p1
  have HP2 := Lib.hid p2
  have HP3 := Lib.hid p3
  clear p0 p1 p2 p3 hcell
  have hdrop : ((v :: t).drop E).take 4 = (r.drop k).take 4 := by
    have e1 := (Vint.dec_ok HD.out).1
    have l1 := congrArg List.length e1
    rw [List.length_append, ← HQ.out] at l1
    rw [← HE.out, ← List.drop_drop]
    congr 2
    have e2 : v :: t = (v :: Vint.enc k) ++ r := by rw [e1]; rfl
    have := HH.out
    rw [e2, show H = (v :: Vint.enc k).length by rw [List.length_cons]; omega, List.drop_left]
  have hsum : (v :: t).length - r.length + k = E := by
    rw [← HQ.out, List.length_cons, hLt]
    have := HH.out
    have := HE.out
    omega
  have hbad : ¬ [z0, z1, z2, z3] = be S → dec (v :: t) = .error 5 := by
    intro h
    rw [HV.out]
    refine dec_sum HD.out (by omega) (by rw [← HQ.out]; have := HH.out; have := HE.out; omega) ?_
    rw [← hdrop, four HP0.out HP1.out HP2.out HP3.out, ← HV.out, hsum, ← HS.out]
    exact h
  have hgood : [z0, z1, z2, z3] = be S → dec (v :: t) = .ok (r.take k, r.drop (k + 4)) := by
    intro h
    rw [HV.out]
    refine dec_good HD.out (by omega) (by rw [← HQ.out]; have := HH.out; have := HE.out; omega) ?_
    rw [← hdrop, four HP0.out HP1.out HP2.out HP3.out, ← HV.out, hsum, ← HS.out]
    exact h
  rw [be_four hsl] at hbad hgood
  have HB := Lib.hid hbad
  have HG := Lib.hid hgood
  clear hdrop hsum hbad hgood
  go_upto_region 15 with fail
  by_cases e0 : (z0.toNat : Int) = (S : Int) / 16777216
  case neg =>
    have t0 : ((z0.toNat : Int) != (S : Int) / 16777216) = true := by rw [bne_iff_ne]; exact e0
    have HZ := Lib.hid e0
    clear e0
    go_wp2_with fail
    go_ret3
    exact RGetF.bad (HB.out fun h => HZ.out h.1) rfl hb2
  have t0 : ((z0.toNat : Int) != (S : Int) / 16777216) = false := by rw [bne_eq_false_iff_eq]; exact e0
  have H0 := Lib.hid e0
  clear e0
  by_cases e1 : (z1.toNat : Int) = (S : Int) / 65536 % 256
  case neg =>
    have t1 : ((z1.toNat : Int) != (S : Int) / 65536 % 256) = true := by rw [bne_iff_ne]; exact e1
    have HZ := Lib.hid e1
    clear e1
    go_wp2_with fail
    go_ret3
    exact RGetF.bad (HB.out fun h => HZ.out h.2.1) rfl hb2
  have t1 : ((z1.toNat : Int) != (S : Int) / 65536 % 256) = false := by rw [bne_eq_false_iff_eq]; exact e1
  have H1 := Lib.hid e1
  clear e1
  by_cases e2 : (z2.toNat : Int) = (S : Int) / 256 % 256
  case neg =>
    have t2 : ((z2.toNat : Int) != (S : Int) / 256 % 256) = true := by rw [bne_iff_ne]; exact e2
    have HZ := Lib.hid e2
    clear e2
    go_wp2_with fail
    go_ret3
    exact RGetF.bad (HB.out fun h => HZ.out h.2.2.1) rfl hb2
  have t2 : ((z2.toNat : Int) != (S : Int) / 256 % 256) = false := by rw [bne_eq_false_iff_eq]; exact e2
  have H2 := Lib.hid e2
  clear e2
  by_cases e3 : (z3.toNat : Int) = (S : Int) % 256
  case neg =>
    have t3 : ((z3.toNat : Int) != (S : Int) % 256) = true := by rw [bne_iff_ne]; exact e3
    have HZ := Lib.hid e3
    clear e3
    go_wp2_with fail
    go_ret3
    exact RGetF.bad (HB.out fun h => HZ.out h.2.2.2) rfl hb2
  have t3 : ((z3.toNat : Int) != (S : Int) % 256) = false := by rw [bne_eq_false_iff_eq]; exact e3
  have hdec := HG.out ⟨H0.out, H1.out, H2.out, e3⟩
  have HDE := Lib.hid hdec
  clear e3 hdec
  go_wp2_with fail
  obtain ⟨E4, hE4⟩ : ∃ E4, E4 = E + 4 := ⟨_, rfl⟩
  obtain ⟨m, hm⟩ : ∃ m, m = L - E4 := ⟨_, rfl⟩
  obtain ⟨A2, hA2⟩ : ∃ A2, A2 = (if c = E4 then some a else some (a.add E4)) := ⟨_, rfl⟩
  have hA3 := hA2.symm
  have rdX : ∀ w', Below w2.heap.size w2 w' → RdB w' B (some (a.add H)) k (r.take k) := fun w' hb' => by
    have e1 := (Vint.dec_ok HD.out).1
    have l1 := congrArg List.length e1
    rw [List.length_append, ← HQ.out] at l1
    have e2 : (v :: t).drop H = r := by
      have e2 : v :: t = (v :: Vint.enc k) ++ r := by rw [e1]; rfl
      have := HH.out
      rw [e2, show H = (v :: Vint.enc k).length by rw [List.length_cons]; omega, List.drop_left]
    have := ((hbw.below (hb'.mono (Nat.le_trans hB hb2.size))).drop H).take (k := k) (by have := HH.out; have := HE.out; omega)
    rw [e2] at this
    exact this
  have rdY : ∀ w', Below w2.heap.size w2 w' → RdB w' B A2 m (r.drop (k + 4)) := fun w' hb' => by
    have e1 := (Vint.dec_ok HD.out).1
    have l1 := congrArg List.length e1
    rw [List.length_append, ← HQ.out] at l1
    have e2 : (v :: t).drop E4 = r.drop (k + 4) := by
      have e2 : v :: t = (v :: Vint.enc k) ++ r := by rw [e1]; rfl
      have := HH.out
      have := HE.out
      rw [e2, show E4 = (v :: Vint.enc k).length + (k + 4) by rw [List.length_cons]; omega, ← List.drop_drop, List.drop_left]
    have := (hbw.below (hb'.mono (Nat.le_trans hB hb2.size))).drop E4
    rw [e2, ← hm] at this
    rw [hA2]
    split
    · have h0 : m = 0 := by omega
      rw [h0] at this ⊢
      have : r.drop (k + 4) = [] := List.eq_nil_of_length_eq_zero this.1.symm
      rw [this]
      exact RdB.nil _ _ _
    · exact this
  have RX := Lib.hid rdX
  have RY := Lib.hid rdY
  have eE5 : (E : Int) + 4 = (E4 : Int) := by omega
  have ew5 : IntKind.i64.wrap (E4 : Int) = (E4 : Int) := IntWalk.i64_in _ (by omega)
  have le1 : E4 ≤ c := by omega
  have le2 : E4 ≤ L := by omega
  have le3 : L - E4 = m := hm.symm
  have le4 : H ≤ E := by have := HE.out; omega
  have le5 : E ≤ c := by omega
  have le6 : E - H = k := by have := HE.out; omega
  have le7 : ¬ c = H := by have := HE.out; omega
  have hml : m ≤ 1000000000000 := by omega
  have hB2 : w.heap.size < w2.heap.size := by have := hR2.lt; exact this
  clear rdX rdY hm hA2 hE4
  go_region_held3 (fun w' => w'.cell? ⟨w.heap.size, 1, none⟩ = some (.int .i64 (H : Nat)))
    (first
      | go_keep
      | (rw [below5.cell (p := ⟨w.heap.size, 1, none⟩) hB2]; go_keep)
      | (rw [below6.cell (p := ⟨w.heap.size, 1, none⟩) hB2]; go_keep)
      | (rw [below5.cell (p := ⟨w.heap.size, 1, none⟩) hB2]; assumption)
      | (rw [below6.cell (p := ⟨w.heap.size, 1, none⟩) hB2]; assumption))
    (first
      | ((refine step_appB rfl (.tmp 87) (.tmp 94) rfl (by rfl) (own_emp (base := w2.heap.size) (by first | exact Blk.new _ _ _ | exact (Blk.new _ _ _).drew | exact ((Blk.new _ _ _).alloc _).drew | exact (blk_at (by simp)).drew | exact blk_at (by simp) | exact (((Blk.new _ _ _).alloc _).drew).grown grown6 (by simp) | exact ((blk_at (by simp)).drew).grown grown6 (by simp) | exact ((Blk.new _ _ _).drew).grown grown6 (by simp)) (by first | exact Nat.le_refl _ | (simp; done) | (simp; omega) | (have := below6.size; simp at this ⊢; omega))) (by rfl) (RX.out _ (by first | exact (bnext (Below.refl _ _) _).drew | exact (bnext (bnext (Below.refl _ _) _) _).drew | exact bnext (((bnext (Below.refl _ _) _).drew).trans below6) _ | exact ((bnext (bnext (Below.refl _ _) _) _).drew).trans below6)) (by omega) (by first | exact Nat.le_refl _ | (simp; done) | (simp; omega) | (have := below6.size; simp at this ⊢; omega)) ?_; intro A5 c5 w5 own5 grown5 moved5 below5; rw [Nat.zero_add, List.nil_append] at own5))
      | ((refine step_appB rfl (.tmp 96) (.tmp 100) rfl (by rfl) (own_emp (base := w2.heap.size) (by first | exact Blk.new _ _ _ | exact (Blk.new _ _ _).drew | exact ((Blk.new _ _ _).alloc _).drew | exact (blk_at (by simp)).drew | exact blk_at (by simp) | exact (((Blk.new _ _ _).alloc _).drew).grown grown5 (by simp) | exact ((blk_at (by simp)).drew).grown grown5 (by simp) | exact ((Blk.new _ _ _).drew).grown grown5 (by simp)) (by first | exact Nat.le_refl _ | (simp; done) | (simp; omega) | (have := below5.size; simp at this ⊢; omega))) (by rfl) (RY.out _ (by first | exact (bnext (Below.refl _ _) _).drew | exact (bnext (bnext (Below.refl _ _) _) _).drew | exact bnext (((bnext (Below.refl _ _) _).drew).trans below5) _ | exact ((bnext (bnext (Below.refl _ _) _) _).drew).trans below5)) (by omega) (by first | exact Nat.le_refl _ | (simp; done) | (simp; omega) | (have := below5.size; simp at this ⊢; omega)) ?_; intro A6 c6 w6 own6 grown6 moved6 below6; rw [Nat.zero_add, List.nil_append] at own6)))
  all_goals
    go_wp2_with fail
    go_ret3
    refine RGetF.good HDE.out (Nat.le_of_lt hB2) (base := w2.heap.size) (by first
      | exact own5
      | exact own5.grown grown6 (apart_moved moved5 (by simp <;> omega) (by simp <;> omega))
      | exact (own5.alloc _).grown grown6 (apart_last own5 (by simp))) (by first
      | exact own6
      | exact own6.grown grown5 (apart_moved moved6 (by simp <;> omega) (by simp <;> omega))
      | exact (own6.alloc _).grown grown5 (apart_last own6 (by simp))) rfl ?_
    refine hb2.trans (Below.mono ?_ (Nat.le_of_lt hB2))
    first
      | exact (bnext (((bnext (Below.refl _ _) _).drew).trans below5) _).trans below6
      | exact (bnext (((bnext (Below.refl _ _) _).drew).trans below6) _).trans below5
      | exact (((bnext (bnext (Below.refl _ _) _) _).drew).trans below5).trans below6
      | exact (((bnext (bnext (Below.refl _ _) _) _).drew).trans below6).trans below5
end Frame
end Go.Proofs.Ytocoohpekpkmkaa

namespace Go.Proofs.Ytocoohpekpkmkaa
set_option linter.unusedVariables false
set_option linter.unusedSimpArgs false
open Go.RowKit
theorem same_any (A1 A2 : Option Addr) (n1 c1 n2 c2 : Nat) (xs ys : List UInt8) (B1 B2 : Nat) (w : World) (h1 : RdB w B1 A1 n1 xs) (h2 : RdB w B2 A2 n2 ys) (hl : n1 ≤ 9223372036854775807) :
    Calls Try.prog 33 #[.slice A1 n1 c1, .slice A2 n2 c2] w fun e w' => e = .returned (.bool (decide (xs = ys))) ∧ ∃ m, w' = w.drewN m := by
  by_cases hxy : xs = ys
  · subst hxy
    have := same_eq A1 A2 n1 c1 n2 c2 xs B1 B2 w h1 h2 hl
    rwa [decide_eq_true rfl]
  rw [decide_eq_false hxy]
  by_cases hne : n1 = n2
  rotate_left
  · have hq : (((n1 : Nat) : Int) != (n2 : Nat)) = true := by rw [bne_iff_ne]; omega
    go_enter Try.func33, Try.ntmps33
    go_wp2_with fail
    go_ret
    exact ⟨rfl, 0, rfl⟩
  subst hne
  have e1 := h1.1
  have e2 := h2.1
  have HXY := Lib.hid hxy
  have E1 := Lib.hid e1
  have E2 := Lib.hid e2
  clear hxy e1 e2
  go_enter Try.func33, Try.ntmps33
  go_wp2_with fail
  go_loopw [13] (fun i wr => ∃ k m : Nat, k ≤ n1 ∧ i = .int .i64 k ∧ wr = w.drewN m ∧ xs.take k = ys.take k) (fun i _ => n1 - (intOf i).toNat)
  case atStart => exact ⟨0, 0, by omega, rfl, rfl, rfl⟩
  case round =>
    obtain ⟨k, m, hk, rfl, rfl, ht⟩ := hrel
    have HT := Lib.hid ht
    clear ht
    by_cases hlt : k < n1
    · have hk1 : k < xs.length := by rw [← E1.out]; exact hlt
      have hk2 : k < ys.length := by rw [← E2.out]; exact hlt
      obtain ⟨a1, rfl, _, hc1⟩ := h1.at_ hk1
      obtain ⟨a2, rfl, _, hc2⟩ := h2.at_ hk2
      have hs1 := take_snoc xs hk1
      have hs2 := take_snoc ys hk2
      have HS := Lib.hid fun (h : xs[k] = ys[k]) => (show xs.take (k + 1) = ys.take (k + 1) by rw [hs1, hs2, HT.out, h])
      obtain ⟨x, hx⟩ : ∃ x, x = xs[k] := ⟨_, rfl⟩
      obtain ⟨y, hy⟩ : ∃ y, y = ys[k] := ⟨_, rfl⟩
      rw [← hx] at hc1 HS
      rw [← hy] at hc2 HS
      clear hx hy hs1 hs2 hk1 hk2
      by_cases hxy : x = y
      · subst hxy
        have hq : ((x.toNat : Int) != (x.toNat : Int)) = false := by simp
        go_wp2_with fail
        go_quiet (fail)
        go_wp2_with fail
        go_roundw
        case rel => exact ⟨k + 1, _, by omega, by go_num, rfl, by first | exact HS.out rfl | exact HS.out trivial⟩
        case measure => simp [intOf]; omega
      · have hq : ((x.toNat : Int) != (y.toNat : Int)) = true := by
          rw [bne_iff_ne]
          intro h
          exact hxy (UInt8.toNat_inj.1 (by omega))
        clear HS hxy
        go_wp2_with fail
        go_quiet (fail)
        go_wp2_with fail
        go_ret
        exact ⟨rfl, m + _, by simp [World.drewN, Nat.add_assoc]; rfl⟩
    · exact absurd (by have h := HT.out; rwa [List.take_of_length_le (by rw [← E1.out]; omega), List.take_of_length_le (by rw [← E2.out]; omega)] at h) HXY.out
end Go.Proofs.Ytocoohpekpkmkaa

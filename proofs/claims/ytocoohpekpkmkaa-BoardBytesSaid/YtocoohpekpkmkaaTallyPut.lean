/- The walk of tally's Put. -/
import Derived.Test.YtocoohpekpkmkaaTallyWalks
import Derived.Test.YtocoohpekpkmkaaVintPut
import Derived.Test.YtocoohpekpkmkaaInts
namespace Go.Proofs.Ytocoohpekpkmkaa
set_option linter.unusedVariables false
set_option linter.unusedSimpArgs false
open Go.RowKit
open Tally
/-- numbers as bytes -/
def encs (ns : List Int) : List UInt8 := ns.flatMap fun z => Vint.enc z.toNat
theorem encs_len (ns : List Int) : (encs ns).length ≤ 6 * ns.length := by
  induction ns with
  | nil => simp [encs]
  | cons z r ih =>
    have := Vint.enc_length z.toNat
    simp only [encs, List.flatMap_cons, List.length_append, List.length_cons] at *
    omega
theorem encs_snoc (ns : List Int) {k : Nat} (h : k < ns.length) : encs (ns.take (k + 1)) = encs (ns.take k) ++ Vint.enc ns[k].toNat := by
  unfold encs
  rw [take_snoc ns h, List.flatMap_append]
  simp only [List.flatMap_cons, List.flatMap_nil, List.append_nil]
set_option maxRecDepth 100000 in
set_option maxHeartbeats 2000000 in
theorem tput_any (l : List Int) (w : World) (hl : l.length = 16) (hr : rightB l = true) :
    Calls Try.prog 100 #[.agg (tc l)] w (GiveBE w (encs (numsL l 8 ++ [0])) 0) := by
  have hs : (tc l).size = 16 := by rw [tc_size, hl]
  have HS := Lib.hid hs
  have HL := Lib.hid hl
  have HR := Lib.hid hr
  clear hl hs hr
  have k0 : Blk (w.alloc (.cells (tc l) 80)) w.heap.size 80 (tc l) := Blk.new w _ _
  have hb : Below w.heap.size w (w.alloc (.cells (tc l) 80)) := (Below.refl _ _).alloc (Nat.le_refl _) _
  go_enter Try.func100, Try.ntmps100
  go_upto_region 1 with fail
  refine nameW ?_
  intro wv hwv
  rw [← hwv] at k0 hb
  obtain ⟨g, hg⟩ : ∃ g, g = w.heap.size := ⟨_, rfl⟩
  rw [← hg] at k0 ⊢
  have hgw : w.heap.size ≤ g := by omega
  clear hwv hg
  go_wp2_with ((with_reducible refine wpList_ld rowT k0 HS.out ?_ ?_); rotate_left; (rfl))
  refine (right_any l wv HL.out).mono ?_
  rw [HR.out]
  rintro e w1 ⟨rfl, h1⟩
  have k1 := k0.below h1 k0.lt
  have b1 := hb.trans (h1.mono hb.size)
  clear k0 hb h1
  go_wp2_with fail
  go_loopw [4, 14] (fun s i wr => ∃ (k : Nat) (A : Option Addr) (n c : Nat), k ≤ 8 ∧ i = .int .i64 k ∧ s = .slice A n c ∧ OwnI wr w.heap.size A n c (numsL l k) ∧ Blk wr g 80 (tc l) ∧ Below w.heap.size w wr) (fun _ i _ => 8 - (intOf i).toNat)
  case atStart => exact ⟨0, none, 0, 0, by omega, rfl, rfl, OwnI.nil _ _, k1, b1⟩
  case round =>
    clear k1 b1
    obtain ⟨k, A, n, c, hk, rfl, rfl, ho, k1, b1⟩ := hrel
    by_cases hlt : k < 8
    · have c1 := k1.tcell (i := k) (by rw [HL.out]; omega)
      have c2 := k1.tcell (i := 8 + k) (by rw [HL.out]; omega)
      have r1 := right_at HR.out k
      have r2 := right_at HR.out (8 + k)
      have hst : numsL l (k + 1) = numsL l k ++ (if 0 < l.getD k 0 + l.getD (8 + k) 0 then [(k : Int) + 1, l.getD k 0, l.getD (8 + k) 0] else []) := rfl
      have HST := Lib.hid hst
      have hnl := nums_len l k
      have hnn : n ≤ 24 := by rw [ho.1]; omega
      have hgs := k1.lt
      clear hst hnl
      generalize l.getD k 0 = x at *
      generalize l.getD (8 + k) 0 = y at *
      unfold top at r1 r2
      have hk0 : (0 : Int) ≤ (k : Int) := by omega
      have hk1 : (k : Int) < 8 := by omega
      have ew : IntKind.i64.wrap ((k : Int) + 1) = (k : Int) + 1 := IntWalk.i64_in _ (by omega)
      have hod : OwnI wr.drew w.heap.size A n c (numsL l k) := ho
      have k1d : Blk wr.drew g 80 (tc l) := k1
      have b1d := b1.drew
      clear k1 ho b1
      by_cases hp : 0 < x + y
      · have d1 : decide (0 < x + y) = true := decide_eq_true hp
        go_wp2_with fail
        go_region
        have hb2 := b1d.alloc b1d.size (.cells #[.int .i64 ((k : Int) + 1), .int .i64 x, .int .i64 y] 3)
        go_wp2_with (at_builtin; refine stop ?_)
        unfold Stop
        refine wpList_appI rfl (.tmp 29) (.tmp 34) rfl (by rfl) (hod.alloc _) (by rfl) (RdI.made wr.drew [(k : Int) + 1, x, y] _ _ _ rfl) (by simp; omega) hb2.size ?_
        intro A2 c2 w2 ho2 hg2 _ hb3
        have hne := own_ne hod.2 k1d (by decide)
        have k2 := (k1d.alloc (.cells #[.int .i64 ((k : Int) + 1), .int .i64 x, .int .i64 y] 3)).grown hg2 hne
        have HO := Lib.hid ho2
        have b3 := hb2.trans hb3
        clear hod k1d b1d hg2 hb3 ho2 hb2
        go_wp2_with fail
        go_roundw
        case rel => exact ⟨k + 1, A2, _, c2, by omega, by go_num, rfl, by rw [HST.out, if_pos (by omega)]; exact HO.out, k2, b3⟩
        case measure => simp [intOf]; omega
      · have d1 : decide (0 < x + y) = false := decide_eq_false hp
        go_wp2_with fail
        go_region
        go_wp2_with fail
        go_roundw
        case rel => exact ⟨k + 1, A, n, c, by omega, by go_num, rfl, by rw [HST.out, if_neg (by omega), List.append_nil]; exact hod, k1d, b1d⟩
        case measure => simp [intOf]; omega
    · obtain rfl : k = 8 := by omega
      have hnl := nums_len l 8
      have hnn : n ≤ 24 := by rw [ho.1]; omega
      have hbd := nums_bd HR.out 8 (by omega)
      have HBD := Lib.hid hbd
      clear hbd
      generalize numsL l 8 = ns at *
      clear k1
      have hb2 := b1.alloc b1.size (.cells #[.int .i64 0] 3)
      go_wp2_with (at_builtin; refine stop ?_)
      unfold Stop
      refine wpList_appI rfl (.tmp 37) (.tmp 38) rfl (by rfl) (ho.alloc _) (by rfl) (RdI.made wr [0] _ _ _ rfl) (by simp; omega) hb2.size ?_
      intro A2 c2 w2 ho2 _ _ hb3
      have b2 := hb2.trans hb3
      have hall : ∀ x ∈ ns ++ [0], 0 ≤ x ∧ x ≤ top := fun x hx => by
        rcases List.mem_append.1 hx with h | h
        · exact HBD.out x h
        · simp at h; subst h; unfold top; omega
      have HALL := Lib.hid hall
      have hml : n + [(0 : Int)].length ≤ 25 := by simp; omega
      generalize n + [(0 : Int)].length = m at *
      generalize ns ++ [0] = ms at *
      clear ho b1 hb2 hb3 hall hnl
      have hmle := ownsRow_le ho2.2
      go_wp2_with fail
      clear hnn
      obtain ⟨wo, rfl⟩ : ∃ wo, wo = wr := ⟨_, rfl⟩
      go_loopw [8, 41] (fun s i wr => ∃ (j : Nat) (A : Option Addr) (nb cb : Nat), j ≤ m ∧ i = .int .i64 j ∧ s = .slice A nb cb ∧ OwnB wr w.heap.size A nb cb (encs (ms.take j)) ∧ Below w2.heap.size w2 wr) (fun _ i _ => m - (intOf i).toNat)
      case atStart => exact ⟨0, none, 0, 0, by omega, rfl, rfl, OwnB.nil _ _, Below.refl _ _⟩
      case round =>
        obtain ⟨j, A, nb, cb, hj, rfl, rfl, ob, bl⟩ := hrel
        by_cases hjm : j < m
        · have hjl : j < ms.length := by rw [← ho2.1]; exact hjm
          obtain ⟨ad, rfl, _, c1⟩ := (ho2.rd.below bl).at_ hjl
          have hxb := HALL.out _ (List.getElem_mem hjl)
          have hes := encs_snoc ms hjl
          have HES := Lib.hid hes
          have hel := encs_len (ms.take j)
          have hnb : nb ≤ 150 := by
            have h1 := ob.1
            have h2 : (ms.take j).length ≤ j := List.length_take_le _ _
            omega
          clear hes hel
          generalize ms[j] = x at *
          unfold top at hxb
          obtain ⟨x, rfl⟩ := Int.eq_ofNat_of_zero_le hxb.1
          rw [Int.toNat_natCast] at HES
          have hj0 : (0 : Int) ≤ (j : Int) := by omega
          have hj1 : (j : Int) < (m : Int) := by omega
          go_wp2_with fail
          refine (put_ok A nb cb _ x wr.heap.size wr ob.rd (Nat.le_refl _) (by omega) (by omega)).mono ?_
          rintro e w4 ⟨A4, n4, c4, rfl, o4, b4⟩
          have O4 : OwnB w4 w.heap.size A4 n4 c4 (encs (ms.take (j + 1))) := by rw [HES.out]; exact o4.mono (Nat.le_trans b2.size bl.size)
          have B4 := bl.trans (b4.mono bl.size)
          have HO := Lib.hid O4
          clear O4 o4 b4 ob bl
          go_wp2_with fail
          go_roundw
          case rel => exact ⟨j + 1, A4, n4, c4, by omega, by go_num, rfl, HO.out, B4⟩
          case measure => simp [intOf]; omega
        · have hfull : ms.take j = ms := List.take_of_length_le (by rw [← ho2.1]; omega)
          have HFL := Lib.hid hfull
          clear hfull
          go_wp2_with fail
          go_ret2
          exact ⟨A, nb, cb, rfl, by rw [HFL.out] at ob; exact ob, b2.trans (bl.mono b2.size)⟩
end Go.Proofs.Ytocoohpekpkmkaa

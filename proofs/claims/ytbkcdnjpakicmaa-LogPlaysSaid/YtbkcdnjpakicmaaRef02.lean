/- The walks of the reference of layer 2: Put, Same, Lent, Kept. -/
import Derived.Test.YtbkcdnjpakicmaaVintWalks
import Derived.Test.YtbkcdnjpakicmaaSame
import Derived.Laws.CopyOwn
namespace Go.Proofs.Ytbkcdnjpakicmaa
open Go.RowKit

theorem rput_bad (A : Option Addr) (n c : Nat) (x : Int) (w : World) (hx : x < 0 ∨ 1099511627776 < x) :
    Calls Try.prog 46 #[.slice A n c, .int .i64 x] w fun e w' => e = .returned (.tuple #[.slice none 0 0, .int .i64 2]) ∧ w = w' := by
  rcases hx with hx | hx
  · have hd : decide (x < 0) = true := decide_eq_true (by omega)
    go_enter Try.func46, Try.ntmps46
    go_wp2_with fail
    go_ret2
    exact ⟨rfl, rfl⟩
  · have hd : decide (x < 0) = false := decide_eq_false (by omega)
    have hd1 : decide (1099511627776 < x) = true := decide_eq_true (by omega)
    go_enter Try.func46, Try.ntmps46
    go_wp2_with fail
    go_ret2
    exact ⟨rfl, rfl⟩
theorem u8_ref (m : Nat) : IntKind.u8.wrap (128 + (m : Int) % 128) = ((UInt8.ofNat (m % 128 + 128)).toNat : Int) := by
  rw [IntKind.wrap_u8', Vint.toNat_ofNat]; omega
set_option maxRecDepth 100000 in
theorem rput_ok (A : Option Addr) (n c : Nat) (bs : List UInt8) (x : Nat) (B : Nat) (w : World) (hb : RdB w B A n bs) (hB : B ≤ w.heap.size) (hl : n ≤ 140737488355000) (hx : x ≤ 1099511627776) :
    Calls Try.prog 46 #[.slice A n c, .int .i64 x] w (GiveBE w (bs ++ Vint.enc x) 0) := by
  have hd : decide ((x : Int) < 0) = false := decide_eq_false (by omega)
  have hd1 : decide (1099511627776 < (x : Int)) = false := decide_eq_false (by omega)
  go_enter Try.func46, Try.ntmps46
  go_wp2_with (at_builtin; refine wpList_appB rfl (.tmp 13) (.tmp 14) rfl rfl (OwnB.made w w.heap.size [] #[] 0 rfl rfl (Nat.le_refl _) (Nat.zero_le _)) rfl (hb.alloc hB _) (by omega) (by simp) ?_)
  intro A1 c1 w1 ho _ _ hbl0
  have hbl : Below w.heap.size w w1 := ((Below.refl _ _).alloc (Nat.le_refl _) _).trans hbl0
  clear hd hd1 hbl0
  have hn1 := ho.1
  have hl1 : bs.length ≤ 140737488355000 := by rw [← hb.1]; exact hl
  have HN1 := Lib.hid hn1
  clear hn1
  go_wp2_with fail
  go_loopw [1, 6] (fun i v wr => ∃ (m f : Nat) (pre : List UInt8) (A' : Option Addr) (n' c' : Nat), i = .int .i64 m ∧ v = .slice A' n' c' ∧ m < 128 ^ (f + 1) ∧ f ≤ 5 ∧ m ≤ 1099511627776 ∧ pre.length + f ≤ 5 ∧ pre ++ Vint.encF f m = Vint.enc x ∧
      OwnB wr w.heap.size A' n' c' (bs ++ pre) ∧ Below w.heap.size w wr) (fun i _ _ => (intOf i).toNat)
  case atStart => exact ⟨x, 5, [], A1, _, c1, rfl, rfl, by have : (128 : Nat) ^ 6 = 4398046511104 := by decide
                                                           show x < 128 ^ 6; omega, by omega, hx, by simp, rfl, by simpa using ho, hbl⟩
  case round =>
    obtain ⟨m, f, pre, A', n', c', rfl, rfl, hm, hf5, hmt, hpf, hpre, hown, hbel⟩ := hrel
    have hlen := hown.1
    rw [List.length_append] at hlen
    have hln : n' ≤ 140737488355005 := by omega
    have HL := Lib.hid hlen
    have HP := Lib.hid hpre
    clear hlen hpre
    by_cases hge : 128 ≤ m
    · have hf : 1 ≤ f := by
        rcases Nat.eq_zero_or_pos f with h0 | h0
        · subst h0; simp at hm; omega
        · exact h0
      obtain ⟨f, rfl⟩ : ∃ f', f = f' + 1 := ⟨f - 1, by omega⟩
      have a1 := u8_ref m
      go_wp2_with (at_builtin; refine wpList_appB rfl (.tmp 18) (.tmp 23) rfl rfl (hown.alloc _) rfl (RdB.made _ [UInt8.ofNat (m % 128 + 128)] _ _ _ ?hx1) ?hx0 ?hx2 ?_)
      case hx0 => show n' + 1 ≤ _; omega
      case hx2 => have := hbel.size; simp; omega
      intro A2 c2 w3 ho2 _ _ hbl2
      have hbel3 : Below w.heap.size w w3 := (hbel.alloc hbel.size _).trans hbl2
      go_wp2_with fail
      go_roundw
      case rel =>
        refine ⟨m / 128, f, pre ++ [UInt8.ofNat (m % 128 + 128)], _, _, _, rfl, rfl, ?_, by omega, by omega, by simp; omega, ?_, by simpa using ho2, hbel3⟩
        · rw [Nat.pow_succ] at hm; omega
        · rw [← HP.out]
          conv => rhs; unfold Vint.encF
          rw [if_neg (by omega)]; simp
      case measure => simp [intOf]; omega
    · have a1 := u8_byte m
      go_wp2_with (at_builtin; refine wpList_appB rfl (.tmp 27) (.tmp 30) rfl rfl (hown.alloc _) rfl (RdB.made _ [UInt8.ofNat m] _ _ _ ?hy1) ?hy0 ?hy2 ?_)
      case hy0 => show n' + 1 ≤ _; omega
      case hy2 => have := hbel.size; simp; omega
      intro A2 c2 w3 ho2 _ _ hbl2
      have hbel3 : Below w.heap.size w w3 := (hbel.alloc hbel.size _).trans hbl2
      go_wp2_with fail
      go_ret2
      refine ⟨_, _, _, rfl, ?_, hbel3⟩
      have e : Vint.encF f m = [UInt8.ofNat m] := by
        cases f with
        | zero => rfl
        | succ f => unfold Vint.encF; rw [if_pos (by omega)]
      rw [← HP.out, e]
      simpa using ho2

/-- n zero bytes, as cells -/
def zerosB (n : Nat) : List Value := List.replicate n (bv 0)
theorem run_makeB (W : World) (n c : Nat) (hnc : n ≤ c) (hc : c ≤ 281474976710656) : (Instr.makeSlice 22 (.int .i64 (n : Int)) (.int .i64 (c : Int))).run Try.prog W = .ok (.slice (some ⟨W.heap.size, 0, none⟩) n c) (W.alloc (.cells (zerosB c).toArray 5)) := by
  obtain ⟨i0, hi, hz0, hz1, hz2⟩ := info_parts infoB
  have h := run_make (P := Try.prog) (w := W) 22 5 i0 (.int .u8 0) Try.underlying22 hi hz0 .i64 .i64 n c (by omega) (by omega) (by rw [hz2]; omega) (by omega)
  rw [hz1] at h
  simp only [Int.toNat_natCast, Nat.mul_one] at h
  rw [h]
  have e : madeCells (Value.int IntKind.u8 0).cells c = (zerosB c).toArray := by
    apply Array.toList_inj.1
    exact toList_madeCells_one (.int .u8 0) c
  rw [e]
theorem sizeB : (Try.prog.info? 5).map (·.size) = some 1 := by kernel_rfl
/-- a lent copy, k of its spare bytes marked -/
def lentL (bs : List UInt8) (k : Nat) : List Value := bs.map bv ++ (List.replicate k (bv 171) ++ List.replicate (4 - k) (bv 0))
theorem lentL_next (bs : List UInt8) (k : Nat) (hk : k < 4) : (lentL bs k).toArray.setIfInBounds (bs.length + k) (bv 171) = (lentL bs (k + 1)).toArray := by
  apply Array.toList_inj.1
  rw [Array.toList_setIfInBounds]
  show (lentL bs k).set _ _ = lentL bs (k + 1)
  unfold lentL
  rw [List.set_append, if_neg (by simp), List.length_map, Nat.add_sub_cancel_left]
  congr 1
  match k, hk with
  | 0, _ => rfl
  | 1, _ => rfl
  | 2, _ => rfl
  | 3, _ => rfl
def Lends (w : World) (bs : List UInt8) (e : Ending) (w' : World) : Prop :=
  ∃ g, e = .returned (.slice (some ⟨g, 0, none⟩) bs.length (bs.length + 4)) ∧ w.heap.size ≤ g ∧ Blk w' g 5 (lentL bs 4).toArray ∧ Below w.heap.size w w'
theorem lent_any (A : Option Addr) (n c : Nat) (bs : List UInt8) (B : Nat) (w : World) (hb : RdB w B A n bs) (hB : B ≤ w.heap.size) (hl : n ≤ 1000000) :
    Calls Try.prog 12 #[.slice A n c] w (Lends w bs) := by
  obtain rfl := hb.1
  have hmk := fun W => run_makeB W bs.length (bs.length + 4) (by omega) (by omega)
  have e4 : ((bs.length + 4 : Nat) : Int) = (bs.length : Int) + 4 := by omega
  rw [e4] at hmk
  clear e4
  have hpos : 0 < (bs.map bv).length → (some ⟨w.heap.size, 0, none⟩ : Option Addr) = some ⟨w.heap.size, 0, none⟩ ∧ ∃ ad, A = some ad ∧ ∀ j v, (bs.map bv)[j]? = some v → (w.alloc (.cells (zerosB (bs.length + 4)).toArray 5)).cell? (ad.add j) = some v := by
    intro hp
    refine ⟨rfl, ?_⟩
    rcases A with _ | ad
    · obtain ⟨_, h, _⟩ := hb.2 0 _ (List.getElem?_eq_getElem hp)
      cases h
    · refine ⟨ad, rfl, fun j u hu => ?_⟩
      obtain ⟨_, h, h1, h2⟩ := hb.2 j u hu
      injection h with h
      subst h
      rw [World.cell?_alloc_lt _ _ _ (by rw [block_add]; omega)]
      exact h2
  have HP := Lib.hid hpos
  clear hpos
  go_enter Try.func12, Try.ntmps12
  go_wp2_with (with_reducible refine wpList_copy_splice rfl (.tmp 12) (.tmp 13) _ _ rfl 5 Try.underlying22 sizeB _ _ _ _ _ _ rfl rfl w.heap.size 0 (zerosB (bs.length + 4)) 5 (heap_alloc_new w _) (bs.map bv) (by simp) HP.out (by simp [zerosB]) (bv_one _) w.heap.size w ((Below.refl _ _).alloc (Nat.le_refl _) _) (Nat.le_refl _) ?_)
  intro w1 hw1 hbl1
  have hb0 : Blk w1 w.heap.size 5 (lentL bs 0).toArray := by
    have h := hw1.out
    have e : splice (zerosB (bs.length + 4)) 0 (bs.map bv) = lentL bs 0 := by
      simp [splice, zerosB, lentL]
    rw [e] at h
    exact h
  clear hw1
  go_wp2_with fail
  go_loopw [23] (fun i wr => ∃ k : Nat, k ≤ 4 ∧ i = .int .i64 k ∧ Blk wr w.heap.size 5 (lentL bs k).toArray ∧ Below w.heap.size w wr) (fun i _ => 4 - (intOf i).toNat)
  case atStart => exact ⟨0, by omega, rfl, hb0, hbl1⟩
  case round =>
    obtain ⟨k, hk, rfl, hbk, hbel⟩ := hrel
    by_cases hlt : k < 4
    · have hf := hbk.free (bs.length + k)
      have hc : ∃ u, wr.cell? ⟨w.heap.size, bs.length + k, none⟩ = some u := by
        rw [hbk.cell]
        exact ⟨_, Array.getElem?_eq_getElem (by simp [lentL]; omega)⟩
      obtain ⟨u, hc⟩ := hc
      have hn := hbk.set_ (bs.length + k) (bv 171)
      rw [lentL_next bs k hlt] at hn
      have HN := Lib.hid hn
      clear hn
      go_wp2_with fail
      go_roundw
      case rel => exact ⟨k + 1, by omega, by go_num, HN.out, hbel.setCell (Nat.le_refl _) _⟩
      case measure => simp [intOf]; omega
    · obtain rfl : k = 4 := by omega
      go_wp2_with fail
      go_ret
      exact ⟨_, rfl, Nat.le_refl _, hbk, hbel⟩

theorem lent_rd {w : World} {g : Nat} {bs : List UInt8} {k : Nat} (h1 : Blk w g 5 (lentL bs k).toArray) : RdB w w.heap.size (some ⟨g, 0, none⟩) bs.length bs := ⟨rfl, fun j u hu => ⟨_, rfl, h1.lt, by
    rw [add_mk, Nat.zero_add, h1.cell]
    have hj : j < (bs.map bv).length := by
      false_or_by_contra
      rw [List.getElem?_eq_none (by omega)] at hu; cases hu
    show (lentL bs k).toArray[j]? = _
    rw [List.getElem?_toArray]
    show (bs.map bv ++ _)[j]? = _
    rw [List.getElem?_append_left hj, hu]⟩⟩
theorem u8_next (z : UInt8) : IntKind.u8.wrap ((z.toNat : Int) + 1) = ((UInt8.ofNat (z.toNat + 1)).toNat : Int) := u8_byte (z.toNat + 1)
/-- A lent copy that is as it was. -/
theorem kept_any (g : Nat) (A : Option Addr) (n c : Nat) (bs : List UInt8) (B : Nat) (w : World) (h1 : Blk w g 5 (lentL bs 4).toArray) (hb : RdB w B A n bs) (hl : n ≤ 1000000) :
    Calls Try.prog 16 #[.slice (some ⟨g, 0, none⟩) bs.length (bs.length + 4), .slice A n c] w fun e w' => e = .returned (.bool true) ∧ ∃ m, w' = w.drewN m := by
  obtain rfl := hb.1
  have hr := lent_rd h1
  go_enter Try.func16, Try.ntmps16
  go_wp2_with fail
  refine (same_eq _ _ _ _ _ _ _ _ _ _ hr hb (by omega)).mono ?_
  rintro e w' ⟨rfl, m0, rfl⟩
  have hc : ∀ i, i < 4 → (w.drewN m0).cell? ⟨g, bs.length + i, none⟩ = some (bv 171) := by
    intro i hi
    show w.cell? _ = _
    rw [h1.cell]
    show (lentL bs 4).toArray[bs.length + i]? = _
    rw [List.getElem?_toArray]
    show (bs.map bv ++ _)[bs.length + i]? = _
    rw [List.getElem?_append_right (by simp), List.length_map, Nat.add_sub_cancel_left]
    match i, hi with
    | 0, _ => rfl
    | 1, _ => rfl
    | 2, _ => rfl
    | 3, _ => rfl
  go_wp2_with fail
  go_loop [19] (fun i => ∃ k : Nat, k ≤ 4 ∧ i = .int .i64 k) (fun i => 4 - (intOf i).toNat)
  case atStart => exact ⟨0, by omega, rfl⟩
  case round =>
    obtain ⟨k, hk, rfl⟩ := hrel
    by_cases hlt : k < 4
    · have hck := hc k hlt
      clear hc
      have hd4 : decide ((k : Int) < 4) = true := decide_eq_true (by omega)
      go_wp2_with fail
      go_round
      case rel => exact ⟨k + 1, by omega, by go_num⟩
      case measure => simp [intOf]; omega
    · clear hc
      go_wp2_with fail
      go_ret
      exact ⟨rfl, _, rfl⟩
end Go.Proofs.Ytbkcdnjpakicmaa

/- The walk of event.GetAll. -/
import Derived.Test.YtiemlnomlfebkaaEvGet
import Derived.Test.YtiemlnomlfebkaaEvCopy
namespace Go.Proofs.Ytiemlnomlfebkaa
set_option linter.unusedVariables false
set_option linter.unusedSimpArgs false
open Go.RowKit
open Dot Evt
namespace Evt
/-- so many right events, and the rest; or the error -/
def decEs : Nat → List UInt8 → Except Nat (List Ev × List UInt8)
  | 0, l => .ok ([], l)
  | k + 1, l => match decEs k l with
    | .error y => .error y
    | .ok (xs, r) => match decE r with
      | .error y => .error y
      | .ok (x, r') => if rightE x = true then .ok (xs ++ [x], r') else .error 4
/-- the events of bytes -/
def decA (l : List UInt8) : Except Nat (List Ev) :=
  match Vint.dec l with
  | .error y => .error y
  | .ok (n, r) => if 768 < n then .error 6 else match decEs n r with
    | .error y => .error y
    | .ok (xs, r') => if r' = [] then .ok xs else .error 4
def getAllE (l : List UInt8) : List Ev × Nat := match decA l with | .ok xs => (xs, 0) | .error y => ([], y)
theorem decEs_err {k : Nat} {l : List UInt8} {x : Nat} (h : decEs k l = .error x) : ∀ m, k ≤ m → decEs m l = .error x := by
  intro m
  induction m with
  | zero => intro hk; obtain rfl : k = 0 := by omega
            exact h
  | succ m ih =>
    intro hk
    by_cases e : k = m + 1
    · rw [← e]; exact h
    · rw [decEs, ih (by omega)]
theorem decE_l {l : List UInt8} {x : Ev} {r : List UInt8} (h : decE l = .ok (x, r)) : x.l.length ≤ 96 := by
  unfold decE at h
  split at h
  · cases h
  split at h
  · cases h
  split at h
  · cases h
  split at h
  · cases h
  split at h
  case isFalse => cases h
  split at h
  · cases h
  unfold decK at h
  split at h
  · split at h
    · cases h
    · injection h with h; injection h with h _; rw [← h]; exact Nat.zero_le _
  · split at h
    · split at h
      · cases h
      · split at h
        · cases h
        · rename_i hd
          injection h with h; injection h with h _
          rw [← h]
          exact (decL_suf hd).2.1
    · split at h
      · cases h
      · rename_i hd
        injection h with h; injection h with h _; rw [← h]
        exact (decL_suf hd).2.1
end Evt
/-- what GetAll leaves -/
def GetAllEv (w : World) (bs : List UInt8) (e : Ending) (w' : World) : Prop := ∃ A n c ys, e = .returned (.tuple #[.slice A n c, .int .i64 ((getAllE bs).2 : Nat)]) ∧ OwnEv w' w.heap.size A n c ys ∧ (∀ y ∈ ys, EvOwn w' w.heap.size y) ∧ ys.map (·.e) = (getAllE bs).1 ∧ Below w.heap.size w w'
theorem gall_close {bs : List UInt8} {w w3 : World} {B y : Nat} {tmps : Array Value} (kf : Blk w3 B 38 #[.int .i64 0]) (gb : Below B w w3) (hB : B = w.heap.size) (h2 : tmps.getD 2 undef = .slice none 0 0) (h3 : tmps.getD 3 undef = .pointer (some ⟨B, 0, none⟩)) (he : getAllE bs = ([], y)) :
    Leaves Try.prog Try.f28 tmps (GetAllEv w bs) [{ target := .fn (.func 38) #[], args := #[.pointer (some ⟨B, 0, none⟩)] }] (.panicking [{ v := eflt (y : Nat), recovered := false }]) w3 := by
  refine leaves_cons (f := 38) (args := #[.pointer (some ⟨B, 0, none⟩)]) (by simp) (by simp [go_sem]) ?_
  refine (ecaught_panic _ _ _ _ _ (kf.cell 0) (kf.free 0)).mono ?_
  rintro e u' w4 ⟨rfl, rfl, rfl⟩
  have k4 := (kf.alloc (.cells #[.int .i64 (y : Nat)] 101)).set_ 0 (.int .i64 (y : Nat))
  have c4 := k4.cell 0
  have g4 : Below B w ((w3.alloc (.cells #[.int .i64 (y : Nat)] 101)).setCell ⟨B, 0, none⟩ (.int .i64 (y : Nat))) := (gb.alloc (by have := gb.size; omega) _).setCell (by show B ≤ B; omega) _
  have h2' : tmps[2]?.getD undef = .slice none 0 0 := by simpa using h2
  have h3' : tmps[3]?.getD undef = .pointer (some ⟨B, 0, none⟩) := by simpa using h3
  refine ⟨.tuple #[.slice none 0 0, .int .i64 (y : Nat)], by simp [results, Try.results28, h2', h3', go_sem, c4], none, 0, 0, [], by rw [he], OwnEv.nil _ _, fun z hz => by simp at hz, by rw [he]; rfl, by rw [← hB]; exact g4⟩
theorem keepOwn {g x0 base : Nat} {wr w6 w7 : World} {t : TypeId} {s : Nat} {A : Option Addr} {n c : Nat} {xs : List Value} {tR : TypeId} {cs : Array Value} (h : wr.ownsRow base t s (.slice A n c) n xs) (b1 : Below wr.heap.size wr w6) (o : Only (GB g x0) w6 w7) (hx : wr.heap.size ≤ x0) (kg : Blk wr g tR cs) (hne : tR ≠ t) : w7.ownsRow base t s (.slice A n c) n xs :=
  ownsRow_keep h fun k hk => by
    have hl := ownsRow_lt h hk
    refine (o.block k (by have := b1.size; omega) ?_).trans (b1.block k hl)
    rintro (e | e)
    · exact own_ne h kg hne (by rw [hk, e])
    · omega
set_option maxRecDepth 100000 in
set_option maxHeartbeats 4000000 in
theorem egetAll_any (A : Option Addr) (n c : Nat) (bs : List UInt8) (w : World) (hb : RdB w w.heap.size A n bs) (hl : n ≤ 1000000000) :
    Calls Try.prog 28 #[.slice A n c] w (GetAllEv w bs) := by
  have HBS := Lib.hid fun (w' : World) (h : Below w.heap.size w w') => hb.below h
  have HL := Lib.hid hl
  clear hb hl
  go_enter_defers Try.func28, Try.ntmps28
  go_upto_region 2 with fail
  refine nameW ?_
  intro W hW
  obtain ⟨B, hB⟩ : ∃ B, B = w.heap.size := ⟨_, rfl⟩
  rw [← hB]
  have kf : Blk W B 38 #[.int .i64 0] := by rw [hW, hB]; exact Blk.new w _ _
  have gb : Below B w W := by rw [hW, hB]; exact (Below.refl _ _).alloc (Nat.le_refl _) _
  have HB := Lib.hid hB
  rw [← hB] at HBS
  clear hW hB
  go_wp2_with fail
  refine (new_any A n c bs B W (HBS.out W gb) (by have := kf.lt; omega) (by have := HL.out; omega)).mono ?_
  rintro e w1 ⟨A1, c1, g, rfl, hg, hR, b1⟩
  have kf1 := kf.below b1 kf.lt
  have gb1 := gb.trans (b1.mono (by have := kf.lt; omega))
  have hgB : B < g := by have := kf.lt; omega
  clear kf gb b1 hg
  go_upto_region 4 with fail
  refine nameW ?_
  intro W2 hW2
  obtain ⟨v, hv⟩ : ∃ v, v = w1.heap.size := ⟨_, rfl⟩
  rw [← hv]
  have kv : Blk W2 v 83 #[.pointer (some ⟨g, 0, none⟩)] := by rw [hW2, hv]; exact (Blk.new w1 _ _).alloc _
  have kn : Blk W2 (v + 1) 3 #[.int .i64 0] := by
    have h := Blk.new (w1.alloc (.cells #[.pointer (some ⟨g, 0, none⟩)] 83)) 3 #[.int .i64 0]
    rw [show (w1.alloc (.cells #[.pointer (some ⟨g, 0, none⟩)] 83)).heap.size = w1.heap.size + 1 by simp] at h
    rw [hW2, hv]
    exact h
  have bA : Below w1.heap.size w1 W2 := by rw [hW2]; exact ((Below.refl _ _).alloc (Nat.le_refl _) _).alloc (by simp) _
  have kf2 := kf1.below bA kf1.lt
  have gb2 := gb1.trans (bA.mono (by have := kf1.lt; omega))
  have hR2 := hR.below (bA.mono (by have := hR.lt; omega))
  have hgv : g < v := by have := hR.lt; omega
  have cv : W2.cell? ⟨v, 0, none⟩ = some (.pointer (some ⟨g, 0, none⟩)) := kv.cell 0
  clear hW2 hv kf1 gb1 hR bA
  go_wp2_with fail
  refine (rdnum_any g (v + 1) 3 _ 0 A1 bs.length c1 bs W2 hR2 kn (by omega) (by simp)).mono ?_
  intro e w3 hn
  have kf3 := kf2.only hn.1 (by rintro (h | h) <;> omega)
  have kv3 := kv.only hn.1 (by rintro (h | h) <;> omega)
  have gb3 := gb2.trans (hn.1.to_below (B := B) (by rintro k (h | h) <;> omega) (by have := kf2.lt; omega))
  rcases hd : Vint.dec bs with y | ⟨m, l0⟩
  · obtain ⟨rfl, _⟩ := hn.bad hd
    have HE := Lib.hid (show getAllE bs = ([], y) by simp [getAllE, decA, hd])
    clear hd hn
    go_wp2_with fail
    exact gall_close kf3 gb3 HB.out rfl rfl HE.out
  obtain ⟨rfl, ⟨A3, c3, hR3⟩, kn3, _⟩ := hn.good hd
  have kn3 : Blk w3 (v + 1) 3 #[.int .i64 (m : Nat)] := kn3
  have HD := Lib.hid hd
  have cn : w3.cell? ⟨v + 1, 0, none⟩ = some (.int .i64 (m : Nat)) := kn3.cell 0
  have cv : w3.cell? ⟨v, 0, none⟩ = some (.pointer (some ⟨g, 0, none⟩)) := kv3.cell 0
  clear hd hn kf2 kv kn gb2 hR2 kn3
  by_cases hbig : 768 < m
  · have hmd : decide ((768 : Int) < (m : Int)) = true := decide_eq_true (by omega)
    have HE := Lib.hid (show getAllE bs = ([], 6) by simp [getAllE, decA, HD.out, hbig])
    clear hbig
    go_wp2_with fail
    refine (rdfail_any g 6 _).mono ?_
    rintro e w4 ⟨rfl, b4⟩
    have kf4 := kf3.below b4 kf3.lt
    have gb4 := gb3.trans (b4.mono (by have := kf3.lt; omega))
    go_wp2_with fail
    exact gall_close (y := 6) kf4 gb4 HB.out rfl rfl HE.out
  have hmd : decide ((768 : Int) < (m : Int)) = false := decide_eq_false (by omega)
  have H768 := Lib.hid (show m ≤ 768 by omega)
  have HERR := Lib.hid (show ∀ k y, k ≤ m → decEs k l0 = .error y → getAllE bs = ([], y) from fun k y hk h => by
    have h2 := decEs_err h m hk
    simp [getAllE, decA, HD.out, hbig, h2])
  have HALL := Lib.hid (show ∀ xs r, decEs m l0 = .ok (xs, r) → getAllE bs = if r = [] then (xs, 0) else ([], 4) from fun xs r h => by
    by_cases hr : r = []
    · simp [getAllE, decA, HD.out, hbig, h, hr]
    · simp [getAllE, decA, HD.out, hbig, h, hr])
  clear hbig
  go_wp2_with fail
  go_loopw [6, 18] (fun s i wr => ∃ (k : Nat) (xs : List Ev) (ys : List EvV) (A' : Option Addr) (c' : Nat) (r : List UInt8) (Ar : Option Addr) (cr : Nat), k ≤ m ∧ i = .int .i64 k ∧ s = .slice A' k c' ∧ decEs k l0 = .ok (xs, r) ∧ OwnEv wr (g + 1) A' k c' ys ∧ (∀ y ∈ ys, EvOwn wr B y) ∧ ys.map (·.e) = xs ∧ Rdr wr g Ar r.length cr r 0 ∧ Blk wr v 83 #[.pointer (some ⟨g, 0, none⟩)] ∧ Blk wr B 38 #[.int .i64 0] ∧ Below B w wr) (fun _ i _ => m - (intOf i).toNat)
  case atStart => exact ⟨0, [], [], none, 0, l0, A3, c3, by omega, rfl, rfl, rfl, OwnEv.nil _ _, fun y hy => by simp at hy, rfl, hR3, kv3, kf3, gb3⟩
  case round =>
    clear hR3 kv3 kf3 gb3 cn cv
    obtain ⟨k, xs, ys, A', c', r, Ar, cr, hk, rfl, rfl, hdk, ho, hys, hmp, hR, kv, kf, gb⟩ := hrel
    have HDK := Lib.hid hdk
    have HYS := Lib.hid hys
    have HMP := Lib.hid hmp
    have hgs : B < wr.heap.size := kf.lt
    clear hdk hys hmp
    by_cases hlt : k < m
    · go_upto_region 11 with fail
      refine nameW ?_
      intro w6 hw6
      obtain ⟨x0, hx0⟩ : ∃ x0, x0 = wr.heap.size := ⟨_, rfl⟩
      rw [← hx0]
      have kx : Blk w6 x0 28 (cT 0) := by rw [hw6, hx0]; exact Blk.new _ _ _
      have b6 : Below wr.heap.size wr w6 := by rw [hw6]; exact (Below.refl _ _).alloc (Nat.le_refl _) _
      have hR6 := hR.below (b6.mono (by have := hR.lt; omega))
      have kv6 := kv.below b6 kv.lt
      have kf6 := kf.below b6 kf.lt
      have gb6 := gb.trans (b6.mono (by omega))
      have hgx : g < x0 := by have := hR.lt; omega
      have hvx : v < x0 := by have := kv.lt; omega
      have hBx : B < x0 := by omega
      have cv : w6.cell? ⟨v, 0, none⟩ = some (.pointer (some ⟨g, 0, none⟩)) := kv6.cell 0
      have kg : Blk wr g 104 _ := hR.1
      have HK7 := Lib.hid (show ∀ w7, Only (GB g x0) w6 w7 → OwnEv w7 (g + 1) A' k c' ys ∧ ∀ y ∈ ys, EvOwn w7 B y from fun w7 o => ⟨⟨ho.1, keepOwn ho.2 b6 o (by omega) kg (by decide)⟩, fun y hy => by
        obtain ⟨q1, q2, q3⟩ := HYS.out y hy
        exact ⟨q1, ⟨q2.1, keepOwn q2.2 b6 o (by omega) kg (by decide)⟩, q3⟩⟩)
      clear hw6 hx0 b6 hR kv kf gb ho HYS kg
      go_wp2_with fail
      refine (thrr_any x0 g Ar r.length cr r w6 hR6 kx hgx).mono ?_
      rintro e w7 ⟨oo, hh⟩
      have kf7 := kf6.only oo (by rintro (h | h) <;> omega)
      have kv7 := kv6.only oo (by rintro (h | h) <;> omega)
      have gb7 := gb6.trans (oo.to_below (B := B) (by rintro k (h | h) <;> omega) (by have := kf6.lt; omega))
      obtain ⟨ho7, hys7⟩ := HK7.out w7 oo
      rcases hh with ⟨x, r', hd, rfl, ⟨A7, c7, hR7⟩, A8, m8, c8, kx7, o8⟩ | ⟨y, hd, rfl⟩
      case inr =>
        have HE := Lib.hid (HERR.out (k + 1) y (by omega) (by simp [decEs, HDK.out, hd]))
        clear hd oo
        go_wp2_with fail
        exact gall_close kf7 gb7 HB.out rfl rfl HE.out
      have o9 := o8.mono (base' := B) (by have := kf6.lt; omega)
      have hz : EvOwn w7 B ⟨x, A8, m8, c8⟩ := ⟨decE_p hd, o9, by show m8 ≤ _; rw [o8.1]; have := decE_l hd; omega⟩
      obtain ⟨z, hzz⟩ : ∃ z : EvV, z = ⟨x, A8, m8, c8⟩ := ⟨_, rfl⟩
      have hze : z.e = x := by rw [hzz]
      have hcz : ec x (.slice A8 m8 c8) = z.cs := by rw [hzz]; rfl
      have hrt := eright_any x (decE_p hd) A8 m8 c8 w7 o9.rd.size
      rw [← hzz] at hz
      rw [hcz] at kx7 hrt
      obtain ⟨cz, hcz2⟩ : ∃ cz, cz = z.cs := ⟨_, rfl⟩
      have HBS2 := Lib.hid (fun w => buildE1 z w)
      rw [← hcz2] at kx7 hrt HBS2
      have SZ := Lib.hid (show cz.size = 14 by rw [hcz2]; rfl)
      have HCZ := Lib.hid hcz2
      have HZ := Lib.hid hz
      have HZE := Lib.hid hze
      have HRT := Lib.hid hrt
      have HYS7 := Lib.hid hys7
      have HDE := Lib.hid hd
      clear hz hzz hze hcz hcz2 hrt hys7 o8 o9 oo hd kx kf6 kv6 gb6 HK7 hR6
      go_wp2_with first
        | ((with_reducible refine wpList_ld rowE kx7 SZ.out ?_ ?_); rotate_left; (rfl))
      refine HRT.out.mono ?_
      rintro e w8 ⟨rfl, b8⟩
      have kf8 := kf7.below b8 kf7.lt
      have kv8 := kv7.below b8 kv7.lt
      have kx8 := kx7.below b8 kx7.lt
      have gb8 := gb7.trans (b8.mono (by have := kf7.lt; omega))
      have hR8 := hR7.below (b8.mono (by have := hR7.lt; omega))
      have cv8 : w8.cell? ⟨v, 0, none⟩ = some (.pointer (some ⟨g, 0, none⟩)) := kv8.cell 0
      cases hrx : rightE x
      case false =>
        have HE := Lib.hid (HERR.out (k + 1) 4 (by omega) (by simp [decEs, HDK.out, HDE.out, hrx]))
        clear hrx
        go_wp2_with fail
        refine (rdfail_any g 4 _).mono ?_
        rintro e w9 ⟨rfl, b9⟩
        have kf9 := kf8.below b9 kf8.lt
        have gb9 := gb8.trans (b9.mono (by have := kf8.lt; omega))
        go_wp2_with fail
        exact gall_close (y := 4) kf9 gb9 HB.out rfl rfl HE.out
      case true =>
        have HDN := Lib.hid (show decEs (k + 1) l0 = .ok (xs ++ [x], r') by simp [decEs, HDK.out, HDE.out, hrx])
        have ho8 := ho7.below b8 (Nat.le_refl _)
        have hys8 : ∀ y ∈ ys, EvOwn w8 B y := fun y hy => by
          obtain ⟨q1, q2, q3⟩ := HYS7.out y hy
          exact ⟨q1, q2.below b8 (Nat.le_refl _), q3⟩
        have hz8 : EvOwn w8 B z := by
          obtain ⟨q1, q2, q3⟩ := HZ.out
          exact ⟨q1, q2.below b8 (Nat.le_refl _), q3⟩
        have HYS8 := Lib.hid hys8
        have HZ8 := Lib.hid hz8
        have hs8 : B < w8.heap.size := kf8.lt
        have hg8 : g < w8.heap.size := hR8.lt
        clear hrx hys8 hz8 HYS7 HZ HRT kf7 kv7 kx7 gb7 b8 ho7 hR7
        go_wp2_with first
          | ((with_reducible refine wpList_ld rowE kx8 SZ.out ?_ ?_); rotate_left; (rfl))
          | ((refine wpList_bs (v := .slice (some ⟨w8.heap.size, 0, none⟩) 1 1) (w' := w8.alloc (.cells cz 28)) rfl 31 1 #[(0, .tmp 29)] rfl ?_ ?_); (simp only [List.map_toArray, List.map_cons, List.map_nil]; exact HBS2.out w8))
          | (at_builtin; refine wpList_appE rfl (.tmp 28) (.tmp 30) rfl rfl (ho8.alloc _) rfl (news := [z]) (B := w8.heap.size + 1) ?hd1 rfl ?hd2 ?hd3 ?_)
        case hd1 =>
          have h := Rd.made w8 cz 28 (0, 0)
          rw [show ecsL [z] = cz.toList by rw [HCZ.out]; simp [ecsL]]
          exact h
        case hd2 => have := H768.out; omega
        case hd3 => simp; omega
        intro A9 c9 w9 o9 g9 m9 b9
        have bx : Below w8.heap.size w8 (w8.alloc (.cells cz 28)) := (Below.refl _ _).alloc (Nat.le_refl _) _
        have gb9 := gb8.trans (((Below.refl _ _).alloc (by omega) (.cells cz 28)).trans (b9.mono (by omega)))
        have hys9 : ∀ y ∈ ys ++ [z], EvOwn w9 B y := fun y hy => by
          have hy2 : EvOwn w8 B y := by
            rcases List.mem_append.1 hy with h | h
            · exact HYS8.out y h
            · simp at h; rw [h]; exact HZ8.out
          exact ⟨hy2.1, (hy2.2.1.alloc (.cells cz 28)).grown g9 (own2_ne hy2.2.1.2 ho8.2 (by decide)), hy2.2.2⟩
        have kf9 := (kf8.alloc (.cells cz 28)).grown g9 (own_ne ho8.2 kf8 (by decide))
        have kv9 := (kv8.alloc (.cells cz 28)).grown g9 (own_ne ho8.2 kv8 (by decide))
        have hR9 := hR8.below (((Below.refl (g + 1) w8).alloc (by omega) (.cells cz 28)).trans b9)
        have HYS9 := Lib.hid hys9
        clear hys9 g9 m9 b9 HYS8 bx
        go_wp2_with fail
        go_roundw
        case rel => exact ⟨k + 1, xs ++ [x], ys ++ [z], A9, c9, r', A7, c7, by omega, num_succ k (by have := H768.out; omega), rfl, HDN.out, o9, HYS9.out, by rw [List.map_append, HMP.out]; simp [HZE.out], hR9, kv9, kf9, gb9⟩
        case measure => exact meas_succ k m hlt (by have := H768.out; omega)
    · obtain rfl : k = m := by omega
      have hfin := HALL.out xs r HDK.out
      have HF := Lib.hid hfin
      have hkd : decide ((k : Int) < (k : Int)) = false := decide_eq_false (by omega)
      have cv : wr.cell? ⟨v, 0, none⟩ = some (.pointer (some ⟨g, 0, none⟩)) := kv.cell 0
      clear hfin
      go_wp2_with fail
      refine (rdend_any g Ar r.length cr r true wr hR).mono ?_
      rintro e w8 ⟨he, b8⟩
      have kf8 := kf.below b8 kf.lt
      have gb8 := gb.trans (b8.mono (by omega))
      by_cases hr : r = []
      · rw [if_pos ⟨hr, rfl⟩] at he
        subst he
        have HE := Lib.hid (show getAllE bs = (xs, 0) by rw [HF.out, if_pos hr])
        have ho8 := ho.below b8 (Nat.le_refl _)
        have HYS8 := Lib.hid (show ∀ y ∈ ys, EvOwn w8 B y from fun y hy => by
          obtain ⟨q1, q2, q3⟩ := HYS.out y hy
          exact ⟨q1, q2.below b8 (Nat.le_refl _), q3⟩)
        have cf8 : w8.cell? ⟨B, 0, none⟩ = some (.int .i64 0) := kf8.cell 0
        have ff8 := kf8.free 0
        clear hr b8 kv kf hR HYS ho
        go_wp2_with fail
        refine leaves_cons (f := 38) (args := #[.pointer (some ⟨B, 0, none⟩)]) (by simp) (by simp [go_sem]) ?_
        refine (ecaught_none _ _).mono ?_
        rintro e u' w9 ⟨rfl, rfl, rfl⟩
        have f9 := kf8.set_ 0 (.int .i64 0)
        have c9 := f9.cell 0
        have o9 : OwnEv (w8.setCell ⟨B, 0, none⟩ (.int .i64 0)) (g + 1) A' k c' ys := ⟨ho8.1, ownsRow_keep ho8.2 fun j hj => Below.heap_setCell w8 _ _ j (fun e => own_ne ho8.2 kf8 (by decide) (by rw [hj, e]))⟩
        have y9 : ∀ y ∈ ys, EvOwn (w8.setCell ⟨B, 0, none⟩ (.int .i64 0)) B y := fun y hy => by
          obtain ⟨q1, q2, q3⟩ := HYS8.out y hy
          exact ⟨q1, q2.setFar (own_ne q2.2 kf8 (by decide)) _, q3⟩
        have gb9 : Below B w (w8.setCell ⟨B, 0, none⟩ (.int .i64 0)) := gb8.setCell (by show B ≤ B; omega) _
        refine ⟨.tuple #[.slice A' k c', .int .i64 0], by simp [results, Try.results28, go_sem, c9], A', k, c', ys, by rw [HE.out]; rfl, by rw [← HB.out]; exact o9.mono (by omega), by rw [← HB.out]; exact y9, by rw [HE.out]; exact HMP.out, by rw [← HB.out]; exact gb9⟩
      · rw [if_neg (fun h => hr h.1)] at he
        subst he
        have HE := Lib.hid (show getAllE bs = ([], 4) by rw [HF.out, if_neg hr])
        clear hr
        go_wp2_with fail
        exact gall_close (y := 4) kf8 gb8 HB.out rfl rfl HE.out
end Go.Proofs.Ytiemlnomlfebkaa

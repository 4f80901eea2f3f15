/- The walk of the document's Get of frames. -/
import Derived.Test.YtbkcdnjpakicmaaFrameGet
import Derived.Test.YtbkcdnjpakicmaaRRead
import Derived.Test.YtbkcdnjpakicmaaStep
import Derived.Deep.RegionHeld3
namespace Go.Proofs.Ytbkcdnjpakicmaa
open Go.RowKit
namespace Frame
/-- What the document's Get leaves. -/
def RGetF (w : World) (bs : List UInt8) (e : Ending) (w' : World) : Prop :=
  Below w.heap.size w w' ∧ match dec bs with
    | .ok (x, r) => ∃ A1 c1 A2 c2, e = .returned (.tuple #[.slice A1 x.length c1, .slice A2 r.length c2, .int .i64 0]) ∧ OwnB w' w.heap.size A1 x.length c1 x ∧ OwnB w' w.heap.size A2 r.length c2 r
    | .error y => e = .returned (.tuple #[.slice none 0 0, .slice none 0 0, .int .i64 (y : Nat)])
theorem RGetF.bad {w w' : World} {bs : List UInt8} {e : Ending} {y : Nat} (h : dec bs = .error y) (he : e = .returned (.tuple #[.slice none 0 0, .slice none 0 0, .int .i64 (y : Nat)])) (hb : Below w.heap.size w w') : RGetF w bs e w' := by
  unfold RGetF
  rw [h]
  exact ⟨hb, he⟩
theorem RGetF.good {w w' : World} {bs x r : List UInt8} {e : Ending} {A5 A6 : Option Addr} {n5 n6 c5 c6 base : Nat} (hd : dec bs = .ok (x, r)) (hbase : w.heap.size ≤ base) (h5 : OwnB w' base A5 n5 c5 x) (h6 : OwnB w' base A6 n6 c6 r) (he : e = .returned (.tuple #[.slice A5 n5 c5, .slice A6 n6 c6, .int .i64 0])) (hb : Below w.heap.size w w') : RGetF w bs e w' := by
  unfold RGetF
  rw [hd]
  obtain rfl := h5.1
  obtain rfl := h6.1
  exact ⟨hb, A5, c5, A6, c6, he, h5.mono hbase, h6.mono hbase⟩
theorem apart_last {w : World} {base n c s : Nat} {A : Option Addr} {bs : List UInt8} (h : OwnB w base A n c bs) (hs : w.heap.size = s) : A.map (·.block) = none ∨ A.map (·.block) ≠ some s := .inr fun e => by have := (h.lt _ e).2; omega
theorem apart_moved {A : Option Addr} {b s g : Nat} (h : Moved A (some b) s) (h1 : b ≠ g) (h2 : s ≠ g) : A.map (·.block) = none ∨ A.map (·.block) ≠ some g := .inr fun e => by
  rcases h with h | h
  · rw [h] at e; injection e with e; exact h1 e
  · rw [h] at e; injection e with e; exact h2 e
theorem addNZ (a : Addr) (n : Nat) (hn : n ≠ 0) : a.add n = ⟨a.block, a.off + n, none⟩ := by unfold Addr.add; rw [if_neg hn]
theorem blk_at {w : World} {g : Nat} {t : TypeId} {cs : Array Value} (h : w.heap.size = g) : Blk (w.alloc (.cells cs t)) g t cs := h ▸ Blk.new w t cs
theorem bnext {a w : World} (h : Below a.heap.size a w) (o : Obj) : Below a.heap.size a (w.alloc o) := h.alloc h.size o
theorem own_emp {w : World} {g base : Nat} (h : Blk w g 5 #[]) (hb : base ≤ g) : OwnB w base (some ⟨g, 0, none⟩) 0 0 [] :=
  ⟨rfl, rfl, .inr ⟨g, 0, #[], rfl, hb, h, Nat.le_refl _, Nat.zero_le _, rfl, rfl⟩⟩
theorem four {l : List UInt8} {E : Nat} {z0 z1 z2 z3 : UInt8} (h0 : l[E]? = some z0) (h1 : l[E + 1]? = some z1) (h2 : l[E + 2]? = some z2) (h3 : l[E + 3]? = some z3) : (l.drop E).take 4 = [z0, z1, z2, z3] := by
  apply List.ext_getElem?
  intro i
  rw [List.getElem?_take]
  match i with
  | 0 => simpa using h0
  | 1 => simpa using h1
  | 2 => simpa using h2
  | 3 => simpa using h3
  | i + 4 =>
    rw [if_neg (by omega)]
    rfl
theorem be_four {S : Nat} {z0 z1 z2 z3 : UInt8} (hS : S < 4294967296) : ([z0, z1, z2, z3] = be S) ↔ ((z0.toNat : Int) = (S : Int) / 16777216 ∧ (z1.toNat : Int) = (S : Int) / 65536 % 256 ∧ (z2.toNat : Int) = (S : Int) / 256 % 256 ∧ (z3.toNat : Int) = (S : Int) % 256) := by
  unfold be
  simp only [List.cons.injEq, and_true, ← UInt8.toNat_inj, Vint.toNat_ofNat]
  constructor
  · rintro ⟨a, b, c, d⟩; omega
  · rintro ⟨a, b, c, d⟩; omega
set_option maxRecDepth 100000 in
set_option maxHeartbeats 1000000 in
theorem rget_any (A : Option Addr) (n c : Nat) (bs : List UInt8) (B : Nat) (w : World) (hb : RdB w B A n bs) (hB : B ≤ w.heap.size) (hl : n ≤ 1000000000000) (hc : n ≤ c) (hm : c ≤ maxLen) :
    Calls Try.prog 18 #[.slice A n c] w (RGetF w bs) := by
  obtain rfl := hb.1
  unfold maxLen at hm
  rcases bs with _ | ⟨v, t⟩
  · go_enter Try.func18, Try.ntmps18
    go_wp2_with fail
    go_ret3
    exact RGetF.bad dec_nil rfl (Below.refl _ _)
  have hd0 : (((v :: t).length : Int) == 0) = false := by rw [beq_eq_false_iff_ne]; simp; omega
  obtain ⟨a, rfl, hab, hv0⟩ := hb.at_ (k := 0) (by simp)
  have hv1 : w.cell? a = some (bv v) := by simpa [go_sem] using hv0
  clear hv0
  obtain ⟨L, hL⟩ : ∃ L, L = (v :: t).length := ⟨_, rfl⟩
  rw [← hL] at hb hl hc hd0 ⊢
  have hLt : t.length + 1 = L := by rw [hL]; simp
  have hd1 : 0 < L := by omega
  clear hL
  by_cases hv : v ≠ 1
  · have hq : ((v.toNat : Int) != 1) = true := by
      rw [bne_iff_ne]
      intro e
      exact hv (UInt8.toNat_inj.1 (by show v.toNat = 1; omega))
    go_enter Try.func18, Try.ntmps18
    go_wp2_with fail
    go_ret3
    exact RGetF.bad (dec_form hv) rfl (Below.refl _ _)
  have hv := Decidable.not_not.1 hv
  have hq : ((v.toNat : Int) != 1) = false := by rw [hv]; rfl
  have HV := Lib.hid hv
  clear hv
  go_enter Try.func18, Try.ntmps18
  go_wp2_with fail
  refine (rint_any _ _ _ _ 1 (v :: t) B _ (Blk.new _ _ _) (hb.alloc hB _) (by omega) (by omega)).mono ?_
  rintro e w2 ⟨hg2, hm2⟩
  have hb2 : Below w.heap.size w w2 := ((Below.refl _ _).alloc (Nat.le_refl _) _).trans (only_Below hg2 (Nat.le_refl _) (by simp))
  rw [show (v :: t).drop 1 = t from rfl] at hm2
  clear hg2
  rcases hdt : Vint.dec t with x | ⟨k, r⟩
  · rw [hdt] at hm2
    simp only at hm2
    obtain ⟨rfl, hR2⟩ := hm2
    have hx : x ≠ 0 := by have := Vint.dec_err hdt; omega
    have hq0 : ((x : Int) != 0) = true := by rw [bne_iff_ne]; omega
    have c2 : w2.cell? ⟨w.heap.size, 2, none⟩ = some (.int .i64 (x : Nat)) := hR2.cell 2
    have HD := Lib.hid hdt
    clear hdt
    go_wp2_with fail
    go_quiet (fail)
    go_wp2_with fail
    go_ret3
    refine RGetF.bad (y := x) ?_ rfl (below_drewN hb2 _)
    rw [HV.out]
    exact dec_int HD.out
  rw [hdt] at hm2
  simp only at hm2
  obtain ⟨rfl, hR2⟩ := hm2
  have hkt := (Vint.dec_ok hdt).2
  have hrl := (Vint.dec_ok_lt hdt).1
  unfold Vint.top at hkt
  obtain ⟨q, hq9⟩ : ∃ q, q = r.length := ⟨_, rfl⟩
  rw [← hq9] at hR2 hrl
  have HQ := Lib.hid hq9
  have HD := Lib.hid hdt
  clear hdt hq9
  obtain ⟨H, hH⟩ : ∃ H, H = L - q := ⟨_, rfl⟩
  rw [← hH] at hR2
  have hHq : H + q = L := by omega
  have HH := Lib.hid hHq
  have hHL : H ≤ L := by omega
  have c1 : w2.cell? ⟨w.heap.size, 1, none⟩ = some (.int .i64 (H : Nat)) := hR2.cell 1
  have c2 : w2.cell? ⟨w.heap.size, 2, none⟩ = some (.int .i64 0) := hR2.cell 2
  clear hH hHq
  by_cases hk : 4096 < k
  · have hdk : decide ((4096 : Int) < (k : Int)) = true := decide_eq_true (by omega)
    go_wp2_with fail
    go_ret3
    refine RGetF.bad (y := 6) ?_ rfl hb2
    rw [HV.out]
    exact dec_size HD.out hk
  have hdk : decide ((4096 : Int) < (k : Int)) = false := decide_eq_false (by omega)
  obtain ⟨E, hE⟩ : ∃ E, H + k = E := ⟨_, rfl⟩
  have eE : IntKind.i64.wrap ((H : Int) + (k : Int)) = (E : Int) := by rw [IntWalk.i64_in _ (by omega)]; omega
  have HE := Lib.hid hE
  have hEb : E ≤ 1000000005000 := by omega
  clear hE
  by_cases hs : L < E + 4
  · have hdk : decide ((L : Int) < (E : Int) + 4) = true := decide_eq_true (by omega)
    go_wp2_with fail
    go_ret3
    refine RGetF.bad (y := 3) ?_ rfl hb2
    rw [HV.out]
    exact dec_short HD.out (by omega) (by rw [← HQ.out]; have := HE.out; have := HH.out; omega)
  have hdk : decide ((L : Int) < (E : Int) + 4) = false := decide_eq_false (by omega)
  have hEL : E + 4 ≤ L := by omega
  have hcE : E ≤ c := by omega
  have hbw : RdB w2 B (some a) L (v :: t) := hb.below (hb2.mono hB)
  have rdP : RdB w2 B (some a) E ((v :: t).take E) := hbw.take (by omega)
  go_wp2_with fail
  refine (Crc.rsum_any _ _ _ _ _ _ rdP (by unfold maxLen; omega)).mono ?_
  rintro e w3 ⟨rfl, rfl⟩
  have hsl := Crc.sum_lt ((v :: t).take E)
  obtain ⟨S, hS⟩ : ∃ S, S = Crc.sum ((v :: t).take E) := ⟨_, rfl⟩
  rw [← hS] at hsl ⊢
  have HS := Lib.hid hS
  clear hS
  have hcell : ∀ i, i < 4 → ∃ z, (v :: t)[E + i]? = some z ∧ w2.cell? (a.add (E + i)) = some (bv z) := by
    intro i hi
    obtain ⟨a', e, _, hc⟩ := hbw.at_ (k := E + i) (by have := hbw.1; omega)
    injection e with e
    subst e
    exact ⟨_, List.getElem?_eq_getElem (by have := hbw.1; omega), hc⟩
  obtain ⟨z0, p0, q0⟩ := hcell 0 (by omega)
  obtain ⟨z1, p1, q1⟩ := hcell 1 (by omega)
  obtain ⟨z2, p2, q2⟩ := hcell 2 (by omega)
  obtain ⟨z3, p3, q3⟩ := hcell 3 (by omega)
  rw [Nat.add_zero] at p0 q0
  rw [addNZ a _ (by omega)] at q1 q2 q3
  have HP0 := Lib.hid p0
  have HP1 := Lib.hid p1
  have HP2 := Lib.hid p2
  have HP3 := Lib.hid p3
  clear p0 p1 p2 p3 hcell
  have hdrop : ((v :: t).drop E).take 4 = (r.drop k).take 4 := by
    have e1 := (Vint.dec_ok HD.out).1
    have l1 := congrArg List.length e1
    rw [List.length_append, ← HQ.out] at l1
    rw [← HE.out, ← List.drop_drop]
    congr 2
    have e2 : v :: t = (v :: Vint.enc k) ++ r := by rw [e1]; rfl
    have := HH.out
    rw [e2, show H = (v :: Vint.enc k).length by rw [List.length_cons]; omega, List.drop_left]
  have hsum : (v :: t).length - r.length + k = E := by
    rw [← HQ.out, List.length_cons, hLt]
    have := HH.out
    have := HE.out
    omega
  have hbad : ¬ [z0, z1, z2, z3] = be S → dec (v :: t) = .error 5 := by
    intro h
    rw [HV.out]
    refine dec_sum HD.out (by omega) (by rw [← HQ.out]; have := HH.out; have := HE.out; omega) ?_
    rw [← hdrop, four HP0.out HP1.out HP2.out HP3.out, ← HV.out, hsum, ← HS.out]
    exact h
  have hgood : [z0, z1, z2, z3] = be S → dec (v :: t) = .ok (r.take k, r.drop (k + 4)) := by
    intro h
    rw [HV.out]
    refine dec_good HD.out (by omega) (by rw [← HQ.out]; have := HH.out; have := HE.out; omega) ?_
    rw [← hdrop, four HP0.out HP1.out HP2.out HP3.out, ← HV.out, hsum, ← HS.out]
    exact h
  rw [be_four hsl] at hbad hgood
  have HB := Lib.hid hbad
  have HG := Lib.hid hgood
  clear hdrop hsum hbad hgood
  go_upto_region 15 with fail
  by_cases e0 : (z0.toNat : Int) = (S : Int) / 16777216
  case neg =>
    have t0 : ((z0.toNat : Int) != (S : Int) / 16777216) = true := by rw [bne_iff_ne]; exact e0
    have HZ := Lib.hid e0
    clear e0
    go_wp2_with fail
    go_ret3
    exact RGetF.bad (HB.out fun h => HZ.out h.1) rfl hb2
  have t0 : ((z0.toNat : Int) != (S : Int) / 16777216) = false := by rw [bne_eq_false_iff_eq]; exact e0
  have H0 := Lib.hid e0
  clear e0
  by_cases e1 : (z1.toNat : Int) = (S : Int) / 65536 % 256
  case neg =>
    have t1 : ((z1.toNat : Int) != (S : Int) / 65536 % 256) = true := by rw [bne_iff_ne]; exact e1
    have HZ := Lib.hid e1
    clear e1
    go_wp2_with fail
    go_ret3
    exact RGetF.bad (HB.out fun h => HZ.out h.2.1) rfl hb2
  have t1 : ((z1.toNat : Int) != (S : Int) / 65536 % 256) = false := by rw [bne_eq_false_iff_eq]; exact e1
  have H1 := Lib.hid e1
  clear e1
  by_cases e2 : (z2.toNat : Int) = (S : Int) / 256 % 256
  case neg =>
    have t2 : ((z2.toNat : Int) != (S : Int) / 256 % 256) = true := by rw [bne_iff_ne]; exact e2
    have HZ := Lib.hid e2
    clear e2
    go_wp2_with fail
    go_ret3
    exact RGetF.bad (HB.out fun h => HZ.out h.2.2.1) rfl hb2
  have t2 : ((z2.toNat : Int) != (S : Int) / 256 % 256) = false := by rw [bne_eq_false_iff_eq]; exact e2
  have H2 := Lib.hid e2
  clear e2
  by_cases e3 : (z3.toNat : Int) = (S : Int) % 256
  case neg =>
    have t3 : ((z3.toNat : Int) != (S : Int) % 256) = true := by rw [bne_iff_ne]; exact e3
    have HZ := Lib.hid e3
    clear e3
    go_wp2_with fail
    go_ret3
    exact RGetF.bad (HB.out fun h => HZ.out h.2.2.2) rfl hb2
  have t3 : ((z3.toNat : Int) != (S : Int) % 256) = false := by rw [bne_eq_false_iff_eq]; exact e3
  have hdec := HG.out ⟨H0.out, H1.out, H2.out, e3⟩
  have HDE := Lib.hid hdec
  clear e3 hdec
  go_wp2_with fail
  obtain ⟨E4, hE4⟩ : ∃ E4, E4 = E + 4 := ⟨_, rfl⟩
  obtain ⟨m, hm⟩ : ∃ m, m = L - E4 := ⟨_, rfl⟩
  obtain ⟨A2, hA2⟩ : ∃ A2, A2 = (if c = E4 then some a else some (a.add E4)) := ⟨_, rfl⟩
  have hA3 := hA2.symm
  have rdX : ∀ w', Below w2.heap.size w2 w' → RdB w' B (some (a.add H)) k (r.take k) := fun w' hb' => by
    have e1 := (Vint.dec_ok HD.out).1
    have l1 := congrArg List.length e1
    rw [List.length_append, ← HQ.out] at l1
    have e2 : (v :: t).drop H = r := by
      have e2 : v :: t = (v :: Vint.enc k) ++ r := by rw [e1]; rfl
      have := HH.out
      rw [e2, show H = (v :: Vint.enc k).length by rw [List.length_cons]; omega, List.drop_left]
    have := ((hbw.below (hb'.mono (Nat.le_trans hB hb2.size))).drop H).take (k := k) (by have := HH.out; have := HE.out; omega)
    rw [e2] at this
    exact this
  have rdY : ∀ w', Below w2.heap.size w2 w' → RdB w' B A2 m (r.drop (k + 4)) := fun w' hb' => by
    have e1 := (Vint.dec_ok HD.out).1
    have l1 := congrArg List.length e1
    rw [List.length_append, ← HQ.out] at l1
    have e2 : (v :: t).drop E4 = r.drop (k + 4) := by
      have e2 : v :: t = (v :: Vint.enc k) ++ r := by rw [e1]; rfl
      have := HH.out
      have := HE.out
      rw [e2, show E4 = (v :: Vint.enc k).length + (k + 4) by rw [List.length_cons]; omega, ← List.drop_drop, List.drop_left]
    have := (hbw.below (hb'.mono (Nat.le_trans hB hb2.size))).drop E4
    rw [e2, ← hm] at this
    rw [hA2]
    split
    · have h0 : m = 0 := by omega
      rw [h0] at this ⊢
      have : r.drop (k + 4) = [] := List.eq_nil_of_length_eq_zero this.1.symm
      rw [this]
      exact RdB.nil _ _ _
    · exact this
  have RX := Lib.hid rdX
  have RY := Lib.hid rdY
  have eE5 : (E : Int) + 4 = (E4 : Int) := by omega
  have ew5 : IntKind.i64.wrap (E4 : Int) = (E4 : Int) := IntWalk.i64_in _ (by omega)
  have le1 : E4 ≤ c := by omega
  have le2 : E4 ≤ L := by omega
  have le3 : L - E4 = m := hm.symm
  have le4 : H ≤ E := by have := HE.out; omega
  have le5 : E ≤ c := by omega
  have le6 : E - H = k := by have := HE.out; omega
  have le7 : ¬ c = H := by have := HE.out; omega
  have hml : m ≤ 1000000000000 := by omega
  have hB2 : w.heap.size < w2.heap.size := by have := hR2.lt; exact this
  clear rdX rdY hm hA2 hE4
  go_region_held3 (fun w' => w'.cell? ⟨w.heap.size, 1, none⟩ = some (.int .i64 (H : Nat)))
    (first
      | go_keep
      | (rw [below5.cell (p := ⟨w.heap.size, 1, none⟩) hB2]; go_keep)
      | (rw [below6.cell (p := ⟨w.heap.size, 1, none⟩) hB2]; go_keep)
      | (rw [below5.cell (p := ⟨w.heap.size, 1, none⟩) hB2]; assumption)
      | (rw [below6.cell (p := ⟨w.heap.size, 1, none⟩) hB2]; assumption))
    (first
      | ((refine step_appB rfl (.tmp 87) (.tmp 94) rfl (by rfl) (own_emp (base := w2.heap.size) (by first | exact Blk.new _ _ _ | exact (Blk.new _ _ _).drew | exact ((Blk.new _ _ _).alloc _).drew | exact (blk_at (by simp)).drew | exact blk_at (by simp) | exact (((Blk.new _ _ _).alloc _).drew).grown grown6 (by simp) | exact ((blk_at (by simp)).drew).grown grown6 (by simp) | exact ((Blk.new _ _ _).drew).grown grown6 (by simp)) (by first | exact Nat.le_refl _ | (simp; done) | (simp; omega) | (have := below6.size; simp at this ⊢; omega))) (by rfl) (RX.out _ (by first | exact (bnext (Below.refl _ _) _).drew | exact (bnext (bnext (Below.refl _ _) _) _).drew | exact bnext (((bnext (Below.refl _ _) _).drew).trans below6) _ | exact ((bnext (bnext (Below.refl _ _) _) _).drew).trans below6)) (by omega) (by first | exact Nat.le_refl _ | (simp; done) | (simp; omega) | (have := below6.size; simp at this ⊢; omega)) ?_; intro A5 c5 w5 own5 grown5 moved5 below5; rw [Nat.zero_add, List.nil_append] at own5))
      | ((refine step_appB rfl (.tmp 96) (.tmp 100) rfl (by rfl) (own_emp (base := w2.heap.size) (by first | exact Blk.new _ _ _ | exact (Blk.new _ _ _).drew | exact ((Blk.new _ _ _).alloc _).drew | exact (blk_at (by simp)).drew | exact blk_at (by simp) | exact (((Blk.new _ _ _).alloc _).drew).grown grown5 (by simp) | exact ((blk_at (by simp)).drew).grown grown5 (by simp) | exact ((Blk.new _ _ _).drew).grown grown5 (by simp)) (by first | exact Nat.le_refl _ | (simp; done) | (simp; omega) | (have := below5.size; simp at this ⊢; omega))) (by rfl) (RY.out _ (by first | exact (bnext (Below.refl _ _) _).drew | exact (bnext (bnext (Below.refl _ _) _) _).drew | exact bnext (((bnext (Below.refl _ _) _).drew).trans below5) _ | exact ((bnext (bnext (Below.refl _ _) _) _).drew).trans below5)) (by omega) (by first | exact Nat.le_refl _ | (simp; done) | (simp; omega) | (have := below5.size; simp at this ⊢; omega)) ?_; intro A6 c6 w6 own6 grown6 moved6 below6; rw [Nat.zero_add, List.nil_append] at own6)))
  all_goals
    go_wp2_with fail
    go_ret3
    refine RGetF.good HDE.out (Nat.le_of_lt hB2) (base := w2.heap.size) (by first
      | exact own5
      | exact own5.grown grown6 (apart_moved moved5 (by simp <;> omega) (by simp <;> omega))
      | exact (own5.alloc _).grown grown6 (apart_last own5 (by simp))) (by first
      | exact own6
      | exact own6.grown grown5 (apart_moved moved6 (by simp <;> omega) (by simp <;> omega))
      | exact (own6.alloc _).grown grown5 (apart_last own6 (by simp))) rfl ?_
    refine hb2.trans (Below.mono ?_ (Nat.le_of_lt hB2))
    first
      | exact (bnext (((bnext (Below.refl _ _) _).drew).trans below5) _).trans below6
      | exact (bnext (((bnext (Below.refl _ _) _).drew).trans below6) _).trans below5
      | exact (((bnext (bnext (Below.refl _ _) _) _).drew).trans below5).trans below6
      | exact (((bnext (bnext (Below.refl _ _) _) _).drew).trans below6).trans below5
end Frame
end Go.Proofs.Ytbkcdnjpakicmaa

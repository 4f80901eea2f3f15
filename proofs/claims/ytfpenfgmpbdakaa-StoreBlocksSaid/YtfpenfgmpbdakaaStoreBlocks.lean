/- StoreBlocks: over a disk with room numbers come one by one, eight reserved at a time; opened anew they go on behind the last block; there are ninety-six at most: the whole statement, without a condition. -/
import Derived.Test.YtfpenfgmpbdakaaStoOpen
import Derived.Test.YtfpenfgmpbdakaaStoNext
import Derived.Test.YtfpenfgmpbdakaaStoBump
import Derived.Test.YtfpenfgmpbdakaaOpen
namespace Go.Proofs.Ytfpenfgmpbdakaa.StoreBlocks
set_option linter.unusedVariables false
set_option linter.unusedSimpArgs false
open Go.ChangeShapes Go.WideShapes Go.ChangeAt Go.RowKit Go.Deep
set_option linter.unusedVariables false
set_option maxRecDepth 100000
open Go.Proofs.Ytfpenfgmpbdakaa.Sto Go.Proofs.Ytfpenfgmpbdakaa.Disk
open Go.Proofs.Ytfpenfgmpbdakaa.Frame (frm frms frms_nil frms_cons frms_snoc frms_append frm_length frm_pos Parts)

/-- bools: from A on there are n of them, l -/
def RdT (w : World) (B : Nat) (A : Option Addr) (n : Nat) (l : List Bool) : Prop := n = l.length ∧ Rd w B A (l.map Value.bool)
theorem RdT.below {w w' : World} {B n : Nat} {A : Option Addr} {l : List Bool} (h : RdT w B A n l) (hb : Below B w w') : RdT w' B A n l := ⟨h.1, h.2.below hb⟩
theorem RdT.at_ {w : World} {B n k : Nat} {A : Option Addr} {l : List Bool} (h : RdT w B A n l) (hk : k < l.length) : ∃ a, A = some a ∧ a.block < B ∧ w.cell? (a.add k) = some (.bool l[k]) := by
  obtain ⟨a, h1, h2, h3⟩ := h.2.at_ (k := k) (by rw [List.length_map]; exact hk)
  exact ⟨a, h1, h2, by rw [h3, List.getElem_map]⟩
section
variable {H : Type} {enc : TypeId × Value → H} {W : World} {r : Reach} {b0 base : Nat} {sp : Nat → Bool} {held : Bool} {fuel : Nat} {cs : List Value} {x : DataW H × List MemPlace} {v : Value} {d : DataW H} {p : List MemPlace}
theorem cellsB : (Try.prog).cellsOf 4 = 1 := by kernel_rfl
theorem open_bls (hv : Value.okWide Try.prog W r b0 22 v) (h : DataW.Trod enc Try.prog W base sp held 22 v d p) : ∃ (A : Option Addr) (n c : Nat) (l : List Bool), v = .slice A n c ∧ RdT W W.heap.size A n l ∧ n ≤ maxLen := by
  obtain ⟨a0, len0, cap0, rfl⟩ := okWide_slice Try.underlying22 hv
  obtain ⟨fuel, hf⟩ := h
  obtain ⟨a, n, c, hcs, hnc, hcm, hg⟩ := rd_slice Try.underlying22 cellsB hf
  simp [Value.cells] at hcs
  obtain ⟨rfl, rfl, rfl⟩ := hcs
  have key : ∀ i, i < len0 → ∃ (ad : Addr) (q : Bool), a0 = some ad ∧ (ad.add i).block < W.heap.size ∧ W.cell? (ad.add i) = some (.bool q) := fun i hi => by
    obtain ⟨ad, cs', f', x', e, hl, hc, ht⟩ := hg i hi
    obtain ⟨q, hq, _⟩ := DataW.trod_bool Try.underlying4 ht
    have h0 := hc 0 (by omega)
    rw [add_add, Nat.mul_one, Nat.add_zero, hq] at h0
    exact ⟨ad, q, e, World.block_lt_of_cell? W _ h0, h0⟩
  have hex : ∀ i, ∃ q : Bool, i < len0 → ∃ ad, a0 = some ad ∧ (ad.add i).block < W.heap.size ∧ W.cell? (ad.add i) = some (.bool q) := fun i => by
    by_cases hi : i < len0
    · obtain ⟨ad, q, h⟩ := key i hi
      exact ⟨q, fun _ => ⟨ad, h⟩⟩
    · exact ⟨false, fun h => absurd h hi⟩
  refine ⟨a0, len0, cap0, (List.range len0).map fun i => (hex i).choose, rfl, ⟨by simp, fun j u hu => ?_⟩, Nat.le_trans hnc hcm⟩
  have hj : j < len0 := by
    have := (List.getElem?_eq_some_iff.1 hu).1
    simpa using this
  rw [List.getElem?_map, List.getElem?_map, List.getElem?_range hj] at hu
  simp only [Option.map_some] at hu
  injection hu with hu
  obtain ⟨ad, e, h1, h2⟩ := (hex j).choose_spec hj
  exact ⟨ad, e, by rw [block_add] at h1; exact h1, by rw [h2, hu]⟩
end
/-- a store of the call's own -/
structure SL (w : World) (F : Nat → Prop) (b g size : Nat) (S : Sd) (w1 : World) : Prop where
  at_ : StoAt w1 F b g size S (.slice none 0 0)
  fs : ∀ k, F k → w.heap.size ≤ k
  hb : w.heap.size ≤ b
  bel : Below w.heap.size w w1
theorem SL.op {w w1 w2 : World} {F : Nat → Prop} {b g size : Nat} {S S' : Sd} (h : SL w F b g size S w1) (ho : StoOp w1 F b g size S' (.slice none 0 0) w2) : ∃ F', SL w F' b g size S' w2 := by
  obtain ⟨F', a, o, gr⟩ := ho
  refine ⟨F', a, fun k hk => ?_, h.hb, h.bel.trans (o.to_below (fun k hk => ?_) h.bel.size)⟩
  · rcases gr k hk with q | q
    · exact h.fs k q
    · have := h.bel.size; omega
  · rcases hk with q | rfl
    · exact h.fs k q
    · exact h.hb
theorem SL.below {w w1 w2 : World} {F : Nat → Prop} {b g size : Nat} {S : Sd} (h : SL w F b g size S w1) (hb : Below w1.heap.size w1 w2) : SL w F b g size S w2 := ⟨h.at_.below hb, h.fs, h.hb, h.bel.trans (hb.mono h.bel.size)⟩
theorem SL.dl {w w1 : World} {F : Nat → Prop} {b g size : Nat} {S : Sd} (h : SL w F b g size S w1) : DL w F g size S.b [] w1 := ⟨h.at_.1, h.fs, h.bel⟩
/-- a disk of records, opened -/
theorem open_recs (l : List (List UInt8)) (F : Nat → Prop) (g size u i : Nat) (w w1 : World) (hD : DL w F g size (frms l) [] w1) (hx : ∀ x ∈ l, x.length ≤ 4096 ∧ x.head? ≠ some 3) (hm : (frms l).length ≤ size) (hs : size ≤ 16384) (hr : recsM (0, 0) l = some (u, i)) :
    Calls Try.prog 6 #[.pointer (some ⟨g, 0, none⟩)] w1 fun e w2 => ∃ b F', e = .returned (.tuple #[.pointer (some ⟨b, 0, none⟩), .int .i64 0]) ∧ SL w F' b g size ⟨frms l, u, u, i⟩ w2 := by
  have hp : Parts (frms l) l [] := ⟨by rw [List.append_nil], fun x h => (hx x h).1, 3, rfl⟩
  refine (open_any F g size (frms l) w1 hD.1 hm hs (fun l' r' h x hx' => ?_)).mono ?_
  · obtain ⟨rfl, rfl⟩ := hp.same h
    exact (hx x hx').2
  · rintro e w2 ⟨l', r', F', hp', o, gr, h⟩
    obtain ⟨rfl, rfl⟩ := hp.same hp'
    rw [hr] at h
    obtain ⟨b, he, ha, hb⟩ := h
    have hz := hD.2.2.size
    exact ⟨b, F', he, ha, fun k hk => by rcases gr k hk with q | q; exact hD.2.1 k q; omega, by omega, hD.2.2.trans (o.to_below hD.2.1 hz)⟩
theorem told_frm (k : UInt8) (n : Nat) (hn : n < 128) : (frm (told k n)).length = 8 := by
  rw [frm_length]
  have : Vint.enc n = [UInt8.ofNat n] := by unfold Vint.enc Vint.encF; rw [if_pos hn]
  unfold told
  rw [this]
  rfl
theorem num_told (most n : Nat) (h : n ≤ most) (h2 : n ≤ 1099511627776) : numM most (Vint.enc n) = some n := by
  have := Vint.dec_enc (n := n) (by unfold Vint.top; exact h2) []
  rw [List.append_nil] at this
  unfold numM
  rw [this]
  simp [h]
theorem rec_told1 (s : Nat × Nat) (n : Nat) (h : n ≤ 96) : recM s (told 1 n) = some (max s.1 n, s.2) := by
  unfold recM told
  simp only [if_pos, num_told 96 n h (by omega)]
  rfl
theorem rec_told2 (s : Nat × Nat) (n : Nat) (h : n ≤ 1099511627776) : recM s (told 2 n) = some (s.1, max s.2 n) := by
  rw [show told 2 n = 2 :: Vint.enc n from rfl, recM_cons, if_neg (by decide), if_pos rfl, num_told _ n h h]
  rfl
theorem recs_tell (k : Nat) : recsM (0, 0) (recs k) = some (upto k, 0) := by
  induction k with
  | zero => rfl
  | succ k ih =>
    unfold recs
    rw [recsM_snoc, ih]
    show recM (upto k, 0) (told 1 (upto (k + 1))) = _
    rw [rec_told1 _ _ (upto_le _)]
    show some (max (upto k) (upto (k + 1)), 0) = _
    rw [upto_max]
theorem recs_ok (k : Nat) : ∀ x ∈ recs k, x.length ≤ 4096 ∧ x.head? ≠ some 3 := fun x hx => by
  have := recs_small k x hx
  obtain ⟨j, _, _, rfl⟩ := recs_mem hx
  exact ⟨by omega, by unfold told; simp⟩
theorem recs_size (k : Nat) : (frms (recs k)).length = 8 * k := by
  induction k with
  | zero => rfl
  | succ k ih =>
    unfold recs
    rw [frms_snoc, List.length_append, ih, told_frm _ _ (by have := upto_le (k + 1); omega)]
    omega
def sdOf (s : St) : Sd := ⟨frms (recs s.k), s.used, upto s.k, 0⟩
theorem next_some {s s' : St} {n : Nat} (h : Sto.Good s) (hn : nextS s = some (s', n)) : nextD 16384 (sdOf s) = (n, 0, sdOf s') := by
  have hk := h.k
  have hu := h.used
  unfold nextS at hn
  unfold nextD sdOf
  split at hn
  · rename_i e
    split at hn
    · cases hn
    · injection hn with hn
      injection hn with h1 h2
      subst h1 h2
      have hl := upto_less (k := s.k) (by omega)
      simp only
      rw [if_neg (by omega), if_neg (by omega), ← upto_succ, if_pos (by rw [recs_size, told_frm _ _ (by have := upto_le (s.k + 1); omega)]; omega)]
      show (s.used + 1, 0, (⟨frms (recs s.k) ++ frm (told 1 (upto (s.k + 1))), s.used + 1, upto (s.k + 1), 0⟩ : Sd)) = (s.used + 1, 0, ⟨frms (recs s.k ++ [told 1 (upto (s.k + 1))]), s.used + 1, upto (s.k + 1), 0⟩)
      rw [frms_snoc]
  · injection hn with hn
    injection hn with h1 h2
    subst h1 h2
    simp only
    rw [if_pos (by omega)]
theorem next_full {s : St} (h : Sto.Good s) (hn : nextS s = none) : nextD 16384 (sdOf s) = (0, 7, sdOf s) := by
  have h9 := (next_none h).1 hn
  have hu := h.used
  have := upto_le s.k
  unfold nextD sdOf
  simp only
  rw [if_neg (by omega), if_pos (by omega)]
theorem al1 : nextD 100 ⟨[], 0, 0, 0⟩ = (1, 0, ⟨frms [told 1 8], 1, 8, 0⟩) := by
  unfold nextD
  simp only
  rw [if_neg (by omega), if_neg (by omega), if_pos (by rw [told_frm _ _ (by omega)]; simp), frms_cons, frms_nil]
  simp
theorem al2 : nextD 100 ⟨frms [told 1 8], 1, 8, 0⟩ = (2, 0, ⟨frms [told 1 8], 2, 8, 0⟩) := by
  unfold nextD
  simp only
  rw [if_pos (by omega)]
theorem al3 : bumpD 100 ⟨frms [told 1 8], 2, 8, 0⟩ = (1, 0, ⟨frms [told 1 8, told 2 1], 2, 8, 1⟩) := by
  unfold bumpD
  simp only
  rw [if_neg (by omega), if_pos (by rw [frms_cons, frms_nil, List.append_nil, told_frm _ _ (by omega), told_frm _ _ (by omega)]; omega), show [told 1 8, told 2 1] = [told 1 8] ++ [told 2 1] from rfl, frms_snoc]
theorem al4 : recsM (0, 0) [told 1 8, told 2 1] = some (8, 1) := by
  show (match recM (0, 0) (told 1 8) with | none => none | some s' => recsM s' [told 2 1]) = some (8, 1)
  rw [rec_told1 _ _ (by omega)]
  show (match recM (8, 0) (told 2 1) with | none => none | some s' => recsM s' []) = some (8, 1)
  rw [rec_told2 _ _ (by omega)]
  rfl
theorem al_len : (frms [told 1 8, told 2 1]).length = 16 := by rw [frms_cons, frms_cons, frms_nil, List.append_nil, List.length_append, told_frm _ _ (by omega), told_frm _ _ (by omega)]
theorem al5 : nextD 100 ⟨frms [told 1 8, told 2 1], 8, 8, 1⟩ = (9, 0, ⟨frms [told 1 8, told 2 1, told 1 16], 9, 16, 1⟩) := by
  unfold nextD
  simp only
  rw [if_neg (by omega), if_neg (by omega), if_pos (by rw [al_len, told_frm _ _ (by omega)]; omega), show [told 1 8, told 2 1, told 1 16] = [told 1 8, told 2 1] ++ [told 1 16] from rfl, frms_snoc]
  rfl
theorem al_len2 : (frms [told 1 8, told 2 1, told 1 16]).length = 24 := by rw [show [told 1 8, told 2 1, told 1 16] = [told 1 8, told 2 1] ++ [told 1 16] from rfl, frms_snoc, List.length_append, al_len, told_frm _ _ (by omega)]
theorem al6 : bumpD 100 ⟨frms [told 1 8, told 2 1, told 1 16], 9, 16, 1⟩ = (2, 0, ⟨frms [told 1 8, told 2 1, told 1 16] ++ frm (told 2 2), 9, 16, 2⟩) := by
  unfold bumpD
  simp only
  rw [if_neg (by omega), if_pos (by rw [al_len2, told_frm _ _ (by omega)]; omega)]
theorem al_le (S : Sd) (n : Nat) (h : S.b.length = n) (hn : n ≤ 100) : S.b.length ≤ 16384 := by omega
set_option maxRecDepth 100000 in
set_option maxHeartbeats 2000000 in
theorem alive15 (w : World) : Calls Try.prog 4 #[] w fun e w' => e = .returned (.bool true) ∧ Below w.heap.size w w' := by
  go_enter Try.func4, Try.ntmps4
  go_wp2_with fail
  refine (dnew_any 100 w (by omega) (by omega)).mono ?_
  rintro e w1 ⟨g, F1, rfl, hD1, hF1, hb1⟩
  have L1 := DL.of_new (Below.refl _ w) hD1 hF1 hb1
  clear hD1 hb1 hF1
  go_wp2_with fail
  refine (open_recs [] F1 g 100 0 0 w w1 L1 (by simp) (by simp [frms_nil]) (by omega) rfl).mono ?_
  rintro e w2 ⟨b2, F2, rfl, S2⟩
  clear L1
  go_wp2_with fail
  refine (next_any _ _ F2 b2 g 100 w2 S2.at_ (Nat.le_refl 0) (Nat.zero_le _) (by omega) (by simp [frms_nil])).mono ?_
  rw [show frms [] = [] from frms_nil, al1]
  rintro e w3 ⟨rfl, q3⟩
  obtain ⟨F3, S3⟩ := S2.op q3
  clear S2 q3
  go_wp2_with fail
  refine (next_any _ _ F3 b2 g 100 w3 S3.at_ (by simp) (by simp) (by omega) (by simp only; rw [frms_cons, frms_nil, List.append_nil, told_frm _ _ (by omega)]; omega)).mono ?_
  rw [al2]
  rintro e w4 ⟨rfl, q4⟩
  obtain ⟨F4, S4⟩ := S3.op q4
  clear S3 q4
  go_wp2_with fail
  refine (bump_any _ _ F4 b2 g 100 w4 S4.at_ (by simp) (by omega) (by simp only; rw [frms_cons, frms_nil, List.append_nil, told_frm _ _ (by omega)]; omega)).mono ?_
  rw [al3]
  rintro e w5 ⟨rfl, q5⟩
  obtain ⟨F5, S5⟩ := S4.op q5
  clear S4 q5
  go_wp2_with fail
  refine (open_recs [told 1 8, told 2 1] F5 g 100 8 1 w w5 S5.dl (by intro x hx; rcases List.mem_cons.1 hx with rfl | hx; exact ⟨by have := told_len 1 8; omega, by simp [told]⟩; obtain rfl := List.mem_singleton.1 hx; exact ⟨by have := told_len 2 1; omega, by simp [told]⟩) (by rw [al_len]; omega) (by omega) al4).mono ?_
  rintro e w6 ⟨b6, F6, rfl, S6⟩
  clear S5
  go_wp2_with fail
  refine (next_any _ _ F6 b6 g 100 w6 S6.at_ (by simp) (by simp) (by omega) (by simp only; rw [al_len]; omega)).mono ?_
  rw [al5]
  rintro e w7 ⟨rfl, q7⟩
  obtain ⟨F7, S7⟩ := S6.op q7
  clear S6 q7
  go_wp2_with fail
  refine (bump_any _ _ F7 b6 g 100 w7 S7.at_ (by simp) (by omega) (by simp only; rw [al_len2]; omega)).mono ?_
  rw [al6]
  rintro e w8 ⟨rfl, q8⟩
  obtain ⟨F8, S8⟩ := S7.op q8
  have b8 := S8.bel
  clear S7 q8 S8
  go_wp2_with fail
  refine (next_nil w8).mono ?_
  rintro e w9 ⟨rfl, b9⟩
  have b9 := b8.trans (b9.mono b8.size)
  clear b8
  go_wp2_with fail
  go_ret
  exact ⟨rfl, b9⟩
set_option maxRecDepth 100000 in
set_option maxHeartbeats 4000000 in
theorem walk (A : Option Addr) (n c : Nat) (l : List Bool) (w : World) (hr : RdT w w.heap.size A n l) (hn : n ≤ maxLen) :
    Calls Try.prog 3 #[.slice A n c] w fun e w' => e = .returned (.bool true) ∧ Below w.heap.size w w' := by
  obtain rfl := hr.1
  have HRD := Lib.hid fun (w' : World) (hb : Below w.heap.size w w') => hr.below hb
  clear hr
  go_enter Try.func3, Try.ntmps3
  go_wp2_with fail
  refine (alive15 _).mono ?_
  rintro e w1 ⟨rfl, h1⟩
  by_cases h3 : 300 < l.length
  · have hd : decide ((300 : Int) < (l.length : Int)) = true := decide_eq_true (by omega)
    go_wp2_with fail
    go_ret
    exact ⟨rfl, h1⟩
  have hd : decide ((300 : Int) < (l.length : Int)) = false := decide_eq_false (by omega)
  go_wp2_with fail
  refine (dnew_any 16384 _ (by omega) (by omega)).mono ?_
  rintro e w2 ⟨g, F1, rfl, hD1, hF1, hb2⟩
  have L1 := DL.of_new h1 hD1 hF1 hb2
  clear hD1 hb2 hF1 h1 hd
  go_wp2_with fail
  refine (open_recs [] F1 g 16384 0 0 w w2 L1 (by simp) (by simp [frms_nil]) (by omega) rfl).mono ?_
  rintro e w3 ⟨b3, F3, rfl, S3⟩
  have S3 : SL w F3 b3 g 16384 (sdOf ⟨0, 0⟩) w3 := S3
  clear L1
  go_wp2_with fail
  go_loopw [5, 6, 7, 8, 31] (fun s _ u t i wr => ∃ (k : Nat) (st : St) (F : Nat → Prop) (b : Nat), k ≤ l.length ∧ i = .int .i64 (k : Nat) ∧ s = .pointer (some ⟨b, 0, none⟩) ∧ u = .int .i64 (st.used : Nat) ∧ t = .int .i64 (upto st.k : Nat) ∧ Sto.Good st ∧ SL w F b g 16384 (sdOf st) wr) (fun _ _ _ _ i _ => l.length - (intOf i).toNat)
  case atStart => exact ⟨0, ⟨0, 0⟩, F3, b3, by omega, rfl, rfl, rfl, rfl, good_start, S3⟩
  case round =>
    clear S3
    obtain ⟨k, st, F, b, hk, rfl, rfl, rfl, rfl, hg, S⟩ := hrel
    have HG := Lib.hid hg
    by_cases hlt : k < l.length
    · obtain ⟨ad, hA, hab, hcell⟩ := (HRD.out wr S.bel).at_ hlt
      subst hA
      obtain ⟨kk, hkk⟩ : ∃ kk, kk = l.length := ⟨_, rfl⟩
      rw [← hkk] at hlt h3 ⊢
      clear hkk HRD
      have hk0 : (0 : Int) ≤ (k : Int) := by omega
      have hkm : (k : Int) < (kk : Int) := by omega
      cases hop : l[k]'(by omega)
      case true =>
        rw [hop] at hcell
        have hrz := recs_size st.k
        have hk12 := hg.k
        have hop2 := fun (w' : World) (hD : DL w F g 16384 (frms (recs st.k)) [] w') => open_recs (recs st.k) F g 16384 (upto st.k) 0 w w' hD (recs_ok _) (by omega) (by omega) (recs_tell _)
        have HO := Lib.hid hop2
        have L2 := S.dl
        have L2 : DL w F g 16384 (frms (recs st.k)) [] wr := L2
        have HL := Lib.hid fun (w' : World) (h : Below wr.heap.size wr w') => L2.below h
        clear hop hop2 hrz hk12 L2 S
        go_wp2_with fail
        refine (HO.out _ (HL.out _ (by first | exact Below.refl _ _ | exact (Below.refl _ _).drew))).mono ?_
        rintro e w4 ⟨b4, F4, rfl, S4⟩
        go_wp2_with fail
        go_roundw
        case rel => exact ⟨k + 1, openS st, F4, b4, by omega, by go_num, rfl, rfl, rfl, good_open HG.out, S4⟩
        case measure => simp [intOf]; omega
      case false =>
        rw [hop] at hcell
        have hu := hg.used
        have hl := upto_le st.k
        have hk12 := hg.k
        have hrz := recs_size st.k
        have hsz : (sdOf st).b.length ≤ 16384 := by show (frms (recs st.k)).length ≤ 16384; omega
        have hN := fun (w' : World) (h : StoAt w' F b g 16384 (sdOf st) (.slice none 0 0)) => next_any (sdOf st) (.slice none 0 0) F b g 16384 w' h hu hl (by omega) hsz
        cases hn : nextS st
        case none =>
          have h96 := (next_none hg).1 hn
          rw [next_full hg hn] at hN
          have HN := Lib.hid hN
          have HS := Lib.hid S
          have hq : ((st.used : Int) == 96) = true := by rw [h96]; rfl
          clear hop hN hn hrz hsz hg S
          go_wp2_with fail
          refine (HN.out _ (HS.out.below (by first | exact Below.refl _ _ | exact (Below.refl _ _).drew)).at_).mono ?_
          rintro e w4 ⟨rfl, q4⟩
          obtain ⟨F4, S4⟩ := (HS.out.below (by first | exact Below.refl _ _ | exact (Below.refl _ _).drew)).op q4
          go_wp2_with fail
          go_roundw
          case rel => exact ⟨k + 1, st, F4, b, by omega, by go_num, rfl, by first | rfl | (rw [h96]; rfl), by first | rfl | (congr 1; omega), HG.out, S4⟩
          case measure => simp [intOf]; omega
        case some q =>
          obtain ⟨st', n'⟩ := q
          obtain ⟨hg', hn1, hu', hn9, hup⟩ := good_next hg hn
          rw [next_some hg hn] at hN
          have HN := Lib.hid hN
          have HS := Lib.hid S
          have h96 : st.used < 96 := by omega
          have hq : ((st.used : Int) == 96) = false := by rw [beq_eq_false_iff_ne]; omega
          have hcast : ((st.used + 1 : Nat) : Int) = (st.used : Int) + 1 := rfl
          have HG2 := Lib.hid hg'
          have HU2 := Lib.hid hu'
          subst hn1
          clear hop hN hn hrz hsz hg S hg' hu'
          by_cases hx : st.used = upto st.k
          · rw [if_pos hx] at hup
            have hqx : ((st.used : Int) == (upto st.k : Int)) = true := by rw [hx]; simp
            rcases Nat.lt_or_ge 96 (upto st.k + 8) with h8 | h8
            · have hv8 : 96 < (upto st.k : Int) + 8 := by omega
              have hup3 : (upto st'.k : Int) = 96 := by omega
              have HUP3 := Lib.hid hup3
              clear hup
              go_wp2_with fail
              refine (HN.out _ (HS.out.below (by first | exact Below.refl _ _ | exact (Below.refl _ _).drew)).at_).mono ?_
              rintro e w4 ⟨rfl, q4⟩
              obtain ⟨F4, S4⟩ := (HS.out.below (by first | exact Below.refl _ _ | exact (Below.refl _ _).drew)).op q4
              go_wp2_with fail
              refine (upto_any _ _ _ _ _ _ _ S4.at_.2.1).mono ?_
              rintro e w5 ⟨rfl, rfl⟩
              have hup4 : (((sdOf st').upto : Nat) : Int) = 96 := hup3
              go_wp2_with fail
              go_roundw
              case rel => exact ⟨k + 1, st', F4, b, by omega, by go_num, rfl, by (have e1 := HU2.out; congr 1; omega), by (have e1 := HUP3.out; congr 1; omega), HG2.out, S4⟩
              case measure => simp [intOf]; omega
            · have hv8 : ¬ 96 < (upto st.k : Int) + 8 := by omega
              have hup3 : (upto st'.k : Int) = (upto st.k : Int) + 8 := by omega
              have HUP3 := Lib.hid hup3
              clear hup
              go_wp2_with fail
              refine (HN.out _ (HS.out.below (by first | exact Below.refl _ _ | exact (Below.refl _ _).drew)).at_).mono ?_
              rintro e w4 ⟨rfl, q4⟩
              obtain ⟨F4, S4⟩ := (HS.out.below (by first | exact Below.refl _ _ | exact (Below.refl _ _).drew)).op q4
              go_wp2_with fail
              refine (upto_any _ _ _ _ _ _ _ S4.at_.2.1).mono ?_
              rintro e w5 ⟨rfl, rfl⟩
              have hup4 : (((sdOf st').upto : Nat) : Int) = (upto st.k : Int) + 8 := hup3
              go_wp2_with fail
              go_roundw
              case rel => exact ⟨k + 1, st', F4, b, by omega, by go_num, rfl, by (have e1 := HU2.out; congr 1; omega), by (have e1 := HUP3.out; congr 1; omega), HG2.out, S4⟩
              case measure => simp [intOf]; omega
          · rw [if_neg hx] at hup
            have hqx : ((st.used : Int) == (upto st.k : Int)) = false := by rw [beq_eq_false_iff_ne]; omega
            have hup3 : (upto st'.k : Int) = (upto st.k : Int) := by omega
            have HUP3 := Lib.hid hup3
            clear hup
            go_wp2_with fail
            refine (HN.out _ (HS.out.below (by first | exact Below.refl _ _ | exact (Below.refl _ _).drew)).at_).mono ?_
            rintro e w4 ⟨rfl, q4⟩
            obtain ⟨F4, S4⟩ := (HS.out.below (by first | exact Below.refl _ _ | exact (Below.refl _ _).drew)).op q4
            go_wp2_with fail
            refine (upto_any _ _ _ _ _ _ _ S4.at_.2.1).mono ?_
            rintro e w5 ⟨rfl, rfl⟩
            have hup4 : (((sdOf st').upto : Nat) : Int) = (upto st.k : Int) := hup3
            go_wp2_with fail
            go_roundw
            case rel => exact ⟨k + 1, st', F4, b, by omega, by go_num, rfl, by (have e1 := HU2.out; congr 1; omega), by (have e1 := HUP3.out; congr 1; omega), HG2.out, S4⟩
            case measure => simp [intOf]; omega
    · have hkd : decide ((k : Int) < (l.length : Int)) = false := decide_eq_false (by omega)
      have hb := S.bel
      clear S hg
      go_wp2_with fail
      go_ret
      exact ⟨rfl, hb⟩
set_option maxRecDepth 100000 in
theorem lifted (os : Os) (started : os.Started) (H : Type) (enc : TypeId × Value → H) :
    ReturnsInHanded {} Try.checked os 3 .any (Rows.storeBlocksSpec.pre6 enc Try.prog Try.f3 Rows.storeBlocksRow.domain false) (Rows.storeBlocksSpec.post enc Try.prog Try.f3 false true false false) := by
  refine returnsInHanded_of_change (C := Try.checked) own started (by kernel_rfl) Try.func3
    (ChangeSpec.witness6 (enc := enc) (C := Try.checked) false ⟨#[], #[.slice none 0 0], []⟩ 8 (by kernel_rfl) (by kernel_rfl) (by kernel_rfl) (by kernel_rfl)) ?_
  intro W base args ds gs before hval0 hW hcnd _
  have hval : ∀ (j : Nat) t v, Try.f3.params[j]? = some t → args[j]? = some v → Value.okWide Try.prog W .any base t v := hval0
  have hW' := hW
  obtain ⟨p, q, hA0, hV, rfl, hfz, hnd⟩ := hW
  have hA : DataW.TrodAll enc Try.prog W 0 (fun _ => true) true Try.f3.params.toList args.toList ds p := hA0
  rw [Try.params3] at hA hval
  obtain ⟨v0, vs0, d0, ds0, p0, q0, hargs, rfl, rfl, h0, r0⟩ := trodAll_cons hA
  obtain ⟨rfl, rfl, rfl⟩ := trodAll_nil r0
  obtain rfl : args = #[v0] := by cases args; simp_all
  obtain ⟨rfl, rfl⟩ := trodVars_none hV
  have lt0 : ∀ x ∈ p0, x.block < W.heap.size := by obtain ⟨m, hm⟩ := h0; exact DataW.trod_lt m _ _ _ hm
  have k0 := h0
  obtain ⟨A0, n0, c0, l0, rfl, hr0, hn0⟩ := open_bls (hval 0 22 v0 rfl rfl) h0
  clear hA0 hval0
  refine (walk A0 n0 c0 l0 W hr0 hn0).mono fun e W' ⟨he, bel⟩ => ?_
  subst he
  exact ⟨_, rfl, _, _, _, [], _, [], hW', trodAll_mk1 (shut_bool Try.underlying4 _), (trodAll_cons_mk (Below.trod laidOut (by kernel_rfl) (of_decide_eq_true (by kernel_rfl)) k0 bel lt0) trodAll_mk0), rfl, bel.frame _, fun h => by cases h⟩

theorem proved : Rows.StoreBlocksSaid :=
  OpenClaim.holds_of_wide 3 Try.f3 rfl rfl rfl rfl rfl rfl rfl ⟨rfl, rfl, rfl, rfl, rfl⟩ rfl rfl rfl rfl rfl (by kernel_rfl) Try.func3 (by kernel_rfl)
    (of_decide_eq_true (by kernel_rfl)) (by unfold Func.isWrapper; first | (rw [if_pos (by decide +kernel)]; kernel_rfl) | (rw [if_neg (by decide +kernel)]; exact ⟨rfl, rfl⟩))
    (fun os started H enc _ => lifted os started H enc)
#print axioms proved
end Go.Proofs.Ytfpenfgmpbdakaa.StoreBlocks

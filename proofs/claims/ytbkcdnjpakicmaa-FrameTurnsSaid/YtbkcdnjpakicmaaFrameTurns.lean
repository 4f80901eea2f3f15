/- FrameTurns: one byte of a frame turned, but of its length, makes it none: the whole statement, without a condition. -/
import Derived.Test.YtbkcdnjpakicmaaFrameAlive
import Derived.Test.YtbkcdnjpakicmaaShell
namespace Go.Proofs.Ytbkcdnjpakicmaa.FrameTurns
open Go.ChangeShapes Go.WideShapes Go.ChangeAt Go.RowKit
set_option linter.unusedVariables false
open Go.Proofs.Ytbkcdnjpakicmaa.Frame

theorem set_split (l : List UInt8) (i : Nat) (h : i < l.length) (y : UInt8) : l = l.take i ++ l[i] :: l.drop (i + 1) ∧ l.set i y = l.take i ++ y :: l.drop (i + 1) := by
  constructor
  · simp
  · exact List.set_eq_take_append_cons_drop ▸ (by simp [h])
theorem be_inj {s t : Nat} (hs : s < 4294967296) (ht : t < 4294967296) (h : be s = be t) : s = t := by
  unfold be at h
  simp only [List.cons.injEq, and_true] at h
  obtain ⟨h1, h2, h3, h4⟩ := h
  have e1 := congrArg UInt8.toNat h1
  have e2 := congrArg UInt8.toNat h2
  have e3 := congrArg UInt8.toNat h3
  have e4 := congrArg UInt8.toNat h4
  simp only [Vint.toNat_ofNat] at e1 e2 e3 e4
  omega
theorem turned {b : List UInt8} (hb : b.length ≤ 4096) (i : Nat) (hi : i < (frm b).length) (y : UInt8) (hy : y ≠ (frm b)[i]) (hn : ¬ (1 ≤ i ∧ i < 1 + (Vint.enc b.length).length)) : ∃ e, dec ((frm b).set i y) = .error e := by
  rcases hd : dec ((frm b).set i y) with e | ⟨x, r⟩
  · exact ⟨e, rfl⟩
  exfalso
  obtain ⟨hx, hxl⟩ := dec_ok hd
  obtain ⟨e1, e2⟩ := set_split (frm b) i hi y
  by_cases h0 : i = 0
  · subst h0
    have : (frm b).set 0 y = y :: (frm b).tail := by
      show (1 :: _).set 0 y = _
      rfl
    rw [this] at hd
    have hy1 : y ≠ 1 := hy
    rw [dec_form hy1] at hd
    cases hd
  have hi1 : 1 + (Vint.enc b.length).length ≤ i := by omega
  have hfb : frm b = (1 :: Vint.enc b.length) ++ (b ++ be (Crc.sum (head b))) := by simp [frm, head]
  have hset : (frm b).set i y = (1 :: Vint.enc b.length) ++ (b ++ be (Crc.sum (head b))).set (i - (1 + (Vint.enc b.length).length)) y := by
    conv => lhs; rw [hfb]
    rw [List.set_append, if_neg (by simp; omega)]
    congr 2
    simp; omega
  -- the same length is read
  have hxn : x.length = b.length := by
    have t1 := Vint.dec_enc (n := x.length) (by unfold Vint.top; omega) (x ++ be (Crc.sum (head x)) ++ r)
    have t2 := Vint.dec_enc (n := b.length) (by unfold Vint.top; omega) ((b ++ be (Crc.sum (head b))).set (i - (1 + (Vint.enc b.length).length)) y)
    have t3 : (1 : UInt8) :: (Vint.enc b.length ++ (b ++ be (Crc.sum (head b))).set (i - (1 + (Vint.enc b.length).length)) y) = 1 :: (Vint.enc x.length ++ (x ++ be (Crc.sum (head x)) ++ r)) := by
      rw [show (1 : UInt8) :: (Vint.enc b.length ++ (b ++ be (Crc.sum (head b))).set (i - (1 + (Vint.enc b.length).length)) y) = (frm b).set i y by rw [hset]; rfl, hx]
      simp [frm, head]
    have t4 := (List.cons.injEq ..).mp t3 |>.2
    rw [t4, t1] at t2
    injection t2 with t2
    injection t2
  have hlen := congrArg List.length hx
  rw [List.length_set, List.length_append, frm_length, frm_length, hxn] at hlen
  have hr : r = [] := List.eq_nil_of_length_eq_zero (by omega)
  rw [hr, List.append_nil] at hx
  have hhl : (head x).length = (head b).length := by rw [head_length, head_length, hxn]
  have hflb : (frm b).length = (head b).length + 4 := by simp [frm, be_length]
  have htake : head x = ((frm b).set i y).take (head b).length := by
    rw [hx, ← hhl]; simp [frm]
  have hdrop : be (Crc.sum (head x)) = ((frm b).set i y).drop (head b).length := by
    rw [hx, ← hhl]; simp [frm]
  by_cases hib : i < (head b).length
  · have hb1 : ((frm b).set i y).take (head b).length = (head b).set i y := by
      rw [List.take_set]; simp [frm]
    have hb2 : ((frm b).set i y).drop (head b).length = be (Crc.sum (head b)) := by
      rw [List.drop_set_of_lt hib]; simp [frm]
    rw [hb2] at hdrop
    have hs := be_inj (Crc.sum_lt _) (Crc.sum_lt _) hdrop
    rw [htake, hb1] at hs
    obtain ⟨q1, q2⟩ := set_split (head b) i hib y
    have hne : y ≠ (head b)[i] := by
      have : (frm b)[i] = (head b)[i] := by simp only [frm]; exact List.getElem_append_left hib
      rw [← this]; exact hy
    refine Crc.sum_one (a := (head b).take i) (l := (head b).drop (i + 1)) hne ?_
    rw [← q2, ← q1]
    exact hs
  · have hb1 : ((frm b).set i y).take (head b).length = head b := by
      rw [List.take_set_of_le (by omega)]; simp [frm]
    rw [hb1] at htake
    have hxx : frm x = frm b := by simp only [frm, htake]
    rw [hxx] at hx
    apply hy
    have := congrArg (fun l => l[i]?) hx
    simp [hi] at this
    exact this
theorem xor_byte (x : UInt8) (s : Nat) (hs : s < 256) (h0 : s ≠ 0) : ∃ y : UInt8, y ≠ x ∧ bits .xor .u8 (x.toNat : Int) (s : Int) = (y.toNat : Int) := by
  have hx : x.toNat < 256 := x.toNat_lt
  have hl : x.toNat ^^^ s < 256 := Nat.xor_lt_two_pow (n := 8) hx hs
  refine ⟨UInt8.ofNat (x.toNat ^^^ s), ?_, ?_⟩
  · intro e
    have e1 := congrArg UInt8.toNat e
    rw [Vint.toNat_ofNat, Nat.mod_eq_of_lt hl] at e1
    have e2 : x.toNat ^^^ (x.toNat ^^^ s) = 0 := by rw [e1, Nat.xor_self]
    rw [← Nat.xor_assoc, Nat.xor_self, Nat.zero_xor] at e2
    exact h0 e2
  · rw [Vint.toNat_ofNat, Nat.mod_eq_of_lt hl]
    exact u8_xor_nat x.toNat s hx hs
theorem two_enc {n : Nat} (h : n ≤ 300) : (Vint.enc n).length = if n < 128 then 1 else 2 := by
  unfold Vint.enc
  unfold Vint.encF
  split
  · rfl
  · unfold Vint.encF
    rw [if_pos (by omega)]
    rfl
set_option maxRecDepth 100000 in
theorem walk (a0 : Option Addr) (n0 c0 : Nat) (b0 : List UInt8) (s1 s2 : Nat) (w : World) (hb0 : RdB w w.heap.size a0 n0 b0) (hl0 : n0 ≤ maxLen) (hs1 : s1 < 65536) (hs2 : s2 < 256) :
    Calls Try.prog 4 #[.slice a0 n0 c0, .int .u16 (s1 : Nat), .int .u8 (s2 : Nat)] w fun e w' => e = .returned (.bool true) ∧ Below w.heap.size w w' := by
  unfold maxLen at hl0
  by_cases hg : 300 < n0
  · have hd1 : decide ((300 : Int) < (n0 : Int)) = true := decide_eq_true (by omega)
    go_enter Try.func4, Try.ntmps4
    go_wp2_with fail
    refine (alive04 _).mono ?_
    rintro e w1 ⟨rfl, h1⟩
    go_wp2_with fail
    go_ret
    exact ⟨rfl, h1⟩
  have hd1 : decide ((300 : Int) < (n0 : Int)) = false := decide_eq_false (by omega)
  by_cases h0 : s2 = 0
  · subst h0
    go_enter Try.func4, Try.ntmps4
    go_wp2_with fail
    refine (alive04 _).mono ?_
    rintro e w1 ⟨rfl, h1⟩
    go_wp2_with fail
    go_ret
    exact ⟨rfl, h1⟩
  have hd2 : ((s2 : Int) == 0) = false := by rw [beq_eq_false_iff_ne]; omega
  go_enter Try.func4, Try.ntmps4
  go_wp2_with fail
  refine (alive04 _).mono ?_
  rintro e w1 ⟨rfl, h1⟩
  have hb1 := hb0.below h1
  obtain rfl := hb0.1
  go_wp2_with fail
  refine (Go.Proofs.Ytbkcdnjpakicmaa.Frame.put_ok _ _ _ b0 _ _ hb1 h1.size (by omega)).mono ?_
  rintro e w2 ⟨A2, n2, c2, rfl, ho2, h2⟩
  have h12 := h1.trans (h2.mono h1.size)
  have hn2 := ho2.1
  have hfl := frm_length b0
  have hte := two_enc (n := b0.length) (by omega)
  obtain ⟨g, rfl, hg1, hg2⟩ := ho2.form (by omega)
  have hle := ownsRow_le ho2.2
  have hn0 : 0 < n2 := by omega
  obtain ⟨i, hi⟩ : ∃ i : Nat, i = s1 % n2 := ⟨_, rfl⟩
  have hin : i < n2 := by rw [hi]; exact Nat.mod_lt _ hn0
  have ei : (s1 : Int) % (n2 : Int) = (i : Int) := by rw [hi]; push_cast; rfl
  have hq0 : ((n2 : Int) == 0) = false := by rw [beq_eq_false_iff_ne]; omega
  have HI := Lib.hid hi
  have HF := Lib.hid hfl
  have HT := Lib.hid hte
  have HN := Lib.hid hn2
  have hn9 : n2 ≤ 400 := by split at hte <;> omega
  clear hi hfl hte hn2
  by_cases hi1 : i = 1
  · subst hi1
    go_wp2_with fail
    go_ret
    exact ⟨rfl, h12⟩
  have hq1 : ((i : Int) == 1) = false := by rw [beq_eq_false_iff_ne]; omega
  by_cases hi2 : i = 2 ∧ 128 ≤ b0.length
  · obtain ⟨rfl, hi3⟩ := hi2
    have hd5 : decide ((128 : Int) ≤ (b0.length : Int)) = true := decide_eq_true (by omega)
    go_wp2_with fail
    go_ret
    exact ⟨rfl, h12⟩
  have hie : ¬ (1 ≤ i ∧ i < 1 + (Vint.enc b0.length).length) := by
    have := HT.out
    split at this <;> omega
  have hib : i < (frm b0).length := by rw [← HN.out]; exact hin
  have hc := ho2.cell hib
  have hf := ho2.free i
  obtain ⟨x, hx⟩ : ∃ x, x = (frm b0)[i] := ⟨_, rfl⟩
  rw [← hx] at hc
  obtain ⟨y, hy, ey⟩ := xor_byte x s2 hs2 h0
  obtain ⟨er, hdec⟩ := turned (b := b0) (by omega) i hib y (by rw [← hx]; exact hy) hie
  have her : ((er : Int) != 0) = true := by
    have := dec_err hdec
    rw [bne_iff_ne]; omega
  have HD := Lib.hid hdec
  have EY := Lib.hid ey
  clear hx hdec hie ey hy
  have ho3 := ho2.set_ i y
  have hB3 : Below w.heap.size w (w2.setCell ⟨g, i, none⟩ (bv y)) := h12.setCell (by have := h1.size; show _ ≤ g; omega) _
  have hc2 := hle.1
  have hm2 := hle.2
  by_cases hi2 : i = 2
  · have hd5 : decide ((128 : Int) ≤ (b0.length : Int)) = false := decide_eq_false (by omega)
    subst hi2
    go_upto_region 12 with fail
    rw [EY.out]
    generalize w2.setCell ⟨g, 2, none⟩ (bv y) = w3 at *
    go_wp2_with fail
    refine (get_any _ _ _ _ _ _ ho3.rd (Nat.le_refl _) (by omega) hc2 hm2).mono ?_
    rintro e w4 ⟨h4, he⟩
    rw [HD.out] at he
    simp only at he
    subst he
    have hB4 := hB3.trans (h4.mono hB3.size)
    go_wp2_with fail
    go_ret
    exact ⟨rfl, hB4⟩
  · have hq2 : ((i : Int) == 2) = false := by rw [beq_eq_false_iff_ne]; omega
    go_upto_region 12 with fail
    rw [EY.out]
    generalize w2.setCell ⟨g, i, none⟩ (bv y) = w3 at *
    go_wp2_with fail
    refine (get_any _ _ _ _ _ _ ho3.rd (Nat.le_refl _) (by omega) hc2 hm2).mono ?_
    rintro e w4 ⟨h4, he⟩
    rw [HD.out] at he
    simp only at he
    subst he
    have hB4 := hB3.trans (h4.mono hB3.size)
    go_wp2_with fail
    go_ret
    exact ⟨rfl, hB4⟩

set_option maxRecDepth 100000 in
theorem lifted (os : Os) (started : os.Started) (H : Type) (enc : TypeId × Value → H) :
    ReturnsInHanded {} Try.checked os 4 .any (Rows.frameTurnsSpec.pre6 enc Try.prog Try.f4 Rows.frameTurnsRow.domain false) (Rows.frameTurnsSpec.post enc Try.prog Try.f4 false true false false) := by
  refine returnsInHanded_of_change (C := Try.checked) own started (by kernel_rfl) Try.func4
    (ChangeSpec.witness6 (enc := enc) (C := Try.checked) false ⟨#[], #[.slice none 0 0, .int .u16 0, .int .u8 0], []⟩ 8 (by kernel_rfl) (by kernel_rfl) (by kernel_rfl) (by kernel_rfl)) ?_
  intro W base args ds gs before hval0 hW hcnd _
  have hval : ∀ (j : Nat) t v, Try.f4.params[j]? = some t → args[j]? = some v → Value.okWide Try.prog W .any base t v := hval0
  have hW' := hW
  obtain ⟨p, q, hA0, hV, rfl, hfz, hnd⟩ := hW
  have hA : DataW.TrodAll enc Try.prog W 0 (fun _ => true) true Try.f4.params.toList args.toList ds p := hA0
  rw [Try.params4] at hA hval
  obtain ⟨v0, vs0, d0, ds0, p0, q0, hargs, rfl, rfl, h0, r0⟩ := trodAll_cons hA
  obtain ⟨v1, vs1, d1, ds1, p1, q1, rfl, rfl, rfl, h1, r1⟩ := trodAll_cons r0
  obtain ⟨v2, vs2, d2, ds2, p2, q2, rfl, rfl, rfl, h2, r2⟩ := trodAll_cons r1
  obtain ⟨rfl, rfl, rfl⟩ := trodAll_nil r2
  obtain rfl : args = #[v0, v1, v2] := by cases args; simp_all
  obtain ⟨rfl, rfl⟩ := trodVars_none hV
  have lt0 : ∀ x ∈ p0, x.block < W.heap.size := by obtain ⟨m, hm⟩ := h0; exact DataW.trod_lt m _ _ _ hm
  have k0 := h0
  have lt1 : ∀ x ∈ p1, x.block < W.heap.size := by obtain ⟨m, hm⟩ := h1; exact DataW.trod_lt m _ _ _ hm
  have k1 := h1
  have lt2 : ∀ x ∈ p2, x.block < W.heap.size := by obtain ⟨m, hm⟩ := h2; exact DataW.trod_lt m _ _ _ hm
  have k2 := h2
  obtain ⟨a0, n0, c0, b0, rfl, w0, l0⟩ := open_bytes (hval 0 22 v0 rfl rfl) h0
  obtain ⟨x1, rfl, rfl, rfl, wf1⟩ := open_int Try.underlying32 (hval 1 32 v1 rfl rfl) h1
  have hb1 : 0 ≤ x1 ∧ x1 < 65536 := by
    have hmin : IntKind.u16.min = 0 := rfl
    have hmax : IntKind.u16.max = 65535 := rfl
    simp only [Lit.wf, Bool.and_eq_true, decide_eq_true_eq] at wf1
    omega
  obtain ⟨s1, rfl⟩ := Int.eq_ofNat_of_zero_le hb1.1
  obtain ⟨x2, rfl, rfl, rfl, wf2⟩ := open_int Try.underlying5 (hval 2 5 v2 rfl rfl) h2
  have hb2 : 0 ≤ x2 ∧ x2 < 256 := by
    have hmin : IntKind.u8.min = 0 := rfl
    have hmax : IntKind.u8.max = 255 := rfl
    simp only [Lit.wf, Bool.and_eq_true, decide_eq_true_eq] at wf2
    omega
  obtain ⟨s2, rfl⟩ := Int.eq_ofNat_of_zero_le hb2.1
  clear hA0 hval0
  refine (walk a0 n0 c0 b0 s1 s2 W w0 l0 (by omega) (by omega)).mono fun e W' ⟨he, bel⟩ => ?_
  subst he
  exact ⟨_, rfl, _, _, _, [], _, [], hW', trodAll_mk1 (shut_bool Try.underlying4 _), (trodAll_cons_mk (Below.trod laidOut (by kernel_rfl) (of_decide_eq_true (by kernel_rfl)) k0 bel lt0) (trodAll_cons_mk (Below.trod laidOut (by kernel_rfl) (of_decide_eq_true (by kernel_rfl)) k1 bel lt1) (trodAll_cons_mk (Below.trod laidOut (by kernel_rfl) (of_decide_eq_true (by kernel_rfl)) k2 bel lt2) trodAll_mk0))), rfl, bel.frame _, fun h => by cases h⟩

theorem proved : Rows.FrameTurnsSaid :=
  OpenClaim.holds_of_wide 4 Try.f4 rfl rfl rfl rfl rfl rfl rfl ⟨rfl, rfl, rfl, rfl, rfl⟩ rfl rfl rfl rfl rfl (by kernel_rfl) Try.func4 (by kernel_rfl)
    (of_decide_eq_true (by kernel_rfl)) (by unfold Func.isWrapper; first | (rw [if_pos (by decide +kernel)]; kernel_rfl) | (rw [if_neg (by decide +kernel)]; exact ⟨rfl, rfl⟩))
    (fun os started H enc _ => lifted os started H enc)
#print axioms proved
end Go.Proofs.Ytbkcdnjpakicmaa.FrameTurns

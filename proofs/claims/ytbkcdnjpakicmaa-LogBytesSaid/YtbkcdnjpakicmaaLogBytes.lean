/- LogBytes: over a disk of any bytes: mended, nothing is torn, the records are those that were read ahead of it; mended once more nothing changes: the whole statement, without a condition. -/
import Derived.Test.YtbkcdnjpakicmaaLogAlive
import Derived.Test.YtbkcdnjpakicmaaFrameRAll
import Derived.Test.YtbkcdnjpakicmaaShell
namespace Go.Proofs.Ytbkcdnjpakicmaa.LogBytes
open Go.ChangeShapes Go.WideShapes Go.ChangeAt Go.RowKit
set_option linter.unusedVariables false
open Go.Proofs.Ytbkcdnjpakicmaa.Log Go.Proofs.Ytbkcdnjpakicmaa.Disk
open Go.Proofs.Ytbkcdnjpakicmaa.Frame (frm frms frms_nil frms_cons frms_snoc frms_append frm_length frm_pos Parts AllF)

theorem mend_all {b : List UInt8} {l : List (List UInt8)} {r : List UInt8} (hp : Parts b l r) : mendM b [] l = (0, frms l, []) := by
  unfold mendM
  have e : readL b [] = b := rfl
  rw [e]
  by_cases h : (frms l).length < b.length
  · rw [if_pos h]
  · rw [if_neg h]
    have h1 := hp.1
    have h2 := congrArg List.length h1
    rw [List.length_append] at h2
    have hr : r = [] := List.eq_nil_of_length_eq_zero (by omega)
    rw [hr, List.append_nil] at h1
    rw [h1]
theorem parts_frms {b : List UInt8} {l : List (List UInt8)} {r : List UInt8} (hp : Parts b l r) : Parts (frms l) l [] := ⟨by rw [List.append_nil], hp.2.1, 3, rfl⟩
theorem parts_len {b : List UInt8} {l : List (List UInt8)} {r : List UInt8} (hp : Parts b l r) : (frms l).length ≤ b.length ∧ l.length ≤ b.length ∧ ∀ x ∈ l, x.length ≤ b.length := by
  obtain ⟨h1, h2, _⟩ := hp
  have h3 := congrArg List.length h1
  rw [List.length_append] at h3
  refine ⟨by omega, ?_⟩
  have : l.length ≤ (frms l).length ∧ ∀ x ∈ l, x.length ≤ (frms l).length := by
    clear h1 h2 h3
    induction l with
    | nil => simp
    | cons x l ih =>
      rw [frms_cons, List.length_append, List.length_cons, frm_length]
      refine ⟨by omega, fun y hy => ?_⟩
      rcases List.mem_cons.1 hy with rfl | hy
      · omega
      · have := ih.2 y hy; omega
  exact ⟨by omega, fun x hx => by have := this.2 x hx; omega⟩
set_option maxRecDepth 100000 in
set_option maxHeartbeats 2000000 in
theorem walk (a0 : Option Addr) (n0 c0 : Nat) (b0 : List UInt8) (w : World) (hb0 : RdB w w.heap.size a0 n0 b0) (hl0 : n0 ≤ maxLen) :
    Calls Try.prog 8 #[.slice a0 n0 c0] w fun e w' => e = .returned (.bool true) ∧ Below w.heap.size w w' := by
  obtain rfl := hb0.1
  go_enter Try.func8, Try.ntmps8
  go_wp2_with fail
  refine (alive14 _).mono ?_
  rintro e w1 ⟨rfl, h1⟩
  go_wp2_with fail
  refine (dnew_any 16384 _ (by omega) (by omega)).mono ?_
  rintro e w2 ⟨g, F1, rfl, hD1, hF1, h2⟩
  have L1 := DL.of_new h1 hD1 hF1 h2
  clear hD1 h2
  by_cases hg : 10000 < b0.length
  · have hd1 : decide ((10000 : Int) < (b0.length : Int)) = true := decide_eq_true (by omega)
    go_wp2_with fail
    go_ret
    exact ⟨rfl, L1.2.2⟩
  have hd1 : decide ((10000 : Int) < (b0.length : Int)) = false := decide_eq_false (by omega)
  have hn1 : (b0.length : Int) ≤ ((16384 : Nat) : Int) - (readL [] []).length := by show (b0.length : Int) ≤ ((16384 : Nat) : Int) - 0; omega
  go_wp2_with fail
  refine (append_any _ _ _ _ b0 F1 g 16384 [] [] _ L1.1 (by simp [mass]) (by simp) (by omega) (hb0.below L1.2.2) hn1).mono ?_
  rintro e w3 ⟨rfl, h3⟩
  obtain ⟨F2, L2, _, _⟩ := L1.op h3
  clear h3 L1 hn1
  go_wp2_with fail
  refine (sync_any F2 g 16384 _ _ _ L2.1 (by simp [mass]; omega) (by simp)).mono ?_
  rintro e w4 ⟨rfl, h4⟩
  rw [read_app, show readL [] [] = [] from rfl, List.nil_append] at h4
  obtain ⟨F3, L3, _, _⟩ := L2.op h4
  clear h4 L2
  go_wp2_with fail
  refine (lread_any F3 g 16384 _ _ _ L3.1 (by simp [mass]; omega) (by simp)).mono ?_
  rintro e w5 ⟨l, r, A5, c5, hp, rfl, bo5, h5⟩
  have L4 := L3.below h5
  have hF3 := L3.1.lt
  have hp : Parts b0 l r := hp
  have hpl := parts_len hp
  have hx5 := hpl.2.2
  have hl5 := hpl.2.1
  have hf5 := hpl.1
  have HX := Lib.hid hx5
  have HP := Lib.hid hp
  clear L3 h5 hpl hx5 hp
  go_wp2_with fail
  refine (lmend_any F3 g 16384 _ _ _ L4.1 (by simp [mass]; omega) (by simp) (by omega) (by show b0.length ≤ _; omega)).mono ?_
  rintro e w6 ⟨l', r', hp', q6⟩
  obtain ⟨rfl, rfl⟩ := HP.out.same hp'
  obtain ⟨rfl, h6⟩ := q6.at_ (mend_all HP.out)
  obtain ⟨F6, L6, o6, _⟩ := L4.op h6
  have bo6 := Bods.only bo5 o6 hF3
  clear hp' q6 h6 bo5 o6 hF3 L4
  have hfm : (frms l).length + mass [] ≤ 500000000000 := by simp [mass]; omega
  have hsm := bo6.rd
  go_wp2_with fail
  refine (lread_any F6 g 16384 _ _ _ L6.1 hfm (by simp)).mono ?_
  rintro e w7 ⟨l', r', A7, c7, hp', rfl, bo7, h7⟩
  have hp' : Parts (frms l) l' r' := hp'
  obtain ⟨rfl, rfl⟩ := (parts_frms HP.out).same hp'
  have L7 := L6.below h7
  have hs7 := hsm.next h7
  have hr7 := bo7.rd
  have hd7 : decide ((frms l).length < (readL (frms l) []).length) = false := decide_eq_false (by show ¬ _ < (frms l).length; omega)
  rw [hd7]
  clear hd7 hp' h7 L6 hsm bo7 bo6
  go_wp2_with fail
  refine (read_any F6 g 16384 _ _ _ L7.1 (by omega) (by simp)).mono ?_
  rintro e w8 ⟨A8, n8, c8, rfl, o8, h8⟩
  have o8 : OwnB w8 w7.heap.size A8 n8 c8 (frms l) := o8
  obtain rfl := o8.1
  have L8 := L7.below h8
  have hr8 := hr7.next h8
  have hs8 := hs7.next h8
  have hF7 := L7.1.lt
  clear h8 L7 hr7 hs7
  go_wp2_with fail
  refine (Frame.rsame_eq _ _ _ _ _ _ _ _ _ _ hr8 hs8 (by omega) (fun x hx => by have := HX.out x hx; omega)).mono ?_
  rintro e w9 ⟨rfl, m9, rfl⟩
  have L9 := L8.below (below_drewN (Below.refl _ _) m9)
  have o9 : OwnB (w8.drewN m9) w7.heap.size A8 (frms l).length c8 (frms l) := o8
  generalize w8.drewN m9 = w9 at *
  clear L8 hr8 hs8 o8
  go_wp2_with fail
  refine (lmend_any F6 g 16384 _ _ _ L9.1 hfm (by simp) (by omega) (by show (frms l).length ≤ _; omega)).mono ?_
  rintro e w10 ⟨l', r', hp', q10⟩
  have hp' : Parts (frms l) l' r' := hp'
  obtain ⟨rfl, rfl⟩ := (parts_frms HP.out).same hp'
  obtain ⟨rfl, h10⟩ := q10.at_ (mend_all (parts_frms HP.out))
  obtain ⟨F10, L10, o10, _⟩ := L9.op h10
  have o9' := o9.only o10 hF7
  have hb9 := o9'.rd
  clear hp' q10 h10 L9 o9 o9' o10
  go_wp2_with fail
  refine (read_any F10 g 16384 _ _ _ L10.1 (by omega) (by simp)).mono ?_
  rintro e w11 ⟨A11, n11, c11, rfl, o11, h11⟩
  have o11 : OwnB w11 w10.heap.size A11 n11 c11 (frms l) := o11
  obtain rfl := o11.1
  have L11 := L10.below h11
  have hb11 := hb9.next h11
  clear h11 L10 hb9
  go_wp2_with fail
  refine (same_eq _ _ _ _ _ _ _ _ _ _ o11.rd hb11 (by omega)).mono ?_
  rintro e w12 ⟨rfl, m12, rfl⟩
  have hd12 : decide ((frms l).length ≤ b0.length) = true := decide_eq_true hf5
  go_wp2_with fail
  go_ret
  exact ⟨rfl, below_drewN L11.2.2 _⟩
set_option maxRecDepth 100000 in
theorem lifted (os : Os) (started : os.Started) (H : Type) (enc : TypeId × Value → H) :
    ReturnsInHanded {} Try.checked os 8 .any (Rows.logBytesSpec.pre6 enc Try.prog Try.f8 Rows.logBytesRow.domain false) (Rows.logBytesSpec.post enc Try.prog Try.f8 false true false false) := by
  refine returnsInHanded_of_change (C := Try.checked) own started (by kernel_rfl) Try.func8
    (ChangeSpec.witness6 (enc := enc) (C := Try.checked) false ⟨#[], #[.slice none 0 0], []⟩ 8 (by kernel_rfl) (by kernel_rfl) (by kernel_rfl) (by kernel_rfl)) ?_
  intro W base args ds gs before hval0 hW hcnd _
  have hval : ∀ (j : Nat) t v, Try.f8.params[j]? = some t → args[j]? = some v → Value.okWide Try.prog W .any base t v := hval0
  have hW' := hW
  obtain ⟨p, q, hA0, hV, rfl, hfz, hnd⟩ := hW
  have hA : DataW.TrodAll enc Try.prog W 0 (fun _ => true) true Try.f8.params.toList args.toList ds p := hA0
  rw [Try.params8] at hA hval
  obtain ⟨v0, vs0, d0, ds0, p0, q0, hargs, rfl, rfl, h0, r0⟩ := trodAll_cons hA
  obtain ⟨rfl, rfl, rfl⟩ := trodAll_nil r0
  obtain rfl : args = #[v0] := by cases args; simp_all
  obtain ⟨rfl, rfl⟩ := trodVars_none hV
  have lt0 : ∀ x ∈ p0, x.block < W.heap.size := by obtain ⟨m, hm⟩ := h0; exact DataW.trod_lt m _ _ _ hm
  have k0 := h0
  obtain ⟨a0, n0, c0, b0, rfl, w0, l0⟩ := open_bytes (hval 0 22 v0 rfl rfl) h0
  clear hA0 hval0
  refine (walk a0 n0 c0 b0 W w0 l0).mono fun e W' ⟨he, bel⟩ => ?_
  subst he
  exact ⟨_, rfl, _, _, _, [], _, [], hW', trodAll_mk1 (shut_bool Try.underlying4 _), (trodAll_cons_mk (Below.trod laidOut (by kernel_rfl) (of_decide_eq_true (by kernel_rfl)) k0 bel lt0) trodAll_mk0), rfl, bel.frame _, fun h => by cases h⟩

theorem proved : Rows.LogBytesSaid :=
  OpenClaim.holds_of_wide 8 Try.f8 rfl rfl rfl rfl rfl rfl rfl ⟨rfl, rfl, rfl, rfl, rfl⟩ rfl rfl rfl rfl rfl (by kernel_rfl) Try.func8 (by kernel_rfl)
    (of_decide_eq_true (by kernel_rfl)) (by unfold Func.isWrapper; first | (rw [if_pos (by decide +kernel)]; kernel_rfl) | (rw [if_neg (by decide +kernel)]; exact ⟨rfl, rfl⟩))
    (fun os started H enc _ => lifted os started H enc)
#print axioms proved
end Go.Proofs.Ytbkcdnjpakicmaa.LogBytes

/- FrameBack: bodies put one behind the other are all got, up to where the last frame is torn: the whole statement, without a condition. -/
import Derived.Test.YtbkcdnjpakicmaaFrameAlive
import Derived.Test.YtbkcdnjpakicmaaFrameAll
import Derived.Test.YtbkcdnjpakicmaaFrameEnds
import Derived.Test.YtbkcdnjpakicmaaSls
import Derived.Test.YtbkcdnjpakicmaaBoth
import Derived.Test.YtbkcdnjpakicmaaSame
namespace Go.Proofs.Ytbkcdnjpakicmaa.FrameBack
open Go.ChangeShapes Go.WideShapes Go.ChangeAt Go.RowKit
set_option linter.unusedVariables false
open Go.Proofs.Ytbkcdnjpakicmaa.Frame

set_option maxRecDepth 100000 in
set_option maxHeartbeats 1000000 in
theorem walk (a0 : Option Addr) (n0 c0 : Nat) (ls : List (List UInt8)) (s1 : Nat) (w : World) (hb0 : RdS w w.heap.size a0 n0 ls) (hs1 : s1 < 65536) :
    Calls Try.prog 6 #[.slice a0 n0 c0, .int .u16 (s1 : Nat)] w fun e w' => e = .returned (.bool true) ∧ Below w.heap.size w w' := by
  obtain rfl := hb0.len
  by_cases hg : 20 < ls.length
  · have hd1 : decide ((20 : Int) < (ls.length : Int)) = true := decide_eq_true (by omega)
    go_enter Try.func6, Try.ntmps6
    go_wp2_with fail
    refine (alive04 _).mono ?_
    rintro e w1 ⟨rfl, h1⟩
    go_wp2_with fail
    go_ret
    exact ⟨rfl, h1⟩
  have hd1 : decide ((20 : Int) < (ls.length : Int)) = false := decide_eq_false (by omega)
  by_cases h0 : ls.length = 0
  · obtain rfl : ls = [] := List.eq_nil_of_length_eq_zero h0
    go_enter Try.func6, Try.ntmps6
    go_wp2_with fail
    refine (alive04 _).mono ?_
    rintro e w1 ⟨rfl, h1⟩
    go_wp2_with fail
    go_ret
    exact ⟨rfl, h1⟩
  have hd2 : ((ls.length : Int) == 0) = false := by rw [beq_eq_false_iff_ne]; omega
  go_enter Try.func6, Try.ntmps6
  go_wp2_with fail
  refine (alive04 _).mono ?_
  rintro e w1 ⟨rfl, h1⟩
  have hb1 := hb0.below h1
  go_wp2_with fail
  go_loopw [5, 6, 31] (fun v e i wr => ∃ (k : Nat) (A : Option Addr) (n c : Nat) (A' : Option Addr) (c' : Nat), k ≤ ls.length ∧ i = .int .i64 k ∧ v = .slice A n c ∧ e = .slice A' k c' ∧ OwnB wr w.heap.size A n c (frms (ls.take k)) ∧ OwnI wr w.heap.size A' k c' (ends ls k) ∧ (∀ x ∈ ls.take k, x.length ≤ 300) ∧ Below w.heap.size w wr) (fun _ _ i _ => ls.length - (intOf i).toNat)
  case atStart => exact ⟨0, none, 0, 0, none, 0, by omega, rfl, rfl, rfl, OwnB.nil _ _, OwnI.nil _ _, by simp, h1⟩
  case round =>
    obtain ⟨k, A, n, c, A', c', hk, rfl, rfl, rfl, hob, hoi, hsm, hbel⟩ := hrel
    have hbd := frms_bound _ hsm
    have hnn := hob.1
    have htk : (ls.take k).length ≤ 20 := by rw [List.length_take]; omega
    have hn7 : n ≤ 7000 := by omega
    clear hbd hnn htk
    by_cases hlt : k < ls.length
    · obtain ⟨a, D, m, d, rfl, hab, hcell, hrd, hmc, hcm⟩ := (hb0.below hbel).at_ hlt
      have hml := hrd.1
      obtain ⟨x, hx⟩ : ∃ x, x = ls[k] := ⟨_, rfl⟩
      rw [← hx] at hrd hml
      have HX := Lib.hid hx
      have HML := Lib.hid hml
      clear hx hml
      have HS := Lib.hid hsm
      clear hsm
      by_cases h3 : 300 < m
      · have hd3 : decide ((300 : Int) < (m : Int)) = true := decide_eq_true (by omega)
        go_wp2_with fail
        go_ret
        exact ⟨rfl, hbel⟩
      have hd3 : decide ((300 : Int) < (m : Int)) = false := decide_eq_false (by omega)
      go_wp2_with fail
      refine (Go.Proofs.Ytbkcdnjpakicmaa.Frame.put_ok _ _ _ x _ _ hrd hbel.size (by omega)).mono ?_
      rintro e w2 ⟨A2, n2, c2, rfl, ho2, h2⟩
      have hb2 := hbel.trans (h2.mono hbel.size)
      have hob2 := hob.below h2 (Nat.le_refl _)
      have hoi2 := hoi.below h2 (Nat.le_refl _)
      have hn2 : n2 ≤ 320 := by
        have := ho2.1
        have := frm_length x
        have := Vint.enc_length x.length
        have := HML.out
        omega
      go_wp2_with (at_builtin; refine wpList_appB rfl (.tmp 45) (.tmp 46) rfl rfl hob2 rfl ho2.rd ?hx0 hb2.size ?_)
      case hx0 => omega
      intro A3 c3 w3 ho3 hg3 _ hbl3
      have hb3 := hb2.trans hbl3
      have hoi3 := hoi2.grownB hob2 hg3
      have hl3 : (frms (ls.take k) ++ frm x).length = (frms (ls.take (k + 1))).length := by rw [frms_take_succ ls hlt, HX.out]
      have hl4 := ho3.1
      rw [hl3] at hl4
      have HL4 := Lib.hid hl4
      clear hl3 hl4
      go_wp2_with (at_builtin; refine wpList_appI rfl (.tmp 48) (.tmp 51) rfl rfl (hoi3.alloc _) rfl (RdI.made _ [((n + n2 : Nat) : Int)] _ _ _ (by simp)) ?hy0 ?hy2 ?_)
      case hy0 => simp; omega
      case hy2 => have := hb3.size; simp; omega
      intro A4 c4 w4 ho4 hg4 _ hbl4
      have hb4 := (hb3.alloc hb3.size _).trans hbl4
      have hob4 := (ho3.alloc (.cells #[iv ((n + n2 : Nat) : Int)] 3)).grownI (hoi3.alloc _) hg4
      go_wp2_with fail
      go_roundw
      case rel =>
        refine ⟨k + 1, A3, n + n2, c3, A4, c4, by omega, by go_num, rfl, rfl, ?_, ?_, ?_, hb4⟩
        · rw [frms_take_succ ls hlt, ← HX.out]
          exact hob4
        · rw [ends_succ, ← HL4.out]
          exact ho4
        · intro y hy
          rw [take_snoc ls hlt, List.mem_append, List.mem_singleton] at hy
          rcases hy with hy | rfl
          · exact HS.out y hy
          · rw [← HX.out, ← HML.out]; omega
      case measure => simp [intOf]; omega
    obtain rfl : k = ls.length := by omega
    rw [List.take_length] at hob hsm
    have hmax : ∀ x ∈ ls, x.length ≤ 4096 := fun x hx => by have := hsm x hx; omega
    have hnn := hob.1
    have hpos : 0 < n := by
      rw [hnn]
      cases ls with
      | nil => simp at h0
      | cons x l => rw [frms_cons, List.length_append]; have := frm_pos x; omega
    obtain ⟨g, rfl, hg1, hg2⟩ := hob.form hpos
    have hle := ownsRow_le hob.2
    obtain ⟨kk, hkk⟩ : ∃ kk : Nat, kk = s1 % (n + 1) := ⟨_, rfl⟩
    have hkn : kk ≤ n := by have := Nat.mod_lt s1 (show 0 < n + 1 by omega); omega
    have ei : (s1 : Int) % ((n : Int) + 1) = (kk : Int) := by rw [hkk]; push_cast; rfl
    have hq0 : ((n : Int) + 1 == 0) = false := by rw [beq_eq_false_iff_ne]; omega
    obtain ⟨j, hj1, hj2, hj3, hj4⟩ := parts_cut hmax kk (by rw [← hnn]; exact hkn)
    have HJ := Lib.hid hj2
    have HJ4 := Lib.hid hj4
    have HN := Lib.hid hnn
    clear hj2 hj4 hnn hkk hsm
    have hkc : kk ≤ c := by omega
    have hcm := hle.2
    have rdk := hob.rd.take hkn
    have hoiL := hoi.rd
    go_wp2_with fail
    refine (all_any _ _ _ _ _ _ rdk (Nat.le_refl _) (by omega) hkc hcm).mono ?_
    rintro e w2 ⟨l, r, A2, c2, hp, rfl, hbo, h2⟩
    obtain ⟨el, er⟩ := hp.same HJ.out
    have hll : l.length = j := by rw [el, List.length_take]; omega
    obtain rfl : j = l.length := hll.symm
    have HP := Lib.hid hp
    have HE := Lib.hid el
    clear hp el er hll
    have hb2 := hbel.trans (h2.mono hbel.size)
    have hoi2 := hoi.below h2 (Nat.le_refl _)
    obtain ⟨gi, rfl, _, _⟩ := hoi2.form (by omega)
    obtain ⟨M, hM⟩ : ∃ M, M = (frms l).length := ⟨_, rfl⟩
    rw [← hM]
    have HM := Lib.hid hM
    clear hM
    have hb0w := hb0.below hb2
    go_wp2_with fail
    go_loop [14, 69] (fun q i => ∃ k q' : Nat, k ≤ ls.length ∧ i = .int .i64 k ∧ q = .int .i64 q' ∧ q' ≤ k ∧ q' ≤ l.length ∧ (q' = k ∨ q' = l.length)) (fun _ i => ls.length - (intOf i).toNat)
    case atStart => exact ⟨0, 0, by omega, rfl, rfl, by omega, by omega, .inl rfl⟩
    case round =>
      obtain ⟨k, q', hk, rfl, rfl, hq1, hq2, hq3⟩ := hrel
      by_cases hlt : k < ls.length
      · have hcell := hoi2.cell (j := k) (by rw [ends_length]; exact hlt)
        rw [ends_get ls hlt] at hcell
        have hw := whole_iff hlt hj3 HJ4.out
        generalize (frms (ls.take (k + 1))).length = E at *
        by_cases hkl : k < l.length
        · have hd : decide (E ≤ kk) = true := decide_eq_true (hw.2 hkl)
          clear hw
          go_wp2_with fail
          go_round
          case rel => exact ⟨k + 1, q' + 1, by omega, by go_num, by go_num, by omega, by omega, by omega⟩
          case measure => simp [intOf]; omega
        · have hd : decide (E ≤ kk) = false := decide_eq_false (fun h => hkl (hw.1 h))
          clear hw
          go_wp2_with fail
          go_round
          case rel => exact ⟨k + 1, q', by omega, by go_num, rfl, by omega, by omega, by omega⟩
          case measure => simp [intOf]; omega
      obtain rfl : k = ls.length := by omega
      obtain rfl : q' = l.length := by omega
      clear hq3
      have hcM : 0 < l.length → ∃ p, l.length = p + 1 ∧ w2.cell? ⟨gi, p, none⟩ = some (iv M) := by
        intro hp
        refine ⟨l.length - 1, by omega, ?_⟩
        have hcell := hoi2.cell (j := l.length - 1) (by rw [ends_length]; omega)
        rw [ends_get ls (by omega), show l.length - 1 + 1 = l.length by omega, ← HE.out, ← HM.out] at hcell
        exact hcell
      have HC := Lib.hid hcM
      clear hcM
      rcases Nat.eq_zero_or_pos l.length with hz | hz
      · obtain rfl : l = [] := List.eq_nil_of_length_eq_zero hz
        obtain rfl : M = 0 := HM.out
        go_wp2_with fail
        go_loop [106] (fun i => i = .int .i64 0) (fun _ => 0)
        case atStart => rfl
        case round =>
          subst hrel
          go_wp2_with fail
          go_ret
          exact ⟨rfl, hb2⟩
      · obtain ⟨p, hp, hcp⟩ := HC.out hz
        have hee : ∀ i (hi : i < l.length) (hi2 : i < ls.length), l[i] = ls[i] := fun i hi hi2 => by
          have := congrArg (fun z => z[i]?) HE.out
          simp only [List.getElem?_take, if_pos hi, List.getElem?_eq_getElem hi, List.getElem?_eq_getElem hi2, Option.some.injEq] at this
          exact this
        have HEE := Lib.hid hee
        clear hee
        obtain ⟨L, hL⟩ : ∃ L, L = l.length := ⟨_, rfl⟩
        rw [← hL] at hp hz hj1 hj3 hbo hq2 ⊢
        have HLL := Lib.hid hL
        subst hp
        clear hL
        have hq9 : ((p : Int) + 1 == 0) = false := by rw [beq_eq_false_iff_ne]; omega
        have hbr := hbo.rd
        go_wp2_with fail
        go_loopw [106] (fun i wv => ∃ k m : Nat, k ≤ p + 1 ∧ i = .int .i64 k ∧ wv = w2.drewN m) (fun i _ => p + 1 - (intOf i).toNat)
        case atStart => exact ⟨0, 0, by omega, rfl, rfl⟩
        case round =>
          obtain ⟨k, m, hk, rfl, rfl⟩ := hrel
          by_cases hlt : k < p + 1
          · have hl1 : k < l.length := by rw [← HLL.out]; exact hlt
            have hl2 : k < ls.length := by omega
            obtain ⟨a1, D1, m1, d1, rfl, _, hc1, hr1, _, _⟩ := hbr.at_ hl1
            obtain ⟨a2, D2, m2, d2, rfl, _, hc2, hr2, _, _⟩ := hb0w.at_ hl2
            rw [HEE.out k hl1 hl2] at hr1
            have hlt2 : k < ls.length := by omega
            obtain ⟨x, hx⟩ : ∃ x, x = ls[k] := ⟨_, rfl⟩
            rw [← hx] at hr1 hr2
            have hxl : m1 ≤ 9223372036854775807 := by
              have := hr1.1
              rw [this, hx]
              have := hmax ls[k] (List.getElem_mem _)
              omega
            clear hx
            go_wp2_with fail
            have hr1' : RdB (w2.drewN m) w2.heap.size D1 m1 x := hr1
            have hr2' : RdB (w2.drewN m) w.heap.size D2 m2 x := hr2
            refine (same_eq _ _ _ _ _ _ _ _ _ _ hr1' hr2' hxl).mono ?_
            rintro e w5 ⟨rfl, m5, rfl⟩
            go_wp2_with fail
            go_roundw
            case rel => exact ⟨k + 1, _, by omega, by go_num, rfl⟩
            case measure => simp [intOf]; omega
          · go_wp2_with fail
            go_ret
            exact ⟨rfl, below_drewN hb2 _⟩

set_option maxRecDepth 100000 in
theorem lifted (os : Os) (started : os.Started) (H : Type) (enc : TypeId × Value → H) :
    ReturnsInHanded {} Try.checked os 6 .any (Rows.frameBackSpec.pre6 enc Try.prog Try.f6 Rows.frameBackRow.domain false) (Rows.frameBackSpec.post enc Try.prog Try.f6 false true false false) := by
  refine returnsInHanded_of_change (C := Try.checked) own started (by kernel_rfl) Try.func6
    (ChangeSpec.witness6 (enc := enc) (C := Try.checked) false ⟨#[], #[.slice none 0 0, .int .u16 0], []⟩ 8 (by kernel_rfl) (by kernel_rfl) (by kernel_rfl) (by kernel_rfl)) ?_
  intro W base args ds gs before hval0 hW hcnd _
  have hval : ∀ (j : Nat) t v, Try.f6.params[j]? = some t → args[j]? = some v → Value.okWide Try.prog W .any base t v := hval0
  have hW' := hW
  obtain ⟨p, q, hA0, hV, rfl, hfz, hnd⟩ := hW
  have hA : DataW.TrodAll enc Try.prog W 0 (fun _ => true) true Try.f6.params.toList args.toList ds p := hA0
  rw [Try.params6] at hA hval
  obtain ⟨v0, vs0, d0, ds0, p0, q0, hargs, rfl, rfl, h0, r0⟩ := trodAll_cons hA
  obtain ⟨v1, vs1, d1, ds1, p1, q1, rfl, rfl, rfl, h1, r1⟩ := trodAll_cons r0
  obtain ⟨rfl, rfl, rfl⟩ := trodAll_nil r1
  obtain rfl : args = #[v0, v1] := by cases args; simp_all
  obtain ⟨rfl, rfl⟩ := trodVars_none hV
  have lt0 : ∀ x ∈ p0, x.block < W.heap.size := by obtain ⟨m, hm⟩ := h0; exact DataW.trod_lt m _ _ _ hm
  have k0 := h0
  have lt1 : ∀ x ∈ p1, x.block < W.heap.size := by obtain ⟨m, hm⟩ := h1; exact DataW.trod_lt m _ _ _ hm
  have k1 := h1
  obtain ⟨a0, n0, c0, l0, rfl, w0, p0, m0⟩ := open_rows (hval 0 38 v0 rfl rfl) h0
  obtain ⟨x1, rfl, rfl, rfl, wf1⟩ := open_int Try.underlying32 (hval 1 32 v1 rfl rfl) h1
  have hb1 : 0 ≤ x1 ∧ x1 < 65536 := by
    have hmin : IntKind.u16.min = 0 := rfl
    have hmax : IntKind.u16.max = 65535 := rfl
    simp only [Lit.wf, Bool.and_eq_true, decide_eq_true_eq] at wf1
    omega
  obtain ⟨s1, rfl⟩ := Int.eq_ofNat_of_zero_le hb1.1
  clear hA0 hval0
  refine (walk a0 n0 c0 l0 s1 W w0 (by omega)).mono fun e W' ⟨he, bel⟩ => ?_
  subst he
  exact ⟨_, rfl, _, _, _, [], _, [], hW', trodAll_mk1 (shut_bool Try.underlying4 _), (trodAll_cons_mk (Below.trod laidOut (by kernel_rfl) (of_decide_eq_true (by kernel_rfl)) k0 bel lt0) (trodAll_cons_mk (Below.trod laidOut (by kernel_rfl) (of_decide_eq_true (by kernel_rfl)) k1 bel lt1) trodAll_mk0)), rfl, bel.frame _, fun h => by cases h⟩

theorem proved : Rows.FrameBackSaid :=
  OpenClaim.holds_of_wide 6 Try.f6 rfl rfl rfl rfl rfl rfl rfl ⟨rfl, rfl, rfl, rfl, rfl⟩ rfl rfl rfl rfl rfl (by kernel_rfl) Try.func6 (by kernel_rfl)
    (of_decide_eq_true (by kernel_rfl)) (by unfold Func.isWrapper; first | (rw [if_pos (by decide +kernel)]; kernel_rfl) | (rw [if_neg (by decide +kernel)]; exact ⟨rfl, rfl⟩))
    (fun os started H enc _ => lifted os started H enc)
#print axioms proved
end Go.Proofs.Ytbkcdnjpakicmaa.FrameBack

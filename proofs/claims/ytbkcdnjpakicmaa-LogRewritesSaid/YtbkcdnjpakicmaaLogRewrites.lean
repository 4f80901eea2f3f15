/- LogRewrites: rewritten records are all there is, and read as they were; what has no room, or is too long, leaves all as it was: the whole statement, without a condition. -/
import Derived.Test.YtbkcdnjpakicmaaLogMath
import Derived.Test.YtbkcdnjpakicmaaFrameRAll
import Derived.Test.YtbkcdnjpakicmaaRowS
import Derived.Test.YtbkcdnjpakicmaaShell
namespace Go.Proofs.Ytbkcdnjpakicmaa.LogRewrites
open Go.ChangeShapes Go.WideShapes Go.ChangeAt Go.RowKit
set_option linter.unusedVariables false
open Go.Proofs.Ytbkcdnjpakicmaa.Log Go.Proofs.Ytbkcdnjpakicmaa.Disk
open Go.Proofs.Ytbkcdnjpakicmaa.Frame (frm frms frms_nil frms_cons frms_snoc frms_append frm_length frm_pos Parts AllF)

set_option maxRecDepth 100000 in
set_option maxHeartbeats 2000000 in
theorem walk (size : Int) (a1 : Option Addr) (n1 c1 : Nat) (l : List (List UInt8)) (a2 : Option Addr) (n2 c2 : Nat) (m : List (List UInt8)) (w : World) (hz1 : -9223372036854775808 ≤ size) (hz2 : size ≤ 9223372036854775807) (hl0 : RdS w w.heap.size a1 n1 l) (hm0 : RdS w w.heap.size a2 n2 m) :
    Calls Try.prog 10 #[.int .i64 size, .slice a1 n1 c1, .slice a2 n2 c2] w fun e w' => e = .returned (.bool true) ∧ Below w.heap.size w w' := by
  obtain rfl := hl0.len
  obtain rfl := hm0.len
  by_cases hbad : size < 1 ∨ 16384 < size
  · go_enter Try.func10, Try.ntmps10
    go_wp2_with fail
    refine (alive14 _).mono ?_
    rintro e w1 ⟨rfl, h1⟩
    go_wp2_with fail
    refine (dnew_bad size _ hbad).mono ?_
    rintro e w2 ⟨rfl, rfl⟩
    go_wp2_with fail
    go_ret
    exact ⟨rfl, h1⟩
  obtain ⟨sz, rfl⟩ := Int.eq_ofNat_of_zero_le (show 0 ≤ size by omega)
  have hs1 : 1 ≤ sz := by omega
  have hs2 : sz ≤ 16384 := by omega
  clear hbad
  go_enter Try.func10, Try.ntmps10
  go_wp2_with fail
  refine (alive14 _).mono ?_
  rintro e w1 ⟨rfl, h1⟩
  go_wp2_with fail
  refine (dnew_any sz _ hs1 hs2).mono ?_
  rintro e w2 ⟨g, F1, rfl, hD1, hF1, h2⟩
  have L1 := DL.of_new h1 hD1 hF1 h2
  clear hD1 h2
  by_cases hgl : 30 < l.length
  · have hd1 : decide ((30 : Int) < (l.length : Int)) = true := decide_eq_true (by omega)
    go_wp2_with fail
    go_ret
    exact ⟨rfl, L1.2.2⟩
  have hd1 : decide ((30 : Int) < (l.length : Int)) = false := decide_eq_false (by omega)
  by_cases hgm : 30 < m.length
  · have hd2 : decide ((30 : Int) < (m.length : Int)) = true := decide_eq_true (by omega)
    go_wp2_with fail
    go_ret
    exact ⟨rfl, L1.2.2⟩
  have hd2 : decide ((30 : Int) < (m.length : Int)) = false := decide_eq_false (by omega)
  obtain ⟨el, el1, el2⟩ := (hl0.below L1.2.2).els
  obtain ⟨em, em1, em2⟩ := (hm0.below L1.2.2).els
  have hs12 := L1.2.2.size
  have hb12 : Below w.heap.size w2 (w2.alloc (.cells #[] 22)) := (Below.refl _ _).alloc hs12 _
  go_wp2_with (at_builtin; refine wpList_appR rfl (.tmp 38) (.tmp 39) rfl rfl (RowS.made w2 w.heap.size w2.heap.size (Nat.le_refl _)) rfl (el2.alloc hs12 _) (el1.below hb12) rfl (by omega) (by simp) hs12 ?_)
  intro A3 c3 w3 o3 b3
  have h23 : Below w2.heap.size w2 w3 := ((Below.refl _ _).alloc (Nat.le_refl _) _).trans b3
  go_wp2_with (at_builtin; refine wpList_appR rfl (.tmp 40) (.tmp 41) rfl rfl o3 rfl (em2.below (h23.mono hs12)) (em1.below (h23.mono hs12)) rfl (by omega) h23.size hs12 ?_)
  intro A4 c4 w4 o4 b4
  have L4 := L1.below (h23.trans b4)
  have r4 := o4.rd
  obtain ⟨q, hq⟩ : ∃ q, q = l.length + m.length := ⟨_, rfl⟩
  rw [← hq] at r4 ⊢
  have hq60 : q ≤ 60 := by omega
  have hql : q = (l ++ m).length := r4.len
  have HQL := Lib.hid hql
  clear hq hql el1 el2 em1 em2 hb12 o3 b3 h23 o4 b4 L1 hs12
  go_wp2_with fail
  go_loop [9, 44] (fun s i => ∃ k s' : Nat, k ≤ q ∧ i = .int .i64 k ∧ s = .int .i64 s' ∧ s' ≤ 10000 * k) (fun _ i => q - (intOf i).toNat)
  case atStart => exact ⟨0, 0, by omega, rfl, rfl, by omega⟩
  case round =>
    obtain ⟨k, s', hk, rfl, rfl, hs'⟩ := hrel
    by_cases hlt : k < q
    · obtain ⟨a, D, z, d, rfl, _, hc, _, hzd, hdm⟩ := r4.at_ (k := k) (by rw [← HQL.out]; exact hlt)
      unfold maxLen at hdm
      by_cases hz : z ≤ 10000
      · go_wp2_with fail
        all_goals
          first
            | omega
            | (go_round
               case rel => exact ⟨k + 1, s' + z, by omega, by go_num, by go_num, by omega⟩
               case measure => simp [intOf]; omega)
      · go_wp2_with fail
        all_goals
          first
            | omega
            | (go_round
               case rel => exact ⟨k + 1, s' + 10000, by omega, by go_num, by go_num, by omega⟩
               case measure => simp [intOf]; omega)
    obtain rfl : k = q := by omega
    by_cases hbig : 20000 < s'
    · have hd5 : decide ((20000 : Int) < (s' : Int)) = true := decide_eq_true (by omega)
      go_wp2_with fail
      go_ret
      exact ⟨rfl, L4.2.2⟩
    have hd5 : decide ((20000 : Int) < (s' : Int)) = false := decide_eq_false (by omega)
    clear r4
    go_wp2_with fail
    go_loopw [58] (fun i wr => ∃ (k : Nat) (F : Nat → Prop) (acc : List (List UInt8)), k ≤ l.length ∧ i = .int .i64 k ∧ DL w F g sz (frms acc) [] wr ∧ GoodL sz acc) (fun i _ => l.length - (intOf i).toNat)
    case atStart => exact ⟨0, F1, [], by omega, rfl, L4, GoodL.nil _⟩
    case round =>
      clear L4
      obtain ⟨k, F, acc, hk, rfl, L5, hgood⟩ := hrel
      have hm5 : (frms acc).length + mass [] ≤ 500000000000 := by have := hgood.2; simp [mass]; omega
      have HG := Lib.hid hgood
      clear hgood
      by_cases hlt : k < l.length
      · obtain ⟨a, D, z, d, rfl, _, hc, hr, hzd, hdm⟩ := (hl0.below L5.2.2).at_ hlt
        obtain ⟨x, hx⟩ : ∃ x, x = l[k] := ⟨_, rfl⟩
        rw [← hx] at hr
        clear hx
        go_wp2_with fail
        refine (lwrite_any _ _ _ _ x F g sz _ [] _ L5.1 hm5 (by simp) hs2 hr L5.2.2.size hzd hdm).mono ?_
        rintro e w6 q6
        obtain ⟨y, acc', hw, hg'⟩ : ∃ y acc', writeM sz (frms acc) [] x = (y, frms acc', []) ∧ GoodL sz acc' := by
          rcases write_good HG.out x with ⟨y, _, _, h⟩ | ⟨h, hg⟩
          · exact ⟨y, acc, h, HG.out⟩
          · exact ⟨0, _, h, hg⟩
        obtain ⟨rfl, h6⟩ := q6.at_ hw
        obtain ⟨F6, L6, _, _⟩ := L5.op h6
        have HW := Lib.hid hw
        have HG' := Lib.hid hg'
        clear hw hg' q6 h6 L5
        go_wp2_with fail
        go_roundw
        case rel => exact ⟨k + 1, F6, acc', by omega, by go_num, L6, HG'.out⟩
        case measure => simp [intOf]; omega
      have hacc := parts_len HG.out.parts
      have hacl := hacc.2.1
      have hacx := hacc.2.2
      have HAX := Lib.hid hacx
      clear hacc hacx
      go_wp2_with fail
      refine (lread_any F g sz _ _ _ L5.1 hm5 (by simp)).mono ?_
      rintro e w6 ⟨l', r', A6, c6, hp', rfl, bo6, h6⟩
      obtain ⟨rfl, rfl⟩ := HG.out.parts.same hp'
      have L6 := L5.below h6
      have hF6 := L5.1.lt
      have hd6 : decide ((frms acc).length < (readL (frms acc) []).length) = false := decide_eq_false (by show ¬ _ < (frms acc).length; omega)
      rw [hd6]
      clear hd6 hp' h6 L5
      go_wp2_with fail
      refine (lrewrite_any _ _ _ _ m F g sz _ [] _ L6.1 hm5 (by simp) hs2 (hm0.below L6.2.2) L6.2.2.size (by omega)).mono ?_
      rintro e w7 q7
      rcases rewrite_good (l := acc) (size := sz) m with ⟨y, hy0, hy7, hw⟩ | ⟨hw, hgm⟩
      · obtain ⟨rfl, h7⟩ := q7.at_ hw
        obtain ⟨F7, L7, o7, _⟩ := L6.op h7
        have bo7 := Bods.only bo6 o7 hF6
        have hs7 := bo7.rd
        have hyb : ((y : Int) != 0) = true := by rw [bne_iff_ne]; omega
        clear hw q7 h7 L6 bo6 o7 bo7 hF6
        go_wp2_with fail
        refine (lread_any F7 g sz _ _ _ L7.1 hm5 (by simp)).mono ?_
        rintro e w8 ⟨l', r', A8, c8, hp', rfl, bo8, h8⟩
        obtain ⟨rfl, rfl⟩ := HG.out.parts.same hp'
        have L8 := L7.below h8
        have hs8 := hs7.next h8
        have hd8 : decide ((frms acc).length < (readL (frms acc) []).length) = false := decide_eq_false (by show ¬ _ < (frms acc).length; omega)
        rw [hd8]
        clear hd8 hp' h8 L7 hs7
        have hr8 := bo8.rd
        have ha4 : acc.length ≤ 9223372036854775807 := by have := HG.out.2; omega
        go_wp2_with fail
        refine (Frame.rsame_eq _ _ _ _ _ _ _ _ _ _ hr8 hs8 ha4 (fun x hx => by have := HG.out.1 x hx; omega)).mono ?_
        rintro e w9 ⟨rfl, m9, rfl⟩
        go_wp2_with fail
        go_ret
        exact ⟨rfl, below_drewN L8.2.2 _⟩
      · obtain ⟨rfl, h7⟩ := q7.at_ hw
        obtain ⟨F7, L7, o7, _⟩ := L6.op h7
        have hm7 : (frms m).length + mass [] ≤ 500000000000 := by have := hgm.2; simp [mass]; omega
        have HGM := Lib.hid hgm
        clear hw q7 h7 L6 bo6 o7 hF6 hgm
        go_wp2_with fail
        refine (lread_any F7 g sz _ _ _ L7.1 hm7 (by simp)).mono ?_
        rintro e w8 ⟨l', r', A8, c8, hp', rfl, bo8, h8⟩
        obtain ⟨rfl, rfl⟩ := HGM.out.parts.same hp'
        have L8 := L7.below h8
        have hs8 := hm0.below L8.2.2
        have hd8 : decide ((frms m).length < (readL (frms m) []).length) = false := decide_eq_false (by show ¬ _ < (frms m).length; omega)
        rw [hd8]
        clear hd8 hp' h8 L7
        have hr8 := bo8.rd
        go_wp2_with fail
        refine (Frame.rsame_eq _ _ _ _ _ _ _ _ _ _ hr8 hs8 (by omega) (fun x hx => by have := HGM.out.1 x hx; omega)).mono ?_
        rintro e w9 ⟨rfl, m9, rfl⟩
        have L9 := L8.below (below_drewN (Below.refl _ _) m9)
        generalize w8.drewN m9 = w9 at *
        go_wp2_with fail
        refine (waiting_any F7 g sz _ _ _ L9.1 (by simp [mass]) (by simp)).mono ?_
        rintro e w10 ⟨rfl, h10⟩
        have L10 := L9.below h10
        go_wp2_with fail
        go_ret
        exact ⟨rfl, L10.2.2⟩
set_option maxRecDepth 100000 in
theorem lifted (os : Os) (started : os.Started) (H : Type) (enc : TypeId × Value → H) :
    ReturnsInHanded {} Try.checked os 10 .any (Rows.logRewritesSpec.pre6 enc Try.prog Try.f10 Rows.logRewritesRow.domain false) (Rows.logRewritesSpec.post enc Try.prog Try.f10 false true false false) := by
  refine returnsInHanded_of_change (C := Try.checked) own started (by kernel_rfl) Try.func10
    (ChangeSpec.witness6 (enc := enc) (C := Try.checked) false ⟨#[], #[.int .i64 0, .slice none 0 0, .slice none 0 0], []⟩ 8 (by kernel_rfl) (by kernel_rfl) (by kernel_rfl) (by kernel_rfl)) ?_
  intro W base args ds gs before hval0 hW hcnd _
  have hval : ∀ (j : Nat) t v, Try.f10.params[j]? = some t → args[j]? = some v → Value.okWide Try.prog W .any base t v := hval0
  have hW' := hW
  obtain ⟨p, q, hA0, hV, rfl, hfz, hnd⟩ := hW
  have hA : DataW.TrodAll enc Try.prog W 0 (fun _ => true) true Try.f10.params.toList args.toList ds p := hA0
  rw [Try.params10] at hA hval
  obtain ⟨v0, vs0, d0, ds0, p0, q0, hargs, rfl, rfl, h0, r0⟩ := trodAll_cons hA
  obtain ⟨v1, vs1, d1, ds1, p1, q1, rfl, rfl, rfl, h1, r1⟩ := trodAll_cons r0
  obtain ⟨v2, vs2, d2, ds2, p2, q2, rfl, rfl, rfl, h2, r2⟩ := trodAll_cons r1
  obtain ⟨rfl, rfl, rfl⟩ := trodAll_nil r2
  obtain rfl : args = #[v0, v1, v2] := by cases args; simp_all
  obtain ⟨rfl, rfl⟩ := trodVars_none hV
  have lt0 : ∀ x ∈ p0, x.block < W.heap.size := by obtain ⟨m, hm⟩ := h0; exact DataW.trod_lt m _ _ _ hm
  have k0 := h0
  have lt1 : ∀ x ∈ p1, x.block < W.heap.size := by obtain ⟨m, hm⟩ := h1; exact DataW.trod_lt m _ _ _ hm
  have k1 := h1
  have lt2 : ∀ x ∈ p2, x.block < W.heap.size := by obtain ⟨m, hm⟩ := h2; exact DataW.trod_lt m _ _ _ hm
  have k2 := h2
  obtain ⟨x0, rfl, rfl, rfl, wf0⟩ := open_int Try.underlying3 (hval 0 3 v0 rfl rfl) h0
  have hb0 : -9223372036854775808 ≤ x0 ∧ x0 ≤ 9223372036854775807 := by
    have hmin : IntKind.i64.min = -9223372036854775808 := rfl
    have hmax : IntKind.i64.max = 9223372036854775807 := rfl
    simp only [Lit.wf, Bool.and_eq_true, decide_eq_true_eq] at wf0
    omega
  obtain ⟨a1, n1, c1, l1, rfl, w1, p1, m1⟩ := open_rows (hval 1 38 v1 rfl rfl) h1
  obtain ⟨a2, n2, c2, l2, rfl, w2, p2, m2⟩ := open_rows (hval 2 38 v2 rfl rfl) h2
  clear hA0 hval0
  refine (walk x0 a1 n1 c1 l1 a2 n2 c2 l2 W hb0.1 hb0.2 w1 w2).mono fun e W' ⟨he, bel⟩ => ?_
  subst he
  exact ⟨_, rfl, _, _, _, [], _, [], hW', trodAll_mk1 (shut_bool Try.underlying4 _), (trodAll_cons_mk (Below.trod laidOut (by kernel_rfl) (of_decide_eq_true (by kernel_rfl)) k0 bel lt0) (trodAll_cons_mk (Below.trod laidOut (by kernel_rfl) (of_decide_eq_true (by kernel_rfl)) k1 bel lt1) (trodAll_cons_mk (Below.trod laidOut (by kernel_rfl) (of_decide_eq_true (by kernel_rfl)) k2 bel lt2) trodAll_mk0))), rfl, bel.frame _, fun h => by cases h⟩

theorem proved : Rows.LogRewritesSaid :=
  OpenClaim.holds_of_wide 10 Try.f10 rfl rfl rfl rfl rfl rfl rfl ⟨rfl, rfl, rfl, rfl, rfl⟩ rfl rfl rfl rfl rfl (by kernel_rfl) Try.func10 (by kernel_rfl)
    (of_decide_eq_true (by kernel_rfl)) (by unfold Func.isWrapper; first | (rw [if_pos (by decide +kernel)]; kernel_rfl) | (rw [if_neg (by decide +kernel)]; exact ⟨rfl, rfl⟩))
    (fun os started H enc _ => lifted os started H enc)
#print axioms proved
end Go.Proofs.Ytbkcdnjpakicmaa.LogRewrites

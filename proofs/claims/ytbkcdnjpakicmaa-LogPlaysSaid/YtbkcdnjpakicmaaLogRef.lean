/- The walks of the document's log: Read, Write, Mend, Rewrite. -/
import Derived.Test.YtbkcdnjpakicmaaLogMath
import Derived.Test.YtbkcdnjpakicmaaFrameRAll
import Derived.Test.YtbkcdnjpakicmaaFrameRef
import Derived.Test.YtbkcdnjpakicmaaDiskBoth
namespace Go.Proofs.Ytbkcdnjpakicmaa
open Go.RowKit
open Disk
namespace Log
open _root_.Go.Proofs.Ytbkcdnjpakicmaa.Frame (frm frms frms_nil frms_cons frms_snoc frms_append frm_length frm_pos Parts AllF)
def RLogEnd (w : World) (F : Nat → Prop) (g size : Nat) (r : Res) (e : Ending) (w' : World) : Prop := e = .returned (.int .i64 (r.1 : Nat)) ∧ RefOp w F g size r.2.1 (exp r.2.2) w'
theorem rlread_any (F : Nat → Prop) (g size : Nat) (lasts : List UInt8) (ws : List W) (w : World) (hD : RefAt w F g size lasts (exp ws)) (hm : lasts.length + mass ws ≤ 500000000000) :
    Calls Try.prog 41 #[.pointer (some ⟨g, 0, none⟩)] w (ReadL w (readL lasts ws)) := by
  have hrl : (readL lasts ws).length ≤ 500000000000 := Nat.le_trans (after_len _ _ _) hm
  go_enter Try.func41, Try.ntmps41
  go_wp2_with fail
  refine (rread_any F g size lasts (exp ws) w hD (by rw [exp_mass]; omega)).mono ?_
  rintro e w1 ⟨A, n, c, rfl, o1, h1⟩
  rw [after_all] at o1
  have hle := ownsRow_le o1.2
  have hrd := o1.rd
  have hn := o1.1
  obtain ⟨b, hb⟩ : ∃ b, b = readL lasts ws := ⟨_, rfl⟩
  rw [← hb] at hn hrl hrd
  have HBQ := Lib.hid hb
  have HN := Lib.hid hn
  have hnl : n ≤ 500000000000 := by omega
  clear hb o1 hn
  go_wp2_with fail
  refine (Frame.rall_any A n c b _ w1 hrd (Nat.le_refl _) (by omega) hle.1 hle.2).mono ?_
  rintro e w2 ⟨l, r, A2, c2, hp, rfl, hbo, h2⟩
  obtain ⟨M, hM⟩ : ∃ M, M = (frms l).length := ⟨_, rfl⟩
  rw [← hM]
  have HM := Lib.hid hM
  have HP := Lib.hid hp
  clear hM hp
  go_wp2_with fail
  go_ret2
  rw [← HBQ.out]
  refine ⟨l, r, A2, c2, HP.out, ?_, hbo.mono h1.size, h1.trans (h2.mono h1.size)⟩
  rw [← HM.out, ← HN.out]
  first | rfl | (simp; done)
set_option maxRecDepth 100000 in
theorem rlwrite_any (A : Option Addr) (n c B : Nat) (bs : List UInt8) (F : Nat → Prop) (g size : Nat) (lasts : List UInt8) (ws : List W) (w : World) (hD : RefAt w F g size lasts (exp ws)) (hm : lasts.length + mass ws ≤ 500000000000) (hp : pend ws ≤ 500000000000) (hs : size ≤ 16384)
    (hb : RdB w B A n bs) (hB : B ≤ w.heap.size) :
    Calls Try.prog 33 #[.pointer (some ⟨g, 0, none⟩), .slice A n c] w (RLogEnd w F g size (writeM size lasts ws bs)) := by
  obtain rfl := hb.1
  by_cases h4 : bs.length ≤ 4096
  · go_enter Try.func33, Try.ntmps33
    go_wp2_with fail
    refine (Frame.rput_ok _ _ _ bs _ _ hb hB h4).mono ?_
    rintro e w1 ⟨A1, n1, c1, rfl, o1, h1⟩
    obtain rfl := o1.1
    have hD1 := hD.below h1
    have hF1 : ∀ k, F k → k < w.heap.size := hD.lt
    by_cases hroom : (readL lasts ws).length + (frm bs).length ≤ size
    · have hw : writeM size lasts ws bs = (0, readL lasts ws ++ frm bs, []) := by
        unfold writeM
        rw [if_neg (by omega), if_pos hroom]
      have HW := Lib.hid hw
      clear hw
      have hbw : ∀ w', Only F w1 w' → ∃ B, RdB w' B A1 (frm bs).length (frm bs) := fun w' ho => ⟨_, (o1.only ho hF1).rd⟩
      have HBW := Lib.hid hbw
      clear hbw
      go_wp2_with fail
      refine (rappend_gen _ _ _ (frm bs) F g size lasts (exp ws) _ hD1 (by rw [exp_mass]; omega) (by rw [exp_length]; omega) HBW.out hs (by rw [after_all]; exact hroom)).mono ?_
      rintro e w2 ⟨rfl, F2, d1, d2, d3⟩
      rw [← exp_app] at d1
      go_wp2_with fail
      refine (rsync_any F2 g size _ _ _ d1 (by rw [exp_mass, mass_append]; simp [mass]; omega) (by rw [exp_length, pend_append]; simp [pend, units]; omega)).mono ?_
      rintro e w3 ⟨rfl, d4⟩
      rw [after_all, read_app] at d4
      have d5 := RefOp.of_below h1 (RefOp.trans d2 d3 d4)
      have HD := Lib.hid d5
      clear d5 d4 d3 d2 d1
      go_wp2_with fail
      go_ret
      rw [HW.out]
      exact ⟨rfl, HD.out⟩
    · have hw : writeM size lasts ws bs = (7, lasts, ws) := by
        unfold writeM
        rw [if_neg (by omega), if_neg hroom]
      have HW := Lib.hid hw
      have hfl := frm_length bs
      have hve := Vint.enc_length bs.length
      clear hw
      go_wp2_with fail
      refine (rappend_full _ _ _ F g size lasts (exp ws) _ hD1 (by rw [exp_mass]; omega) (by omega) (by rw [after_all]; omega)).mono ?_
      rintro e w2 ⟨rfl, h2⟩
      have h12 := h1.trans (h2.mono h1.size)
      clear hfl hve
      go_wp2_with fail
      go_ret
      rw [HW.out]
      exact ⟨rfl, RefOp.refl hD h12⟩
  · have hw : writeM size lasts ws bs = (6, lasts, ws) := by
      unfold writeM
      rw [if_pos (by omega)]
    have HW := Lib.hid hw
    clear hw
    go_enter Try.func33, Try.ntmps33
    go_wp2_with fail
    refine (Frame.rput_long _ _ _ _ (by omega)).mono ?_
    rintro e w1 ⟨rfl, rfl⟩
    go_wp2_with fail
    go_ret
    rw [HW.out]
    exact ⟨rfl, RefOp.refl hD (Below.refl _ _)⟩
/-- What the document's Mend leaves. -/
def RMendEnd (w : World) (F : Nat → Prop) (g size : Nat) (b : List UInt8) (ws : List W) (e : Ending) (w' : World) : Prop :=
  ∃ l r, Parts (readL b ws) l r ∧ e = .returned (.tuple #[]) ∧ RefOp w F g size (mendM b ws l).2.1 (exp (mendM b ws l).2.2) w'
set_option maxRecDepth 100000 in
theorem rlmend_any (F : Nat → Prop) (g size : Nat) (lasts : List UInt8) (ws : List W) (w : World) (hD : RefAt w F g size lasts (exp ws)) (hm : lasts.length + mass ws ≤ 500000000000) (hp : pend ws ≤ 500000000000) (hs : size ≤ 16384) (hfit : (readL lasts ws).length ≤ size) :
    Calls Try.prog 34 #[.pointer (some ⟨g, 0, none⟩)] w (RMendEnd w F g size lasts ws) := by
  go_enter Try.func34, Try.ntmps34
  go_wp2_with fail
  refine (rread_any F g size lasts (exp ws) w hD (by rw [exp_mass]; omega)).mono ?_
  rintro e w1 ⟨A, n, c, rfl, o1, h1⟩
  rw [after_all] at o1
  have hle := ownsRow_le o1.2
  have hrd := o1.rd
  have hn := o1.1
  have HN := Lib.hid hn
  have hnl : n ≤ size := by omega
  clear hn
  go_wp2_with fail
  refine (Frame.rall_any A n c (readL lasts ws) _ w1 hrd (Nat.le_refl _) (by omega) hle.1 hle.2).mono ?_
  rintro e w2 ⟨l, r, A2, c2, hp', rfl, hbo, h2⟩
  have h12 := h1.trans (h2.mono h1.size)
  have hlen : (frms l).length ≤ n := by rw [HN.out, hp'.1, List.length_append]; omega
  have htake : (readL lasts ws).take (frms l).length = frms l := by rw [hp'.1, List.take_left]
  have hD2 := hD.below h12
  have hr2 := ((o1.below h2 (Nat.le_refl _)).rd).take (k := (frms l).length) hlen
  rw [htake] at hr2
  have HP := Lib.hid hp'
  obtain ⟨M, hM⟩ : ∃ M, M = (frms l).length := ⟨_, rfl⟩
  rw [← hM] at hlen hr2 ⊢
  have HM := Lib.hid hM
  have hMc : M ≤ c := by omega
  clear hM hp' htake o1 hrd
  by_cases htorn : M < n
  · have hw : mendM lasts ws l = (0, frms l, []) := by unfold mendM; rw [if_pos (by rw [← HM.out, ← HN.out]; exact htorn)]
    have HW := Lib.hid hw
    have hdt : decide (M < n) = true := decide_eq_true htorn
    clear hw
    go_wp2_with fail
    refine (rswap_any _ _ _ _ (frms l) F g size lasts (exp ws) _ hD2 (by rw [exp_length]; omega) hr2 (by omega) hs).mono ?_
    rintro e w3 ⟨rfl, F2, d1, d2, d3⟩
    rw [← exp_swap] at d1
    have hfm : (frms l).length ≤ 16384 := by rw [← HM.out]; omega
    go_wp2_with fail
    refine (rsync_any F2 g size _ _ _ d1 (by rw [exp_mass, mass_append]; simp [mass]; omega) (by rw [exp_length, pend_append]; simp [pend, units]; omega)).mono ?_
    rintro e w4 ⟨rfl, d4⟩
    rw [after_all, read_swap] at d4
    have d5 := RefOp.of_below h12 (RefOp.trans d2 d3 d4)
    have HD := Lib.hid d5
    clear d5 d4 d3 d2 d1
    go_wp2_with fail
    go_end0
    refine ⟨l, r, HP.out, rfl, ?_⟩
    rw [HW.out]
    exact HD.out
  · have hw : mendM lasts ws l = (0, lasts, ws) := by unfold mendM; rw [if_neg (by rw [← HM.out, ← HN.out]; exact htorn)]
    have HW := Lib.hid hw
    have hdt : decide (M < n) = false := decide_eq_false htorn
    clear hw
    go_wp2_with fail
    go_end0
    refine ⟨l, r, HP.out, rfl, ?_⟩
    rw [HW.out]
    exact RefOp.refl hD h12
set_option maxRecDepth 100000 in
set_option maxHeartbeats 400000 in
theorem rlrewrite_any (A : Option Addr) (n c B : Nat) (ls : List (List UInt8)) (F : Nat → Prop) (g size : Nat) (lasts : List UInt8) (ws : List W) (w : World) (hD : RefAt w F g size lasts (exp ws)) (hm : lasts.length + mass ws ≤ 500000000000) (hp : pend ws ≤ 500000000000) (hs : size ≤ 16384)
    (hb : RdS w B A n ls) (hB : B ≤ w.heap.size) (hn : n ≤ 1000000) :
    Calls Try.prog 36 #[.pointer (some ⟨g, 0, none⟩), .slice A n c] w (RLogEnd w F g size (rewriteM size lasts ws ls)) := by
  obtain rfl := hb.len
  go_enter Try.func36, Try.ntmps36
  go_wp2_with fail
  go_loopw [5, 13] (fun v i wr => ∃ (k : Nat) (A' : Option Addr) (n' c' : Nat), k ≤ ls.length ∧ i = .int .i64 k ∧ v = .slice A' n' c' ∧ OwnB wr w.heap.size A' n' c' (frms (ls.take k)) ∧ (∀ x ∈ ls.take k, x.length ≤ 4096) ∧ Below w.heap.size w wr) (fun _ i _ => ls.length - (intOf i).toNat)
  case atStart => exact ⟨0, none, 0, 0, by omega, rfl, rfl, OwnB.nil _ _, by simp, Below.refl _ _⟩
  case round =>
    obtain ⟨k, A', n', c', hk, rfl, rfl, ho, hsm, hbel⟩ := hrel
    have hbd := frms_bound _ hsm
    have hnn := ho.1
    have htk : (ls.take k).length ≤ 1000000 := by rw [List.length_take]; omega
    have hn7 : n' ≤ 5000000000 := by omega
    clear hbd hnn htk
    have HS := Lib.hid hsm
    clear hsm
    by_cases hlt : k < ls.length
    · obtain ⟨a, D, m, d, rfl, hab, hcell, hrd, hmc, hcm⟩ := (hb.below (hbel.mono hB)).at_ hlt
      have hml := hrd.1
      obtain ⟨x, hx⟩ : ∃ x, x = ls[k] := ⟨_, rfl⟩
      rw [← hx] at hrd hml
      have HX := Lib.hid hx
      have HML := Lib.hid hml
      clear hx hml
      by_cases h3 : 4096 < m
      · have hno : ls.all (·.length ≤ 4096) = false := by
          rw [List.all_eq_false]
          exact ⟨ls[k], List.getElem_mem _, by rw [← HX.out]; simp; have := HML.out; omega⟩
        have hw : rewriteM size lasts ws ls = (6, lasts, ws) := by
          unfold rewriteM
          rw [if_neg (by rw [hno]; simp)]
        have HW := Lib.hid hw
        clear hno hw
        go_wp2_with fail
        refine (Frame.rput_long _ _ _ _ h3).mono ?_
        rintro e w2 ⟨rfl, rfl⟩
        go_wp2_with fail
        go_ret
        rw [HW.out]
        exact ⟨rfl, RefOp.refl hD hbel⟩
      · go_wp2_with fail
        refine (Frame.rput_ok _ _ _ x _ _ hrd (Nat.le_trans hB hbel.size) (by omega)).mono ?_
        rintro e w2 ⟨A2, n2, c2, rfl, ho2, h2⟩
        have hb2 := hbel.trans (h2.mono hbel.size)
        have hob2 := ho.below h2 (Nat.le_refl _)
        have hn2 : n2 ≤ 5000 := by
          have := ho2.1
          have := frm_length x
          have := Vint.enc_length x.length
          have := HML.out
          omega
        go_wp2_with (at_builtin; refine wpList_appB rfl (.tmp 25) (.tmp 26) rfl rfl hob2 rfl ho2.rd ?hx0 hb2.size ?_)
        case hx0 => omega
        intro A3 c3 w3 ho3 hg3 _ hbl3
        have hb3 := hb2.trans hbl3
        go_wp2_with fail
        go_roundw
        case rel =>
          refine ⟨k + 1, A3, n' + n2, c3, by omega, by go_num, rfl, ?_, ?_, hb3⟩
          · rw [take_snoc ls hlt, frms_snoc, ← HX.out]
            exact ho3
          · intro y hy
            rw [take_snoc ls hlt, List.mem_append, List.mem_singleton] at hy
            rcases hy with hy | rfl
            · exact HS.out y hy
            · rw [← HX.out, ← HML.out]; omega
        case measure => simp [intOf]; omega
    · obtain rfl : k = ls.length := by omega
      rw [List.take_length] at ho
      have hyes : ls.all (·.length ≤ 4096) = true := by
        rw [List.all_eq_true]
        intro x hx
        have := HS.out x (by rw [List.take_length]; exact hx)
        simpa using this
      have hD1 := hD.below hbel
      obtain rfl := ho.1
      by_cases hroom : (frms ls).length ≤ size
      · have hw : rewriteM size lasts ws ls = (0, frms ls, []) := by
          unfold rewriteM
          rw [if_pos hyes, if_pos hroom]
        have HW := Lib.hid hw
        clear hw hyes
        go_wp2_with fail
        refine (rswap_any _ _ _ _ (frms ls) F g size lasts (exp ws) _ hD1 (by rw [exp_length]; omega) ho.rd hroom hs).mono ?_
        rintro e w3 ⟨rfl, F2, d1, d2, d3⟩
        rw [← exp_swap] at d1
        go_wp2_with fail
        refine (rsync_any F2 g size _ _ _ d1 (by rw [exp_mass, mass_append]; simp [mass]; omega) (by rw [exp_length, pend_append]; simp [pend, units]; omega)).mono ?_
        rintro e w4 ⟨rfl, d4⟩
        rw [after_all, read_swap] at d4
        have d5 := RefOp.of_below hbel (RefOp.trans d2 d3 d4)
        have HD := Lib.hid d5
        clear d5 d4 d3 d2 d1
        go_wp2_with fail
        go_ret
        rw [HW.out]
        exact ⟨rfl, HD.out⟩
      · have hw : rewriteM size lasts ws ls = (7, lasts, ws) := by
          unfold rewriteM
          rw [if_pos hyes, if_neg hroom]
        have HW := Lib.hid hw
        clear hw hyes
        go_wp2_with fail
        refine (rswap_full _ _ _ F g size lasts (exp ws) _ hD1 (by omega)).mono ?_
        rintro e w3 ⟨rfl, rfl⟩
        go_wp2_with fail
        go_ret
        rw [HW.out]
        exact ⟨rfl, RefOp.refl hD hbel⟩
end Log
end Go.Proofs.Ytbkcdnjpakicmaa

/- The walks of the document's All and Same of frames. -/
import Derived.Test.YtbkcdnjpakicmaaFrameRGet
import Derived.Test.YtbkcdnjpakicmaaFrameAll
import Derived.Test.YtbkcdnjpakicmaaSls
import Derived.Test.YtbkcdnjpakicmaaSame
namespace Go.Proofs.Ytbkcdnjpakicmaa
open Go.RowKit
namespace Frame
set_option maxRecDepth 100000 in
set_option maxHeartbeats 400000 in
theorem rall_any (A : Option Addr) (n c : Nat) (bs : List UInt8) (B : Nat) (w : World) (hb : RdB w B A n bs) (hB : B ≤ w.heap.size) (hl : n ≤ 1000000000000) (hc : n ≤ c) (hm : c ≤ maxLen) :
    Calls Try.prog 20 #[.slice A n c] w (AllF w bs) := by
  obtain rfl := hb.1
  go_enter Try.func20, Try.ntmps20
  go_wp2_with fail
  go_loopw [4, 5] (fun v q wr => ∃ (l : List (List UInt8)) (r : List UInt8) (A' : Option Addr) (c' : Nat) (D : Option Addr) (d : Nat), bs = frms l ++ r ∧ (∀ x ∈ l, x.length ≤ 4096) ∧ v = .slice A' l.length c' ∧ q = .slice D r.length d ∧ Bods wr w.heap.size A' l.length c' l ∧ RdB wr wr.heap.size D r.length r ∧ r.length ≤ d ∧ d ≤ maxLen ∧ Below w.heap.size w wr) (fun _ q _ => match q with | .slice _ k _ => k | _ => 0)
  case atStart => exact ⟨[], bs, none, 0, A, c, rfl, by simp, rfl, rfl, Bods.nil _ _, hb.size, hc, hm, Below.refl _ _⟩
  case round =>
    obtain ⟨l, r, A', c', D, d, hbs, hxl, rfl, rfl, hbo, hrd, hrc, hdm, hbel⟩ := hrel
    have hlen : (frms l).length + r.length = bs.length := by rw [hbs, List.length_append]
    obtain ⟨m, hmm⟩ : ∃ m, m = (frms l).length := ⟨_, rfl⟩
    rw [← hmm] at hlen
    have HM := Lib.hid hmm
    have HBS := Lib.hid hbs
    have hlw : l.length ≤ bs.length := by
      have : l.length ≤ (frms l).length := by
        clear hlen hxl hbo HM HBS hbs hmm
        induction l with
        | nil => simp
        | cons x l ih => rw [frms_cons, List.length_append, List.length_cons]; have := frm_pos x; omega
      omega
    clear hmm hbs
    obtain ⟨R, hR⟩ : ∃ R, R = r.length := ⟨_, rfl⟩
    rw [← hR] at hlen hrd hrc ⊢
    have HR := Lib.hid hR
    clear hR
    rcases hd : dec r with y | ⟨x, z⟩
    · have hy := dec_err hd
      have hy0 : ((y : Int) != 0) = true := by rw [bne_iff_ne]; omega
      have HD := Lib.hid hd
      clear hd hy
      have hw : IntKind.i64.wrap ((bs.length : Int) - (R : Int)) = (m : Int) := by rw [IntWalk.i64_in _ (by omega)]; omega
      go_wp2_with fail
      refine (rget_any _ _ _ r _ _ hrd (Nat.le_refl _) (by omega) hrc hdm).mono ?_
      rintro e w1 ⟨hb1, he⟩
      rw [HD.out] at he
      simp only at he
      subst he
      have hbo1 := hbo.below hb1 (Nat.le_refl _)
      have hbel1 := hbel.trans (hb1.mono hbel.size)
      go_wp2_with fail
      go_ret2
      exact ⟨l, r, A', c', ⟨HBS.out, hxl, y, HD.out⟩, by (show Ending.returned (.tuple #[.slice A' l.length c', .int .i64 (m : Nat)]) = _); rw [HM.out], hbo1, hbel1⟩
    · have HD := Lib.hid hd
      obtain ⟨hfx, hx4⟩ := dec_ok hd
      have hfl : (frm x).length + z.length = r.length := by rw [hfx, List.length_append]
      have hpos := frm_pos x
      rw [← HR.out] at hfl
      have HF := Lib.hid hfx
      clear hd hfx
      go_wp2_with fail
      refine (rget_any _ _ _ r _ _ hrd (Nat.le_refl _) (by omega) hrc hdm).mono ?_
      rintro e w1 ⟨hb1, he⟩
      rw [HD.out] at he
      simp only at he
      obtain ⟨A1, c1, A2, c2, rfl, ho1, ho2⟩ := he
      have hbo1 := hbo.below hb1 (Nat.le_refl _)
      have hbel1 := hbel.trans (hb1.mono hbel.size)
      have hs1 := hbel1.size
      go_wp2_with (at_builtin; refine wpList_appS2 rfl (.tmp 24) (.tmp 26) rfl rfl (hbo1.below ((Below.refl _ _).alloc (Nat.le_refl _) _) (Nat.le_refl _)) (e := (A1, x.length, c1)) rfl (Rd.made _ _ _ _) ((ho1.alloc _).mono hbel.size) (by omega) ?hz1 ?_)
      case hz1 => simp; omega
      intro A5 c5 w3 hbo5 hb5 hkeep
      have ho3 := hkeep _ _ _ _ _ (ho2.alloc _)
      have hle := ownsRow_le ho3.2
      have hbel5 := (hbel1.alloc hs1 _).trans hb5
      go_wp2_with fail
      go_roundw
      case rel =>
        refine ⟨l ++ [x], z, A5, c5, A2, c2, ?_, ?_, ?_, rfl, ?_, ho3.rd, hle.1, hle.2, hbel5⟩
        · rw [frms_snoc, List.append_assoc, ← HF.out]
          exact HBS.out
        · intro y hy
          rw [List.mem_append, List.mem_singleton] at hy
          rcases hy with hy | rfl
          · exact hxl y hy
          · exact hx4
        · simp
        · simpa using hbo5
      case measure => simp; omega
theorem rdb_drewN {w : World} {B n : Nat} {A : Option Addr} {bs : List UInt8} (h : RdB w B A n bs) (k : Nat) : RdB (w.drewN k) B A n bs := h
/-- Two rows of bytes that are the same. -/
theorem rsame_eq (A1 A2 : Option Addr) (n1 c1 n2 c2 : Nat) (ls : List (List UInt8)) (B1 B2 : Nat) (w : World) (h1 : RdS w B1 A1 n1 ls) (h2 : RdS w B2 A2 n2 ls) (hl : n1 ≤ 9223372036854775807) (hx : ∀ x ∈ ls, x.length ≤ 9223372036854775807) :
    Calls Try.prog 21 #[.slice A1 n1 c1, .slice A2 n2 c2] w fun e w' => e = .returned (.bool true) ∧ ∃ m, w' = w.drewN m := by
  obtain rfl := h1.len
  obtain rfl := h2.len
  go_enter Try.func21, Try.ntmps21
  go_wp2_with fail
  go_loopw [13] (fun i wr => ∃ k m : Nat, k ≤ ls.length ∧ i = .int .i64 k ∧ wr = w.drewN m) (fun i _ => ls.length - (intOf i).toNat)
  case atStart => exact ⟨0, 0, by omega, rfl, rfl⟩
  case round =>
    obtain ⟨k, m, hk, rfl, hwr⟩ := hrel
    have g1 : RdS wr B1 A1 ls.length ls := by rw [hwr]; exact h1.keep fun _ _ => rfl
    have g2 : RdS wr B2 A2 ls.length ls := by rw [hwr]; exact h2.keep fun _ _ => rfl
    have HW := Lib.hid hwr
    clear hwr
    by_cases hlt : k < ls.length
    · obtain ⟨a1, D1, m1, d1, rfl, _, hc1, hr1, _, _⟩ := g1.at_ hlt
      obtain ⟨a2, D2, m2, d2, rfl, _, hc2, hr2, _, _⟩ := g2.at_ hlt
      have hxl : m1 ≤ 9223372036854775807 := by rw [hr1.1]; exact hx _ (List.getElem_mem _)
      obtain ⟨x, hx⟩ : ∃ x, x = ls[k] := ⟨_, rfl⟩
      rw [← hx] at hr1 hr2
      clear hx
      go_wp2_with fail
      go_quiet ((go_at_call 15; exact Calls.quiet_of (same_eq _ _ _ _ _ _ _ _ _ _ (rdb_drewN hr1 _) (rdb_drewN hr2 _) hxl)))
      go_wp2_with fail
      go_roundw
      case rel => exact ⟨k + 1, _, by omega, by go_num, by rw [HW.out, drewN2]⟩
      case measure => simp [intOf]; omega
    · go_wp2_with fail
      go_ret
      exact ⟨rfl, _, HW.out⟩
end Frame
end Go.Proofs.Ytbkcdnjpakicmaa

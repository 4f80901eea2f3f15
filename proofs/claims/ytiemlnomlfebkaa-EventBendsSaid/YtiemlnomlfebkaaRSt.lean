/- The document's reader: its Int and Fail, as the plain law has them. -/
import Derived.Test.YtiemlnomlfebkaaRRead
import Derived.Test.YtiemlnomlfebkaaVintRead
namespace Go.Proofs.Ytiemlnomlfebkaa
set_option linter.unusedVariables false
set_option linter.unusedSimpArgs false
open Go.RowKit
theorem intM_err {l : List UInt8} {e : Nat} (h : e ≠ 0) : Vint.intM l e = (0, l, e) := by unfold Vint.intM; rw [if_neg h]
theorem intM_small (l : List UInt8) (e : Nat) : (Vint.intM l e).2.2 ≠ 0 → (Vint.intM l e).1 = 0 := by
  unfold Vint.intM
  by_cases h : e = 0
  · rw [if_pos h]
    cases Vint.dec l with
    | error x => intro _; rfl
    | ok p => intro h; exact absurd rfl h
  · rw [if_neg h]; intro _; rfl
theorem intM_put {n : Nat} (h : n ≤ 1099511627776) (r : List UInt8) : Vint.intM (Vint.enc n ++ r) 0 = (n, r, 0) := by
  unfold Vint.intM
  rw [if_pos rfl, Vint.dec_enc (by unfold Vint.top; exact h)]
theorem intM_good {l : List UInt8} {e : Nat} (h : (Vint.intM l e).2.2 = 0) : e = 0 ∧ l = Vint.enc (Vint.intM l e).1 ++ (Vint.intM l e).2.1 ∧ (Vint.intM l e).1 ≤ 1099511627776 := by
  unfold Vint.intM at h ⊢
  by_cases he : e = 0
  · rw [if_pos he] at h ⊢
    cases hd : Vint.dec l with
    | error x =>
      rw [hd] at h
      have := Vint.dec_err hd
      simp only at h
      omega
    | ok p =>
      obtain ⟨n, r⟩ := p
      have := Vint.dec_ok hd
      exact ⟨he, this.1, this.2⟩
  · rw [if_neg he] at h
    exact absurd h he
/-- the document's reader: what is left of the bytes, how it stands -/
def RSt (w : World) (g : Nat) (A : Option Addr) (n c : Nat) (bs r : List UInt8) (e : Nat) : Prop := ∃ at', at' ≤ n ∧ RRd w g A n c at' e ∧ bs.drop at' = r
def RIntM (w : World) (g : Nat) (A : Option Addr) (n c : Nat) (bs r : List UInt8) (e : Nat) (x : Ending) (w' : World) : Prop :=
  x = .returned (.int .i64 ((Vint.intM r e).1 : Nat)) ∧ w.grownBy w' (some g) ∧ RSt w' g A n c bs (Vint.intM r e).2.1 (Vint.intM r e).2.2
theorem rint_m (g : Nat) (A : Option Addr) (n c B : Nat) (bs r : List UInt8) (e : Nat) (w : World) (hR : RSt w g A n c bs r e) (hb : RdB w B A n bs) (hn : n ≤ 1000000000) :
    Calls Try.prog 61 #[.pointer (some ⟨g, 0, none⟩)] w (RIntM w g A n c bs r e) := by
  obtain ⟨at', ha, hR, rfl⟩ := hR
  by_cases he : e = 0
  · subst he
    refine (rint_any g A n c at' bs B w hR hb ha (by omega)).mono ?_
    rintro x w' ⟨hg, h⟩
    unfold RIntM Vint.intM
    rw [if_pos rfl]
    cases hd : Vint.dec (bs.drop at') with
    | error y =>
      rw [hd] at h
      exact ⟨h.1, hg, at', ha, h.2, rfl⟩
    | ok p =>
      obtain ⟨m, r⟩ := p
      rw [hd] at h
      obtain ⟨h1, h2⟩ := h
      refine ⟨h1, hg, n - r.length, by omega, h2, ?_⟩
      have hl := hb.1
      have hdo := (Vint.dec_ok hd).1
      have hlen := congrArg List.length hdo
      rw [List.length_drop, List.length_append] at hlen
      rw [show n - r.length = at' + (Vint.enc m).length by omega, ← List.drop_drop, hdo, List.drop_left]
  · refine (rint_fail g A n c at' e w hR he).mono ?_
    rintro x w' ⟨rfl, rfl⟩
    unfold RIntM
    rw [intM_err he]
    exact ⟨rfl, World.grownBy.refl _ _, at', ha, hR, rfl⟩
theorem rfail_m (g x : Nat) (A : Option Addr) (n c : Nat) (bs r : List UInt8) (e : Nat) (w : World) (hR : RSt w g A n c bs r e) :
    Calls Try.prog 62 #[.pointer (some ⟨g, 0, none⟩), .int .i64 (x : Nat)] w fun k w' => k = .returned (.tuple #[]) ∧ w.grownBy w' (some g) ∧ RSt w' g A n c bs r (if e = 0 then x else e) := by
  obtain ⟨at', ha, hR, hd⟩ := hR
  have c2 : w.cell? ⟨g, 2, none⟩ = some (.int .i64 (e : Nat)) := hR.cell 2
  have f2 := hR.free 2
  have HD := Lib.hid hd
  by_cases he : e = 0
  · subst he
    rw [if_pos rfl]
    have k2 := Blk.set_ hR 2 (.int .i64 (x : Nat))
    have g2 := only_set (i := 2) (World.grownBy.refl w (some g)) (.int .i64 (x : Nat))
    have K2 := Lib.hid k2
    have G2 := Lib.hid g2
    clear k2 g2 hR hd
    go_enter Try.func62, Try.ntmps62
    go_wp2_with fail
    go_end0
    exact ⟨rfl, G2.out, at', ha, K2.out, HD.out⟩
  · rw [if_neg he]
    have hq : (((e : Nat) : Int) == 0) = false := by rw [beq_eq_false_iff_ne]; omega
    clear hd
    go_enter Try.func62, Try.ntmps62
    go_wp2_with fail
    go_end0
    exact ⟨rfl, World.grownBy.refl _ _, at', ha, hR, HD.out⟩
theorem RSt.map {w w' : World} {g : Nat} {A : Option Addr} {n c : Nat} {bs r : List UInt8} {e : Nat} (h : RSt w g A n c bs r e) (f : ∀ t cs, Blk w g t cs → Blk w' g t cs) : RSt w' g A n c bs r e := by
  obtain ⟨at', h1, h2, h3⟩ := h
  exact ⟨at', h1, f _ _ h2, h3⟩
theorem grown_on {a w w' : World} {b : Nat} {row : Option Nat} (h0 : a.grownBy w row) (h : w.grownBy w' (some b)) (hb : a.heap.size ≤ b) : a.grownBy w' row :=
  ⟨h.os.trans h0.os, h.tape.trans h0.tape, h.output.trans h0.output, Nat.le_trans h0.size h.size, fun k hk hne => (h.block k (Nat.lt_of_lt_of_le hk h0.size) (fun e => by injection e; omega)).trans (h0.block k hk hne)⟩
end Go.Proofs.Ytiemlnomlfebkaa

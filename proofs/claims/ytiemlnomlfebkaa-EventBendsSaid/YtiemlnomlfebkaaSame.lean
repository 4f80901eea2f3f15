/- The walk of the reference's Same. -/
import Derived.Test.YtiemlnomlfebkaaBytes
namespace Go.Proofs.Ytiemlnomlfebkaa
set_option linter.unusedVariables false
set_option linter.unusedSimpArgs false
open Go.RowKit

/-- Two lists of bytes that are the same. -/
theorem same_eq (A1 A2 : Option Addr) (n1 c1 n2 c2 : Nat) (bs : List UInt8) (B1 B2 : Nat) (w : World) (h1 : RdB w B1 A1 n1 bs) (h2 : RdB w B2 A2 n2 bs) (hl : n1 ≤ 9223372036854775807) :
    Calls Try.prog 20 #[.slice A1 n1 c1, .slice A2 n2 c2] w fun e w' => e = .returned (.bool true) ∧ ∃ m, w' = w.drewN m := by
  obtain rfl := h1.1
  obtain rfl := h2.1
  go_enter Try.func20, Try.ntmps20
  go_wp2_with fail
  go_loopw [13] (fun i wr => ∃ k m : Nat, k ≤ bs.length ∧ i = .int .i64 k ∧ wr = w.drewN m) (fun i _ => bs.length - (intOf i).toNat)
  case atStart => exact ⟨0, 0, by omega, rfl, rfl⟩
  case round =>
    obtain ⟨k, m, hk, rfl, rfl⟩ := hrel
    by_cases hlt : k < bs.length
    · obtain ⟨a1, rfl, _, hc1⟩ := h1.at_ hlt
      obtain ⟨a2, rfl, _, hc2⟩ := h2.at_ hlt
      obtain ⟨x, hx⟩ : ∃ x, x = bs[k] := ⟨_, rfl⟩
      rw [← hx] at hc1 hc2
      clear hx
      have hq : ((x.toNat : Int) != (x.toNat : Int)) = false := by simp
      go_wp2_with fail
      go_quiet (fail)
      go_wp2_with fail
      go_roundw
      case rel => exact ⟨k + 1, _, by omega, by go_num, rfl⟩
      case measure => simp [intOf]; omega
    · go_wp2_with fail
      go_ret
      exact ⟨rfl, _, rfl⟩

end Go.Proofs.Ytiemlnomlfebkaa

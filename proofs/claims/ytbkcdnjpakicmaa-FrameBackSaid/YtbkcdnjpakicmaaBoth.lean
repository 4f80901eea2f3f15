/- Rows of the call's own of two types: what grows the one leaves the other. -/
import Derived.Test.YtbkcdnjpakicmaaBytes
import Derived.Test.YtbkcdnjpakicmaaInts
namespace Go.Proofs.Ytbkcdnjpakicmaa
open Go.RowKit
theorem rows_apart {w : World} {b1 b2 e1 e2 s1 s2 : Nat} {A1 A2 : Option Addr} {n1 c1 n2 c2 : Nat} {x1 x2 : List Value} (h1 : w.ownsRow b1 e1 s1 (.slice A1 n1 c1) n1 x1) (h2 : w.ownsRow b2 e2 s2 (.slice A2 n2 c2) n2 x2) (hne : e1 ≠ e2) : A1.map (·.block) = none ∨ A1.map (·.block) ≠ A2.map (·.block) := by
  cases A1 with
  | none => exact .inl rfl
  | some p =>
    refine .inr fun e => ?_
    obtain ⟨u1, q1⟩ := ownsRow_type h1 (k := p.block) rfl
    obtain ⟨u2, q2⟩ := ownsRow_type h2 (k := p.block) e.symm
    rw [q1] at q2
    injection q2 with q2
    injection q2 with _ q2
    exact hne q2
section
variable {w w' : World} {b1 b2 n1 c1 n2 c2 : Nat} {A1 A2 : Option Addr} {bs : List UInt8} {is : List Int}
theorem OwnB.grownI (h : OwnB w b1 A1 n1 c1 bs) (hr : OwnI w b2 A2 n2 c2 is) (hg : w.grownBy w' (A2.map (·.block))) : OwnB w' b1 A1 n1 c1 bs := h.grown hg (rows_apart h.2 hr.2 (by decide))
theorem OwnI.grownB (h : OwnI w b1 A1 n1 c1 is) (hr : OwnB w b2 A2 n2 c2 bs) (hg : w.grownBy w' (A2.map (·.block))) : OwnI w' b1 A1 n1 c1 is := h.grown hg (rows_apart h.2 hr.2 (by decide))
end
end Go.Proofs.Ytbkcdnjpakicmaa

/-
  No cell of these rows narrows 'for every input' (looked for: loops, veiled, ifaces, maps, wideKeys, modest, calm, conditions, laid).
  DERIVED. THE GIVEN ROWS OF THIS SEAT. 6 by the template 'for every input the law returns true; each argument reads behind the call as it read before'; 0 by the template 'total and deterministic' (their statements: YtiemlnomlfebkaaTotals.lean).
  GIVEN WITH THE SEED: the statements are not yours to turn. If you find one false, say at which input.
  Laid BY PROGRAM, IN A SANDBOX (cutbox-rows.mjs): the forced cells as the released guide's own fill.sh prints them over the translation 0e8c32abda7a7ef0… (all of the seat's roots in one cut). By AI agents, Wed Nov 11 2026. No macro, syntax, notation, axiom, sorry.
-/
import Derived.Test.YtiemlnomlfebkaaChecked
import GoSem.Claim
import GoSem.ClaimJoined
import GoSem.ClaimMapViews
import Derived.JoinedTies
import Derived.KernelRfl
namespace Go.Proofs.Ytiemlnomlfebkaa
/- THE CELL 'sum', in the pinned program and in every row, IS THE sha256 OF THE DUMP (.gsa) THAT YtiemlnomlfebkaaProg.lean LOADS. Nothing in Lean hashes anything: it is a label: what it is worth is what the hold of that sum in a sandbox is worth. -/
noncomputable def Try.pinned : Pinned := { name := "ytiemlnomlfebkaa", sum := "0e8c32abda7a7ef0998d727169de15fc68b76279736015f5c5fb20a956411b31", checked := Try.checked }
namespace Rows
def none {H : Type} : Left H := { results := [], args := [] }

/-- 'murmurlaw07.EventRight': WHATEVER THE INPUT: true; the input reads as it did. -/
def eventRightSpec : ChangeSpec := { name := "eventRight", fn := fun _ => fun
  | [d1, d2] => { results := [.lit (.bool true)], args := [d1, d2] }
  | _ => none }
def eventRightRow : OpenClaim := { program := "ytiemlnomlfebkaa", sum := "0e8c32abda7a7ef0998d727169de15fc68b76279736015f5c5fb20a956411b31", func := "murmur/murmurlaw07.EventRight", spec := "eventRight", unfollowed := true, recurses := true, apart := false }
def EventRightSaid : Prop := eventRightRow.holds Try.pinned (OpenSpec.ofChange eventRightSpec)

/-- ITS FALSE NEIGHBOUR: 'it returns false'. Refute it at one input. -/
def eventRightWrong : ChangeSpec := { name := "eventRight", fn := fun _ => fun
  | [d1, d2] => { results := [.lit (.bool false)], args := [d1, d2] }
  | _ => none }
def EventRightWrongFalsely : Prop := eventRightRow.holds Try.pinned (OpenSpec.ofChange eventRightWrong)

/-- 'murmurlaw07.EventOrder': WHATEVER THE INPUT: true; the input reads as it did. -/
def eventOrderSpec : ChangeSpec := { name := "eventOrder", fn := fun _ => fun
  | [d1, d2, d3] => { results := [.lit (.bool true)], args := [d1, d2, d3] }
  | _ => none }
def eventOrderRow : OpenClaim := { program := "ytiemlnomlfebkaa", sum := "0e8c32abda7a7ef0998d727169de15fc68b76279736015f5c5fb20a956411b31", func := "murmur/murmurlaw07.EventOrder", spec := "eventOrder", unfollowed := true, recurses := true, apart := false }
def EventOrderSaid : Prop := eventOrderRow.holds Try.pinned (OpenSpec.ofChange eventOrderSpec)

/-- ITS FALSE NEIGHBOUR: 'it returns false'. Refute it at one input. -/
def eventOrderWrong : ChangeSpec := { name := "eventOrder", fn := fun _ => fun
  | [d1, d2, d3] => { results := [.lit (.bool false)], args := [d1, d2, d3] }
  | _ => none }
def EventOrderWrongFalsely : Prop := eventOrderRow.holds Try.pinned (OpenSpec.ofChange eventOrderWrong)

/-- 'murmurlaw07.EventPuts': WHATEVER THE INPUT: true; the input reads as it did. -/
def eventPutsSpec : ChangeSpec := { name := "eventPuts", fn := fun _ => fun
  | [d] => { results := [.lit (.bool true)], args := [d] }
  | _ => none }
def eventPutsRow : OpenClaim := { program := "ytiemlnomlfebkaa", sum := "0e8c32abda7a7ef0998d727169de15fc68b76279736015f5c5fb20a956411b31", func := "murmur/murmurlaw07.EventPuts", spec := "eventPuts", unfollowed := true, recurses := true, apart := false }
def EventPutsSaid : Prop := eventPutsRow.holds Try.pinned (OpenSpec.ofChange eventPutsSpec)

/-- ITS FALSE NEIGHBOUR: 'it returns false'. Refute it at one input. -/
def eventPutsWrong : ChangeSpec := { name := "eventPuts", fn := fun _ => fun
  | [d] => { results := [.lit (.bool false)], args := [d] }
  | _ => none }
def EventPutsWrongFalsely : Prop := eventPutsRow.holds Try.pinned (OpenSpec.ofChange eventPutsWrong)

/-- 'murmurlaw07.EventBends': WHATEVER THE INPUT: true; the input reads as it did. -/
def eventBendsSpec : ChangeSpec := { name := "eventBends", fn := fun _ => fun
  | [d] => { results := [.lit (.bool true)], args := [d] }
  | _ => none }
def eventBendsRow : OpenClaim := { program := "ytiemlnomlfebkaa", sum := "0e8c32abda7a7ef0998d727169de15fc68b76279736015f5c5fb20a956411b31", func := "murmur/murmurlaw07.EventBends", spec := "eventBends", unfollowed := true, recurses := true, apart := false }
def EventBendsSaid : Prop := eventBendsRow.holds Try.pinned (OpenSpec.ofChange eventBendsSpec)

/-- ITS FALSE NEIGHBOUR: 'it returns false'. Refute it at one input. -/
def eventBendsWrong : ChangeSpec := { name := "eventBends", fn := fun _ => fun
  | [d] => { results := [.lit (.bool false)], args := [d] }
  | _ => none }
def EventBendsWrongFalsely : Prop := eventBendsRow.holds Try.pinned (OpenSpec.ofChange eventBendsWrong)

/-- 'murmurlaw07.EventGets': WHATEVER THE INPUT: true; the input reads as it did. -/
def eventGetsSpec : ChangeSpec := { name := "eventGets", fn := fun _ => fun
  | [d] => { results := [.lit (.bool true)], args := [d] }
  | _ => none }
def eventGetsRow : OpenClaim := { program := "ytiemlnomlfebkaa", sum := "0e8c32abda7a7ef0998d727169de15fc68b76279736015f5c5fb20a956411b31", func := "murmur/murmurlaw07.EventGets", spec := "eventGets", unfollowed := true, recurses := true, apart := false }
def EventGetsSaid : Prop := eventGetsRow.holds Try.pinned (OpenSpec.ofChange eventGetsSpec)

/-- ITS FALSE NEIGHBOUR: 'it returns false'. Refute it at one input. -/
def eventGetsWrong : ChangeSpec := { name := "eventGets", fn := fun _ => fun
  | [d] => { results := [.lit (.bool false)], args := [d] }
  | _ => none }
def EventGetsWrongFalsely : Prop := eventGetsRow.holds Try.pinned (OpenSpec.ofChange eventGetsWrong)

/-- 'murmurlaw07.EventBack': WHATEVER THE INPUT: true; the input reads as it did. -/
def eventBackSpec : ChangeSpec := { name := "eventBack", fn := fun _ => fun
  | [d1, d2] => { results := [.lit (.bool true)], args := [d1, d2] }
  | _ => none }
def eventBackRow : OpenClaim := { program := "ytiemlnomlfebkaa", sum := "0e8c32abda7a7ef0998d727169de15fc68b76279736015f5c5fb20a956411b31", func := "murmur/murmurlaw07.EventBack", spec := "eventBack", unfollowed := true, recurses := true, apart := false }
def EventBackSaid : Prop := eventBackRow.holds Try.pinned (OpenSpec.ofChange eventBackSpec)

/-- ITS FALSE NEIGHBOUR: 'it returns false'. Refute it at one input. -/
def eventBackWrong : ChangeSpec := { name := "eventBack", fn := fun _ => fun
  | [d1, d2] => { results := [.lit (.bool false)], args := [d1, d2] }
  | _ => none }
def EventBackWrongFalsely : Prop := eventBackRow.holds Try.pinned (OpenSpec.ofChange eventBackWrong)

/- THE SECOND FORM. 'bulk': how many values and letters a reading holds, each counted each time it is reached (what is shared counts as often as it is met; a slice's spare places count too). A statement '..UptoSaid' is the law's where the arguments, and the package variables that the reading takes, are together of bulk at most 1048576: NARROWER than '..Said'. Prove '..Said' where nothing that the law and all that it calls make is longer than what came in: it says more and counts as full. Else prove '..UptoSaid'. A law counts once. -/
mutual
def uptoBulk {H : Type} : DataW H → Nat
  | .lit (.string bytes) => bytes.length + 1
  | .lit _ => 1
  | .nil => 1
  | .ptr d => uptoBulk d + 1
  | .slice elems spare => uptoBulkAll elems + uptoBulkAll spare + 1
  | .agg parts => uptoBulkAll parts + 1
  | .iface _ d => uptoBulk d + 1
  | .map entries => uptoBulkEntries entries + 1
  | .held _ => 1
def uptoBulkAll {H : Type} : List (DataW H) → Nat
  | [] => 0
  | d :: r => uptoBulk d + uptoBulkAll r
def uptoBulkEntries {H : Type} : List (Lit × DataW H) → Nat
  | [] => 0
  | x :: r => uptoBulkEntry x + uptoBulkEntries r
def uptoBulkEntry {H : Type} : Lit × DataW H → Nat
  | (.string bytes, d) => bytes.length + uptoBulk d + 1
  | (_, d) => uptoBulk d + 1
 end
def uptoSmall : (H : Type) → List (DataW H) → Bool := fun _ ds => decide (uptoBulkAll ds ≤ 1048576)
def OpenSpec.upto (s : _root_.Go.ChangeSpec) : _root_.Go.OpenSpec := { _root_.Go.OpenSpec.ofChange s with cond := some uptoSmall }

/-- 'murmurlaw07.EventRight', WHERE WHAT IT READS IS OF BULK AT MOST 1048576: true; the input reads as it did. -/
def eventRightUptoRow : OpenClaim := { program := "ytiemlnomlfebkaa", sum := "0e8c32abda7a7ef0998d727169de15fc68b76279736015f5c5fb20a956411b31", func := "murmur/murmurlaw07.EventRight", spec := "eventRight", unfollowed := true, recurses := true, apart := false, narrowed := true }
def EventRightUptoSaid : Prop := eventRightUptoRow.holds Try.pinned (OpenSpec.upto eventRightSpec)

/-- 'murmurlaw07.EventOrder', WHERE WHAT IT READS IS OF BULK AT MOST 1048576: true; the input reads as it did. -/
def eventOrderUptoRow : OpenClaim := { program := "ytiemlnomlfebkaa", sum := "0e8c32abda7a7ef0998d727169de15fc68b76279736015f5c5fb20a956411b31", func := "murmur/murmurlaw07.EventOrder", spec := "eventOrder", unfollowed := true, recurses := true, apart := false, narrowed := true }
def EventOrderUptoSaid : Prop := eventOrderUptoRow.holds Try.pinned (OpenSpec.upto eventOrderSpec)

/-- 'murmurlaw07.EventPuts', WHERE WHAT IT READS IS OF BULK AT MOST 1048576: true; the input reads as it did. -/
def eventPutsUptoRow : OpenClaim := { program := "ytiemlnomlfebkaa", sum := "0e8c32abda7a7ef0998d727169de15fc68b76279736015f5c5fb20a956411b31", func := "murmur/murmurlaw07.EventPuts", spec := "eventPuts", unfollowed := true, recurses := true, apart := false, narrowed := true }
def EventPutsUptoSaid : Prop := eventPutsUptoRow.holds Try.pinned (OpenSpec.upto eventPutsSpec)

/-- 'murmurlaw07.EventBends', WHERE WHAT IT READS IS OF BULK AT MOST 1048576: true; the input reads as it did. -/
def eventBendsUptoRow : OpenClaim := { program := "ytiemlnomlfebkaa", sum := "0e8c32abda7a7ef0998d727169de15fc68b76279736015f5c5fb20a956411b31", func := "murmur/murmurlaw07.EventBends", spec := "eventBends", unfollowed := true, recurses := true, apart := false, narrowed := true }
def EventBendsUptoSaid : Prop := eventBendsUptoRow.holds Try.pinned (OpenSpec.upto eventBendsSpec)

/-- 'murmurlaw07.EventGets', WHERE WHAT IT READS IS OF BULK AT MOST 1048576: true; the input reads as it did. -/
def eventGetsUptoRow : OpenClaim := { program := "ytiemlnomlfebkaa", sum := "0e8c32abda7a7ef0998d727169de15fc68b76279736015f5c5fb20a956411b31", func := "murmur/murmurlaw07.EventGets", spec := "eventGets", unfollowed := true, recurses := true, apart := false, narrowed := true }
def EventGetsUptoSaid : Prop := eventGetsUptoRow.holds Try.pinned (OpenSpec.upto eventGetsSpec)

/-- 'murmurlaw07.EventBack', WHERE WHAT IT READS IS OF BULK AT MOST 1048576: true; the input reads as it did. -/
def eventBackUptoRow : OpenClaim := { program := "ytiemlnomlfebkaa", sum := "0e8c32abda7a7ef0998d727169de15fc68b76279736015f5c5fb20a956411b31", func := "murmur/murmurlaw07.EventBack", spec := "eventBack", unfollowed := true, recurses := true, apart := false, narrowed := true }
def EventBackUptoSaid : Prop := eventBackUptoRow.holds Try.pinned (OpenSpec.upto eventBackSpec)

end Rows
end Go.Proofs.Ytiemlnomlfebkaa

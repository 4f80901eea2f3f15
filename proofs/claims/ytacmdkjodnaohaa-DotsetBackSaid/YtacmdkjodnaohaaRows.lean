/-
  No cell of these rows narrows 'for every input' (looked for: loops, veiled, ifaces, maps, wideKeys, modest, calm, conditions, laid).
  DERIVED. THE GIVEN ROWS OF THIS SEAT. 5 by the template 'for every input the law returns true; each argument reads behind the call as it read before'; 0 by the template 'total and deterministic' (their statements: YtacmdkjodnaohaaTotals.lean).
  GIVEN WITH THE SEED: the statements are not yours to turn. If you find one false, say at which input.
  Laid BY PROGRAM, IN A SANDBOX (cutbox-rows.mjs): the forced cells as the released guide's own fill.sh prints them over the translation 1a9b25e0c3827f66… (all of the seat's roots in one cut). By AI agents, Wed Nov 11 2026. No macro, syntax, notation, axiom, sorry.
-/
import Derived.Test.YtacmdkjodnaohaaChecked
import GoSem.Claim
import GoSem.ClaimJoined
import GoSem.ClaimMapViews
import Derived.JoinedTies
import Derived.KernelRfl
namespace Go.Proofs.Ytacmdkjodnaohaa
/- THE CELL 'sum', in the pinned program and in every row, IS THE sha256 OF THE DUMP (.gsa) THAT YtacmdkjodnaohaaProg.lean LOADS. Nothing in Lean hashes anything: it is a label: what it is worth is what the hold of that sum in a sandbox is worth. -/
noncomputable def Try.pinned : Pinned := { name := "ytacmdkjodnaohaa", sum := "1a9b25e0c3827f6612c38870b2ace0c922c96067b6587837bd3ee42c49782ebc", checked := Try.checked }
namespace Rows
def none {H : Type} : Left H := { results := [], args := [] }

/-- 'murmurlaw06.DotsetAsks': WHATEVER THE INPUT: true; the input reads as it did. -/
def dotsetAsksSpec : ChangeSpec := { name := "dotsetAsks", fn := fun _ => fun
  | [d1, d2] => { results := [.lit (.bool true)], args := [d1, d2] }
  | _ => none }
def dotsetAsksRow : OpenClaim := { program := "ytacmdkjodnaohaa", sum := "1a9b25e0c3827f6612c38870b2ace0c922c96067b6587837bd3ee42c49782ebc", func := "murmur/murmurlaw06.DotsetAsks", spec := "dotsetAsks", unfollowed := true, recurses := true, apart := false }
def DotsetAsksSaid : Prop := dotsetAsksRow.holds Try.pinned (OpenSpec.ofChange dotsetAsksSpec)

/-- ITS FALSE NEIGHBOUR: 'it returns false'. Refute it at one input. -/
def dotsetAsksWrong : ChangeSpec := { name := "dotsetAsks", fn := fun _ => fun
  | [d1, d2] => { results := [.lit (.bool false)], args := [d1, d2] }
  | _ => none }
def DotsetAsksWrongFalsely : Prop := dotsetAsksRow.holds Try.pinned (OpenSpec.ofChange dotsetAsksWrong)

/-- 'murmurlaw06.DotsetPairs': WHATEVER THE INPUT: true; the input reads as it did. -/
def dotsetPairsSpec : ChangeSpec := { name := "dotsetPairs", fn := fun _ => fun
  | [d1, d2] => { results := [.lit (.bool true)], args := [d1, d2] }
  | _ => none }
def dotsetPairsRow : OpenClaim := { program := "ytacmdkjodnaohaa", sum := "1a9b25e0c3827f6612c38870b2ace0c922c96067b6587837bd3ee42c49782ebc", func := "murmur/murmurlaw06.DotsetPairs", spec := "dotsetPairs", unfollowed := true, recurses := true, apart := false }
def DotsetPairsSaid : Prop := dotsetPairsRow.holds Try.pinned (OpenSpec.ofChange dotsetPairsSpec)

/-- ITS FALSE NEIGHBOUR: 'it returns false'. Refute it at one input. -/
def dotsetPairsWrong : ChangeSpec := { name := "dotsetPairs", fn := fun _ => fun
  | [d1, d2] => { results := [.lit (.bool false)], args := [d1, d2] }
  | _ => none }
def DotsetPairsWrongFalsely : Prop := dotsetPairsRow.holds Try.pinned (OpenSpec.ofChange dotsetPairsWrong)

/-- 'murmurlaw06.DotsetJoins': WHATEVER THE INPUT: true; the input reads as it did. -/
def dotsetJoinsSpec : ChangeSpec := { name := "dotsetJoins", fn := fun _ => fun
  | [d] => { results := [.lit (.bool true)], args := [d] }
  | _ => none }
def dotsetJoinsRow : OpenClaim := { program := "ytacmdkjodnaohaa", sum := "1a9b25e0c3827f6612c38870b2ace0c922c96067b6587837bd3ee42c49782ebc", func := "murmur/murmurlaw06.DotsetJoins", spec := "dotsetJoins", unfollowed := true, recurses := true, apart := false }
def DotsetJoinsSaid : Prop := dotsetJoinsRow.holds Try.pinned (OpenSpec.ofChange dotsetJoinsSpec)

/-- ITS FALSE NEIGHBOUR: 'it returns false'. Refute it at one input. -/
def dotsetJoinsWrong : ChangeSpec := { name := "dotsetJoins", fn := fun _ => fun
  | [d] => { results := [.lit (.bool false)], args := [d] }
  | _ => none }
def DotsetJoinsWrongFalsely : Prop := dotsetJoinsRow.holds Try.pinned (OpenSpec.ofChange dotsetJoinsWrong)

/-- 'murmurlaw06.DotsetBytes': WHATEVER THE INPUT: true; the input reads as it did. -/
def dotsetBytesSpec : ChangeSpec := { name := "dotsetBytes", fn := fun _ => fun
  | [d1, d2] => { results := [.lit (.bool true)], args := [d1, d2] }
  | _ => none }
def dotsetBytesRow : OpenClaim := { program := "ytacmdkjodnaohaa", sum := "1a9b25e0c3827f6612c38870b2ace0c922c96067b6587837bd3ee42c49782ebc", func := "murmur/murmurlaw06.DotsetBytes", spec := "dotsetBytes", unfollowed := true, recurses := true, apart := false }
def DotsetBytesSaid : Prop := dotsetBytesRow.holds Try.pinned (OpenSpec.ofChange dotsetBytesSpec)

/-- ITS FALSE NEIGHBOUR: 'it returns false'. Refute it at one input. -/
def dotsetBytesWrong : ChangeSpec := { name := "dotsetBytes", fn := fun _ => fun
  | [d1, d2] => { results := [.lit (.bool false)], args := [d1, d2] }
  | _ => none }
def DotsetBytesWrongFalsely : Prop := dotsetBytesRow.holds Try.pinned (OpenSpec.ofChange dotsetBytesWrong)

/-- 'murmurlaw06.DotsetBack': WHATEVER THE INPUT: true; the input reads as it did. -/
def dotsetBackSpec : ChangeSpec := { name := "dotsetBack", fn := fun _ => fun
  | [d1, d2] => { results := [.lit (.bool true)], args := [d1, d2] }
  | _ => none }
def dotsetBackRow : OpenClaim := { program := "ytacmdkjodnaohaa", sum := "1a9b25e0c3827f6612c38870b2ace0c922c96067b6587837bd3ee42c49782ebc", func := "murmur/murmurlaw06.DotsetBack", spec := "dotsetBack", unfollowed := true, recurses := true, apart := false }
def DotsetBackSaid : Prop := dotsetBackRow.holds Try.pinned (OpenSpec.ofChange dotsetBackSpec)

/-- ITS FALSE NEIGHBOUR: 'it returns false'. Refute it at one input. -/
def dotsetBackWrong : ChangeSpec := { name := "dotsetBack", fn := fun _ => fun
  | [d1, d2] => { results := [.lit (.bool false)], args := [d1, d2] }
  | _ => none }
def DotsetBackWrongFalsely : Prop := dotsetBackRow.holds Try.pinned (OpenSpec.ofChange dotsetBackWrong)

/- THE SECOND FORM. 'bulk': how many values and letters a reading holds, each counted each time it is reached (what is shared counts as often as it is met; a slice's spare places count too). A statement '..UptoSaid' is the law's where the arguments, and the package variables that the reading takes, are together of bulk at most 1048576: NARROWER than '..Said'. Prove '..Said' where nothing that the law and all that it calls make is longer than what came in: it says more and counts as full. Else prove '..UptoSaid'. A law counts once. -/
mutual
def uptoBulk {H : Type} : DataW H → Nat
  | .lit (.string bytes) => bytes.length + 1
  | .lit _ => 1
  | .nil => 1
  | .ptr d => uptoBulk d + 1
  | .slice elems spare => uptoBulkAll elems + uptoBulkAll spare + 1
  | .agg parts => uptoBulkAll parts + 1
  | .iface _ d => uptoBulk d + 1
  | .map entries => uptoBulkEntries entries + 1
  | .held _ => 1
def uptoBulkAll {H : Type} : List (DataW H) → Nat
  | [] => 0
  | d :: r => uptoBulk d + uptoBulkAll r
def uptoBulkEntries {H : Type} : List (Lit × DataW H) → Nat
  | [] => 0
  | x :: r => uptoBulkEntry x + uptoBulkEntries r
def uptoBulkEntry {H : Type} : Lit × DataW H → Nat
  | (.string bytes, d) => bytes.length + uptoBulk d + 1
  | (_, d) => uptoBulk d + 1
 end
def uptoSmall : (H : Type) → List (DataW H) → Bool := fun _ ds => decide (uptoBulkAll ds ≤ 1048576)
def OpenSpec.upto (s : _root_.Go.ChangeSpec) : _root_.Go.OpenSpec := { _root_.Go.OpenSpec.ofChange s with cond := some uptoSmall }

/-- 'murmurlaw06.DotsetAsks', WHERE WHAT IT READS IS OF BULK AT MOST 1048576: true; the input reads as it did. -/
def dotsetAsksUptoRow : OpenClaim := { program := "ytacmdkjodnaohaa", sum := "1a9b25e0c3827f6612c38870b2ace0c922c96067b6587837bd3ee42c49782ebc", func := "murmur/murmurlaw06.DotsetAsks", spec := "dotsetAsks", unfollowed := true, recurses := true, apart := false, narrowed := true }
def DotsetAsksUptoSaid : Prop := dotsetAsksUptoRow.holds Try.pinned (OpenSpec.upto dotsetAsksSpec)

/-- 'murmurlaw06.DotsetPairs', WHERE WHAT IT READS IS OF BULK AT MOST 1048576: true; the input reads as it did. -/
def dotsetPairsUptoRow : OpenClaim := { program := "ytacmdkjodnaohaa", sum := "1a9b25e0c3827f6612c38870b2ace0c922c96067b6587837bd3ee42c49782ebc", func := "murmur/murmurlaw06.DotsetPairs", spec := "dotsetPairs", unfollowed := true, recurses := true, apart := false, narrowed := true }
def DotsetPairsUptoSaid : Prop := dotsetPairsUptoRow.holds Try.pinned (OpenSpec.upto dotsetPairsSpec)

/-- 'murmurlaw06.DotsetJoins', WHERE WHAT IT READS IS OF BULK AT MOST 1048576: true; the input reads as it did. -/
def dotsetJoinsUptoRow : OpenClaim := { program := "ytacmdkjodnaohaa", sum := "1a9b25e0c3827f6612c38870b2ace0c922c96067b6587837bd3ee42c49782ebc", func := "murmur/murmurlaw06.DotsetJoins", spec := "dotsetJoins", unfollowed := true, recurses := true, apart := false, narrowed := true }
def DotsetJoinsUptoSaid : Prop := dotsetJoinsUptoRow.holds Try.pinned (OpenSpec.upto dotsetJoinsSpec)

/-- 'murmurlaw06.DotsetBytes', WHERE WHAT IT READS IS OF BULK AT MOST 1048576: true; the input reads as it did. -/
def dotsetBytesUptoRow : OpenClaim := { program := "ytacmdkjodnaohaa", sum := "1a9b25e0c3827f6612c38870b2ace0c922c96067b6587837bd3ee42c49782ebc", func := "murmur/murmurlaw06.DotsetBytes", spec := "dotsetBytes", unfollowed := true, recurses := true, apart := false, narrowed := true }
def DotsetBytesUptoSaid : Prop := dotsetBytesUptoRow.holds Try.pinned (OpenSpec.upto dotsetBytesSpec)

/-- 'murmurlaw06.DotsetBack', WHERE WHAT IT READS IS OF BULK AT MOST 1048576: true; the input reads as it did. -/
def dotsetBackUptoRow : OpenClaim := { program := "ytacmdkjodnaohaa", sum := "1a9b25e0c3827f6612c38870b2ace0c922c96067b6587837bd3ee42c49782ebc", func := "murmur/murmurlaw06.DotsetBack", spec := "dotsetBack", unfollowed := true, recurses := true, apart := false, narrowed := true }
def DotsetBackUptoSaid : Prop := dotsetBackUptoRow.holds Try.pinned (OpenSpec.upto dotsetBackSpec)

end Rows
end Go.Proofs.Ytacmdkjodnaohaa

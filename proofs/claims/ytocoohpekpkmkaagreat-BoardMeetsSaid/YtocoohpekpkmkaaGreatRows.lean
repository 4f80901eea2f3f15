/-
  No cell of these rows narrows 'for every input' (looked for: loops, veiled, ifaces, maps, wideKeys, modest, calm, conditions, laid).
  DERIVED. THE GIVEN ROWS OF THIS SEAT. 3 by the template 'for every input the law returns true; each argument reads behind the call as it read before'; 0 by the template 'total and deterministic' (their statements: YtocoohpekpkmkaaGreatTotals.lean).
  GIVEN WITH THE SEED: the statements are not yours to turn. If you find one false, say at which input.
  Laid BY PROGRAM, IN A SANDBOX (cutbox-rows.mjs): the forced cells as the released guide's own fill.sh prints them over the translation 274af7cdd86641f1… (all of the seat's roots in one cut). By AI agents, Wed Nov 11 2026. No macro, syntax, notation, axiom, sorry.
-/
import Derived.Test.YtocoohpekpkmkaaGreatChecked
import GoSem.Claim
import GoSem.ClaimJoined
import GoSem.ClaimMapViews
import Derived.JoinedTies
import Derived.KernelRfl
namespace Go.Proofs.YtocoohpekpkmkaaGreat
/- THE CELL 'sum', in the pinned program and in every row, IS THE sha256 OF THE DUMP (.gsa) THAT YtocoohpekpkmkaaGreatProg.lean LOADS. Nothing in Lean hashes anything: it is a label: what it is worth is what the hold of that sum in a sandbox is worth. -/
noncomputable def Tryz.pinned : Pinned := { name := "ytocoohpekpkmkaagreat", sum := "274af7cdd86641f1f58ec3bcd31a6736f3faa9bad20b108c24f65a948f75dedb", checked := Tryz.checked }
namespace Rows
def none {H : Type} : Left H := { results := [], args := [] }

/-- 'murmurlaw30.BoardJoins': WHATEVER THE INPUT: true; the input reads as it did. -/
def boardJoinsSpec : ChangeSpec := { name := "boardJoins", fn := fun _ => fun
  | [d1, d2] => { results := [.lit (.bool true)], args := [d1, d2] }
  | _ => none }
def boardJoinsRow : OpenClaim := { program := "ytocoohpekpkmkaagreat", sum := "274af7cdd86641f1f58ec3bcd31a6736f3faa9bad20b108c24f65a948f75dedb", func := "murmur/murmurlaw30.BoardJoins", spec := "boardJoins", unfollowed := true, recurses := true, apart := false }
def BoardJoinsSaid : Prop := boardJoinsRow.holds Tryz.pinned (OpenSpec.ofChange boardJoinsSpec)

/-- ITS FALSE NEIGHBOUR: 'it returns false'. Refute it at one input. -/
def boardJoinsWrong : ChangeSpec := { name := "boardJoins", fn := fun _ => fun
  | [d1, d2] => { results := [.lit (.bool false)], args := [d1, d2] }
  | _ => none }
def BoardJoinsWrongFalsely : Prop := boardJoinsRow.holds Tryz.pinned (OpenSpec.ofChange boardJoinsWrong)

/-- 'murmurlaw30.BoardTimes': WHATEVER THE INPUT: true; the input reads as it did. -/
def boardTimesSpec : ChangeSpec := { name := "boardTimes", fn := fun _ => fun
  | [d1, d2] => { results := [.lit (.bool true)], args := [d1, d2] }
  | _ => none }
def boardTimesRow : OpenClaim := { program := "ytocoohpekpkmkaagreat", sum := "274af7cdd86641f1f58ec3bcd31a6736f3faa9bad20b108c24f65a948f75dedb", func := "murmur/murmurlaw30.BoardTimes", spec := "boardTimes", unfollowed := true, recurses := true, apart := false }
def BoardTimesSaid : Prop := boardTimesRow.holds Tryz.pinned (OpenSpec.ofChange boardTimesSpec)

/-- ITS FALSE NEIGHBOUR: 'it returns false'. Refute it at one input. -/
def boardTimesWrong : ChangeSpec := { name := "boardTimes", fn := fun _ => fun
  | [d1, d2] => { results := [.lit (.bool false)], args := [d1, d2] }
  | _ => none }
def BoardTimesWrongFalsely : Prop := boardTimesRow.holds Tryz.pinned (OpenSpec.ofChange boardTimesWrong)

/-- 'murmurlaw30.BoardMeets': WHATEVER THE INPUT: true; the input reads as it did. -/
def boardMeetsSpec : ChangeSpec := { name := "boardMeets", fn := fun _ => fun
  | [d] => { results := [.lit (.bool true)], args := [d] }
  | _ => none }
def boardMeetsRow : OpenClaim := { program := "ytocoohpekpkmkaagreat", sum := "274af7cdd86641f1f58ec3bcd31a6736f3faa9bad20b108c24f65a948f75dedb", func := "murmur/murmurlaw30.BoardMeets", spec := "boardMeets", unfollowed := true, recurses := true, apart := false }
def BoardMeetsSaid : Prop := boardMeetsRow.holds Tryz.pinned (OpenSpec.ofChange boardMeetsSpec)

/-- ITS FALSE NEIGHBOUR: 'it returns false'. Refute it at one input. -/
def boardMeetsWrong : ChangeSpec := { name := "boardMeets", fn := fun _ => fun
  | [d] => { results := [.lit (.bool false)], args := [d] }
  | _ => none }
def BoardMeetsWrongFalsely : Prop := boardMeetsRow.holds Tryz.pinned (OpenSpec.ofChange boardMeetsWrong)

/- THE SECOND FORM. 'bulk': how many values and letters a reading holds, each counted each time it is reached (what is shared counts as often as it is met; a slice's spare places count too). A statement '..UptoSaid' is the law's where the arguments, and the package variables that the reading takes, are together of bulk at most 1048576: NARROWER than '..Said'. Prove '..Said' where nothing that the law and all that it calls make is longer than what came in: it says more and counts as full. Else prove '..UptoSaid'. A law counts once. -/
mutual
def uptoBulk {H : Type} : DataW H → Nat
  | .lit (.string bytes) => bytes.length + 1
  | .lit _ => 1
  | .nil => 1
  | .ptr d => uptoBulk d + 1
  | .slice elems spare => uptoBulkAll elems + uptoBulkAll spare + 1
  | .agg parts => uptoBulkAll parts + 1
  | .iface _ d => uptoBulk d + 1
  | .map entries => uptoBulkEntries entries + 1
  | .held _ => 1
def uptoBulkAll {H : Type} : List (DataW H) → Nat
  | [] => 0
  | d :: r => uptoBulk d + uptoBulkAll r
def uptoBulkEntries {H : Type} : List (Lit × DataW H) → Nat
  | [] => 0
  | x :: r => uptoBulkEntry x + uptoBulkEntries r
def uptoBulkEntry {H : Type} : Lit × DataW H → Nat
  | (.string bytes, d) => bytes.length + uptoBulk d + 1
  | (_, d) => uptoBulk d + 1
 end
def uptoSmall : (H : Type) → List (DataW H) → Bool := fun _ ds => decide (uptoBulkAll ds ≤ 1048576)
def OpenSpec.upto (s : _root_.Go.ChangeSpec) : _root_.Go.OpenSpec := { _root_.Go.OpenSpec.ofChange s with cond := some uptoSmall }

/-- 'murmurlaw30.BoardJoins', WHERE WHAT IT READS IS OF BULK AT MOST 1048576: true; the input reads as it did. -/
def boardJoinsUptoRow : OpenClaim := { program := "ytocoohpekpkmkaagreat", sum := "274af7cdd86641f1f58ec3bcd31a6736f3faa9bad20b108c24f65a948f75dedb", func := "murmur/murmurlaw30.BoardJoins", spec := "boardJoins", unfollowed := true, recurses := true, apart := false, narrowed := true }
def BoardJoinsUptoSaid : Prop := boardJoinsUptoRow.holds Tryz.pinned (OpenSpec.upto boardJoinsSpec)

/-- 'murmurlaw30.BoardTimes', WHERE WHAT IT READS IS OF BULK AT MOST 1048576: true; the input reads as it did. -/
def boardTimesUptoRow : OpenClaim := { program := "ytocoohpekpkmkaagreat", sum := "274af7cdd86641f1f58ec3bcd31a6736f3faa9bad20b108c24f65a948f75dedb", func := "murmur/murmurlaw30.BoardTimes", spec := "boardTimes", unfollowed := true, recurses := true, apart := false, narrowed := true }
def BoardTimesUptoSaid : Prop := boardTimesUptoRow.holds Tryz.pinned (OpenSpec.upto boardTimesSpec)

/-- 'murmurlaw30.BoardMeets', WHERE WHAT IT READS IS OF BULK AT MOST 1048576: true; the input reads as it did. -/
def boardMeetsUptoRow : OpenClaim := { program := "ytocoohpekpkmkaagreat", sum := "274af7cdd86641f1f58ec3bcd31a6736f3faa9bad20b108c24f65a948f75dedb", func := "murmur/murmurlaw30.BoardMeets", spec := "boardMeets", unfollowed := true, recurses := true, apart := false, narrowed := true }
def BoardMeetsUptoSaid : Prop := boardMeetsUptoRow.holds Tryz.pinned (OpenSpec.upto boardMeetsSpec)

end Rows
end Go.Proofs.YtocoohpekpkmkaaGreat

/-
  No cell of these rows narrows 'for every input' (looked for: loops, veiled, ifaces, maps, wideKeys, modest, calm, conditions, laid).
  DERIVED. THE GIVEN ROWS OF THIS SEAT. 6 by the template 'for every input the law returns true; each argument reads behind the call as it read before'; 0 by the template 'total and deterministic' (their statements: YtocoohpekpkmkaaTotals.lean).
  GIVEN WITH THE SEED: the statements are not yours to turn. If you find one false, say at which input.
  Laid BY PROGRAM, IN A SANDBOX (cutbox-rows.mjs): the forced cells as the released guide's own fill.sh prints them over the translation 3b2af10d1d67f34c… (all of the seat's roots in one cut). By AI agents, Wed Nov 11 2026. No macro, syntax, notation, axiom, sorry.
-/
import Derived.Test.YtocoohpekpkmkaaChecked
import GoSem.Claim
import GoSem.ClaimJoined
import GoSem.ClaimMapViews
import Derived.JoinedTies
import Derived.KernelRfl
namespace Go.Proofs.Ytocoohpekpkmkaa
/- THE CELL 'sum', in the pinned program and in every row, IS THE sha256 OF THE DUMP (.gsa) THAT YtocoohpekpkmkaaProg.lean LOADS. Nothing in Lean hashes anything: it is a label: what it is worth is what the hold of that sum in a sandbox is worth. -/
noncomputable def Try.pinned : Pinned := { name := "ytocoohpekpkmkaa", sum := "3b2af10d1d67f34c84b2bb3b6bbcef1d59ed81c0e95b09605fb36b7a69af8b2e", checked := Try.checked }
namespace Rows
def none {H : Type} : Left H := { results := [], args := [] }

/-- 'murmurlaw29.RegManies': WHATEVER THE INPUT: true; the input reads as it did. -/
def regManiesSpec : ChangeSpec := { name := "regManies", fn := fun _ => fun
  | [d] => { results := [.lit (.bool true)], args := [d] }
  | _ => none }
def regManiesRow : OpenClaim := { program := "ytocoohpekpkmkaa", sum := "3b2af10d1d67f34c84b2bb3b6bbcef1d59ed81c0e95b09605fb36b7a69af8b2e", func := "murmur/murmurlaw29.RegManies", spec := "regManies", unfollowed := true, recurses := true, apart := false }
def RegManiesSaid : Prop := regManiesRow.holds Try.pinned (OpenSpec.ofChange regManiesSpec)

/-- ITS FALSE NEIGHBOUR: 'it returns false'. Refute it at one input. -/
def regManiesWrong : ChangeSpec := { name := "regManies", fn := fun _ => fun
  | [d] => { results := [.lit (.bool false)], args := [d] }
  | _ => none }
def RegManiesWrongFalsely : Prop := regManiesRow.holds Try.pinned (OpenSpec.ofChange regManiesWrong)

/-- 'murmurlaw29.RegMeets': WHATEVER THE INPUT: true; the input reads as it did. -/
def regMeetsSpec : ChangeSpec := { name := "regMeets", fn := fun _ => fun
  | [d] => { results := [.lit (.bool true)], args := [d] }
  | _ => none }
def regMeetsRow : OpenClaim := { program := "ytocoohpekpkmkaa", sum := "3b2af10d1d67f34c84b2bb3b6bbcef1d59ed81c0e95b09605fb36b7a69af8b2e", func := "murmur/murmurlaw29.RegMeets", spec := "regMeets", unfollowed := true, recurses := true, apart := false }
def RegMeetsSaid : Prop := regMeetsRow.holds Try.pinned (OpenSpec.ofChange regMeetsSpec)

/-- ITS FALSE NEIGHBOUR: 'it returns false'. Refute it at one input. -/
def regMeetsWrong : ChangeSpec := { name := "regMeets", fn := fun _ => fun
  | [d] => { results := [.lit (.bool false)], args := [d] }
  | _ => none }
def RegMeetsWrongFalsely : Prop := regMeetsRow.holds Try.pinned (OpenSpec.ofChange regMeetsWrong)

/-- 'murmurlaw29.RegAlone': WHATEVER THE INPUT: true; the input reads as it did. -/
def regAloneSpec : ChangeSpec := { name := "regAlone", fn := fun _ => fun
  | [d1, d2] => { results := [.lit (.bool true)], args := [d1, d2] }
  | _ => none }
def regAloneRow : OpenClaim := { program := "ytocoohpekpkmkaa", sum := "3b2af10d1d67f34c84b2bb3b6bbcef1d59ed81c0e95b09605fb36b7a69af8b2e", func := "murmur/murmurlaw29.RegAlone", spec := "regAlone", unfollowed := true, recurses := true, apart := false }
def RegAloneSaid : Prop := regAloneRow.holds Try.pinned (OpenSpec.ofChange regAloneSpec)

/-- ITS FALSE NEIGHBOUR: 'it returns false'. Refute it at one input. -/
def regAloneWrong : ChangeSpec := { name := "regAlone", fn := fun _ => fun
  | [d1, d2] => { results := [.lit (.bool false)], args := [d1, d2] }
  | _ => none }
def RegAloneWrongFalsely : Prop := regAloneRow.holds Try.pinned (OpenSpec.ofChange regAloneWrong)

/-- 'murmurlaw29.RegLasts': WHATEVER THE INPUT: true; the input reads as it did. -/
def regLastsSpec : ChangeSpec := { name := "regLasts", fn := fun _ => fun
  | [d1, d2, d3] => { results := [.lit (.bool true)], args := [d1, d2, d3] }
  | _ => none }
def regLastsRow : OpenClaim := { program := "ytocoohpekpkmkaa", sum := "3b2af10d1d67f34c84b2bb3b6bbcef1d59ed81c0e95b09605fb36b7a69af8b2e", func := "murmur/murmurlaw29.RegLasts", spec := "regLasts", unfollowed := true, recurses := true, apart := false }
def RegLastsSaid : Prop := regLastsRow.holds Try.pinned (OpenSpec.ofChange regLastsSpec)

/-- ITS FALSE NEIGHBOUR: 'it returns false'. Refute it at one input. -/
def regLastsWrong : ChangeSpec := { name := "regLasts", fn := fun _ => fun
  | [d1, d2, d3] => { results := [.lit (.bool false)], args := [d1, d2, d3] }
  | _ => none }
def RegLastsWrongFalsely : Prop := regLastsRow.holds Try.pinned (OpenSpec.ofChange regLastsWrong)

/-- 'murmurlaw30.BoardBytes': WHATEVER THE INPUT: true; the input reads as it did. -/
def boardBytesSpec : ChangeSpec := { name := "boardBytes", fn := fun _ => fun
  | [d1, d2] => { results := [.lit (.bool true)], args := [d1, d2] }
  | _ => none }
def boardBytesRow : OpenClaim := { program := "ytocoohpekpkmkaa", sum := "3b2af10d1d67f34c84b2bb3b6bbcef1d59ed81c0e95b09605fb36b7a69af8b2e", func := "murmur/murmurlaw30.BoardBytes", spec := "boardBytes", unfollowed := true, recurses := true, apart := false }
def BoardBytesSaid : Prop := boardBytesRow.holds Try.pinned (OpenSpec.ofChange boardBytesSpec)

/-- ITS FALSE NEIGHBOUR: 'it returns false'. Refute it at one input. -/
def boardBytesWrong : ChangeSpec := { name := "boardBytes", fn := fun _ => fun
  | [d1, d2] => { results := [.lit (.bool false)], args := [d1, d2] }
  | _ => none }
def BoardBytesWrongFalsely : Prop := boardBytesRow.holds Try.pinned (OpenSpec.ofChange boardBytesWrong)

/-- 'murmurlaw30.BoardWrites': WHATEVER THE INPUT: true; the input reads as it did. -/
def boardWritesSpec : ChangeSpec := { name := "boardWrites", fn := fun _ => fun
  | [d1, d2] => { results := [.lit (.bool true)], args := [d1, d2] }
  | _ => none }
def boardWritesRow : OpenClaim := { program := "ytocoohpekpkmkaa", sum := "3b2af10d1d67f34c84b2bb3b6bbcef1d59ed81c0e95b09605fb36b7a69af8b2e", func := "murmur/murmurlaw30.BoardWrites", spec := "boardWrites", unfollowed := true, recurses := true, apart := false }
def BoardWritesSaid : Prop := boardWritesRow.holds Try.pinned (OpenSpec.ofChange boardWritesSpec)

/-- ITS FALSE NEIGHBOUR: 'it returns false'. Refute it at one input. -/
def boardWritesWrong : ChangeSpec := { name := "boardWrites", fn := fun _ => fun
  | [d1, d2] => { results := [.lit (.bool false)], args := [d1, d2] }
  | _ => none }
def BoardWritesWrongFalsely : Prop := boardWritesRow.holds Try.pinned (OpenSpec.ofChange boardWritesWrong)

/- THE SECOND FORM. 'bulk': how many values and letters a reading holds, each counted each time it is reached (what is shared counts as often as it is met; a slice's spare places count too). A statement '..UptoSaid' is the law's where the arguments, and the package variables that the reading takes, are together of bulk at most 1048576: NARROWER than '..Said'. Prove '..Said' where nothing that the law and all that it calls make is longer than what came in: it says more and counts as full. Else prove '..UptoSaid'. A law counts once. -/
mutual
def uptoBulk {H : Type} : DataW H → Nat
  | .lit (.string bytes) => bytes.length + 1
  | .lit _ => 1
  | .nil => 1
  | .ptr d => uptoBulk d + 1
  | .slice elems spare => uptoBulkAll elems + uptoBulkAll spare + 1
  | .agg parts => uptoBulkAll parts + 1
  | .iface _ d => uptoBulk d + 1
  | .map entries => uptoBulkEntries entries + 1
  | .held _ => 1
def uptoBulkAll {H : Type} : List (DataW H) → Nat
  | [] => 0
  | d :: r => uptoBulk d + uptoBulkAll r
def uptoBulkEntries {H : Type} : List (Lit × DataW H) → Nat
  | [] => 0
  | x :: r => uptoBulkEntry x + uptoBulkEntries r
def uptoBulkEntry {H : Type} : Lit × DataW H → Nat
  | (.string bytes, d) => bytes.length + uptoBulk d + 1
  | (_, d) => uptoBulk d + 1
 end
def uptoSmall : (H : Type) → List (DataW H) → Bool := fun _ ds => decide (uptoBulkAll ds ≤ 1048576)
def OpenSpec.upto (s : _root_.Go.ChangeSpec) : _root_.Go.OpenSpec := { _root_.Go.OpenSpec.ofChange s with cond := some uptoSmall }

/-- 'murmurlaw29.RegManies', WHERE WHAT IT READS IS OF BULK AT MOST 1048576: true; the input reads as it did. -/
def regManiesUptoRow : OpenClaim := { program := "ytocoohpekpkmkaa", sum := "3b2af10d1d67f34c84b2bb3b6bbcef1d59ed81c0e95b09605fb36b7a69af8b2e", func := "murmur/murmurlaw29.RegManies", spec := "regManies", unfollowed := true, recurses := true, apart := false, narrowed := true }
def RegManiesUptoSaid : Prop := regManiesUptoRow.holds Try.pinned (OpenSpec.upto regManiesSpec)

/-- 'murmurlaw29.RegMeets', WHERE WHAT IT READS IS OF BULK AT MOST 1048576: true; the input reads as it did. -/
def regMeetsUptoRow : OpenClaim := { program := "ytocoohpekpkmkaa", sum := "3b2af10d1d67f34c84b2bb3b6bbcef1d59ed81c0e95b09605fb36b7a69af8b2e", func := "murmur/murmurlaw29.RegMeets", spec := "regMeets", unfollowed := true, recurses := true, apart := false, narrowed := true }
def RegMeetsUptoSaid : Prop := regMeetsUptoRow.holds Try.pinned (OpenSpec.upto regMeetsSpec)

/-- 'murmurlaw29.RegAlone', WHERE WHAT IT READS IS OF BULK AT MOST 1048576: true; the input reads as it did. -/
def regAloneUptoRow : OpenClaim := { program := "ytocoohpekpkmkaa", sum := "3b2af10d1d67f34c84b2bb3b6bbcef1d59ed81c0e95b09605fb36b7a69af8b2e", func := "murmur/murmurlaw29.RegAlone", spec := "regAlone", unfollowed := true, recurses := true, apart := false, narrowed := true }
def RegAloneUptoSaid : Prop := regAloneUptoRow.holds Try.pinned (OpenSpec.upto regAloneSpec)

/-- 'murmurlaw29.RegLasts', WHERE WHAT IT READS IS OF BULK AT MOST 1048576: true; the input reads as it did. -/
def regLastsUptoRow : OpenClaim := { program := "ytocoohpekpkmkaa", sum := "3b2af10d1d67f34c84b2bb3b6bbcef1d59ed81c0e95b09605fb36b7a69af8b2e", func := "murmur/murmurlaw29.RegLasts", spec := "regLasts", unfollowed := true, recurses := true, apart := false, narrowed := true }
def RegLastsUptoSaid : Prop := regLastsUptoRow.holds Try.pinned (OpenSpec.upto regLastsSpec)

/-- 'murmurlaw30.BoardBytes', WHERE WHAT IT READS IS OF BULK AT MOST 1048576: true; the input reads as it did. -/
def boardBytesUptoRow : OpenClaim := { program := "ytocoohpekpkmkaa", sum := "3b2af10d1d67f34c84b2bb3b6bbcef1d59ed81c0e95b09605fb36b7a69af8b2e", func := "murmur/murmurlaw30.BoardBytes", spec := "boardBytes", unfollowed := true, recurses := true, apart := false, narrowed := true }
def BoardBytesUptoSaid : Prop := boardBytesUptoRow.holds Try.pinned (OpenSpec.upto boardBytesSpec)

/-- 'murmurlaw30.BoardWrites', WHERE WHAT IT READS IS OF BULK AT MOST 1048576: true; the input reads as it did. -/
def boardWritesUptoRow : OpenClaim := { program := "ytocoohpekpkmkaa", sum := "3b2af10d1d67f34c84b2bb3b6bbcef1d59ed81c0e95b09605fb36b7a69af8b2e", func := "murmur/murmurlaw30.BoardWrites", spec := "boardWrites", unfollowed := true, recurses := true, apart := false, narrowed := true }
def BoardWritesUptoSaid : Prop := boardWritesUptoRow.holds Try.pinned (OpenSpec.upto boardWritesSpec)

end Rows
end Go.Proofs.Ytocoohpekpkmkaa

/-
  No cell of these rows narrows 'for every input' (looked for: loops, veiled, ifaces, maps, wideKeys, modest, calm, conditions, laid).
  DERIVED. THE GIVEN ROWS OF THIS SEAT. 5 by the template 'for every input the law returns true; each argument reads behind the call as it read before'; 0 by the template 'total and deterministic' (their statements: YtcgalmnllegnbaaTotals.lean).
  GIVEN WITH THE SEED: the statements are not yours to turn. If you find one false, say at which input.
  Laid BY PROGRAM, IN A SANDBOX (cutbox-rows.mjs): the forced cells as the released guide's own fill.sh prints them over the translation ce1eff9eeeee8997… (all of the seat's roots in one cut). By AI agents, Wed Nov 11 2026. No macro, syntax, notation, axiom, sorry.
-/
import Derived.Test.YtcgalmnllegnbaaChecked
import GoSem.Claim
import GoSem.ClaimJoined
import GoSem.ClaimMapViews
import Derived.JoinedTies
import Derived.KernelRfl
namespace Go.Proofs.Ytcgalmnllegnbaa
/- THE CELL 'sum', in the pinned program and in every row, IS THE sha256 OF THE DUMP (.gsa) THAT YtcgalmnllegnbaaProg.lean LOADS. Nothing in Lean hashes anything: it is a label: what it is worth is what the hold of that sum in a sandbox is worth. -/
noncomputable def Try.pinned : Pinned := { name := "ytcgalmnllegnbaa", sum := "ce1eff9eeeee8997932a58a75acfff0f432dce23e5593734440c02d47771fd82", checked := Try.checked }
namespace Rows
def none {H : Type} : Left H := { results := [], args := [] }

/-- 'murmurlaw17.MsgPuts': WHATEVER THE INPUT: true; the input reads as it did. -/
def msgPutsSpec : ChangeSpec := { name := "msgPuts", fn := fun _ => fun
  | [d] => { results := [.lit (.bool true)], args := [d] }
  | _ => none }
def msgPutsRow : OpenClaim := { program := "ytcgalmnllegnbaa", sum := "ce1eff9eeeee8997932a58a75acfff0f432dce23e5593734440c02d47771fd82", func := "murmur/murmurlaw17.MsgPuts", spec := "msgPuts", unfollowed := true, recurses := true, apart := false }
def MsgPutsSaid : Prop := msgPutsRow.holds Try.pinned (OpenSpec.ofChange msgPutsSpec)

/-- ITS FALSE NEIGHBOUR: 'it returns false'. Refute it at one input. -/
def msgPutsWrong : ChangeSpec := { name := "msgPuts", fn := fun _ => fun
  | [d] => { results := [.lit (.bool false)], args := [d] }
  | _ => none }
def MsgPutsWrongFalsely : Prop := msgPutsRow.holds Try.pinned (OpenSpec.ofChange msgPutsWrong)

/-- 'murmurlaw17.MsgBack': WHATEVER THE INPUT: true; the input reads as it did. -/
def msgBackSpec : ChangeSpec := { name := "msgBack", fn := fun _ => fun
  | [d1, d2] => { results := [.lit (.bool true)], args := [d1, d2] }
  | _ => none }
def msgBackRow : OpenClaim := { program := "ytcgalmnllegnbaa", sum := "ce1eff9eeeee8997932a58a75acfff0f432dce23e5593734440c02d47771fd82", func := "murmur/murmurlaw17.MsgBack", spec := "msgBack", unfollowed := true, recurses := true, apart := false }
def MsgBackSaid : Prop := msgBackRow.holds Try.pinned (OpenSpec.ofChange msgBackSpec)

/-- ITS FALSE NEIGHBOUR: 'it returns false'. Refute it at one input. -/
def msgBackWrong : ChangeSpec := { name := "msgBack", fn := fun _ => fun
  | [d1, d2] => { results := [.lit (.bool false)], args := [d1, d2] }
  | _ => none }
def MsgBackWrongFalsely : Prop := msgBackRow.holds Try.pinned (OpenSpec.ofChange msgBackWrong)

/-- 'murmurlaw17.MsgOthers': WHATEVER THE INPUT: true; the input reads as it did. -/
def msgOthersSpec : ChangeSpec := { name := "msgOthers", fn := fun _ => fun
  | [d1, d2, d3] => { results := [.lit (.bool true)], args := [d1, d2, d3] }
  | _ => none }
def msgOthersRow : OpenClaim := { program := "ytcgalmnllegnbaa", sum := "ce1eff9eeeee8997932a58a75acfff0f432dce23e5593734440c02d47771fd82", func := "murmur/murmurlaw17.MsgOthers", spec := "msgOthers", unfollowed := true, recurses := true, apart := false }
def MsgOthersSaid : Prop := msgOthersRow.holds Try.pinned (OpenSpec.ofChange msgOthersSpec)

/-- ITS FALSE NEIGHBOUR: 'it returns false'. Refute it at one input. -/
def msgOthersWrong : ChangeSpec := { name := "msgOthers", fn := fun _ => fun
  | [d1, d2, d3] => { results := [.lit (.bool false)], args := [d1, d2, d3] }
  | _ => none }
def MsgOthersWrongFalsely : Prop := msgOthersRow.holds Try.pinned (OpenSpec.ofChange msgOthersWrong)

/-- 'murmurlaw21.ChunkSplits': WHATEVER THE INPUT: true; the input reads as it did. -/
def chunkSplitsSpec : ChangeSpec := { name := "chunkSplits", fn := fun _ => fun
  | [d1, d2] => { results := [.lit (.bool true)], args := [d1, d2] }
  | _ => none }
def chunkSplitsRow : OpenClaim := { program := "ytcgalmnllegnbaa", sum := "ce1eff9eeeee8997932a58a75acfff0f432dce23e5593734440c02d47771fd82", func := "murmur/murmurlaw21.ChunkSplits", spec := "chunkSplits", unfollowed := true, recurses := true, apart := false }
def ChunkSplitsSaid : Prop := chunkSplitsRow.holds Try.pinned (OpenSpec.ofChange chunkSplitsSpec)

/-- ITS FALSE NEIGHBOUR: 'it returns false'. Refute it at one input. -/
def chunkSplitsWrong : ChangeSpec := { name := "chunkSplits", fn := fun _ => fun
  | [d1, d2] => { results := [.lit (.bool false)], args := [d1, d2] }
  | _ => none }
def ChunkSplitsWrongFalsely : Prop := chunkSplitsRow.holds Try.pinned (OpenSpec.ofChange chunkSplitsWrong)

/-- 'murmurlaw21.ChunkFits': WHATEVER THE INPUT: true; the input reads as it did. -/
def chunkFitsSpec : ChangeSpec := { name := "chunkFits", fn := fun _ => fun
  | [d1, d2] => { results := [.lit (.bool true)], args := [d1, d2] }
  | _ => none }
def chunkFitsRow : OpenClaim := { program := "ytcgalmnllegnbaa", sum := "ce1eff9eeeee8997932a58a75acfff0f432dce23e5593734440c02d47771fd82", func := "murmur/murmurlaw21.ChunkFits", spec := "chunkFits", unfollowed := true, recurses := true, apart := false }
def ChunkFitsSaid : Prop := chunkFitsRow.holds Try.pinned (OpenSpec.ofChange chunkFitsSpec)

/-- ITS FALSE NEIGHBOUR: 'it returns false'. Refute it at one input. -/
def chunkFitsWrong : ChangeSpec := { name := "chunkFits", fn := fun _ => fun
  | [d1, d2] => { results := [.lit (.bool false)], args := [d1, d2] }
  | _ => none }
def ChunkFitsWrongFalsely : Prop := chunkFitsRow.holds Try.pinned (OpenSpec.ofChange chunkFitsWrong)

/- THE SECOND FORM. 'bulk': how many values and letters a reading holds, each counted each time it is reached (what is shared counts as often as it is met; a slice's spare places count too). A statement '..UptoSaid' is the law's where the arguments, and the package variables that the reading takes, are together of bulk at most 1048576: NARROWER than '..Said'. Prove '..Said' where nothing that the law and all that it calls make is longer than what came in: it says more and counts as full. Else prove '..UptoSaid'. A law counts once. -/
mutual
def uptoBulk {H : Type} : DataW H → Nat
  | .lit (.string bytes) => bytes.length + 1
  | .lit _ => 1
  | .nil => 1
  | .ptr d => uptoBulk d + 1
  | .slice elems spare => uptoBulkAll elems + uptoBulkAll spare + 1
  | .agg parts => uptoBulkAll parts + 1
  | .iface _ d => uptoBulk d + 1
  | .map entries => uptoBulkEntries entries + 1
  | .held _ => 1
def uptoBulkAll {H : Type} : List (DataW H) → Nat
  | [] => 0
  | d :: r => uptoBulk d + uptoBulkAll r
def uptoBulkEntries {H : Type} : List (Lit × DataW H) → Nat
  | [] => 0
  | x :: r => uptoBulkEntry x + uptoBulkEntries r
def uptoBulkEntry {H : Type} : Lit × DataW H → Nat
  | (.string bytes, d) => bytes.length + uptoBulk d + 1
  | (_, d) => uptoBulk d + 1
 end
def uptoSmall : (H : Type) → List (DataW H) → Bool := fun _ ds => decide (uptoBulkAll ds ≤ 1048576)
def OpenSpec.upto (s : _root_.Go.ChangeSpec) : _root_.Go.OpenSpec := { _root_.Go.OpenSpec.ofChange s with cond := some uptoSmall }

/-- 'murmurlaw17.MsgPuts', WHERE WHAT IT READS IS OF BULK AT MOST 1048576: true; the input reads as it did. -/
def msgPutsUptoRow : OpenClaim := { program := "ytcgalmnllegnbaa", sum := "ce1eff9eeeee8997932a58a75acfff0f432dce23e5593734440c02d47771fd82", func := "murmur/murmurlaw17.MsgPuts", spec := "msgPuts", unfollowed := true, recurses := true, apart := false, narrowed := true }
def MsgPutsUptoSaid : Prop := msgPutsUptoRow.holds Try.pinned (OpenSpec.upto msgPutsSpec)

/-- 'murmurlaw17.MsgBack', WHERE WHAT IT READS IS OF BULK AT MOST 1048576: true; the input reads as it did. -/
def msgBackUptoRow : OpenClaim := { program := "ytcgalmnllegnbaa", sum := "ce1eff9eeeee8997932a58a75acfff0f432dce23e5593734440c02d47771fd82", func := "murmur/murmurlaw17.MsgBack", spec := "msgBack", unfollowed := true, recurses := true, apart := false, narrowed := true }
def MsgBackUptoSaid : Prop := msgBackUptoRow.holds Try.pinned (OpenSpec.upto msgBackSpec)

/-- 'murmurlaw17.MsgOthers', WHERE WHAT IT READS IS OF BULK AT MOST 1048576: true; the input reads as it did. -/
def msgOthersUptoRow : OpenClaim := { program := "ytcgalmnllegnbaa", sum := "ce1eff9eeeee8997932a58a75acfff0f432dce23e5593734440c02d47771fd82", func := "murmur/murmurlaw17.MsgOthers", spec := "msgOthers", unfollowed := true, recurses := true, apart := false, narrowed := true }
def MsgOthersUptoSaid : Prop := msgOthersUptoRow.holds Try.pinned (OpenSpec.upto msgOthersSpec)

/-- 'murmurlaw21.ChunkSplits', WHERE WHAT IT READS IS OF BULK AT MOST 1048576: true; the input reads as it did. -/
def chunkSplitsUptoRow : OpenClaim := { program := "ytcgalmnllegnbaa", sum := "ce1eff9eeeee8997932a58a75acfff0f432dce23e5593734440c02d47771fd82", func := "murmur/murmurlaw21.ChunkSplits", spec := "chunkSplits", unfollowed := true, recurses := true, apart := false, narrowed := true }
def ChunkSplitsUptoSaid : Prop := chunkSplitsUptoRow.holds Try.pinned (OpenSpec.upto chunkSplitsSpec)

/-- 'murmurlaw21.ChunkFits', WHERE WHAT IT READS IS OF BULK AT MOST 1048576: true; the input reads as it did. -/
def chunkFitsUptoRow : OpenClaim := { program := "ytcgalmnllegnbaa", sum := "ce1eff9eeeee8997932a58a75acfff0f432dce23e5593734440c02d47771fd82", func := "murmur/murmurlaw21.ChunkFits", spec := "chunkFits", unfollowed := true, recurses := true, apart := false, narrowed := true }
def ChunkFitsUptoSaid : Prop := chunkFitsUptoRow.holds Try.pinned (OpenSpec.upto chunkFitsSpec)

end Rows
end Go.Proofs.Ytcgalmnllegnbaa

/-
  No cell of these rows narrows 'for every input' (looked for: loops, veiled, ifaces, maps, wideKeys, modest, calm, conditions, laid).
  DERIVED. THE GIVEN ROWS OF THIS SEAT. 8 by the template 'for every input the law returns true; each argument reads behind the call as it read before'; 0 by the template 'total and deterministic' (their statements: YtbkcdnjpakicmaaTotals.lean).
  GIVEN WITH THE SEED: the statements are not yours to turn. If you find one false, say at which input.
  Laid BY PROGRAM, IN A SANDBOX (cutbox-rows.mjs): the forced cells as the released guide's own fill.sh prints them over the translation bb04f650d9549639… (all of the seat's roots in one cut). By AI agents, Wed Nov 11 2026. No macro, syntax, notation, axiom, sorry.
-/
import Derived.Test.YtbkcdnjpakicmaaChecked
import GoSem.Claim
import GoSem.ClaimJoined
import GoSem.ClaimMapViews
import Derived.JoinedTies
import Derived.KernelRfl
namespace Go.Proofs.Ytbkcdnjpakicmaa
/- THE CELL 'sum', in the pinned program and in every row, IS THE sha256 OF THE DUMP (.gsa) THAT YtbkcdnjpakicmaaProg.lean LOADS. Nothing in Lean hashes anything: it is a label: what it is worth is what the hold of that sum in a sandbox is worth. -/
noncomputable def Try.pinned : Pinned := { name := "ytbkcdnjpakicmaa", sum := "bb04f650d954963981f068945377ee6d6b683485fb1f9c9b1c419af5a44b16e8", checked := Try.checked }
namespace Rows
def none {H : Type} : Left H := { results := [], args := [] }

/-- 'murmurlaw04.FramePuts': WHATEVER THE INPUT: true; the input reads as it did. -/
def framePutsSpec : ChangeSpec := { name := "framePuts", fn := fun _ => fun
  | [d] => { results := [.lit (.bool true)], args := [d] }
  | _ => none }
def framePutsRow : OpenClaim := { program := "ytbkcdnjpakicmaa", sum := "bb04f650d954963981f068945377ee6d6b683485fb1f9c9b1c419af5a44b16e8", func := "murmur/murmurlaw04.FramePuts", spec := "framePuts", unfollowed := true, recurses := true, apart := false }
def FramePutsSaid : Prop := framePutsRow.holds Try.pinned (OpenSpec.ofChange framePutsSpec)

/-- ITS FALSE NEIGHBOUR: 'it returns false'. Refute it at one input. -/
def framePutsWrong : ChangeSpec := { name := "framePuts", fn := fun _ => fun
  | [d] => { results := [.lit (.bool false)], args := [d] }
  | _ => none }
def FramePutsWrongFalsely : Prop := framePutsRow.holds Try.pinned (OpenSpec.ofChange framePutsWrong)

/-- 'murmurlaw04.FrameTurns': WHATEVER THE INPUT: true; the input reads as it did. -/
def frameTurnsSpec : ChangeSpec := { name := "frameTurns", fn := fun _ => fun
  | [d1, d2, d3] => { results := [.lit (.bool true)], args := [d1, d2, d3] }
  | _ => none }
def frameTurnsRow : OpenClaim := { program := "ytbkcdnjpakicmaa", sum := "bb04f650d954963981f068945377ee6d6b683485fb1f9c9b1c419af5a44b16e8", func := "murmur/murmurlaw04.FrameTurns", spec := "frameTurns", unfollowed := true, recurses := true, apart := false }
def FrameTurnsSaid : Prop := frameTurnsRow.holds Try.pinned (OpenSpec.ofChange frameTurnsSpec)

/-- ITS FALSE NEIGHBOUR: 'it returns false'. Refute it at one input. -/
def frameTurnsWrong : ChangeSpec := { name := "frameTurns", fn := fun _ => fun
  | [d1, d2, d3] => { results := [.lit (.bool false)], args := [d1, d2, d3] }
  | _ => none }
def FrameTurnsWrongFalsely : Prop := frameTurnsRow.holds Try.pinned (OpenSpec.ofChange frameTurnsWrong)

/-- 'murmurlaw04.FrameGets': WHATEVER THE INPUT: true; the input reads as it did. -/
def frameGetsSpec : ChangeSpec := { name := "frameGets", fn := fun _ => fun
  | [d] => { results := [.lit (.bool true)], args := [d] }
  | _ => none }
def frameGetsRow : OpenClaim := { program := "ytbkcdnjpakicmaa", sum := "bb04f650d954963981f068945377ee6d6b683485fb1f9c9b1c419af5a44b16e8", func := "murmur/murmurlaw04.FrameGets", spec := "frameGets", unfollowed := true, recurses := true, apart := false }
def FrameGetsSaid : Prop := frameGetsRow.holds Try.pinned (OpenSpec.ofChange frameGetsSpec)

/-- ITS FALSE NEIGHBOUR: 'it returns false'. Refute it at one input. -/
def frameGetsWrong : ChangeSpec := { name := "frameGets", fn := fun _ => fun
  | [d] => { results := [.lit (.bool false)], args := [d] }
  | _ => none }
def FrameGetsWrongFalsely : Prop := frameGetsRow.holds Try.pinned (OpenSpec.ofChange frameGetsWrong)

/-- 'murmurlaw04.FrameBack': WHATEVER THE INPUT: true; the input reads as it did. -/
def frameBackSpec : ChangeSpec := { name := "frameBack", fn := fun _ => fun
  | [d1, d2] => { results := [.lit (.bool true)], args := [d1, d2] }
  | _ => none }
def frameBackRow : OpenClaim := { program := "ytbkcdnjpakicmaa", sum := "bb04f650d954963981f068945377ee6d6b683485fb1f9c9b1c419af5a44b16e8", func := "murmur/murmurlaw04.FrameBack", spec := "frameBack", unfollowed := true, recurses := true, apart := false }
def FrameBackSaid : Prop := frameBackRow.holds Try.pinned (OpenSpec.ofChange frameBackSpec)

/-- ITS FALSE NEIGHBOUR: 'it returns false'. Refute it at one input. -/
def frameBackWrong : ChangeSpec := { name := "frameBack", fn := fun _ => fun
  | [d1, d2] => { results := [.lit (.bool false)], args := [d1, d2] }
  | _ => none }
def FrameBackWrongFalsely : Prop := frameBackRow.holds Try.pinned (OpenSpec.ofChange frameBackWrong)

/-- 'murmurlaw14.LogCrashes': WHATEVER THE INPUT: true; the input reads as it did. -/
def logCrashesSpec : ChangeSpec := { name := "logCrashes", fn := fun _ => fun
  | [d] => { results := [.lit (.bool true)], args := [d] }
  | _ => none }
def logCrashesRow : OpenClaim := { program := "ytbkcdnjpakicmaa", sum := "bb04f650d954963981f068945377ee6d6b683485fb1f9c9b1c419af5a44b16e8", func := "murmur/murmurlaw14.LogCrashes", spec := "logCrashes", unfollowed := true, recurses := true, apart := false }
def LogCrashesSaid : Prop := logCrashesRow.holds Try.pinned (OpenSpec.ofChange logCrashesSpec)

/-- ITS FALSE NEIGHBOUR: 'it returns false'. Refute it at one input. -/
def logCrashesWrong : ChangeSpec := { name := "logCrashes", fn := fun _ => fun
  | [d] => { results := [.lit (.bool false)], args := [d] }
  | _ => none }
def LogCrashesWrongFalsely : Prop := logCrashesRow.holds Try.pinned (OpenSpec.ofChange logCrashesWrong)

/-- 'murmurlaw14.LogBytes': WHATEVER THE INPUT: true; the input reads as it did. -/
def logBytesSpec : ChangeSpec := { name := "logBytes", fn := fun _ => fun
  | [d] => { results := [.lit (.bool true)], args := [d] }
  | _ => none }
def logBytesRow : OpenClaim := { program := "ytbkcdnjpakicmaa", sum := "bb04f650d954963981f068945377ee6d6b683485fb1f9c9b1c419af5a44b16e8", func := "murmur/murmurlaw14.LogBytes", spec := "logBytes", unfollowed := true, recurses := true, apart := false }
def LogBytesSaid : Prop := logBytesRow.holds Try.pinned (OpenSpec.ofChange logBytesSpec)

/-- ITS FALSE NEIGHBOUR: 'it returns false'. Refute it at one input. -/
def logBytesWrong : ChangeSpec := { name := "logBytes", fn := fun _ => fun
  | [d] => { results := [.lit (.bool false)], args := [d] }
  | _ => none }
def LogBytesWrongFalsely : Prop := logBytesRow.holds Try.pinned (OpenSpec.ofChange logBytesWrong)

/-- 'murmurlaw14.LogPlays': WHATEVER THE INPUT: true; the input reads as it did. -/
def logPlaysSpec : ChangeSpec := { name := "logPlays", fn := fun _ => fun
  | [d1, d2] => { results := [.lit (.bool true)], args := [d1, d2] }
  | _ => none }
def logPlaysRow : OpenClaim := { program := "ytbkcdnjpakicmaa", sum := "bb04f650d954963981f068945377ee6d6b683485fb1f9c9b1c419af5a44b16e8", func := "murmur/murmurlaw14.LogPlays", spec := "logPlays", unfollowed := true, recurses := true, apart := false }
def LogPlaysSaid : Prop := logPlaysRow.holds Try.pinned (OpenSpec.ofChange logPlaysSpec)

/-- ITS FALSE NEIGHBOUR: 'it returns false'. Refute it at one input. -/
def logPlaysWrong : ChangeSpec := { name := "logPlays", fn := fun _ => fun
  | [d1, d2] => { results := [.lit (.bool false)], args := [d1, d2] }
  | _ => none }
def LogPlaysWrongFalsely : Prop := logPlaysRow.holds Try.pinned (OpenSpec.ofChange logPlaysWrong)

/-- 'murmurlaw14.LogRewrites': WHATEVER THE INPUT: true; the input reads as it did. -/
def logRewritesSpec : ChangeSpec := { name := "logRewrites", fn := fun _ => fun
  | [d1, d2, d3] => { results := [.lit (.bool true)], args := [d1, d2, d3] }
  | _ => none }
def logRewritesRow : OpenClaim := { program := "ytbkcdnjpakicmaa", sum := "bb04f650d954963981f068945377ee6d6b683485fb1f9c9b1c419af5a44b16e8", func := "murmur/murmurlaw14.LogRewrites", spec := "logRewrites", unfollowed := true, recurses := true, apart := false }
def LogRewritesSaid : Prop := logRewritesRow.holds Try.pinned (OpenSpec.ofChange logRewritesSpec)

/-- ITS FALSE NEIGHBOUR: 'it returns false'. Refute it at one input. -/
def logRewritesWrong : ChangeSpec := { name := "logRewrites", fn := fun _ => fun
  | [d1, d2, d3] => { results := [.lit (.bool false)], args := [d1, d2, d3] }
  | _ => none }
def LogRewritesWrongFalsely : Prop := logRewritesRow.holds Try.pinned (OpenSpec.ofChange logRewritesWrong)

/- THE SECOND FORM. 'bulk': how many values and letters a reading holds, each counted each time it is reached (what is shared counts as often as it is met; a slice's spare places count too). A statement '..UptoSaid' is the law's where the arguments, and the package variables that the reading takes, are together of bulk at most 1048576: NARROWER than '..Said'. Prove '..Said' where nothing that the law and all that it calls make is longer than what came in: it says more and counts as full. Else prove '..UptoSaid'. A law counts once. -/
mutual
def uptoBulk {H : Type} : DataW H → Nat
  | .lit (.string bytes) => bytes.length + 1
  | .lit _ => 1
  | .nil => 1
  | .ptr d => uptoBulk d + 1
  | .slice elems spare => uptoBulkAll elems + uptoBulkAll spare + 1
  | .agg parts => uptoBulkAll parts + 1
  | .iface _ d => uptoBulk d + 1
  | .map entries => uptoBulkEntries entries + 1
  | .held _ => 1
def uptoBulkAll {H : Type} : List (DataW H) → Nat
  | [] => 0
  | d :: r => uptoBulk d + uptoBulkAll r
def uptoBulkEntries {H : Type} : List (Lit × DataW H) → Nat
  | [] => 0
  | x :: r => uptoBulkEntry x + uptoBulkEntries r
def uptoBulkEntry {H : Type} : Lit × DataW H → Nat
  | (.string bytes, d) => bytes.length + uptoBulk d + 1
  | (_, d) => uptoBulk d + 1
 end
def uptoSmall : (H : Type) → List (DataW H) → Bool := fun _ ds => decide (uptoBulkAll ds ≤ 1048576)
def OpenSpec.upto (s : _root_.Go.ChangeSpec) : _root_.Go.OpenSpec := { _root_.Go.OpenSpec.ofChange s with cond := some uptoSmall }

/-- 'murmurlaw04.FramePuts', WHERE WHAT IT READS IS OF BULK AT MOST 1048576: true; the input reads as it did. -/
def framePutsUptoRow : OpenClaim := { program := "ytbkcdnjpakicmaa", sum := "bb04f650d954963981f068945377ee6d6b683485fb1f9c9b1c419af5a44b16e8", func := "murmur/murmurlaw04.FramePuts", spec := "framePuts", unfollowed := true, recurses := true, apart := false, narrowed := true }
def FramePutsUptoSaid : Prop := framePutsUptoRow.holds Try.pinned (OpenSpec.upto framePutsSpec)

/-- 'murmurlaw04.FrameTurns', WHERE WHAT IT READS IS OF BULK AT MOST 1048576: true; the input reads as it did. -/
def frameTurnsUptoRow : OpenClaim := { program := "ytbkcdnjpakicmaa", sum := "bb04f650d954963981f068945377ee6d6b683485fb1f9c9b1c419af5a44b16e8", func := "murmur/murmurlaw04.FrameTurns", spec := "frameTurns", unfollowed := true, recurses := true, apart := false, narrowed := true }
def FrameTurnsUptoSaid : Prop := frameTurnsUptoRow.holds Try.pinned (OpenSpec.upto frameTurnsSpec)

/-- 'murmurlaw04.FrameGets', WHERE WHAT IT READS IS OF BULK AT MOST 1048576: true; the input reads as it did. -/
def frameGetsUptoRow : OpenClaim := { program := "ytbkcdnjpakicmaa", sum := "bb04f650d954963981f068945377ee6d6b683485fb1f9c9b1c419af5a44b16e8", func := "murmur/murmurlaw04.FrameGets", spec := "frameGets", unfollowed := true, recurses := true, apart := false, narrowed := true }
def FrameGetsUptoSaid : Prop := frameGetsUptoRow.holds Try.pinned (OpenSpec.upto frameGetsSpec)

/-- 'murmurlaw04.FrameBack', WHERE WHAT IT READS IS OF BULK AT MOST 1048576: true; the input reads as it did. -/
def frameBackUptoRow : OpenClaim := { program := "ytbkcdnjpakicmaa", sum := "bb04f650d954963981f068945377ee6d6b683485fb1f9c9b1c419af5a44b16e8", func := "murmur/murmurlaw04.FrameBack", spec := "frameBack", unfollowed := true, recurses := true, apart := false, narrowed := true }
def FrameBackUptoSaid : Prop := frameBackUptoRow.holds Try.pinned (OpenSpec.upto frameBackSpec)

/-- 'murmurlaw14.LogCrashes', WHERE WHAT IT READS IS OF BULK AT MOST 1048576: true; the input reads as it did. -/
def logCrashesUptoRow : OpenClaim := { program := "ytbkcdnjpakicmaa", sum := "bb04f650d954963981f068945377ee6d6b683485fb1f9c9b1c419af5a44b16e8", func := "murmur/murmurlaw14.LogCrashes", spec := "logCrashes", unfollowed := true, recurses := true, apart := false, narrowed := true }
def LogCrashesUptoSaid : Prop := logCrashesUptoRow.holds Try.pinned (OpenSpec.upto logCrashesSpec)

/-- 'murmurlaw14.LogBytes', WHERE WHAT IT READS IS OF BULK AT MOST 1048576: true; the input reads as it did. -/
def logBytesUptoRow : OpenClaim := { program := "ytbkcdnjpakicmaa", sum := "bb04f650d954963981f068945377ee6d6b683485fb1f9c9b1c419af5a44b16e8", func := "murmur/murmurlaw14.LogBytes", spec := "logBytes", unfollowed := true, recurses := true, apart := false, narrowed := true }
def LogBytesUptoSaid : Prop := logBytesUptoRow.holds Try.pinned (OpenSpec.upto logBytesSpec)

/-- 'murmurlaw14.LogPlays', WHERE WHAT IT READS IS OF BULK AT MOST 1048576: true; the input reads as it did. -/
def logPlaysUptoRow : OpenClaim := { program := "ytbkcdnjpakicmaa", sum := "bb04f650d954963981f068945377ee6d6b683485fb1f9c9b1c419af5a44b16e8", func := "murmur/murmurlaw14.LogPlays", spec := "logPlays", unfollowed := true, recurses := true, apart := false, narrowed := true }
def LogPlaysUptoSaid : Prop := logPlaysUptoRow.holds Try.pinned (OpenSpec.upto logPlaysSpec)

/-- 'murmurlaw14.LogRewrites', WHERE WHAT IT READS IS OF BULK AT MOST 1048576: true; the input reads as it did. -/
def logRewritesUptoRow : OpenClaim := { program := "ytbkcdnjpakicmaa", sum := "bb04f650d954963981f068945377ee6d6b683485fb1f9c9b1c419af5a44b16e8", func := "murmur/murmurlaw14.LogRewrites", spec := "logRewrites", unfollowed := true, recurses := true, apart := false, narrowed := true }
def LogRewritesUptoSaid : Prop := logRewritesUptoRow.holds Try.pinned (OpenSpec.upto logRewritesSpec)

end Rows
end Go.Proofs.Ytbkcdnjpakicmaa

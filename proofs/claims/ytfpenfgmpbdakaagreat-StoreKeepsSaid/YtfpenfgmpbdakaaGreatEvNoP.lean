import Derived.Test.YtfpenfgmpbdakaaGreatMem
namespace Go.Proofs.YtfpenfgmpbdakaaGreat
set_option linter.unusedVariables false
set_option linter.unusedSimpArgs false
set_option maxRecDepth 100000
open Go.RowKit
def NoPanic (Q : Exit→Act→World→Prop) : Exit→Act→World→Prop
  | .panic _,_,_=>False
  | e,a,w=>Q e a w
theorem NoPanic.ok {Q : Exit→Act→World→Prop} {a : Act} {w : World} (h : Q .normal a w) : NoPanic Q .normal a w:=h
theorem wp_nopanic {P : Program} {c : Code} {Q : Exit→Act→World→Prop} {a : Act} {w : World} (h : c.wp P (NoPanic Q) a w) : c.wp P Q a w :=
  Code.wp_mono (fun e a w h=>by cases e <;> first | exact h | exact False.elim h) h
end Go.Proofs.YtfpenfgmpbdakaaGreat

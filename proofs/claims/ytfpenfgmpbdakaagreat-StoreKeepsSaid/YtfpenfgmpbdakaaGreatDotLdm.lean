import Derived.Test.YtfpenfgmpbdakaaGreatQuiet
namespace Go.Proofs.YtfpenfgmpbdakaaGreat
set_option linter.unusedVariables false
set_option linter.unusedSimpArgs false
set_option maxRecDepth 100000
open Go.RowKit
theorem wpList_ldm {P : Program} {ops : Array Oper} {rest : List Oper} {a : Act} {w : World} {Q : Exit→Act→World→Prop} {d : Option Tmp} {ty T : TypeId} {pos : String} {aft : Array Edge} {x : Operand} {b o n : Nat} {cs : List Value} (hR : RowT P T n) (hc : w.rangeAt b o cs) (hn : cs.length = n)
    (h : wpList P ops Q rest (a.put d (.agg cs.toArray)) w) (hx : a.eval x = .pointer (some ⟨b,o,none⟩)) : wpList P ops Q (⟨d,.load T x,ty,pos,aft,none⟩ :: rest) a w:=by
  obtain ⟨e,hu,hd,hi⟩:=hR;rw [← hn] at hi;exact wpList_load_mid rfl T x rfl b o hx cs e hc hu hd hi h
end Go.Proofs.YtfpenfgmpbdakaaGreat

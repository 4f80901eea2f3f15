/- A row in the midst of a block, loaded and stored whole. -/
import Derived.Test.YtcgalmnllegnbaaQuiet
namespace Go.Proofs.Ytcgalmnllegnbaa
set_option linter.unusedVariables false
set_option linter.unusedSimpArgs false
set_option maxRecDepth 100000
open Go.RowKit
theorem wpList_ldm {P : Program} {ops : Array Oper} {rest : List Oper} {a : Act} {w : World} {Q : Exit → Act → World → Prop} {d : Option Tmp} {ty T : TypeId} {pos : String} {aft : Array Edge} {x : Operand} {b o n : Nat} {cs : List Value} (hR : RowT P T n) (hc : w.rangeAt b o cs) (hn : cs.length = n)
    (h : wpList P ops Q rest (a.put d (.agg cs.toArray)) w) (hx : a.eval x = .pointer (some ⟨b, o, none⟩)) : wpList P ops Q (⟨d, .load T x, ty, pos, aft, none⟩ :: rest) a w := by
  obtain ⟨e, hu, hd, hi⟩ := hR
  rw [← hn] at hi
  exact wpList_load_mid rfl T x rfl b o hx cs e hc hu hd hi h
theorem wpList_stm {P : Program} {ops : Array Oper} {rest : List Oper} {a : Act} {w : World} {Q : Exit → Act → World → Prop} {d : Option Tmp} {ty T : TypeId} {pos : String} {aft : Array Edge} {x y : Operand} {b o n : Nat} {cs : Array Value} (hR : RowT P T n) (ht : w.there b o n) (hn : cs.size = n) (h1 : cs.all (·.oneCell') = true)
    (h : wpList P ops Q rest (a.put d undef) (w.setCells b o cs.toList)) (hx : a.eval x = .pointer (some ⟨b, o, none⟩)) (hy : a.eval y = .agg cs) : wpList P ops Q (⟨d, .store T x y, ty, pos, aft, none⟩ :: rest) a w := by
  obtain ⟨e, hu, hd, hi⟩ := hR
  rw [← hn] at hi ht
  exact wpList_store_mid rfl T x y rfl b o cs hx hy ht hi h1 h
end Go.Proofs.Ytcgalmnllegnbaa

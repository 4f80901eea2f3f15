import Derived.Test.YtfpenfgmpbdakaaGreatDotCls
namespace Go.Proofs.YtfpenfgmpbdakaaGreat
set_option linter.unusedVariables false
set_option linter.unusedSimpArgs false
set_option maxRecDepth 100000
open Go.RowKit
open Dot
theorem eight {U : List Int} (h : U.length = 8) : ∃ a b c d e f g i,U = [a,b,c,d,e,f,g,i]:=by
  match U,h with
  | [a,b,c,d,e,f,g,i],_=>exact ⟨a,b,c,d,e,f,g,i,rfl⟩
theorem build1 {U : List Int} (h : U.length = 8) (A : Option Addr) (n c : Nat) (w : World) : (Instr.buildSlice 194 1 #[(0,.agg (uc U (.slice A n c)))]).run Tryz.prog w = .ok (.slice (some ⟨w.heap.size,0,none⟩) 1 1) (w.alloc (.cells (uc U (.slice A n c)) 180)):=by
  obtain ⟨a,b,c,d,e,f,g,i,rfl⟩:=eight h
  kernel_rfl
theorem step_bs {P : Program} {o : Oper} {a : Act} {w w' : World} {v : Value} {K : Act→World→Prop} {Q : Exit→Act→World→Prop} (t : TypeId) (len : Nat) (parts : Array (Nat × Operand)) (ho : o.op = .buildSlice t len parts)
    (hrun : (Instr.buildSlice t len (parts.map fun (i,x)=>(i,a.eval x))).run P w = .ok v w') (h : K (a.put o.dst v) w') : o.wp P a w K Q:=by
  unfold Oper.wp execOp
  simp only [ho,Sem.run_bind,hrun,Result.andThen_ok]
  exact h
theorem wpList_bs {P : Program} {ops : Array Oper} {rest : List Oper} {o : Oper} {a : Act} {w w' : World} {v : Value} {Q : Exit→Act→World→Prop} (hg : o.guard = none) (t : TypeId) (len : Nat) (parts : Array (Nat × Operand)) (ho : o.op = .buildSlice t len parts)
    (hrun : (Instr.buildSlice t len (parts.map fun (i,x)=>(i,a.eval x))).run P w = .ok v w') (h : wpList P ops Q rest (a.put o.dst v) w') : wpList P ops Q (o :: rest) a w :=
  wpList_plain hg fun _ hK=>step_bs t len parts ho hrun (hK _ _ h)
def hasB (U : List Int) (l : List Dt) (d : Dt) : Bool:=mayB d && hasG U l d.1.toNat d.2.toNat
end Go.Proofs.YtfpenfgmpbdakaaGreat

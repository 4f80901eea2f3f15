import Derived.Test.YtfpenfgmpbdakaaGreatMem
import Derived.Test.YtfpenfgmpbdakaaGreatRows
import Derived.ProofKit
import Derived.OpenShut
import Derived.ShutString
import Derived.ChangeOld
import Derived.Below
namespace Go.Proofs.YtfpenfgmpbdakaaGreat
set_option linter.unusedVariables false
set_option linter.unusedSimpArgs false
open Go.ChangeShapes Go.WideShapes Go.ChangeAt Go.RowKit
theorem own : ownKnob Tryz.prog.godebug = none:=by kernel_rfl
theorem laidOut : laidOutB Tryz.prog = true:=by kernel_rfl
theorem rd_bytes {H : Type} {enc : TypeId × Value→H} {W : World} {base : Nat} {sp : Nat→Bool} {held : Bool} {fuel : Nat} {cs : List Value} {x : DataW H × List MemPlace}
    (hf : DataW.trod enc Tryz.prog W base sp held fuel 22 cs = some x) :
    ∃ (a : Option Addr) (n cap : Nat) (bs : List UInt8),cs = [.slice a n cap]∧RdB W W.heap.size a n bs∧n≤cap∧cap≤maxLen:=by
  rcases open_ints Tryz.underlying22 Tryz.underlying5 (by kernel_rfl) hf with ⟨hcs,_⟩ | ⟨x,len0,cap0,zs,hcs,_,hl,hm,hz,_,hcell,hwz⟩
  · exact ⟨_,_,_,[],hcs,RdB.nil _ _ _,Nat.le_refl _,Nat.zero_le _⟩
  · have hz' : len0≤zs.length:=by rw [hz];split <;> omega
    have hlen : ((zs.take len0).map fun z=>UInt8.ofNat z.toNat).length = len0:=by simp;omega
    refine ⟨_,len0,cap0,(zs.take len0).map fun z=>UInt8.ofNat z.toNat,hcs,⟨hlen.symm,?_⟩,hl,hm⟩;intro j u hu
    simp only [List.getElem?_map,List.getElem?_take] at hu
    by_cases hj : j < len0
    · rw [if_pos hj] at hu
      have hjz : j < zs.length:=by omega
      have hw:=hwz zs[j] (List.getElem_mem hjz)
      have hw2 : 0≤zs[j]∧zs[j] < 256:=by
        have hmin : IntKind.u8.min = 0:=rfl;have hmax : IntKind.u8.max = 255:=rfl
        simp only [Lit.wf,Bool.and_eq_true,decide_eq_true_eq] at hw
        omega
      have hcj:=hcell j hjz;rw [List.getD_eq_getElem?_getD,List.getElem?_eq_getElem hjz] at hcj;rw [List.getElem?_eq_getElem hjz] at hu
      simp only [Option.map_some,Option.some.injEq] at hu
      refine ⟨x,rfl,?_,?_⟩
      · have:=World.block_lt_of_cell? W _ hcj
        rwa [block_add] at this
      · rw [hcj,← hu]
        show some (Value.int .u8 zs[j]) = some (Value.int .u8 _)
        have : ((UInt8.ofNat zs[j].toNat).toNat : Int) = zs[j]:=by
          rw [UInt8.toNat_ofNat']
          omega
        rw [this]
    · rw [if_neg hj] at hu;simp at hu
set_option maxRecDepth 100000
end Go.Proofs.YtfpenfgmpbdakaaGreat

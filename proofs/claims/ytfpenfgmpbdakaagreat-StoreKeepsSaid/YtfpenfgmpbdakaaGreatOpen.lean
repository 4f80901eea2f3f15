import Derived.Test.YtfpenfgmpbdakaaGreatShell
import Derived.Deep.Slices
import Derived.Deep.Fields
import Derived.Deep.Strs
namespace Go.Proofs.YtfpenfgmpbdakaaGreat
set_option linter.unusedVariables false
set_option linter.unusedSimpArgs false
set_option maxRecDepth 100000
open Go.ChangeShapes Go.WideShapes Go.ChangeAt Go.RowKit Go.Deep
section
variable {H : Type} {enc : TypeId × Value→H} {W : World} {base : Nat} {sp : Nat→Bool} {held : Bool} {fuel : Nat} {cs : List Value} {x : DataW H × List MemPlace}
theorem rd_int (hf : DataW.trod enc Tryz.prog W base sp held fuel 3 cs = some x) : ∃ z : Int,cs = [.int .i64 z]∧-9223372036854775808≤z∧z≤9223372036854775807:=by
  obtain ⟨z,h1,_,hw⟩:=DataW.trod_int Tryz.underlying3 hf;refine ⟨z,h1,?_⟩;have hmin : IntKind.i64.min = -9223372036854775808:=rfl;have hmax : IntKind.i64.max = 9223372036854775807:=rfl
  simp only [Lit.wf,Bool.and_eq_true,decide_eq_true_eq] at hw
  omega
theorem rd_field {t : TypeId} {fs : Array Field} (ht : (Tryz.prog).underlying t = some (.struct fs)) (hf : DataW.trod enc Tryz.prog W base sp held fuel t cs = some x) (j T o m : Nat)
    (hj : (fs[j]?).map (fun f=>(f.type,f.offset)) = some (T,o)) (hm : (Tryz.prog).cellsOf T = m) : ∃ n y,DataW.trod enc Tryz.prog W base sp held n T ((cs.drop o).take m) = some y:=by
  obtain ⟨xs,n,_,_,_,hxl,hg⟩:=DataW.trod_struct ht hf;obtain ⟨f,hf1,hf2⟩:=Option.map_eq_some_iff.1 hj
  injection hf2 with h1 h2
  have hjl : j < xs.length:=by
    rw [hxl];exact (Array.getElem?_eq_some_iff.1 hf1).1
  have h:=hg j f hf1;rw [h1,h2,hm,List.getElem?_eq_getElem hjl] at h;exact ⟨n,_,h⟩
theorem rd_len {t : TypeId} {fs : Array Field} {m : Nat} (ht : (Tryz.prog).underlying t = some (.struct fs)) (hm : (Tryz.prog).cellsOf t = m) (hf : DataW.trod enc Tryz.prog W base sp held fuel t cs = some x) : cs.length = m:=by
  obtain ⟨xs,n,_,_,hl,_⟩:=DataW.trod_struct ht hf;rw [hl,hm]
theorem rd_slice {t e : TypeId} {m : Nat} (ht : (Tryz.prog).underlying t = some (.slice e)) (hm : (Tryz.prog).cellsOf e = m) (hf : DataW.trod enc Tryz.prog W base sp held fuel t cs = some x) :
    ∃ (a : Option Addr) (n cap : Nat),cs = [.slice a n cap]∧n≤cap∧cap≤maxLen∧∀ i,i < n→∃ (ad : Addr) (cs' : List Value) (fuel' : Nat) (x' : DataW H × List MemPlace),a = some ad∧cs'.length = m∧(∀ j,j < m→W.cell? ((ad.add (i * m)).add j) = cs'[j]?)∧DataW.trod enc Tryz.prog W base sp held fuel' e cs' = some x':=by
  rcases open_slice ht hf with ⟨h0,_⟩ | ⟨a,len,cap,k,n,D,Pl,hcs,hb,hl,hc,hk,hx,hi⟩
  · exact ⟨none,0,0,h0,Nat.le_refl _,Nat.zero_le _,fun i h=>absurd h (Nat.not_lt_zero _)⟩
  · refine ⟨some a,len,cap,hcs,hl,hc,fun i h=>?_⟩
    have hik : i < k:=by rw [hk];split <;> omega
    obtain ⟨cs',hc',ht'⟩:=hi i hik;rw [hm] at hc';obtain ⟨_,hcl,hat⟩:=World.cells?_some hc';exact ⟨a,cs',n,_,rfl,hcl,fun j hj=>hat j hj,ht'⟩
end
end Go.Proofs.YtfpenfgmpbdakaaGreat

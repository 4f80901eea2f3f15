import Derived.Test.YtcgalmnllegnbaaEvRight
import Derived.Test.YtcgalmnllegnbaaVintPut
import Derived.RegionTactic
namespace Go.Proofs.Ytcgalmnllegnbaa
set_option linter.unusedVariables false
set_option linter.unusedSimpArgs false
set_option maxRecDepth 100000
open Go.RowKit
open Dot Evt
theorem grown_refl0 (w : World) (row : Option Nat) : w.grownBy w row:=⟨rfl,rfl,rfl,Nat.le_refl _,fun _ _ _=>rfl⟩
abbrev eflt (x : Int) : Value:=.iface 151 (.agg #[.int .i64 x])
theorem eframe15 (a f : Value) : (#[a] ++ (Array.replicate 14 undef).setIfInBounds 4 f : Array Value) = #[a,undef,undef,undef,undef,f,undef,undef,undef,undef,undef,undef,undef,undef,undef]:=by kernel_rfl
theorem eassert_flt (x : Int) (w : World) : (Instr.typeAssert (eflt x) 20 151 true).run Try.prog w = .ok (.tuple #[.agg #[.int .i64 x],.bool true]) w:=by kernel_rfl
theorem ecaught_panic (g : Nat) (x : Int) (older : List PanicEntry) (v : Value) (w : World) (h0 : w.cell? ⟨g,0,none⟩ = some v) (hf : w.frozen? ⟨g,0,none⟩ = false) :
    CallsD Try.prog 75 #[.pointer (some ⟨g,0,none⟩)] (.panicking ({ v:=eflt x,recovered:=false } :: older)) w fun e u' w' =>
      e = .returned (.tuple #[])∧u' = .panicking ({ v:=eflt x,recovered:=true } :: older)∧w' = (w.alloc (.cells #[.int .i64 x] 151)).setCell ⟨g,0,none⟩ (.int .i64 x):=by
  have ta:=eassert_flt x;have lt0:=World.block_lt_of_cell? w _ h0
  refine callsD_of_wpS Try.func75 rfl fun c₀ cs hu=>?_
  apply wpS_seq
  apply wpS_region
  simp [wpOpsS,go_sem,recoverD,hu,Try.ntmps75,Exit.thenS]
  refine wpS_of_wp ?_;rw [eframe15];go_wp2_with fail
  simp [bodyPostS,results,Try.results75]
theorem ecaught_none (g : Nat) (w : World) :
    CallsD Try.prog 75 #[.pointer (some ⟨g,0,none⟩)] .returning w fun e u' w'=>e = .returned (.tuple #[])∧u' = .returning∧w' = w:=by
  refine callsD_of_wpS Try.func75 rfl fun c₀ cs hu=>?_
  apply wpS_seq
  apply wpS_region
  simp [wpOpsS,go_sem,recoverD,hu,Try.ntmps75,Exit.thenS]
  refine wpS_of_wp ?_;rw [eframe15];go_wp2_with fail
  cases c₀
  simp_all [bodyPostS,results,Try.results75]
theorem wfail_any (g : Nat) (x : Int) (w : World) :
    Calls Try.prog 106 #[.pointer (some ⟨g,0,none⟩),.int .i64 x] w fun e w'=>e = .panicked [{ v:=eflt x,recovered:=false }]∧w = w':=by
  go_enter Try.func106,Try.ntmps106
  go_wp2_with fail;exact ⟨rfl,rfl,rfl⟩
def WrS (w : World) (g : Nat) (bs : List UInt8) : Prop:=∃ A n c,Blk w g 123 #[.slice A n c]∧OwnB w (g + 1) A n c bs
theorem WrS.lt {w : World} {g : Nat} {bs : List UInt8} (h : WrS w g bs) : g < w.heap.size:=by obtain ⟨A,n,c,h,_⟩:=h;exact h.lt
theorem WrS.alloc {w : World} {g : Nat} {bs : List UInt8} (h : WrS w g bs) (o : Obj) : WrS (w.alloc o) g bs:=by
  obtain ⟨A,n,c,h,h2⟩:=h;exact ⟨A,n,c,h.alloc o,h2.alloc o⟩
theorem WrS.below {w w' : World} {g : Nat} {bs : List UInt8} (h : WrS w g bs) (hb : Below w.heap.size w w') : WrS w' g bs:=by
  obtain ⟨A,n,c,h,h2⟩:=h;exact ⟨A,n,c,h.below hb h.lt,h2.below hb (Nat.le_refl _)⟩
theorem wnum_any (g : Nat) (p : Addr) (bs : List UInt8) (x : Nat) (w : World) (h : WrS w g bs) (hp : w.cell? p = some (.int .i64 x)) (hx : x≤1099511627776) (hl : bs.length≤140737488355000) :
    Calls Try.prog 76 #[.pointer (some ⟨g,0,none⟩),.pointer (some p)] w fun e w'=>e = .returned (.tuple #[])∧WrS w' g (bs ++ Vint.enc x)∧w.grownBy w' (some g):=by
  obtain ⟨A,n,c,hb,ho⟩:=h;have c0 : w.cell? ⟨g,0,none⟩ = some (.slice A n c):=hb.cell 0;have hpl : p.block < w.heap.size:=World.block_lt_of_cell? w _ hp;have HO:=Lib.hid ho;have HB:=Lib.hid hb;have HL:=Lib.hid (show n≤140737488355000 by rw [ho.1];exact hl);have hgl:=hb.lt;have hcal:=put_ok A n c bs x w.heap.size w.drew ho.rd (Nat.le_refl _) HL.out hx;have HC:=Lib.hid hcal;clear hb ho hl hcal
  go_enter Try.func76,Try.ntmps76
  go_wp2_with fail
  go_region_with (go_at_call 34;refine HC.out.mono ?_;rintro e w1 ⟨A1,n1,c1,rfl,ho1,b1⟩;have kb1 : Blk w1 g 123 #[.slice A n c]:=HB.out.drew.below b1 HB.out.lt;have c1' : w1.cell? ⟨g,0,none⟩ = some (.slice A n c):=kb1.cell 0;have f1:=kb1.free 0)
  all_goals (
    go_wp2_with fail
    go_end0
    refine ⟨rfl,⟨A1,n1,c1,kb1.set_ 0 _,?_⟩,?_⟩
    · refine (ho1.mono (by show g + 1≤w.heap.size;omega)).setFar ?_ _
      rcases A1 with _ | a
      · simp
      · have:=(ho1.lt a.block rfl).1
        have h2 : w.drew.heap.size = w.heap.size:=rfl
        simp
        omega
    · have hg:=only_below (grown_refl0 w.drew (some g)) b1
      have hg2 : w.grownBy w1 (some g):=⟨hg.os,hg.tape,hg.output,hg.size,hg.block⟩
      exact only_set hg2 _)
end Go.Proofs.Ytcgalmnllegnbaa

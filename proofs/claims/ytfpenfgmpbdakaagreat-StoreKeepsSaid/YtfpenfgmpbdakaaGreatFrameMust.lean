import Derived.Test.YtfpenfgmpbdakaaGreatFramePut
import Derived.Test.YtfpenfgmpbdakaaGreatVintRead
namespace Go.Proofs.YtfpenfgmpbdakaaGreat
set_option linter.unusedVariables false
set_option linter.unusedSimpArgs false
set_option maxRecDepth 100000
open Go.RowKit
namespace Frame
abbrev flt (x : Int) : Value:=.iface 156 (.agg #[.int .i64 x])
theorem must_ok (x : Int) (w : World) :
    Calls Tryz.prog 106 #[.bool true,.int .i64 x] w fun e w'=>e = .returned (.tuple #[])∧w = w':=by
  go_enter Tryz.func106,Tryz.ntmps106
  go_wp2_with fail
  go_end0
  exact ⟨rfl,rfl⟩
theorem must_bad (x : Int) (w : World) :
    Calls Tryz.prog 106 #[.bool false,.int .i64 x] w fun e w'=>e = .panicked [{ v:=flt x,recovered:=false }]∧w = w':=by
  go_enter Tryz.func106,Tryz.ntmps106
  go_wp2_with fail;exact ⟨rfl,rfl,rfl⟩
theorem must_yes {b : Bool} (hb : b = true) (x : Int) (w : World) : Calls Tryz.prog 106 #[.bool b,.int .i64 x] w fun e w'=>e = .returned (.tuple #[])∧w = w':=hb ▸ must_ok x w
theorem must_no {b : Bool} (hb : b = false) (x : Int) (w : World) : Calls Tryz.prog 106 #[.bool b,.int .i64 x] w fun e w'=>e = .panicked [{ v:=flt x,recovered:=false }]∧w = w':=hb ▸ must_bad x w
theorem drewN2 (w : World) (a b : Nat) : (w.drewN a).drewN b = w.drewN (a + b):=by simp [World.drewN,Nat.add_assoc]
theorem equal_any (A1 A2 : Option Addr) (n1 c1 n2 c2 : Nat) (xs ys : List UInt8) (B1 B2 : Nat) (w : World) (h1 : RdB w B1 A1 n1 xs) (h2 : RdB w B2 A2 n2 ys) (hl : n1≤9223372036854775807) (hne : n1 = n2) :
    Calls Tryz.prog 111 #[.slice A1 n1 c1,.slice A2 n2 c2] w fun e w'=>e = .returned (.bool (decide (xs = ys)))∧∃ m,w' = w.drewN m:=by
  obtain rfl:=h1.1;obtain hn:=h2.1;subst hne
  go_enter Tryz.func111,Tryz.ntmps111
  go_wp2_with fail
  go_loopw [13] (fun i wr=>∃ k m : Nat,k≤xs.length∧i = .int .i64 k∧wr = w.drewN m∧xs.take k = ys.take k) (fun i _=>xs.length - (intOf i).toNat)
  case atStart=>exact ⟨0,0,by omega,rfl,rfl,rfl⟩
  case round =>
    obtain ⟨k,m,hk,rfl,rfl,hp⟩:=hrel;have HP:=Lib.hid hp;clear hp
    by_cases hlt : k < xs.length
    · obtain ⟨a1,rfl,_,hc1⟩:=h1.at_ hlt
      obtain ⟨a2,rfl,_,hc2⟩:=h2.at_ (show k < ys.length by omega);have HN:=Lib.hid hn
      have hlt2 : k < ys.length:=by omega
      obtain ⟨x,hx⟩ : ∃ x,x = xs[k]:=⟨_,rfl⟩;obtain ⟨y,hy⟩ : ∃ y,y = ys[k]:=⟨_,rfl⟩;rw [← hx] at hc1;rw [← hy] at hc2;have HX:=Lib.hid hx;have HY:=Lib.hid hy;clear hx hy hn
      by_cases hxy : x = y
      · have hq : ((x.toNat : Int) != (y.toNat : Int)) = false:=by simp [hxy]
        go_wp2_with fail
        go_quiet (fail)
        go_wp2_with fail
        go_roundw
        case rel=>exact ⟨k + 1,_,by omega,by go_num,rfl,by rw [take_snoc xs hlt,take_snoc ys hlt2,HP.out,← HX.out,← HY.out,hxy]⟩
        case measure=>simp [intOf];omega
      · have hq : ((x.toNat : Int) != (y.toNat : Int)) = true:=by
          rw [bne_iff_ne];intro e;exact hxy (UInt8.toNat_inj.1 (by omega))
        have hd : ¬ xs = ys:=by
          intro e
          apply hxy
          rw [HX.out,HY.out]
          simp only [e]
        have HD:=Lib.hid hd;clear hd hxy;go_wp2_with fail
        go_quiet (fail)
        go_wp2_with fail;go_ret;exact ⟨by rw [decide_eq_false HD.out];rfl,_,drewN2 _ _ _⟩
    · have e : xs = ys:=by
        have:=HP.out
        rwa [List.take_of_length_le (by omega),List.take_of_length_le (by omega)] at this
      have HE:=Lib.hid e;clear e;go_wp2_with fail;go_ret;exact ⟨by rw [decide_eq_true HE.out];rfl,_,rfl⟩
theorem frame15 (a f : Value) : (#[a] ++ (Array.replicate 14 undef).setIfInBounds 4 f : Array Value) = #[a,undef,undef,undef,undef,f,undef,undef,undef,undef,undef,undef,undef,undef,undef]:=by kernel_rfl
theorem assert_flt (x : Int) (w : World) : (Instr.typeAssert (flt x) 20 156 true).run Tryz.prog w = .ok (.tuple #[.agg #[.int .i64 x],.bool true]) w:=by kernel_rfl
theorem caught_panic (g : Nat) (x : Int) (older : List PanicEntry) (v : Value) (w : World) (h0 : w.cell? ⟨g,0,none⟩ = some v) (hf : w.frozen? ⟨g,0,none⟩ = false) :
    CallsD Tryz.prog 93 #[.pointer (some ⟨g,0,none⟩)] (.panicking ({ v:=flt x,recovered:=false } :: older)) w fun e u' w' =>
      e = .returned (.tuple #[])∧u' = .panicking ({ v:=flt x,recovered:=true } :: older)∧w' = (w.alloc (.cells #[.int .i64 x] 156)).setCell ⟨g,0,none⟩ (.int .i64 x):=by
  have ta:=assert_flt x;have lt0:=World.block_lt_of_cell? w _ h0
  refine callsD_of_wpS Tryz.func93 rfl fun c₀ cs hu=>?_
  apply wpS_seq
  apply wpS_region
  simp [wpOpsS,go_sem,recoverD,hu,Tryz.ntmps93,Exit.thenS]
  refine wpS_of_wp ?_;rw [frame15];go_wp2_with fail
  simp [bodyPostS,results,Tryz.results93]
theorem caught_none (g : Nat) (w : World) :
    CallsD Tryz.prog 93 #[.pointer (some ⟨g,0,none⟩)] .returning w fun e u' w'=>e = .returned (.tuple #[])∧u' = .returning∧w' = w:=by
  refine callsD_of_wpS Tryz.func93 rfl fun c₀ cs hu=>?_
  apply wpS_seq
  apply wpS_region
  simp [wpOpsS,go_sem,recoverD,hu,Tryz.ntmps93,Exit.thenS]
  refine wpS_of_wp ?_;rw [frame15];go_wp2_with fail
  cases c₀
  simp_all [bodyPostS,results,Tryz.results93]
end Frame
end Go.Proofs.YtfpenfgmpbdakaaGreat

import Derived.Test.YtfpenfgmpbdakaaGreatDotOf
namespace Go.Proofs.YtfpenfgmpbdakaaGreat
set_option linter.unusedVariables false
set_option linter.unusedSimpArgs false
set_option maxRecDepth 100000
open Go.RowKit
open Dot
theorem run_index98 (w : World) (G : Grid) (n q : Nat) (hq : q < 98) : (Instr.index 191 (.agg (grow G n).toArray) (.int .i64 (q : Nat))).run Tryz.prog w = .ok (.bool (G n q)) w:=by
  have hsz : (sizeOf 4).run Tryz.prog w = .ok 1 w:=by kernel_rfl
  have hag : (isAgg 4).run Tryz.prog w = .ok false w:=by kernel_rfl
  have hx : (grow G n).toArray[q]? = some (.bool (G n q)):=by
    unfold grow
    rw [List.getElem?_toArray,List.getElem?_map,List.getElem?_range hq]
    rfl
  simp only [Instr.index,asIntOf,Sem.run_bind,Sem.run_pure,Result.andThen_ok,run_underlying Tryz.underlying191,hsz]
  rw [if_pos (by omega)];rw [List.getElem?_toArray] at hx
  simp [part,hag,hsz,hx]
set_option maxHeartbeats 2000000 in
theorem walk_any (f : FuncId) (g : Nat) (p : Addr) (G : Grid) (I : Nat→Nat→World→Prop)
    (hen : ∀ (args : Array Value) (w : World),(callFunc f args).run Tryz.prog w = .ok (.enter f args) w)
    (step : ∀ (n q : Nat) (w : World),n < 8→q < 98→G n q = true→I n q w→Calls Tryz.prog f #[.agg #[.int .i64 (n : Nat),.int .i64 (q : Nat)],.pointer (some p)] w fun e w'=>e = .returned (.tuple #[])∧I n (q + 1) w')
    (skp : ∀ (n q : Nat) (w : World),n < 8→q < 98→G n q = false→I n q w→I n (q + 1) w)
    (next : ∀ (n : Nat) (w : World),n < 8→I n 98 w→I (n + 1) 0 w)
    (grid : ∀ (n q : Nat) (w : World),I n q w→Blk w g 196 (gc G)) (w : World) (h0 : I 0 0 w) :
    Calls Tryz.prog 139 #[.pointer (some ⟨g,0,none⟩),.func (.func f) #[] #[.pointer (some p)]] w fun e w'=>e = .returned (.tuple #[])∧I 8 0 w':=by
  have HST:=Lib.hid step;have HSK:=Lib.hid skp;have HNX:=Lib.hid next;have HGR:=Lib.hid grid;clear step skp next grid
  go_enter Tryz.func139,Tryz.ntmps139
  go_wp2_with fail
  go_loopw [7] (fun i wr=>∃ n : Nat,n≤8∧i = .int .i64 n∧I n 0 wr) (fun i _=>8 - (intOf i).toNat)
  case atStart=>exact ⟨0,by omega,rfl,h0⟩
  case round =>
    clear h0;obtain ⟨n,hn,rfl,hI⟩:=hrel
    by_cases hlt : n < 8
    · have hn0 : (0 : Int)≤(n : Int):=by omega
      have hn8 : (n : Int) < 8:=by omega
      have hrg:=grow_range (HGR.out _ _ _ hI) hlt;have HGL:=Lib.hid (grow_len G n)
      go_upto_region 3 with fail
      go_upto_region 4 with ((with_reducible refine wpList_ldm row98 hrg HGL.out ?_ ?_);rotate_left;(rfl))
      clear hrg
      go_loopw [15] (fun i wr=>∃ q : Nat,q≤98∧i = .int .i64 q∧I n q wr) (fun i _=>98 - (intOf i).toNat)
      case atStart=>exact ⟨0,by omega,rfl,hI⟩
      case round =>
        clear hI;obtain ⟨q,hq,rfl,hI⟩:=hrel
        by_cases hqt : q < 98
        · have hix:=fun w=>run_index98 w G n q hqt
          have hqd : decide ((q : Int) < 98) = true:=decide_eq_true (by omega)
          cases hg : G n q
          · have hI2:=HSK.out n q _ hlt hqt hg hI
            rw [hg] at hix;clear hI hg;go_wp2_with fail
            go_roundw
            case rel=>exact ⟨q + 1,by omega,by go_num,hI2⟩
            case measure=>simp [intOf];omega
          · have hst:=HST.out n q _ hlt hqt hg hI
            rw [hg] at hix;have HS:=Lib.hid hst;clear hI hg hst;go_wp2_with fail;refine HS.out.mono ?_;rintro e w7 ⟨rfl,hI⟩;go_wp2_with fail
            go_roundw
            case rel=>exact ⟨q + 1,by omega,by go_num,hI⟩
            case measure=>simp [intOf];omega
        · obtain rfl : q = 98:=by omega
          have hI2:=HNX.out n _ hlt hI;clear hI;go_wp2_with fail
          go_roundw
          case rel=>exact ⟨n + 1,by omega,by go_num,hI2⟩
          case measure=>simp [intOf];omega
    · obtain rfl : n = 8:=by omega
      go_wp2_with fail
      go_end0
      exact ⟨rfl,hI⟩
end Go.Proofs.YtfpenfgmpbdakaaGreat

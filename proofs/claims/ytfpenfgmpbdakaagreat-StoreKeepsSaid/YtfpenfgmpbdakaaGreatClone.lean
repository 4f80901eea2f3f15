import Derived.Test.YtfpenfgmpbdakaaGreatBytes
import Derived.Lib.SliceRun
namespace Go.Proofs.YtfpenfgmpbdakaaGreat
set_option linter.unusedVariables false
set_option linter.unusedSimpArgs false
set_option maxRecDepth 100000
open Go.RowKit
def GiveB (w : World) (bs : List UInt8) (e : Ending) (w' : World) : Prop :=
  ∃ A n c,e = .returned (.slice A n c)∧OwnB w' w.heap.size A n c bs∧Below w.heap.size w w'
theorem clone_any (A : Option Addr) (n c : Nat) (bs : List UInt8) (B : Nat) (w : World) (hb : RdB w B A n bs) (hB : B≤w.heap.size) (hl : n≤140737488355328) :
    Calls Tryz.prog 35 #[.slice A n c] w (GiveB w bs):=by
  have q:=fun (w : World) (a : Option Addr) (n c n' c' : Nat)=>Lib.run_eql_slice_nil (P:=Tryz.prog) w 22 _ a n c n' c' Tryz.underlying22
  rcases A with _ | a
  · have h0 : bs = []:=by
      rcases bs with _ | ⟨x,r⟩
      · rfl
      · obtain ⟨_,h,_⟩:=hb.2 0 _ rfl
        cases h
    subst h0;obtain rfl:=hb.1
    go_enter Tryz.func35,Tryz.ntmps35
    go_wp2_with fail;go_ret;exact ⟨_,_,_,rfl,OwnB.nil _ _,Below.refl _ _⟩
  · go_enter Tryz.func35,Tryz.ntmps35
    go_wp2_with (at_builtin;refine wpList_appB rfl (.tmp 5) (.tmp 6) rfl rfl (OwnB.made w w.heap.size [] #[] 0 rfl rfl (Nat.le_refl _) (Nat.zero_le _)) rfl (hb.alloc hB _) (by omega) (by simp) ?_)
    intro A' c' w2 ho1 _ _ hbl1;go_wp2_with fail;go_ret;exact ⟨_,_,_,rfl,ho1,((Below.refl _ _).alloc (Nat.le_refl _) _).trans hbl1⟩
end Go.Proofs.YtfpenfgmpbdakaaGreat

import Derived.Test.YtfpenfgmpbdakaaGreatEvMem
namespace Go.Proofs.YtfpenfgmpbdakaaGreat
set_option linter.unusedVariables false
set_option linter.unusedSimpArgs false
set_option maxRecDepth 100000
open Go.RowKit
open Dot Evt
theorem rightpol_any (p : List Int) (w : World) : Calls Tryz.prog 126 #[.agg (pc p)] w fun e w'=>e = .returned (.bool (polB p))∧Below w.heap.size w w':=by
  have hbb : Below w.heap.size w (w.alloc (.cells (pc p) 44)):=(Below.refl _ _).alloc (Nat.le_refl _) _;obtain ⟨R,hR⟩ : ∃ R,R = polB p:=⟨_,rfl⟩;rw [← hR]
  unfold polB at hR
  unfold pc at hbb ⊢
  generalize p.getD 0 0 = p0,p.getD 1 0 = p1,p.getD 2 0 = p2,p.getD 3 0 = p3,p.getD 4 0 = p4,p.getD 5 0 = p5,p.getD 6 0 = p6 at *
  have HR:=Lib.hid hR;clear hR
  go_enter Tryz.func126,Tryz.ntmps126
  go_wp2_with fail;refine (within_any _ _ _ _).mono ?_;rintro e w0 ⟨rfl,rfl⟩
  rcases hb0 : inB p1 0 1000 with _ | _
  · go_wp2_with fail
    go_ret;refine ⟨?_,hbb⟩;rw [HR.out,hb0]
    rfl
  go_wp2_with fail;refine (within_any _ _ _ _).mono ?_;rintro e w1 ⟨rfl,rfl⟩
  rcases hb1 : inB p0 0 p1 with _ | _
  · go_wp2_with fail
    go_ret;refine ⟨?_,hbb⟩;rw [HR.out,hb0,hb1]
    rfl
  go_wp2_with fail;refine (within_any _ _ _ _).mono ?_;rintro e w2 ⟨rfl,rfl⟩
  rcases hb2 : inB p2 1 1073741824 with _ | _
  · go_wp2_with fail
    go_ret;refine ⟨?_,hbb⟩;rw [HR.out,hb0,hb1,hb2]
    rfl
  go_wp2_with fail;refine (within_any _ _ _ _).mono ?_;rintro e w3 ⟨rfl,rfl⟩
  rcases hb3 : inB p3 0 100 with _ | _
  · go_wp2_with fail
    go_ret;refine ⟨?_,hbb⟩;rw [HR.out,hb0,hb1,hb2,hb3]
    rfl
  go_wp2_with fail;refine (within_any _ _ _ _).mono ?_;rintro e w4 ⟨rfl,rfl⟩
  rcases hb4 : inB p4 1 1000 with _ | _
  · go_wp2_with fail
    go_ret;refine ⟨?_,hbb⟩;rw [HR.out,hb0,hb1,hb2,hb3,hb4]
    rfl
  go_wp2_with fail;refine (within_any _ _ _ _).mono ?_;rintro e w5 ⟨rfl,rfl⟩
  rcases hb5 : inB p5 1 1000 with _ | _
  · go_wp2_with fail
    go_ret;refine ⟨?_,hbb⟩;rw [HR.out,hb0,hb1,hb2,hb3,hb4,hb5]
    rfl
  go_wp2_with fail;refine (within_any _ _ _ _).mono ?_;rintro e w6 ⟨rfl,rfl⟩
  rcases hb6 : inB p6 0 1000 with _ | _
  · go_wp2_with fail
    go_ret;refine ⟨?_,hbb⟩;rw [HR.out,hb0,hb1,hb2,hb3,hb4,hb5,hb6]
    rfl
  go_wp2_with fail;go_ret;refine ⟨?_,hbb⟩;rw [HR.out,hb0,hb1,hb2,hb3,hb4,hb5,hb6]
  rfl
end Go.Proofs.YtfpenfgmpbdakaaGreat

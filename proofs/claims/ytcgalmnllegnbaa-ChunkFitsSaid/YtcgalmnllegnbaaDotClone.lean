import Derived.Test.YtcgalmnllegnbaaDotPut1
import Derived.Lib.SliceRun
namespace Go.Proofs.Ytcgalmnllegnbaa
set_option linter.unusedVariables false
set_option linter.unusedSimpArgs false
set_option maxRecDepth 100000
open Go.RowKit
open Dot
theorem own_empI {w : World} {g base : Nat} (h : Blk w g 3 #[]) (hb : base≤g) : OwnI w base (some ⟨g,0,none⟩) 0 0 [] :=
  ⟨rfl,rfl,.inr ⟨g,0,#[],rfl,hb,h,Nat.le_refl _,Nat.zero_le _,rfl,rfl⟩⟩
set_option maxRecDepth 100000 in
theorem cloneI_any (g : Nat) (U : List Int) (hU : U.length = 8) (w : World) (hr : RdI w w.heap.size (some ⟨g,0,none⟩) 8 U) :
    Calls Try.prog 72 #[.slice (some ⟨g,0,none⟩) 8 8] w fun e w'=>∃ A c,e = .returned (.slice A 8 c)∧OwnI w' w.heap.size A 8 c U∧Below w.heap.size w w':=by
  have qn:=fun (w : World) (a : Option Addr) (n c n' c' : Nat)=>Lib.run_eql_slice_nil (P:=Try.prog) w 75 _ a n c n' c' Try.underlying75
  go_enter Try.func72,Try.ntmps72
  go_wp2_with (at_builtin;refine wpList_appI rfl (.tmp 5) (.tmp 6) rfl rfl (own_empI (base:=w.heap.size) (Blk.new w _ _) (Nat.le_refl _)) (news:=U) rfl ⟨hr.1,hr.2.alloc (Nat.le_refl _) _⟩ (by omega) (by simp) ?_)
  intro A' c' w2 o2 g2 m2 b2;have bw:=((Below.refl w.heap.size w).alloc (Nat.le_refl _) (.cells #[] 3)).trans b2;clear g2 m2 b2;go_wp2_with fail;go_ret;exact ⟨A',c',rfl,o2,bw⟩
end Go.Proofs.Ytcgalmnllegnbaa

import Derived.Test.YtcgalmnllegnbaaDotSame
import Derived.DeepKeys
namespace Go.Proofs.Ytcgalmnllegnbaa
set_option linter.unusedVariables false
set_option linter.unusedSimpArgs false
set_option maxRecDepth 100000
open Go.RowKit
open Dot
def Wf (l : List Int) : Prop:=∀ x ∈ l,(Lit.int .i64 x).wf = true
theorem wf_of {x : Int} (h1 : -9223372036854775808≤x) (h2 : x≤9223372036854775807) : (Lit.int .i64 x).wf = true:=by
  have hmin : IntKind.i64.min = -9223372036854775808:=rfl;have hmax : IntKind.i64.max = 9223372036854775807:=rfl
  simp only [Lit.wf,Bool.and_eq_true,decide_eq_true_eq]
  omega
set_option maxRecDepth 100000 in
theorem mapM_ints (d : Nat) (l : List Int) (hw : Wf l) : ((List.range l.length).mapM fun i=>(Try.prog).keyLits (d + 1) 3 (((l.map (Value.int .i64)).drop (i * 1)).take 1)) = some (l.map fun x=>[Lit.int .i64 x]):=by
  induction l with
  | nil=>rfl
  | cons x r ih =>
    rw [List.length_cons,List.range_succ_eq_map,List.mapM_cons]
    have h0 : (Try.prog).keyLits (d + 1) 3 ((((x :: r).map (Value.int .i64)).drop (0 * 1)).take 1) = some [Lit.int .i64 x]:=by
      have:=hw x (by simp)
      simp [Program.keyLits,Try.underlying3,this]
    rw [h0]
    have hm : ((List.range r.length).map Nat.succ).mapM (fun i=>(Try.prog).keyLits (d + 1) 3 ((((x :: r).map (Value.int .i64)).drop (i * 1)).take 1)) = some (r.map fun x=>[Lit.int .i64 x]):=by
      rw [List.mapM_map]
      have:=ih (fun y hy=>hw y (by simp [hy]))
      rw [← this]
      congr 1
    simp only [Option.pure_def,Option.bind_eq_bind,Option.bind_some]
    rw [hm]
    rfl
theorem cellsI : (Try.prog).cellsOf 3 = 1:=by kernel_rfl
theorem cellsA : (Try.prog).cellsOf 22 = 8:=by kernel_rfl
theorem keyLits_arr (d : Nat) (l : List Int) (hl : l.length = 8) (hw : Wf l) : (Try.prog).keyLits (d + 2) 22 (l.map (Value.int .i64)) = some (l.map (Lit.int .i64)):=by
  have h:=mapM_ints d l hw;rw [hl] at h
  unfold Program.keyLits
  simp only [Try.underlying22,cellsA,cellsI,List.length_map,hl,if_true]
  rw [h]
  simp only [Option.map_some,Option.some.injEq]
  clear h hl hw
  induction l with
  | nil=>rfl
  | cons x r ih=>rw [List.map_cons,List.flatten_cons,ih];rfl
theorem eq_run8 (w : World) (a b : List Int) (ha : a.length = 8) (hb : b.length = 8) (wa : Wf a) (wb : Wf b) :
    (binOp .eql 22 (.agg (uI a)) (.agg (uI b))).run Try.prog w = .ok (.bool (decide (a = b))) w:=by
  have hk : (Try.prog).keyTypeAt 4 22 = true:=by kernel_rfl
  have hfm : ∀ l : List Int,l.length = 8→(Value.agg (uI l)).formed Try.prog 22 = true:=fun l hl=>by
    simp [Value.formed,Try.underlying22,cellsA,uI,hl]
  have hl : ∀ l : List Int,l.length = 8→Wf l→(Try.prog).keyLits 3 22 (uI l).toList = some (l.map (Lit.int .i64)):=fun l hl hw=>by
    have:=keyLits_arr 1 l hl hw
    simpa [uI] using this
  obtain ⟨r,h1,h2⟩:=run_equalIn_deep (P:=Try.prog) 9996 4 22 hk w 3 3 (.agg (uI a)) (.agg (uI b)) _ _ (hfm a ha) (hfm b hb) (hl a ha wa) (hl b hb wb);rw [run_eql_struct,h1]
  have : r = decide (a = b):=by
    rw [Bool.eq_iff_iff,h2,decide_eq_true_eq]
    constructor
    · intro h
      exact (List.map_inj_right (fun x y h=>by injection h)).1 h
    · intro h;rw [h]
  rw [this]
  rfl
section
variable {ops : Array Oper} {rest : List Oper} {d : Option Tmp} {ty : TypeId} {pos : String} {aft : Array Edge} {x y : Operand} {z : TypeId} {A B : List Int}
theorem exec_eq8 {a : Act} (ha : A.length = 8) (hb : B.length = 8) (wa : Wf A) (wb : Wf B) (hx : a.eval x = .agg (uI A)) (hy : a.eval y = .agg (uI B)) (w : World) : (execOp a.eval ⟨d,.binOp .eql 22 x y z,ty,pos,aft,none⟩).run Try.prog w = .ok (.value (.bool (decide (A = B)))) w:=by
  unfold execOp
  simp only [hx,hy,Sem.run_bind,run_eqGuard_agg w .eql 22 x y (uI A) (uI B) (show (Try.prog).eqGuardType (Try.prog).depth 22 = false by kernel_rfl),Result.andThen_ok,eq_run8 w A B ha hb wa wb,Sem.run_pure]
theorem wpList_eq8 {a : Act} {w : World} {Q : Exit→Act→World→Prop} (ha : A.length = 8) (hb : B.length = 8) (wa : Wf A) (wb : Wf B)
    (h : wpList Try.prog ops Q rest (a.put d (.bool (decide (A = B)))) w) (hx : a.eval x = .agg (uI A)) (hy : a.eval y = .agg (uI B)) : wpList Try.prog ops Q (⟨d,.binOp .eql 22 x y z,ty,pos,aft,none⟩ :: rest) a w :=
  wpList_plain rfl fun K hK=>by
    unfold Oper.wp
    rw [exec_eq8 ha hb wa wb hx hy w];exact hK _ _ h
end
end Go.Proofs.Ytcgalmnllegnbaa

/- The law's copies of a set: To, Ref, From. -/
import Derived.Test.YtcgalmnllegnbaaDotEq
namespace Go.Proofs.Ytcgalmnllegnbaa
set_option linter.unusedVariables false
set_option linter.unusedSimpArgs false
set_option maxRecDepth 100000
open Go.RowKit
open Dot
theorem step_appD {w : World} {ops : Array Oper} {o : Oper} {a : Act} {K : Act → World → Prop} {Q : Exit → Act → World → Prop} {E : Prop} (hgd : o.guard = none) (s x : Operand)
    (ho : o.op = .call { callee := .builtin .append, args := #[s, x], argTypes := #[23, 23] })
    {base : Nat} {A : Option Addr} {n c : Nat} {bs : List Dt} (hs : a.eval s = .slice A n c) (hown : OwnD w base A n c bs)
    {B : Nat} {D : Option Addr} {m d : Nat} {news : List Dt} (hx : a.eval x = .slice D m d) (hr : Rd w B D (dcs news)) (hm : m = news.length)
    (hbytes : n + m ≤ 1000000000000) (hbase : base ≤ w.heap.size)
    (h : ∀ A' c' w', OwnD w' base A' (n + m) c' (bs ++ news) → w.grownBy w' (A.map (·.block)) → Moved A' (A.map (·.block)) w.heap.size → Below base w w' →
      K (a.put o.dst (.slice A' (n + m) c')) w') :
    if Region.wanted o (yielded ops a.tmps) = true then Oper.wp Try.prog o a w K Q else E := by
  have hw : Region.wanted o (yielded ops a.tmps) = true := by simp [Region.wanted, hgd]
  rw [if_pos hw]
  obtain ⟨i0, hi, hz0, hz1, hz2⟩ := info_parts infoD
  have hob : (Value.slice A n c).ownBlock = A.map (·.block) := by cases A <;> rfl
  obtain ⟨v', w', hrun, h2, h3, h4⟩ := run_app (P := Try.prog) w base 23 o.type 46 i0 (.agg #[.int .i64 0, .int .i64 0]) 2 16 Try.underlying23 hi hz0 hz1 hz2 rfl (by decide) (.slice A n c) n _ hown.2 B D m d (dcs news) hr (by rw [dcs_len, hm]) (dcs_one _) (by unfold maxLen; omega) (by omega) hbase
  unfold Oper.wp execOp
  simp only [ho, resolve, invoke, builtin, Sem.run_bind, Sem.run_pure, Result.andThen_ok, List.map_toArray, List.map_cons, List.map_nil, hs, hx, hrun]
  have hv : ∃ A' c', v' = .slice A' (n + m) c' ∧ v'.ownBlock = A'.map (·.block) := by
    rcases h2.2 with ⟨rfl, h0⟩ | ⟨g, cap, cur, rfl, _⟩
    · exact ⟨none, 0, by rw [h0], rfl⟩
    · exact ⟨_, _, rfl, rfl⟩
  obtain ⟨A', c', rfl, hb⟩ := hv
  rw [hb] at h4
  rw [hob] at h3 h4
  exact h _ _ _ ⟨by rw [List.length_append, hown.1, hm], by rw [dcs_app]; exact h2⟩ h3 h4 ((Below.refl _ _).grown h3 hbase (fun g hg => (hown.lt g hg).1))
theorem own_empD {w : World} {g base : Nat} (h : Blk w g 46 #[]) (hb : base ≤ g) : OwnD w base (some ⟨g, 0, none⟩) 0 0 [] :=
  ⟨rfl, rfl, .inr ⟨g, 0, #[], rfl, hb, h, Nat.le_refl _, Nat.zero_le _, rfl, rfl⟩⟩
theorem step_bd {P : Program} {o : Oper} {a : Act} {w w' : World} {v : Value} {K : Act → World → Prop} {Q : Exit → Act → World → Prop} (t : TypeId) (parts : Array (Nat × Operand)) (ho : o.op = .build t parts)
    (hrun : (Instr.build t (parts.map fun (i, x) => (i, a.eval x))).run P w = .ok v w') (h : K (a.put o.dst v) w') : o.wp P a w K Q := by
  unfold Oper.wp execOp
  simp only [ho, Sem.run_bind, hrun, Result.andThen_ok]
  exact h
theorem buildS {U : List Int} (h : U.length = 8) (A : Option Addr) (n c' : Nat) (w : World) : (Instr.build 79 #[(0, .agg (uI U)), (1, .slice A n c')]).run Try.prog w = .ok (.agg (uc U (.slice A n c'))) w := by
  obtain ⟨a, b, c, d, e, f, g, i, rfl⟩ := eight h
  kernel_rfl
theorem buildR {U : List Int} (h : U.length = 8) (A : Option Addr) (n c' : Nat) (w : World) : (Instr.build 84 #[(0, .agg (uI U)), (1, .slice A n c')]).run Try.prog w = .ok (.agg (uc U (.slice A n c'))) w := by
  obtain ⟨a, b, c, d, e, f, g, i, rfl⟩ := eight h
  kernel_rfl
/-- a copy of a set -/
def CopyEnd (w : World) (U : List Int) (l : List Dt) (e : Ending) (w' : World) : Prop := ∃ A m c, e = .returned (.agg (uc U (.slice A m c))) ∧ OwnD w' w.heap.size A m c l ∧ Below w.heap.size w w'
end Go.Proofs.Ytcgalmnllegnbaa

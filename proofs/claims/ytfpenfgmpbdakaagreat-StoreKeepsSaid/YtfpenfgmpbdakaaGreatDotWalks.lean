import Derived.Test.YtfpenfgmpbdakaaGreatDotMath
import Derived.Test.YtfpenfgmpbdakaaGreatQuiet
import Derived.Test.YtfpenfgmpbdakaaGreatFoot
import Derived.Test.YtfpenfgmpbdakaaGreatStepG
import Derived.Test.YtfpenfgmpbdakaaGreatChecked
import Derived.Deep.RegionLaw
import Derived.Deep.DeepCutAuto
namespace Go.Proofs.YtfpenfgmpbdakaaGreat
set_option linter.unusedVariables false
set_option linter.unusedSimpArgs false
set_option maxRecDepth 100000
open Go.RowKit
open Dot
def dv (d : Dt) : Value:=.agg #[.int .i64 d.1,.int .i64 d.2]
theorem may_ways (n q : Int) : (decide (0≤n) = false∧mayB (n,q) = false)∨(decide (0≤n) = true∧decide (n < 8) = false∧mayB (n,q) = false)∨(decide (0≤n) = true∧decide (n < 8) = true∧decide (1≤q) = false∧mayB (n,q) = false)∨(decide (0≤n) = true∧decide (n < 8) = true∧decide (1≤q) = true∧decide (q≤96) = false∧mayB (n,q) = false)∨(decide (0≤n) = true∧decide (n < 8) = true∧decide (1≤q) = true∧decide (q≤96) = true∧mayB (n,q) = true):=by
  unfold mayB
  cases decide (0≤n) <;> cases decide (n < 8) <;> cases decide (1≤q) <;> cases decide (q≤96) <;> simp
theorem may_any (n q : Int) (w : World) : Calls Tryz.prog 132 #[.agg #[.int .i64 n,.int .i64 q]] w fun e w'=>e = .returned (.bool (mayB (n,q)))∧Below w.heap.size w w':=by
  rcases may_ways n q with ⟨h1,hm⟩ | ⟨h1,h2,hm⟩ | ⟨h1,h2,h3,hm⟩ | ⟨h1,h2,h3,h4,hm⟩ | ⟨h1,h2,h3,h4,hm⟩
  all_goals
    rw [hm];clear hm
    go_enter Tryz.func132,Tryz.ntmps132
    go_wp2_with fail;go_ret;exact ⟨rfl,(Below.refl _ _).alloc (Nat.le_refl _) _⟩
def cmpZ (a b : Dt) : Int:=if a.1 = b.1 then a.2 - b.2 else a.1 - b.1
theorem cmpZ_bef (a b : Dt) : decide (0≤cmpZ a b) = !(befB a b):=by
  unfold cmpZ befB
  by_cases e : a.1 = b.1
  · by_cases h : a.2 < b.2
    · simp [e,h];try omega
    · simp [e,h];try omega
  · by_cases h : a.1 < b.1
    · simp [e,h];try omega
    · simp [e,h];try omega
theorem compare_any (n q m p : Int) (w : World) (h1 : mayB (n,q) = true) (h2 : mayB (m,p) = true) : Calls Tryz.prog 145 #[.agg #[.int .i64 n,.int .i64 q],.agg #[.int .i64 m,.int .i64 p]] w fun e w'=>e = .returned (.int .i64 (cmpZ (n,q) (m,p)))∧Below w.heap.size w w':=by
  have k1:=(may_iff _).1 h1;have k2:=(may_iff _).1 h2
  simp only at k1 k2
  by_cases e : n = m
  · subst e
    have hw : IntKind.i64.wrap (q - p) = q - p:=by rw [IntKind.wrap_i64];omega
    have hd : decide (¬ n = n) = false:=by simp
    rw [show cmpZ (n,q) (n,p) = q - p by simp [cmpZ]];clear h1 h2
    go_enter Tryz.func145,Tryz.ntmps145
    go_wp2_with fail;go_ret;exact ⟨rfl,((Below.refl _ _).alloc (Nat.le_refl _) _).alloc (by simp) _⟩
  · have hw : IntKind.i64.wrap (n - m) = n - m:=by rw [IntKind.wrap_i64];omega
    rw [show cmpZ (n,q) (m,p) = n - m by simp [cmpZ,e]];clear h1 h2
    go_enter Tryz.func145,Tryz.ntmps145
    go_wp2_with fail;go_ret;exact ⟨rfl,((Below.refl _ _).alloc (Nat.le_refl _) _).alloc (by simp) _⟩
theorem num_any (n : Int) (w : World) : Calls Tryz.prog 144 #[.int .i64 n] w fun e w'=>e = .returned (.bool (!(numOk n)))∧w = w':=by
  have h:=numOk_iff n
  by_cases h1 : n < 0
  · rw [show numOk n = false by rw [← Bool.not_eq_true,h];omega]
    go_enter Tryz.func144,Tryz.ntmps144
    go_wp2_with fail;go_ret;exact ⟨rfl,rfl⟩
  · by_cases h2 : 96 < n
    · rw [show numOk n = false by rw [← Bool.not_eq_true,h];omega]
      clear h
      go_enter Tryz.func144,Tryz.ntmps144
      go_wp2_with fail;go_ret;exact ⟨rfl,rfl⟩
    · rw [show numOk n = true by rw [h];omega]
      clear h
      go_enter Tryz.func144,Tryz.ntmps144
      go_wp2_with fail;go_ret;exact ⟨rfl,rfl⟩
end Go.Proofs.YtfpenfgmpbdakaaGreat

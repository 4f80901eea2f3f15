/- EventBends: a right event with one thing that may not be is none: the whole statement, without a condition. -/
import Derived.Test.YtiemlnomlfebkaaMem
import Derived.Deep.RegionHeld
import Derived.Test.YtiemlnomlfebkaaEvGetM
import Derived.Test.YtiemlnomlfebkaaEvCopy
import Derived.Test.YtiemlnomlfebkaaRSt
import Derived.Deep.DeepCutAuto
import Derived.Test.YtiemlnomlfebkaaRows
import Derived.ProofKit
import Derived.OpenShut
import Derived.ShutString
import Derived.ChangeOld
import Derived.Below
import Derived.Deep.Slices
import Derived.Deep.Fields
import Derived.Deep.Strs
import Derived.SizedLaws
import Derived.Test.YtiemlnomlfebkaaEvAlive
import Derived.Test.YtiemlnomlfebkaaEvRow
import Derived.RegionTactic
import Derived.Test.YtiemlnomlfebkaaEvPlain
/- Regions that draw their order: loads that a call waits for may be taken first, whatever the call and what stands behind it write. -/
namespace Go.Proofs.Ytiemlnomlfebkaa
open Go.RowKit
section
variable {P : Program} {ops : Array Oper} {Q : Exit → Act → World → Prop} {md : Region.Mode} {S : World → Prop} {c : Nat}
/-- Whatever order is picked from here on; S holds behind every operation, till number c has come up. -/
def wpAnyC (P : Program) (md : Region.Mode) (ops : Array Oper) (Q : Exit → Act → World → Prop) (S : World → Prop) (c : Nat) : Nat → Array Bool → Act → World → Prop
  | 0, listed, a, w => Region.ready md ops listed = [] ∧ Q .normal a w
  | fuel + 1, listed, a, w =>
    (Region.ready md ops listed = [] → Q .normal a w) ∧
    ∀ i ∈ Region.ready md ops listed, wpOp P ops Q i (fun a' w' => ((listed.setIfInBounds i true).getD c true = false → S w') ∧ wpAnyC P md ops Q S c fuel (listed.setIfInBounds i true) a' w') a w
theorem wpAny_of_C : ∀ (fuel : Nat) (listed : Array Bool) (a : Act) (w : World), wpAnyC P md ops Q S c fuel listed a w → wpAny P md ops Q fuel listed a w
  | 0, _, _, _, h => h
  | fuel + 1, _, _, _, h => ⟨h.1, fun i hi => wpOp_mono (fun a' w' h' => wpAny_of_C fuel _ a' w' h'.2) (h.2 i hi)⟩
theorem wpAnyC_first {i : Nat} {oi : Oper} {v : Value} (hi : ops[i]? = some oi) (hsel : ∀ (j : Nat) (o : Oper) cs b, ops[j]? = some o → o.op ≠ .select cs b)
    (hQ : ∀ c a w, Q (.panic c) (a.put oi.dst v) w → Q (.panic c) a w) (hic : i ≠ c) (hdep : ∀ oc, ops[c]? = some oc → ∃ e ∈ oc.after, Region.binds md e = true ∧ e.on = i) :
    ∀ (fuel : Nat) (listed : Array Bool) (a : Act) (w : World),
      (∀ j oj, ops[j]? = some oj → j ≠ i → listed.getD j true = false → (∀ e ∈ oj.after, Region.binds md e = true → e.on ≠ i) → oi.apart ops oj = true) →
      i ∈ Region.ready md ops listed → listed.getD c true = false → YieldsIf P ops S oi v a → S w →
      wpAnyC P md ops Q S c fuel (listed.setIfInBounds i true) (a.put oi.dst v) w → wpAnyC P md ops Q S c (fuel + 1) listed a w := by
  intro fuel
  induction fuel with
  | zero =>
    intro listed a w _ hr _ hy hS H
    refine ⟨fun h => (by rw [h] at hr; cases hr), fun j hj => ?_⟩
    by_cases hji : j = i
    · subst hji; exact hy.wpOp hi hS ⟨fun _ => hS, H⟩
    · have := ready_mono hj hji
      rw [H.1] at this
      cases this
  | succ fuel ih =>
    intro listed a w hfree hr hcl hy hS H
    refine ⟨fun h => (by rw [h] at hr; cases hr), fun j hj => ?_⟩
    by_cases hji : j = i
    · subst hji; exact hy.wpOp hi hS ⟨fun _ => hS, H⟩
    · have h1 := H.2 j (ready_mono hj hji)
      obtain ⟨hjun, oj, hoj, hall⟩ := mem_ready.1 hj
      have hnot : ∀ e ∈ oj.after, Region.binds md e = true → e.on ≠ i := fun e he hb heq => by
        have h1 := hall e he hb
        have h0 := (mem_ready.1 hr).1
        rw [heq] at h1
        rcases Nat.lt_or_ge i listed.size with h' | h'
        · simp [h'] at h0 h1; rw [h0] at h1; cases h1
        · simp [Array.getElem?_eq_none h'] at h1
      have hjc : j ≠ c := fun e => by
        subst e
        obtain ⟨e, he, hb, hon⟩ := hdep oj hoj
        exact hnot e he hb hon
      have hcl2 : (listed.setIfInBounds j true).getD c true = false := by rw [getD_set_ne true hjc]; exact hcl
      have hcl3 : ((listed.setIfInBounds i true).setIfInBounds j true).getD c true = false := by rw [getD_set_ne true hjc, getD_set_ne true hic]; exact hcl
      have h2 := wpOp_putIf hoj (hfree j oj hoj hji hjun hnot) (fun cs b => hsel i oi cs b hi) (fun cs b => hsel j oj cs b hoj) hQ hy h1
      have hfree' : ∀ k ok, ops[k]? = some ok → k ≠ i → (listed.setIfInBounds j true).getD k true = false →
          (∀ e ∈ ok.after, Region.binds md e = true → e.on ≠ i) → oi.apart ops ok = true := fun k ok hk hki hun hno => by
        refine hfree k ok hk hki ?_ hno
        by_cases hjk : j = k
        · subst hjk; exact hjun
        · rw [getD_set_ne true hjk] at hun; exact hun
      refine wpOp_mono (fun a' w' h3 => ⟨fun _ => h3.2.1 hcl3, ih (listed.setIfInBounds j true) a' w' hfree' (ready_mono hr (Ne.symm hji)) hcl2 h3.1 (h3.2.1 hcl3) ?_⟩) h2
      rw [Array.setIfInBounds_comm _ _ hji]
      exact h3.2.2
theorem wpAnyC_firstP {p : List Nat} {i : Nat} {oi : Oper} {v : Value} (hi : ops[i]? = some oi) (hsel : ∀ (j : Nat) (o : Oper) cs b, ops[j]? = some o → o.op ≠ .select cs b)
    (hQ : ∀ c a w, Q (.panic c) (a.put oi.dst v) w → Q (.panic c) a w) (hic : i ≠ c) (hip : i ∈ p) (hcp : c ∈ p) (hdep : ∀ m ∈ p, m ≠ i → ∀ om, ops[m]? = some om → ∃ e ∈ om.after, Region.binds md e = true ∧ e.on ∈ p) :
    ∀ (fuel : Nat) (listed : Array Bool) (a : Act) (w : World),
      (∀ j oj, ops[j]? = some oj → j ≠ i → listed.getD j true = false → (∀ e ∈ oj.after, Region.binds md e = true → e.on ≠ i) → oi.apart ops oj = true) →
      i ∈ Region.ready md ops listed → (∀ m ∈ p, listed.getD m true = false) → YieldsIf P ops S oi v a → S w →
      wpAnyC P md ops Q S c fuel (listed.setIfInBounds i true) (a.put oi.dst v) w → wpAnyC P md ops Q S c (fuel + 1) listed a w := by
  intro fuel
  induction fuel with
  | zero =>
    intro listed a w _ hr _ hy hS H
    refine ⟨fun h => (by rw [h] at hr; cases hr), fun j hj => ?_⟩
    by_cases hji : j = i
    · subst hji; exact hy.wpOp hi hS ⟨fun _ => hS, H⟩
    · have := ready_mono hj hji
      rw [H.1] at this
      cases this
  | succ fuel ih =>
    intro listed a w hfree hr hcl hy hS H
    refine ⟨fun h => (by rw [h] at hr; cases hr), fun j hj => ?_⟩
    by_cases hji : j = i
    · subst hji; exact hy.wpOp hi hS ⟨fun _ => hS, H⟩
    · have h1 := H.2 j (ready_mono hj hji)
      obtain ⟨hjun, oj, hoj, hall⟩ := mem_ready.1 hj
      have hnot : ∀ e ∈ oj.after, Region.binds md e = true → e.on ≠ i := fun e he hb heq => by
        have h1 := hall e he hb
        have h0 := (mem_ready.1 hr).1
        rw [heq] at h1
        rcases Nat.lt_or_ge i listed.size with h' | h'
        · simp [h'] at h0 h1; rw [h0] at h1; cases h1
        · simp [Array.getElem?_eq_none h'] at h1
      have hjp : ∀ m ∈ p, j ≠ m := fun m hm e => by
        subst e
        obtain ⟨e, he, hb, hon⟩ := hdep j hm hji oj hoj
        have h1 := hall e he hb
        have h0 := hcl _ hon
        rcases Nat.lt_or_ge e.on listed.size with h' | h'
        · simp [h'] at h0 h1; rw [h0] at h1; cases h1
        · simp [Array.getElem?_eq_none h'] at h1
      have hcl2 : ∀ m ∈ p, (listed.setIfInBounds j true).getD m true = false := fun m hm => by rw [getD_set_ne true (hjp m hm)]; exact hcl m hm
      have hcl3 : ((listed.setIfInBounds i true).setIfInBounds j true).getD c true = false := by rw [getD_set_ne true (hjp c hcp), getD_set_ne true hic]; exact hcl c hcp
      have h2 := wpOp_putIf hoj (hfree j oj hoj hji hjun hnot) (fun cs b => hsel i oi cs b hi) (fun cs b => hsel j oj cs b hoj) hQ hy h1
      have hfree' : ∀ k ok, ops[k]? = some ok → k ≠ i → (listed.setIfInBounds j true).getD k true = false →
          (∀ e ∈ ok.after, Region.binds md e = true → e.on ≠ i) → oi.apart ops ok = true := fun k ok hk hki hun hno => by
        refine hfree k ok hk hki ?_ hno
        by_cases hjk : j = k
        · subst hjk; exact hjun
        · rw [getD_set_ne true hjk] at hun; exact hun
      refine wpOp_mono (fun a' w' h3 => ⟨fun _ => h3.2.1 hcl3, ih (listed.setIfInBounds j true) a' w' hfree' (ready_mono hr (Ne.symm hji)) hcl2 h3.1 (h3.2.1 hcl3) ?_⟩) h2
      rw [Array.setIfInBounds_comm _ _ hji]
      exact h3.2.2
/-- Take number i, that c waits for through the operations of p, first. -/
theorem wpAnyC_takeP (p : List Nat) {i : Nat} {oi : Oper} {v : Value} {fuel : Nat} {listed : Array Bool} {a : Act} {w : World} (hi : ops[i]? = some oi)
    (hs : Region.noSelect ops = true) (hf : Region.free md ops listed i = true) (hr : (Region.ready md ops listed).contains i = true)
    (hQ : ∀ c a w, Q (.panic c) (a.put oi.dst v) w → Q (.panic c) a w) (hic : i ≠ c) (hip : i ∈ p) (hcp : c ∈ p)
    (hdep : (p.all fun m => m == i || ((ops[m]?).map fun om => om.after.any fun e => Region.binds md e && p.contains e.on) == some true) = true) (hcl : (p.all fun m => listed.getD m true == false) = true)
    (hy : YieldsIf P ops S oi v a) (hS : S w)
    (h : wpAnyC P md ops Q S c fuel (listed.setIfInBounds i true) (a.put oi.dst v) w) : wpAnyC P md ops Q S c (fuel + 1) listed a w :=
  wpAnyC_firstP hi (Region.noSelect_spec hs) hQ hic hip hcp (fun m hm hmi om ho => by
    have h1 := List.all_eq_true.1 hdep m hm
    rw [ho] at h1
    simp only [Option.map_some, Bool.or_eq_true, beq_iff_eq, Option.some.injEq] at h1
    obtain ⟨e, he, hb⟩ := Array.any_eq_true'.1 (h1.resolve_left hmi)
    simp only [Bool.and_eq_true] at hb
    exact ⟨e, he, hb.1, by simpa using hb.2⟩) fuel listed a w (Region.free_spec hi hf) (by simpa using hr) (fun m hm => by simpa using List.all_eq_true.1 hcl m hm) hy hS h
/-- Take number i, that c waits for, first. -/
theorem wpAnyC_take {i : Nat} {oi : Oper} {v : Value} {fuel : Nat} {listed : Array Bool} {a : Act} {w : World} (hi : ops[i]? = some oi)
    (hs : Region.noSelect ops = true) (hf : Region.free md ops listed i = true) (hr : (Region.ready md ops listed).contains i = true)
    (hQ : ∀ c a w, Q (.panic c) (a.put oi.dst v) w → Q (.panic c) a w) (hic : i ≠ c) (hdep : ((ops[c]?).map fun oc => oc.after.any fun e => Region.binds md e && e.on == i) = some true) (hcl : listed.getD c true = false)
    (hy : YieldsIf P ops S oi v a) (hS : S w)
    (h : wpAnyC P md ops Q S c fuel (listed.setIfInBounds i true) (a.put oi.dst v) w) : wpAnyC P md ops Q S c (fuel + 1) listed a w :=
  wpAnyC_first hi (Region.noSelect_spec hs) hQ hic (fun oc ho => by
    rw [ho] at hdep
    simp only [Option.map_some, Option.some.injEq] at hdep
    obtain ⟨e, he, hb⟩ := Array.any_eq_true'.1 hdep
    simp only [Bool.and_eq_true, beq_iff_eq] at hb
    exact ⟨e, he, hb.1, hb.2⟩) fuel listed a w (Region.free_spec hi hf) (by simpa using hr) hcl hy hS h
theorem wpAnyC_first0 {i : Nat} {oi : Oper} {v : Value} (hi : ops[i]? = some oi) (hsel : ∀ (j : Nat) (o : Oper) cs b, ops[j]? = some o → o.op ≠ .select cs b)
    (hQ : ∀ c a w, Q (.panic c) (a.put oi.dst v) w → Q (.panic c) a w) (hic : i ≠ c) :
    ∀ (fuel : Nat) (listed : Array Bool) (a : Act) (w : World),
      (∀ j oj, ops[j]? = some oj → j ≠ i → listed.getD j true = false → (∀ e ∈ oj.after, Region.binds md e = true → e.on ≠ i) → oi.apart ops oj = true) →
      i ∈ Region.ready md ops listed → YieldsIf P ops (fun _ => True) oi v a → (listed.getD c true = false → S w) →
      wpAnyC P md ops Q S c fuel (listed.setIfInBounds i true) (a.put oi.dst v) w → wpAnyC P md ops Q S c (fuel + 1) listed a w := by
  intro fuel
  induction fuel with
  | zero =>
    intro listed a w _ hr hy hS H
    refine ⟨fun h => (by rw [h] at hr; cases hr), fun j hj => ?_⟩
    by_cases hji : j = i
    · subst hji; exact hy.wpOp hi trivial ⟨fun h => hS (by rw [getD_set_ne true hic] at h; exact h), H⟩
    · have := ready_mono hj hji
      rw [H.1] at this
      cases this
  | succ fuel ih =>
    intro listed a w hfree hr hy hS H
    refine ⟨fun h => (by rw [h] at hr; cases hr), fun j hj => ?_⟩
    by_cases hji : j = i
    · subst hji; exact hy.wpOp hi trivial ⟨fun h => hS (by rw [getD_set_ne true hic] at h; exact h), H⟩
    · have h1 := H.2 j (ready_mono hj hji)
      obtain ⟨hjun, oj, hoj, hall⟩ := mem_ready.1 hj
      have hnot : ∀ e ∈ oj.after, Region.binds md e = true → e.on ≠ i := fun e he hb heq => by
        have h1 := hall e he hb
        have h0 := (mem_ready.1 hr).1
        rw [heq] at h1
        rcases Nat.lt_or_ge i listed.size with h' | h'
        · simp [h'] at h0 h1; rw [h0] at h1; cases h1
        · simp [Array.getElem?_eq_none h'] at h1
      have h2 := wpOp_putIf hoj (hfree j oj hoj hji hjun hnot) (fun cs b => hsel i oi cs b hi) (fun cs b => hsel j oj cs b hoj) hQ hy h1
      have hfree' : ∀ k ok, ops[k]? = some ok → k ≠ i → (listed.setIfInBounds j true).getD k true = false →
          (∀ e ∈ ok.after, Region.binds md e = true → e.on ≠ i) → oi.apart ops ok = true := fun k ok hk hki hun hno => by
        refine hfree k ok hk hki ?_ hno
        by_cases hjk : j = k
        · subst hjk; exact hjun
        · rw [getD_set_ne true hjk] at hun; exact hun
      have hsw : ∀ w', (((listed.setIfInBounds i true).setIfInBounds j true).getD c true = false → S w') → (listed.setIfInBounds j true).getD c true = false → S w' := fun w' h h' => h (by
        rw [Array.setIfInBounds_comm _ _ (Ne.symm hji), getD_set_ne true hic]; exact h')
      refine wpOp_mono (fun a' w' h3 => ⟨hsw w' h3.2.1, ih (listed.setIfInBounds j true) a' w' hfree' (ready_mono hr (Ne.symm hji)) h3.1 (hsw w' h3.2.1) ?_⟩) h2
      rw [Array.setIfInBounds_comm _ _ hji]
      exact h3.2.2
/-- What yields its value in whatever world may be taken first. -/
theorem wpAnyC_pure {i : Nat} {oi : Oper} {v : Value} {fuel : Nat} {listed : Array Bool} {a : Act} {w : World} (hi : ops[i]? = some oi)
    (hs : Region.noSelect ops = true) (hf : Region.free md ops listed i = true) (hr : (Region.ready md ops listed).contains i = true)
    (hQ : ∀ c a w, Q (.panic c) (a.put oi.dst v) w → Q (.panic c) a w) (hic : i ≠ c) (hy : Yields P ops oi v a) (hS : listed.getD c true = false → S w)
    (h : wpAnyC P md ops Q S c fuel (listed.setIfInBounds i true) (a.put oi.dst v) w) : wpAnyC P md ops Q S c (fuel + 1) listed a w :=
  wpAnyC_first0 hi (Region.noSelect_spec hs) hQ hic fuel listed a w (Region.free_spec hi hf) (by simpa using hr) (Yields.yieldsIf hy) hS h
/-- Each of the operations comes up next. -/
def AllReadyC (P : Program) (md : Region.Mode) (ops : Array Oper) (Q : Exit → Act → World → Prop) (S : World → Prop) (c : Nat) (fuel : Nat) (listed : Array Bool) (a : Act) (w : World) (rs : List Nat) : Prop :=
  ∀ i ∈ rs, wpOp P ops Q i (fun a' w' => ((listed.setIfInBounds i true).getD c true = false → S w') ∧ wpAnyC P md ops Q S c fuel (listed.setIfInBounds i true) a' w') a w
theorem AllReadyC.nil {fuel : Nat} {listed : Array Bool} {a : Act} {w : World} : AllReadyC P md ops Q S c fuel listed a w [] := fun _ h => by cases h
/-- From number c on nothing is asked of S. -/
theorem AllReadyC.cons {fuel : Nat} {listed : Array Bool} {a : Act} {w : World} {i : Nat} {o : Oper} {rs : List Nat} (ho : ops[i]? = some o) (hl : (listed.setIfInBounds i true).getD c true = true)
    (h : ∀ K' : Act → World → Prop, Shut (∀ a w, wpAnyC P md ops Q S c fuel (listed.setIfInBounds i true) a w → K' a w) → if Region.wanted o (yielded ops a.tmps) = true then Oper.wp P o a w K' Q else K' (a.put o.dst undef) w)
    (hs : AllReadyC P md ops Q S c fuel listed a w rs) : AllReadyC P md ops Q S c fuel listed a w (i :: rs) := fun j hj => by
  rcases List.mem_cons.1 hj with rfl | hj
  · exact wpOp_step ho (fun K' hK => h K' (fun a w hW => hK a w ⟨(fun h => by rw [hl] at h; cases h), hW⟩))
  · exact hs j hj
/-- An operation ahead of number c: S is shown of what it leaves. -/
theorem AllReadyC.consS {fuel : Nat} {listed : Array Bool} {a : Act} {w : World} {i : Nat} {o : Oper} {rs : List Nat} (ho : ops[i]? = some o)
    (h : ∀ K' : Act → World → Prop, Shut (∀ a w, S w → wpAnyC P md ops Q S c fuel (listed.setIfInBounds i true) a w → K' a w) → if Region.wanted o (yielded ops a.tmps) = true then Oper.wp P o a w K' Q else K' (a.put o.dst undef) w)
    (hs : AllReadyC P md ops Q S c fuel listed a w rs) : AllReadyC P md ops Q S c fuel listed a w (i :: rs) := fun j hj => by
  rcases List.mem_cons.1 hj with rfl | hj
  · exact wpOp_step ho (fun K' hK => h K' (fun a w hS hW => hK a w ⟨fun _ => hS, hW⟩))
  · exact hs j hj
theorem wpAnyC_ready {rs : List Nat} {fuel : Nat} {listed : Array Bool} {a : Act} {w : World} (hr : Region.ready md ops listed = rs) (hne : rs ≠ [])
    (h : AllReadyC P md ops Q S c fuel listed a w rs) : wpAnyC P md ops Q S c (fuel + 1) listed a w := ⟨fun h0 => absurd (hr ▸ h0) hne, fun i hi => h i (hr ▸ hi)⟩
theorem wpAnyC_done {listed : Array Bool} {a : Act} {w : World} (hr : Region.ready md ops listed = []) (h : Q .normal a w) : ∀ fuel, wpAnyC P md ops Q S c fuel listed a w
  | 0 => ⟨hr, h⟩
  | _ + 1 => ⟨fun _ => h, by rw [hr]; simp⟩
theorem wp_region_C (S : World → Prop) (c : Nat) {id : Nat} {a : Act} {w : World} (hm : P.follows .mixedOrders = true)
    (h : wpAnyC P .any ops Q S c ops.size (Array.replicate ops.size false) a w.drew) : (Code.region id ops true).wp P Q a w :=
  wp_region_any hm (wpAny_of_C _ _ _ _ h)
end
end Go.Proofs.Ytiemlnomlfebkaa

/- The walk of the document's Read of an event (printed by wip/gen/evread.py). -/
namespace Go.Proofs.Ytiemlnomlfebkaa
open Go.RowKit
open Dot Evt
namespace Evt
/-- so many numbers, as the document's reader has them -/
def rdN : Nat → List UInt8 → Nat → List Int × List UInt8 × Nat
  | 0, l, e => ([], l, e)
  | k + 1, l, e =>
    let a := Vint.intM l e
    let R := rdN k a.2.1 a.2.2
    ((a.1 : Int) :: R.1, R.2)
def rd7 (l : List UInt8) (e : Nat) : List Int × List UInt8 × Nat := rdN 7 l e
/-- up to so many dots, as the document's reader has them -/
def rdDD : Nat → List UInt8 → Nat → List Dt × List UInt8 × Nat
  | 0, l, e => ([], l, e)
  | k + 1, l, e => if (rdDD k l e).2.2 = 0 then
      let a := Vint.intM (rdDD k l e).2.1 0
      let b := Vint.intM a.2.1 a.2.2
      ((rdDD k l e).1 ++ [((a.1 : Int), (b.1 : Int))], b.2)
    else rdDD k l e
/-- what is behind the kind -/
def rdK (n q t k w : Nat) (l : List UInt8) (e : Nat) : Ev × List UInt8 × Nat :=
  if k = 1 then
    let v := Vint.intM l e
    (⟨((n : Int), (q : Int)), t, k, w, (v.1 : Nat), p0, []⟩, v.2)
  else
    let P := if k = 2 then rd7 l e else (p0, l, e)
    let m := Vint.intM P.2.1 P.2.2
    let e6 := if 96 < m.1 then (if m.2.2 = 0 then 6 else m.2.2) else m.2.2
    let D := rdDD m.1 m.2.1 e6
    (⟨((n : Int), (q : Int)), t, k, w, 0, P.1, D.1⟩, D.2)
/-- an event, as the document's reader has it -/
def rdE (l : List UInt8) : Ev × List UInt8 × Nat :=
  let a := Vint.intM l 0
  let b := Vint.intM a.2.1 a.2.2
  let c := Vint.intM b.2.1 b.2.2
  let d := Vint.intM c.2.1 c.2.2
  let e4 := if d.2.2 = 0 ∧ ¬ (1 ≤ d.1 ∧ d.1 ≤ 3) then 4 else d.2.2
  let f := Vint.intM d.2.1 e4
  rdK a.1 b.1 c.1 d.1 f.1 f.2.1 f.2.2
theorem rd7_len (l : List UInt8) (e : Nat) : (rd7 l e).1.length = 7 := rfl
theorem rdK_p (n q t k w : Nat) (l : List UInt8) (e : Nat) : (rdK n q t k w l e).1.p.length = 7 := by
  unfold rdK
  by_cases h1 : k = 1
  · rw [if_pos h1]; rfl
  · rw [if_neg h1]
    by_cases h2 : k = 2
    · simp only [if_pos h2]; exact rd7_len l e
    · simp only [if_neg h2]; rfl
theorem rdDD_stuck (l : List UInt8) (e k : Nat) (h : (rdDD k l e).2.2 ≠ 0) : ∀ m, k ≤ m → rdDD m l e = rdDD k l e := by
  intro m
  induction m with
  | zero => intro hk; obtain rfl : k = 0 := by omega
            rfl
  | succ m ih =>
    intro hk
    by_cases e1 : k = m + 1
    · rw [e1]
    · have h1 := ih (by omega)
      rw [rdDD, if_neg (by rw [h1]; exact h), h1]
/-! the same as with early ends -/
theorem rdN_bad (k : Nat) : ∀ (l : List UInt8) (e : Nat), e ≠ 0 → (rdN k l e).2.2 = e := by
  induction k with
  | zero => intro l e _; rfl
  | succ k ih =>
    intro l e h
    show (rdN k (Vint.intM l e).2.1 (Vint.intM l e).2.2).2.2 = e
    rw [intM_err h]
    exact ih l e h
theorem rdN_ok (k : Nat) : ∀ (l : List UInt8) (ns : List Nat) (r : List UInt8), decs k l = .ok (ns, r) → rdN k l 0 = (ns.map fun x : Nat => (x : Int), r, 0) := by
  induction k with
  | zero => intro l ns r h; simp [decs] at h; obtain ⟨rfl, rfl⟩ := h; rfl
  | succ k ih =>
    intro l ns r h
    unfold decs at h
    split at h
    · cases h
    · rename_i n l1 h1
      split at h
      · cases h
      · rename_i ns' r' h2
        injection h with h
        injection h with h h'
        subst h h'
        show (((Vint.intM l 0).1 : Int) :: (rdN k (Vint.intM l 0).2.1 (Vint.intM l 0).2.2).1, (rdN k (Vint.intM l 0).2.1 (Vint.intM l 0).2.2).2) = _
        rw [Vint.intM_ok h1]
        simp only
        rw [ih _ _ _ h2]
        rfl
theorem rdN_err (k : Nat) : ∀ (l : List UInt8) (y : Nat), decs k l = .error y → (rdN k l 0).2.2 = y ∧ y ≠ 0 := by
  induction k with
  | zero => intro l y h; cases h
  | succ k ih =>
    intro l y h
    unfold decs at h
    show (rdN k (Vint.intM l 0).2.1 (Vint.intM l 0).2.2).2.2 = y ∧ _
    split at h
    · rename_i x h1
      injection h with h
      subst h
      have hx := Vint.dec_err h1
      have hne : x ≠ 0 := by omega
      rw [Vint.intM_bad h1]
      exact ⟨rdN_bad k _ _ hne, hne⟩
    · rename_i n l1 h1
      split at h
      · rename_i x h2
        injection h with h
        subst h
        rw [Vint.intM_ok h1]
        exact ih _ _ h2
      · cases h
theorem rdDD_ok (k : Nat) (l : List UInt8) : ∀ (ds : List Dt) (r : List UInt8), decD k l = .ok (ds, r) → rdDD k l 0 = (ds, r, 0) := by
  induction k with
  | zero => intro ds r h; simp [decD] at h; obtain ⟨rfl, rfl⟩ := h; rfl
  | succ k ih =>
    intro ds r h
    unfold decD at h
    split at h
    · cases h
    · rename_i ds' r' h0
      split at h
      · cases h
      · rename_i n r1 h1
        split at h
        · cases h
        · rename_i q r2 h2
          injection h with h
          injection h with h h'
          subst h h'
          rw [rdDD, ih _ _ h0, if_pos rfl]
          simp only [Vint.intM_ok h1, Vint.intM_ok h2]
theorem rdDD_err (k : Nat) (l : List UInt8) : ∀ (y : Nat), decD k l = .error y → (rdDD k l 0).2.2 = y ∧ y ≠ 0 := by
  induction k with
  | zero => intro y h; cases h
  | succ k ih =>
    intro y h
    unfold decD at h
    split at h
    · rename_i x h0
      injection h with h
      subst h
      obtain ⟨q1, q2⟩ := ih _ h0
      rw [rdDD, if_neg (by rw [q1]; exact q2)]
      exact ⟨q1, q2⟩
    · rename_i ds' r' h0
      rw [rdDD, rdDD_ok k l _ _ h0, if_pos rfl]
      split at h
      · rename_i x h1
        injection h with h
        subst h
        have hx := Vint.dec_err h1
        simp only [Vint.intM_bad h1]
        rw [intM_err (by omega)]
        exact ⟨rfl, by omega⟩
      · rename_i n r1 h1
        split at h
        · rename_i x h2
          injection h with h
          subst h
          have hx := Vint.dec_err h2
          simp only [Vint.intM_ok h1, Vint.intM_bad h2]
          first | exact ⟨rfl, by omega⟩ | exact ⟨trivial, by omega⟩
        · cases h
theorem rdDD_bad (k : Nat) (l : List UInt8) (e : Nat) (h : e ≠ 0) : rdDD k l e = ([], l, e) := rdDD_stuck l e 0 h k (Nat.zero_le _)
/-- the dots that an event removes, as the document's reader has them -/
def rdLL (l : List UInt8) (e : Nat) : List Dt × List UInt8 × Nat :=
  let m := Vint.intM l e
  let e6 := if 96 < m.1 then (if m.2.2 = 0 then 6 else m.2.2) else m.2.2
  rdDD m.1 m.2.1 e6
theorem rdLL_ok {l : List UInt8} {ds : List Dt} {r : List UInt8} (h : decL l = .ok (ds, r)) : rdLL l 0 = (ds, r, 0) := by
  unfold decL at h
  split at h
  · cases h
  · rename_i m r1 h1
    split at h
    · cases h
    · rename_i hm
      simp only [rdLL, Vint.intM_ok h1, if_neg hm]
      exact rdDD_ok _ _ _ _ h
theorem rdLL_err {l : List UInt8} {y : Nat} (h : decL l = .error y) : (rdLL l 0).2.2 = y ∧ y ≠ 0 := by
  unfold decL at h
  split at h
  · rename_i x h1
    injection h with h
    subst h
    have hx := Vint.dec_err h1
    simp only [rdLL, Vint.intM_bad h1]
    rw [if_neg (by omega), rdDD_bad _ _ _ (by omega)]
    exact ⟨rfl, by omega⟩
  · rename_i m r1 h1
    split at h
    · rename_i hm
      injection h with h
      subst h
      simp only [rdLL, Vint.intM_ok h1, if_pos hm, if_true]
      rw [rdDD_bad _ _ _ (by omega)]
      exact ⟨rfl, by omega⟩
    · rename_i hm
      simp only [rdLL, Vint.intM_ok h1, if_neg hm]
      exact rdDD_err _ _ _ h
theorem rdLL_bad {l : List UInt8} {e : Nat} (h : e ≠ 0) : (rdLL l e).2.2 = e := by
  simp only [rdLL, intM_err h]
  rw [if_neg (by omega), rdDD_bad _ _ _ h]
theorem rdK_eq (n q t k w : Nat) (l : List UInt8) (e : Nat) : rdK n q t k w l e = if k = 1 then (⟨((n : Int), (q : Int)), t, k, w, ((Vint.intM l e).1 : Nat), p0, []⟩, (Vint.intM l e).2) else
    if k = 2 then (⟨((n : Int), (q : Int)), t, k, w, 0, (rd7 l e).1, (rdLL (rd7 l e).2.1 (rd7 l e).2.2).1⟩, (rdLL (rd7 l e).2.1 (rd7 l e).2.2).2)
    else (⟨((n : Int), (q : Int)), t, k, w, 0, p0, (rdLL l e).1⟩, (rdLL l e).2) := by
  unfold rdK
  by_cases h1 : k = 1
  · rw [if_pos h1, if_pos h1]
  · rw [if_neg h1, if_neg h1]
    by_cases h2 : k = 2
    · simp only [if_pos h2]; rfl
    · simp only [if_neg h2]; rfl
theorem rdK_bad (n q t k w : Nat) {l : List UInt8} {e : Nat} (h : e ≠ 0) : (rdK n q t k w l e).2.2 = e := by
  rw [rdK_eq]
  by_cases h1 : k = 1
  · rw [if_pos h1]; simp only [intM_err h]
  · rw [if_neg h1]
    by_cases h2 : k = 2
    · rw [if_pos h2]
      have h3 := rdN_bad 7 l e h
      simp only
      rw [rdLL_bad (by unfold rd7; rw [h3]; exact h)]
      exact h3
    · rw [if_neg h2]
      exact rdLL_bad h
theorem rdK_ok {n q t k w : Nat} {l : List UInt8} {x : Ev} {r : List UInt8} (h : decK n q t k w l = .ok (x, r)) : rdK n q t k w l 0 = (x, r, 0) := by
  rw [rdK_eq]
  unfold decK at h
  by_cases h1 : k = 1
  · rw [if_pos h1] at h ⊢
    split at h
    · cases h
    · rename_i h2
      injection h with h
      injection h with h h'
      subst h h'
      simp only [Vint.intM_ok h2]
  · rw [if_neg h1] at h ⊢
    by_cases h2 : k = 2
    · rw [if_pos h2] at h ⊢
      split at h
      · cases h
      · rename_i h3
        split at h
        · cases h
        · rename_i h4
          injection h with h
          injection h with h h'
          subst h h'
          have h5 := rdN_ok 7 _ _ _ h3
          unfold rd7
          rw [h5]
          simp only [rdLL_ok h4]
    · rw [if_neg h2] at h ⊢
      split at h
      · cases h
      · rename_i h4
        injection h with h
        injection h with h h'
        subst h h'
        simp only [rdLL_ok h4]
theorem rdK_err {n q t k w : Nat} {l : List UInt8} {y : Nat} (h : decK n q t k w l = .error y) : (rdK n q t k w l 0).2.2 = y ∧ y ≠ 0 := by
  rw [rdK_eq]
  unfold decK at h
  by_cases h1 : k = 1
  · rw [if_pos h1] at h ⊢
    split at h
    · rename_i h2
      injection h with h
      subst h
      have := Vint.dec_err h2
      simp only [Vint.intM_bad h2]
      exact ⟨trivial, by omega⟩
    · cases h
  · rw [if_neg h1] at h ⊢
    by_cases h2 : k = 2
    · rw [if_pos h2] at h ⊢
      split at h
      · rename_i h3
        injection h with h
        subst h
        obtain ⟨q1, q2⟩ := rdN_err 7 _ _ h3
        unfold rd7
        simp only
        rw [rdLL_bad (by rw [q1]; exact q2)]
        exact ⟨q1, q2⟩
      · rename_i h3
        split at h
        · rename_i h4
          injection h with h
          subst h
          have h5 := rdN_ok 7 _ _ _ h3
          unfold rd7
          rw [h5]
          exact rdLL_err h4
        · cases h
    · rw [if_neg h2] at h ⊢
      split at h
      · rename_i h4
        injection h with h
        subst h
        exact rdLL_err h4
      · cases h
theorem rdE_eq {l : List UInt8} : (∀ x r, decE l = .ok (x, r) → rdE l = (x, r, 0)) ∧ ∀ y, decE l = .error y → (rdE l).2.2 = y ∧ y ≠ 0 := by
  cases h0 : Vint.dec l with
  | error x0 =>
    have hx := Vint.dec_err h0
    refine ⟨fun x r h => ?_, fun y h => ?_⟩
    · simp [decE, h0] at h
    · simp [decE, h0] at h
      subst h
      have hne : x0 ≠ 0 := by omega
      simp only [rdE, Vint.intM_bad h0, intM_err hne, hne, false_and, if_false]
      exact ⟨rdK_bad _ _ _ _ _ hne, hne⟩
  | ok p0 =>
    obtain ⟨n, l1⟩ := p0
    cases h1 : Vint.dec l1 with
    | error x0 =>
      have hx := Vint.dec_err h1
      refine ⟨fun x r h => ?_, fun y h => ?_⟩
      · simp [decE, h0, h1] at h
      · simp [decE, h0, h1] at h
        subst h
        have hne : x0 ≠ 0 := by omega
        simp only [rdE, Vint.intM_ok h0, Vint.intM_bad h1, intM_err hne, hne, false_and, if_false]
        exact ⟨rdK_bad _ _ _ _ _ hne, hne⟩
    | ok p1 =>
      obtain ⟨q, l2⟩ := p1
      cases h2 : Vint.dec l2 with
      | error x0 =>
        have hx := Vint.dec_err h2
        refine ⟨fun x r h => ?_, fun y h => ?_⟩
        · simp [decE, h0, h1, h2] at h
        · simp [decE, h0, h1, h2] at h
          subst h
          have hne : x0 ≠ 0 := by omega
          simp only [rdE, Vint.intM_ok h0, Vint.intM_ok h1, Vint.intM_bad h2, intM_err hne, hne, false_and, if_false]
          exact ⟨rdK_bad _ _ _ _ _ hne, hne⟩
      | ok p2 =>
        obtain ⟨t, l3⟩ := p2
        cases h3 : Vint.dec l3 with
        | error x0 =>
          have hx := Vint.dec_err h3
          refine ⟨fun x r h => ?_, fun y h => ?_⟩
          · simp [decE, h0, h1, h2, h3] at h
          · simp [decE, h0, h1, h2, h3] at h
            subst h
            have hne : x0 ≠ 0 := by omega
            simp only [rdE, Vint.intM_ok h0, Vint.intM_ok h1, Vint.intM_ok h2, Vint.intM_bad h3, intM_err hne, hne, false_and, if_false]
            exact ⟨rdK_bad _ _ _ _ _ hne, hne⟩
        | ok p3 =>
          obtain ⟨k, l4⟩ := p3
          by_cases hk : 1 ≤ k ∧ k ≤ 3
          · cases h4 : Vint.dec l4 with
            | error x0 =>
              have hx := Vint.dec_err h4
              refine ⟨fun x r h => ?_, fun y h => ?_⟩
              · simp [decE, h0, h1, h2, h3, h4, hk] at h
              · simp [decE, h0, h1, h2, h3, h4, hk] at h
                subst h
                have hne : x0 ≠ 0 := by omega
                simp only [rdE, Vint.intM_ok h0, Vint.intM_ok h1, Vint.intM_ok h2, Vint.intM_ok h3, hk, and_self, not_true_eq_false, and_false, if_false, Vint.intM_bad h4]
                exact ⟨rdK_bad _ _ _ _ _ hne, hne⟩
            | ok p4 =>
              obtain ⟨w, l5⟩ := p4
              refine ⟨fun x r h => ?_, fun y h => ?_⟩
              · have h' : decK n q t k w l5 = .ok (x, r) := by simpa [decE, h0, h1, h2, h3, h4, hk] using h
                simp only [rdE, Vint.intM_ok h0, Vint.intM_ok h1, Vint.intM_ok h2, Vint.intM_ok h3, hk, and_self, not_true_eq_false, and_false, if_false, Vint.intM_ok h4]
                exact rdK_ok h'
              · have h' : decK n q t k w l5 = .error y := by simpa [decE, h0, h1, h2, h3, h4, hk] using h
                simp only [rdE, Vint.intM_ok h0, Vint.intM_ok h1, Vint.intM_ok h2, Vint.intM_ok h3, hk, and_self, not_true_eq_false, and_false, if_false, Vint.intM_ok h4]
                exact rdK_err h'
          · refine ⟨fun x r h => ?_, fun y h => ?_⟩
            · simp [decE, h0, h1, h2, h3, hk] at h
            · simp [decE, h0, h1, h2, h3, hk] at h
              subst h
              simp only [rdE, Vint.intM_ok h0, Vint.intM_ok h1, Vint.intM_ok h2, Vint.intM_ok h3, hk, not_false_eq_true, and_true, if_true, intM_err (show (4 : Nat) ≠ 0 by omega)]
              exact ⟨rdK_bad _ _ _ _ _ (by omega), by omega⟩
end Evt
/-- what Read of an event leaves -/
def ReadEv (w : World) (g : Nat) (A : Option Addr) (n c : Nat) (bs r0 : List UInt8) (e : Ending) (w' : World) : Prop :=
  ∃ A' m' c', e = .returned (.agg (ec (rdE r0).1 (.slice A' m' c'))) ∧ OwnD w' w.heap.size A' m' c' (rdE r0).1.l ∧ RSt w' g A n c bs (rdE r0).2.1 (rdE r0).2.2 ∧ w.grownBy w' (some g)
theorem stepsD {w : World} {ops : Array Oper} {o : Oper} {a : Act} {K : Act → World → Prop} {Q : Exit → Act → World → Prop} {E : Prop} (hgd : o.guard = none) (s x : Operand)
    (ho : o.op = .call { callee := .builtin .append, args := #[s, x], argTypes := #[26, 26] })
    {base : Nat} {A : Option Addr} {n c : Nat} {bs : List Dt} (hs : a.eval s = .slice A n c) (hown : OwnD w base A n c bs)
    {B : Nat} {D : Option Addr} {m d : Nat} {news : List Dt} (hx : a.eval x = .slice D m d) (hr : Rd w B D (dcs news)) (hm : m = news.length)
    (hbytes : n + m ≤ 1000000000000) (hbase : base ≤ w.heap.size)
    (h : ∀ A' c' w', OwnD w' base A' (n + m) c' (bs ++ news) → w.grownBy w' (A.map (·.block)) → Moved A' (A.map (·.block)) w.heap.size → Below base w w' →
      K (a.put o.dst (.slice A' (n + m) c')) w') :
    if Region.wanted o (yielded ops a.tmps) = true then Oper.wp Try.prog o a w K Q else E := by
  have hw : Region.wanted o (yielded ops a.tmps) = true := by simp [Region.wanted, hgd]
  rw [if_pos hw]
  obtain ⟨i0, hi, hz0, hz1, hz2⟩ := info_parts infoD
  have hob : (Value.slice A n c).ownBlock = A.map (·.block) := by cases A <;> rfl
  obtain ⟨v', w', hrun, h2, h3, h4⟩ := run_app (P := Try.prog) w base 26 o.type 23 i0 (.agg #[.int .i64 0, .int .i64 0]) 2 16 Try.underlying26 hi hz0 hz1 hz2 rfl (by decide) (.slice A n c) n _ hown.2 B D m d (dcs news) hr (by rw [dcs_len, hm]) (dcs_one _) (by unfold maxLen; omega) (by omega) hbase
  unfold Oper.wp execOp
  simp only [ho, resolve, invoke, builtin, Sem.run_bind, Sem.run_pure, Result.andThen_ok, List.map_toArray, List.map_cons, List.map_nil, hs, hx, hrun]
  have hv : ∃ A' c', v' = .slice A' (n + m) c' ∧ v'.ownBlock = A'.map (·.block) := by
    rcases h2.2 with ⟨rfl, h0⟩ | ⟨g, cap, cur, rfl, _⟩
    · exact ⟨none, 0, by rw [h0], rfl⟩
    · exact ⟨_, _, rfl, rfl⟩
  obtain ⟨A', c', rfl, hb⟩ := hv
  rw [hb] at h4
  rw [hob] at h3 h4
  exact h _ _ _ ⟨by rw [List.length_append, hown.1, hm], by rw [dcs_app]; exact h2⟩ h3 h4 ((Below.refl _ _).grown h3 hbase (fun g hg => (hown.lt g hg).1))
/-- while an event is read: the result's and the event's own memory, the reader -/
structure RdS (w0 : World) (g b : Nat) (A : Option Addr) (n c : Nat) (bs : List UInt8) (cs : Array Value) (r : List UInt8) (e : Nat) (w : World) : Prop where
  kz : Blk w b 28 (cT 0)
  kx : Blk w (b + 1) 28 cs
  R : RSt w g A n c bs r e
  gW : w0.grownBy w (some g)
section
variable {w0 w w' : World} {g b n c : Nat} {A : Option Addr} {bs r : List UInt8} {cs : Array Value} {e : Nat}
theorem RdS.after (h : RdS w0 g b A n c bs cs r e w) (hgb : g < b) {r' : List UInt8} {e' : Nat} (gg : w.grownBy w' (some g)) (R : RSt w' g A n c bs r' e') : RdS w0 g b A n c bs cs r' e' w' :=
  ⟨h.kz.grown gg (fun h => by injection h; omega), h.kx.grown gg (fun h => by injection h; omega), R, grown_trans h.gW gg⟩
theorem RdS.set_ (h : RdS w0 g b A n c bs cs r e w) (hgb : g < b) (hw : w0.heap.size ≤ b) (i : Nat) (v : Value) : RdS w0 g b A n c bs (cs.setIfInBounds i v) r e (w.setCell ⟨b + 1, i, none⟩ v) :=
  ⟨h.kz.far (p := ⟨b + 1, i, none⟩) (by show b ≠ b + 1; omega) v, h.kx.set_ i v, h.R.map fun _ _ k => k.far (p := ⟨b + 1, i, none⟩) (by show g ≠ b + 1; omega) v, only_new h.gW (p := ⟨b + 1, i, none⟩) (by show _ ≤ b + 1; omega) v⟩
theorem RdS.cs_ (h : RdS w0 g b A n c bs cs r e w) {cs' : Array Value} (hc : cs = cs') : RdS w0 g b A n c bs cs' r e w := hc ▸ h
end
set_option maxRecDepth 100000 in
set_option maxHeartbeats 4000000 in
theorem rread07_any (g : Nat) (A : Option Addr) (n c B : Nat) (bs r0 : List UInt8) (w : World) (hR : RSt w g A n c bs r0 0) (hb : RdB w B A n bs) (hB : B ≤ g) (hglt : g < w.heap.size) (hn : n ≤ 1000000000) :
    Calls Try.prog 46 #[.pointer (some ⟨g, 0, none⟩)] w (ReadEv w g A n c bs r0) := by
  have HBG := Lib.hid (hb.more hB)
  have HGL := Lib.hid hglt
  clear hb
  have HINT := Lib.hid (fun (r : List UInt8) (e : Nat) (w1 : World) (h : RSt w1 g A n c bs r e) (gW : w.grownBy w1 (some g)) => rint_m g A n c g bs r e w1 h (Rdr.only HBG.out gW HGL.out) hn)
  go_enter Try.func46, Try.ntmps46
  go_upto_region 2 with fail
  refine nameW ?_
  intro wv hwv
  obtain ⟨b, hbb⟩ : ∃ b, b = w.heap.size := ⟨_, rfl⟩
  rw [← hbb]
  have h0 : RdS w g b A n c bs (cT 0) r0 0 wv := by
    refine ⟨?_, ?_, ?_, ?_⟩
    · rw [hwv, hbb]; exact (Blk.new w _ _).alloc _
    · have h := Blk.new (w.alloc (.cells (cT 0) 28)) 28 (cT 0)
      rw [show (w.alloc (.cells (cT 0) 28)).heap.size = w.heap.size + 1 by simp] at h
      rw [hwv, hbb]
      exact h
    · rw [hwv]; exact hR.map (fun _ _ k => (k.alloc _).alloc _)
    · rw [hwv]; exact only_alloc (only_alloc (World.grownBy.refl _ _) _) _
  have HW := Lib.hid (show w.heap.size ≤ b ∧ g < b from by omega)
  clear hwv hbb hR hglt
  go_wp2_with fail
  refine (HINT.out _ _ _ h0.R h0.gW).mono ?_
  rintro e w1 ⟨rfl, gg, R1⟩
  obtain ⟨n1, r1, e1, hI⟩ : ∃ n1 r1 e1, Vint.intM r0 0 = (n1, r1, e1) := ⟨_, _, _, rfl⟩
  rw [hI] at R1 ⊢
  have HI0 := Lib.hid hI
  have h0' := h0.after HW.out.2 gg R1
  clear gg hI R1 h0
  have cc := h0'.kx.cell 0
  have fc := h0'.kx.free 0
  have h1 := (h0'.set_ HW.out.2 HW.out.1 0 (.int .i64 (n1 : Nat))).cs_ (cs' := #[.int .i64 (n1 : Nat), .int .i64 0, .int .i64 0, .int .i64 0, .int .i64 0, .int .i64 0, .int .i64 0, .int .i64 0, .int .i64 0, .int .i64 0, .int .i64 0, .int .i64 0, .int .i64 0, .slice none 0 0]) rfl
  clear h0'
  go_upto_region 3 with fail
  refine nameW ?_
  intro W1 hwn
  rw [← hwn] at h1
  clear hwn cc fc
  go_wp2_with fail
  refine (HINT.out _ _ _ h1.R h1.gW).mono ?_
  rintro e w2 ⟨rfl, gg, R2⟩
  obtain ⟨q, r2, e2, hI⟩ : ∃ q r2 e2, Vint.intM r1 e1 = (q, r2, e2) := ⟨_, _, _, rfl⟩
  rw [hI] at R2 ⊢
  have HI1 := Lib.hid hI
  have h1' := h1.after HW.out.2 gg R2
  clear gg hI R2 h1
  have cc := h1'.kx.cell 1
  have fc := h1'.kx.free 1
  have h2 := (h1'.set_ HW.out.2 HW.out.1 1 (.int .i64 (q : Nat))).cs_ (cs' := #[.int .i64 (n1 : Nat), .int .i64 (q : Nat), .int .i64 0, .int .i64 0, .int .i64 0, .int .i64 0, .int .i64 0, .int .i64 0, .int .i64 0, .int .i64 0, .int .i64 0, .int .i64 0, .int .i64 0, .slice none 0 0]) rfl
  clear h1'
  go_upto_region 4 with fail
  refine nameW ?_
  intro W2 hwn
  rw [← hwn] at h2
  clear hwn cc fc
  go_wp2_with fail
  refine (HINT.out _ _ _ h2.R h2.gW).mono ?_
  rintro e w3 ⟨rfl, gg, R3⟩
  obtain ⟨t, r3, e3, hI⟩ : ∃ t r3 e3, Vint.intM r2 e2 = (t, r3, e3) := ⟨_, _, _, rfl⟩
  rw [hI] at R3 ⊢
  have HI2 := Lib.hid hI
  have h2' := h2.after HW.out.2 gg R3
  clear gg hI R3 h2
  have cc := h2'.kx.cell 2
  have fc := h2'.kx.free 2
  have h3 := (h2'.set_ HW.out.2 HW.out.1 2 (.int .i64 (t : Nat))).cs_ (cs' := #[.int .i64 (n1 : Nat), .int .i64 (q : Nat), .int .i64 (t : Nat), .int .i64 0, .int .i64 0, .int .i64 0, .int .i64 0, .int .i64 0, .int .i64 0, .int .i64 0, .int .i64 0, .int .i64 0, .int .i64 0, .slice none 0 0]) rfl
  clear h2'
  go_upto_region 5 with fail
  refine nameW ?_
  intro W3 hwn
  rw [← hwn] at h3
  clear hwn cc fc
  go_wp2_with fail
  refine (HINT.out _ _ _ h3.R h3.gW).mono ?_
  rintro e w4 ⟨rfl, gg, R4⟩
  obtain ⟨k, r4, e4, hI⟩ : ∃ k r4 e4, Vint.intM r3 e3 = (k, r4, e4) := ⟨_, _, _, rfl⟩
  rw [hI] at R4 ⊢
  have HI3 := Lib.hid hI
  have h3' := h3.after HW.out.2 gg R4
  clear gg hI R4 h3
  have cc := h3'.kx.cell 3
  have fc := h3'.kx.free 3
  have h4 := (h3'.set_ HW.out.2 HW.out.1 3 (.int .i64 (k : Nat))).cs_ (cs' := #[.int .i64 (n1 : Nat), .int .i64 (q : Nat), .int .i64 (t : Nat), .int .i64 (k : Nat), .int .i64 0, .int .i64 0, .int .i64 0, .int .i64 0, .int .i64 0, .int .i64 0, .int .i64 0, .int .i64 0, .int .i64 0, .slice none 0 0]) rfl
  clear h3'
  go_upto_region 6 with fail
  refine nameW ?_
  intro W4 hwn
  rw [← hwn] at h4
  clear hwn cc fc
  obtain ⟨F, hF⟩ : ∃ F : Bool, F = decide (e4 = 0 ∧ ¬ (1 ≤ k ∧ k ≤ 3)) := ⟨_, rfl⟩
  have HF := Lib.hid hF
  clear hF
  go_cut [35] (fun f wx => f = .bool F ∧ W4 = wx)
  case first =>
    obtain ⟨at4, _, kR, _⟩ := h4.R
    have c2 : W4.cell? ⟨g, 2, none⟩ = some (.int .i64 (e4 : Nat)) := kR.cell 2
    have c3 : W4.cell? ⟨b + 1, 3, none⟩ = some (.int .i64 (k : Nat)) := h4.kx.cell 3
    by_cases he : e4 = 0
    · have hq : ((e4 : Int) == 0) = true := by rw [beq_iff_eq]; omega
      by_cases hk1 : 1 ≤ k
      · have d1 : decide ((k : Int) < 1) = false := decide_eq_false (by omega)
        by_cases hk2 : k ≤ 3
        · have d3 : decide ((3 : Int) < (k : Int)) = false := decide_eq_false (by omega)
          have hf : F = false := by rw [HF.out]; simp [hk1, hk2]
          subst hf
          clear he kR
          go_wp2_with fail
          go_meet
          exact ⟨rfl, rfl⟩
        · have d3 : decide ((3 : Int) < (k : Int)) = true := decide_eq_true (by omega)
          have hf : F = true := by rw [HF.out]; simp [he, hk2]
          subst hf
          clear he kR
          go_wp2_with fail
          go_meet
          exact ⟨rfl, rfl⟩
      · have d1 : decide ((k : Int) < 1) = true := decide_eq_true (by omega)
        have hf : F = true := by rw [HF.out]; simp [he, hk1]
        subst hf
        clear he kR
        go_wp2_with fail
        go_meet
        exact ⟨rfl, rfl⟩
    · have hq : ((e4 : Int) == 0) = false := by rw [beq_eq_false_iff_ne]; omega
      have hf : F = false := by rw [HF.out]; simp [he]
      subst hf
      clear he kR
      go_wp2_with fail
      go_meet
      exact ⟨rfl, rfl⟩
  case rest =>
  obtain ⟨rfl, rfl⟩ := hcut
  obtain ⟨f4, hf4⟩ : ∃ f4 : Nat, f4 = if e4 = 0 ∧ ¬ (1 ≤ k ∧ k ≤ 3) then 4 else e4 := ⟨_, rfl⟩
  have HF4 := Lib.hid hf4
  clear hf4
  go_upto_if 35 with fail
  go_cut [] (fun wx => RdS w g b A n c bs #[.int .i64 (n1 : Nat), .int .i64 (q : Nat), .int .i64 (t : Nat), .int .i64 (k : Nat), .int .i64 0, .int .i64 0, .int .i64 0, .int .i64 0, .int .i64 0, .int .i64 0, .int .i64 0, .int .i64 0, .int .i64 0, .slice none 0 0] r4 f4 wx)
  case first =>
    cases F
    case false =>
      have hf : f4 = e4 := by
        rw [HF4.out, if_neg]
        intro h
        have := HF.out
        rw [decide_eq_true h] at this
        cases this
      rw [← hf] at h4
      clear hf
      go_wp2_with fail
      go_meet
      exact h4
    case true =>
      have hf : f4 = 4 := by
        rw [HF4.out, if_pos (of_decide_eq_true HF.out.symm)]
      obtain ⟨kz, kx, ⟨at4, q1, kR, q2⟩, gW⟩ := h4
      have c2 : W4.cell? ⟨g, 2, none⟩ = some (.int .i64 (e4 : Nat)) := kR.cell 2
      have f2 := kR.free 2
      have hn5 : RdS w g b A n c bs #[.int .i64 (n1 : Nat), .int .i64 (q : Nat), .int .i64 (t : Nat), .int .i64 (k : Nat), .int .i64 0, .int .i64 0, .int .i64 0, .int .i64 0, .int .i64 0, .int .i64 0, .int .i64 0, .int .i64 0, .int .i64 0, .slice none 0 0] r4 4 (W4.setCell ⟨g, 2, none⟩ (.int .i64 4)) := ⟨kz.far (p := ⟨g, 2, none⟩) (by show b ≠ g; have := HW.out; omega) _, kx.far (p := ⟨g, 2, none⟩) (by show b + 1 ≠ g; have := HW.out; omega) _, ⟨at4, q1, kR.set_ 2 _, q2⟩, only_set gW _⟩
      have HN5 := Lib.hid hn5
      have HFF := Lib.hid hf
      clear hf hn5 kz kx kR gW
      go_wp2_with fail
      go_meet
      rw [HFF.out]
      exact HN5.out
  case rest =>
  have h4 := hcut
  clear hcut
  rename_i _ W4
  go_upto_region 8 with fail
  go_wp2_with fail
  refine (HINT.out _ _ _ h4.R h4.gW).mono ?_
  rintro e w5 ⟨rfl, gg, R5⟩
  obtain ⟨wk, r5, e5, hI⟩ : ∃ wk r5 e5, Vint.intM r4 f4 = (wk, r5, e5) := ⟨_, _, _, rfl⟩
  rw [hI] at R5 ⊢
  have HI4 := Lib.hid hI
  have h4' := h4.after HW.out.2 gg R5
  clear gg hI R5 h4
  have cc := h4'.kx.cell 4
  have fc := h4'.kx.free 4
  have h5 := (h4'.set_ HW.out.2 HW.out.1 4 (.int .i64 (wk : Nat))).cs_ (cs' := #[.int .i64 (n1 : Nat), .int .i64 (q : Nat), .int .i64 (t : Nat), .int .i64 (k : Nat), .int .i64 (wk : Nat), .int .i64 0, .int .i64 0, .int .i64 0, .int .i64 0, .int .i64 0, .int .i64 0, .int .i64 0, .int .i64 0, .slice none 0 0]) rfl
  clear h4'
  go_upto_region 9 with fail
  refine nameW ?_
  intro W5 hwn
  rw [← hwn] at h5
  clear hwn cc fc
  by_cases hk1 : k = 1
  · have hq1 : ((k : Int) == 1) = true := by rw [beq_iff_eq]; omega
    have HK1 := Lib.hid hk1
    clear hk1
    have cc := h5.kx.cell 3
    have c3 : W5.cell? ⟨b + 1, 3, none⟩ = some (.int .i64 (k : Nat)) := cc
    clear cc
    go_wp2_with fail
    clear c3
    refine (HINT.out _ _ _ h5.R h5.gW).mono ?_
    rintro e w6 ⟨rfl, gg, R6⟩
    obtain ⟨v, r6, e6, hI⟩ : ∃ v r6 e6, Vint.intM r5 e5 = (v, r6, e6) := ⟨_, _, _, rfl⟩
    rw [hI] at R6 ⊢
    have HI5 := Lib.hid hI
    have h5' := h5.after HW.out.2 gg R6
    clear gg hI R6 h5
    have cc := h5'.kx.cell 5
    have fc := h5'.kx.free 5
    have h6 := (h5'.set_ HW.out.2 HW.out.1 5 (.int .i64 (v : Nat))).cs_ (cs' := #[.int .i64 (n1 : Nat), .int .i64 (q : Nat), .int .i64 (t : Nat), .int .i64 (k : Nat), .int .i64 (wk : Nat), .int .i64 (v : Nat), .int .i64 0, .int .i64 0, .int .i64 0, .int .i64 0, .int .i64 0, .int .i64 0, .int .i64 0, .slice none 0 0]) rfl
    clear h5'
    go_upto_region 11 with fail
    refine nameW ?_
    intro W6 hwn
    rw [← hwn] at h6
    clear hwn cc fc
    have HE := Lib.hid (show rdE r0 = (⟨((n1 : Int), (q : Int)), (t : Nat), (k : Nat), (wk : Nat), (v : Nat), Evt.p0, []⟩, r6, e6) by
      have h1 := HF4.out
      simp only [rdE, HI0.out, HI1.out, HI2.out, HI3.out]
      rw [← h1, HI4.out, rdK_eq, if_pos HK1.out, HI5.out])
    obtain ⟨cz, hcz⟩ : ∃ cz : Array Value, cz = #[.int .i64 (n1 : Nat), .int .i64 (q : Nat), .int .i64 (t : Nat), .int .i64 (k : Nat), .int .i64 (wk : Nat), .int .i64 (v : Nat), .int .i64 0, .int .i64 0, .int .i64 0, .int .i64 0, .int .i64 0, .int .i64 0, .int .i64 0, .slice none 0 0] := ⟨_, rfl⟩
    have hf := h6.cs_ hcz.symm
    have SX := Lib.hid (show cz.size = 14 by rw [hcz]; rfl)
    have OX := Lib.hid (show cz.all (·.oneCell') = true by rw [hcz]; kernel_rfl)
    have SZ := Lib.hid (show (cT 0).size = 14 from rfl)
    have HCZ := Lib.hid hcz
    obtain ⟨kz, kx, hRf, gWf⟩ := hf
    clear hcz h6
    go_wp2_with first
      | ((with_reducible refine wpList_ld rowE kx SX.out ?_ ?_); rotate_left; (rfl))
      | ((with_reducible refine wpList_st rowE kz SX.out SZ.out OX.out ?_ ?_ ?_); rotate_left; (rfl); (rfl); intro w92 k92 g92 z92)
    have hR92 := hRf.map (fun _ _ k => k.grown g92 (fun h => by injection h; have := HW.out; omega))
    have gW92 := grown_on gWf g92 HW.out.1
    exact bodyPost_ret (v := .agg cz) (results_blk rfl rowE k92 SX.out rfl) rfl ⟨none, 0, 0, by rw [HE.out, HCZ.out]; rfl, by rw [HE.out]; exact OwnD.nil _ _, by rw [HE.out]; exact hR92, gW92⟩
  have hq1 : ((k : Int) == 1) = false := by rw [beq_eq_false_iff_ne]; omega
  have HK1 := Lib.hid hk1
  clear hk1
  have c3 : W5.cell? ⟨b + 1, 3, none⟩ = some (.int .i64 (k : Nat)) := h5.kx.cell 3
  obtain ⟨P, rP, eP, hP⟩ : ∃ P rP eP, (if k = 2 then rd7 r5 e5 else (Evt.p0, r5, e5)) = (P, rP, eP) := ⟨_, _, _, rfl⟩
  have HP := Lib.hid hP
  clear hP
  go_upto_if 51 with fail
  go_cut [] (fun wx => RdS w g b A n c bs #[.int .i64 (n1 : Nat), .int .i64 (q : Nat), .int .i64 (t : Nat), .int .i64 (k : Nat), .int .i64 (wk : Nat), .int .i64 0, .int .i64 (P.getD 0 0), .int .i64 (P.getD 1 0), .int .i64 (P.getD 2 0), .int .i64 (P.getD 3 0), .int .i64 (P.getD 4 0), .int .i64 (P.getD 5 0), .int .i64 (P.getD 6 0), .slice none 0 0] rP eP wx)
  case first =>
    by_cases hk2 : k = 2
    · have hq2 : ((k : Int) == 2) = true := by rw [beq_iff_eq]; omega
      have HK2 := Lib.hid hk2
      clear hk2
      go_wp2_with fail
      clear c3
      refine (HINT.out _ _ _ h5.R h5.gW).mono ?_
      rintro e w6 ⟨rfl, gg, R6⟩
      obtain ⟨y0, r6, e6, hI⟩ : ∃ y0 r6 e6, Vint.intM r5 e5 = (y0, r6, e6) := ⟨_, _, _, rfl⟩
      rw [hI] at R6 ⊢
      have HI5 := Lib.hid hI
      have h5' := h5.after HW.out.2 gg R6
      clear gg hI R6 h5
      have cc := h5'.kx.cell 6
      have fc := h5'.kx.free 6
      have h6 := (h5'.set_ HW.out.2 HW.out.1 6 (.int .i64 (y0 : Nat))).cs_ (cs' := #[.int .i64 (n1 : Nat), .int .i64 (q : Nat), .int .i64 (t : Nat), .int .i64 (k : Nat), .int .i64 (wk : Nat), .int .i64 0, .int .i64 (y0 : Nat), .int .i64 0, .int .i64 0, .int .i64 0, .int .i64 0, .int .i64 0, .int .i64 0, .slice none 0 0]) rfl
      clear h5'
      go_upto_region 14 with fail
      refine nameW ?_
      intro W6 hwn
      rw [← hwn] at h6
      clear hwn cc fc
      go_wp2_with fail
      refine (HINT.out _ _ _ h6.R h6.gW).mono ?_
      rintro e w7 ⟨rfl, gg, R7⟩
      obtain ⟨y1, r7, e7, hI⟩ : ∃ y1 r7 e7, Vint.intM r6 e6 = (y1, r7, e7) := ⟨_, _, _, rfl⟩
      rw [hI] at R7 ⊢
      have HI6 := Lib.hid hI
      have h6' := h6.after HW.out.2 gg R7
      clear gg hI R7 h6
      have cc := h6'.kx.cell 7
      have fc := h6'.kx.free 7
      have h7 := (h6'.set_ HW.out.2 HW.out.1 7 (.int .i64 (y1 : Nat))).cs_ (cs' := #[.int .i64 (n1 : Nat), .int .i64 (q : Nat), .int .i64 (t : Nat), .int .i64 (k : Nat), .int .i64 (wk : Nat), .int .i64 0, .int .i64 (y0 : Nat), .int .i64 (y1 : Nat), .int .i64 0, .int .i64 0, .int .i64 0, .int .i64 0, .int .i64 0, .slice none 0 0]) rfl
      clear h6'
      go_upto_region 15 with fail
      refine nameW ?_
      intro W7 hwn
      rw [← hwn] at h7
      clear hwn cc fc
      go_wp2_with fail
      refine (HINT.out _ _ _ h7.R h7.gW).mono ?_
      rintro e w8 ⟨rfl, gg, R8⟩
      obtain ⟨y2, r8, e8, hI⟩ : ∃ y2 r8 e8, Vint.intM r7 e7 = (y2, r8, e8) := ⟨_, _, _, rfl⟩
      rw [hI] at R8 ⊢
      have HI7 := Lib.hid hI
      have h7' := h7.after HW.out.2 gg R8
      clear gg hI R8 h7
      have cc := h7'.kx.cell 8
      have fc := h7'.kx.free 8
      have h8 := (h7'.set_ HW.out.2 HW.out.1 8 (.int .i64 (y2 : Nat))).cs_ (cs' := #[.int .i64 (n1 : Nat), .int .i64 (q : Nat), .int .i64 (t : Nat), .int .i64 (k : Nat), .int .i64 (wk : Nat), .int .i64 0, .int .i64 (y0 : Nat), .int .i64 (y1 : Nat), .int .i64 (y2 : Nat), .int .i64 0, .int .i64 0, .int .i64 0, .int .i64 0, .slice none 0 0]) rfl
      clear h7'
      go_upto_region 16 with fail
      refine nameW ?_
      intro W8 hwn
      rw [← hwn] at h8
      clear hwn cc fc
      go_wp2_with fail
      refine (HINT.out _ _ _ h8.R h8.gW).mono ?_
      rintro e w9 ⟨rfl, gg, R9⟩
      obtain ⟨y3, r9, e9, hI⟩ : ∃ y3 r9 e9, Vint.intM r8 e8 = (y3, r9, e9) := ⟨_, _, _, rfl⟩
      rw [hI] at R9 ⊢
      have HI8 := Lib.hid hI
      have h8' := h8.after HW.out.2 gg R9
      clear gg hI R9 h8
      have cc := h8'.kx.cell 9
      have fc := h8'.kx.free 9
      have h9 := (h8'.set_ HW.out.2 HW.out.1 9 (.int .i64 (y3 : Nat))).cs_ (cs' := #[.int .i64 (n1 : Nat), .int .i64 (q : Nat), .int .i64 (t : Nat), .int .i64 (k : Nat), .int .i64 (wk : Nat), .int .i64 0, .int .i64 (y0 : Nat), .int .i64 (y1 : Nat), .int .i64 (y2 : Nat), .int .i64 (y3 : Nat), .int .i64 0, .int .i64 0, .int .i64 0, .slice none 0 0]) rfl
      clear h8'
      go_upto_region 17 with fail
      refine nameW ?_
      intro W9 hwn
      rw [← hwn] at h9
      clear hwn cc fc
      go_wp2_with fail
      refine (HINT.out _ _ _ h9.R h9.gW).mono ?_
      rintro e w10 ⟨rfl, gg, R10⟩
      obtain ⟨y4, r10, e10, hI⟩ : ∃ y4 r10 e10, Vint.intM r9 e9 = (y4, r10, e10) := ⟨_, _, _, rfl⟩
      rw [hI] at R10 ⊢
      have HI9 := Lib.hid hI
      have h9' := h9.after HW.out.2 gg R10
      clear gg hI R10 h9
      have cc := h9'.kx.cell 10
      have fc := h9'.kx.free 10
      have h10 := (h9'.set_ HW.out.2 HW.out.1 10 (.int .i64 (y4 : Nat))).cs_ (cs' := #[.int .i64 (n1 : Nat), .int .i64 (q : Nat), .int .i64 (t : Nat), .int .i64 (k : Nat), .int .i64 (wk : Nat), .int .i64 0, .int .i64 (y0 : Nat), .int .i64 (y1 : Nat), .int .i64 (y2 : Nat), .int .i64 (y3 : Nat), .int .i64 (y4 : Nat), .int .i64 0, .int .i64 0, .slice none 0 0]) rfl
      clear h9'
      go_upto_region 18 with fail
      refine nameW ?_
      intro W10 hwn
      rw [← hwn] at h10
      clear hwn cc fc
      go_wp2_with fail
      refine (HINT.out _ _ _ h10.R h10.gW).mono ?_
      rintro e w11 ⟨rfl, gg, R11⟩
      obtain ⟨y5, r11, e11, hI⟩ : ∃ y5 r11 e11, Vint.intM r10 e10 = (y5, r11, e11) := ⟨_, _, _, rfl⟩
      rw [hI] at R11 ⊢
      have HI10 := Lib.hid hI
      have h10' := h10.after HW.out.2 gg R11
      clear gg hI R11 h10
      have cc := h10'.kx.cell 11
      have fc := h10'.kx.free 11
      have h11 := (h10'.set_ HW.out.2 HW.out.1 11 (.int .i64 (y5 : Nat))).cs_ (cs' := #[.int .i64 (n1 : Nat), .int .i64 (q : Nat), .int .i64 (t : Nat), .int .i64 (k : Nat), .int .i64 (wk : Nat), .int .i64 0, .int .i64 (y0 : Nat), .int .i64 (y1 : Nat), .int .i64 (y2 : Nat), .int .i64 (y3 : Nat), .int .i64 (y4 : Nat), .int .i64 (y5 : Nat), .int .i64 0, .slice none 0 0]) rfl
      clear h10'
      go_upto_region 19 with fail
      refine nameW ?_
      intro W11 hwn
      rw [← hwn] at h11
      clear hwn cc fc
      go_wp2_with fail
      refine (HINT.out _ _ _ h11.R h11.gW).mono ?_
      rintro e w12 ⟨rfl, gg, R12⟩
      obtain ⟨y6, r12, e12, hI⟩ : ∃ y6 r12 e12, Vint.intM r11 e11 = (y6, r12, e12) := ⟨_, _, _, rfl⟩
      rw [hI] at R12 ⊢
      have HI11 := Lib.hid hI
      have h11' := h11.after HW.out.2 gg R12
      clear gg hI R12 h11
      have cc := h11'.kx.cell 12
      have fc := h11'.kx.free 12
      have h12 := (h11'.set_ HW.out.2 HW.out.1 12 (.int .i64 (y6 : Nat))).cs_ (cs' := #[.int .i64 (n1 : Nat), .int .i64 (q : Nat), .int .i64 (t : Nat), .int .i64 (k : Nat), .int .i64 (wk : Nat), .int .i64 0, .int .i64 (y0 : Nat), .int .i64 (y1 : Nat), .int .i64 (y2 : Nat), .int .i64 (y3 : Nat), .int .i64 (y4 : Nat), .int .i64 (y5 : Nat), .int .i64 (y6 : Nat), .slice none 0 0]) rfl
      clear h11'
      have hp : P = [(y0 : Int), (y1 : Int), (y2 : Int), (y3 : Int), (y4 : Int), (y5 : Int), (y6 : Int)] ∧ rP = r12 ∧ eP = e12 := by
        have h := HP.out
        rw [if_pos HK2.out] at h
        simp only [rd7, rdN, HI5.out, HI6.out, HI7.out, HI8.out, HI9.out, HI10.out, HI11.out] at h
        injection h with h1 h2
        injection h2 with h2 h3
        exact ⟨h1.symm, h2.symm, h3.symm⟩
      have H12 := Lib.hid h12
      have HPP := Lib.hid hp
      clear h12 hp
      go_wp2_with fail
      go_meet
      obtain ⟨rfl, rfl, rfl⟩ := HPP.out
      exact H12.out
    · have hq2 : ((k : Int) == 2) = false := by rw [beq_eq_false_iff_ne]; omega
      have hp : P = Evt.p0 ∧ rP = r5 ∧ eP = e5 := by
        have h := HP.out
        rw [if_neg hk2] at h
        injection h with h1 h2
        injection h2 with h2 h3
        exact ⟨h1.symm, h2.symm, h3.symm⟩
      have HPP := Lib.hid hp
      clear hp hk2
      go_wp2_with fail
      go_meet
      obtain ⟨rfl, rfl, rfl⟩ := HPP.out
      exact h5
  case rest =>
  have hp := hcut
  clear hcut h5 c3
  rename_i _ W6
  go_upto_region 20 with fail
  go_wp2_with fail
  refine (HINT.out _ _ _ hp.R hp.gW).mono ?_
  rintro e w7 ⟨rfl, gg, R7⟩
  obtain ⟨m, r7, e7, hI⟩ : ∃ m r7 e7, Vint.intM rP eP = (m, r7, e7) := ⟨_, _, _, rfl⟩
  rw [hI] at R7 ⊢
  have HIM := Lib.hid hI
  have h7 := hp.after HW.out.2 gg R7
  obtain ⟨f7, hf7⟩ : ∃ f7 : Nat, f7 = if 96 < m then (if e7 = 0 then 6 else e7) else e7 := ⟨_, rfl⟩
  have HF7 := Lib.hid hf7
  have HMS := Lib.hid (show f7 = 0 → m ≤ 96 from fun h => by
    false_or_by_contra
    rw [hf7, if_pos (by omega)] at h
    split at h <;> omega)
  have hmb : m ≤ 1099511627776 := by
    have h := hI
    by_cases he : e7 = 0
    · subst he
      have := intM_good (l := rP) (e := eP) (by rw [h])
      rw [h] at this
      exact this.2.2
    · have := intM_small rP eP (by rw [h]; exact he)
      rw [h] at this
      simp only at this
      omega
  have HMB := Lib.hid hmb
  clear gg hI R7 hp hf7 hmb
  go_upto_if 83 with fail
  go_cut [] (fun wx => RdS w g b A n c bs #[.int .i64 (n1 : Nat), .int .i64 (q : Nat), .int .i64 (t : Nat), .int .i64 (k : Nat), .int .i64 (wk : Nat), .int .i64 0, .int .i64 (P.getD 0 0), .int .i64 (P.getD 1 0), .int .i64 (P.getD 2 0), .int .i64 (P.getD 3 0), .int .i64 (P.getD 4 0), .int .i64 (P.getD 5 0), .int .i64 (P.getD 6 0), .slice none 0 0] r7 f7 wx)
  case first =>
    by_cases hm : 96 < m
    · have hd : (96 : Int) < (m : Int) := by omega
      have hf : f7 = if e7 = 0 then 6 else e7 := by rw [HF7.out, if_pos hm]
      have HFF := Lib.hid hf
      clear hf hm
      go_wp2_with fail
      refine (rfail_m g 6 A n c bs r7 e7 _ h7.R).mono ?_
      rintro e w8 ⟨rfl, gg, R8⟩
      rw [← HFF.out] at R8
      have h8 := h7.after HW.out.2 gg R8
      clear gg R8
      go_wp2_with fail
      go_meet
      exact h8
    · have hd : (m : Int) ≤ 96 := by omega
      have hf : f7 = e7 := by rw [HF7.out, if_neg hm]
      rw [← hf] at h7
      clear hf hm
      go_wp2_with fail
      go_meet
      exact h7
  case rest =>
  have h8 := hcut
  clear hcut h7
  rename_i _ W8
  have HFIN := Lib.hid (show rdE r0 = (⟨((n1 : Int), (q : Int)), (t : Nat), (k : Nat), (wk : Nat), 0, P, (rdDD m r7 f7).1⟩, (rdDD m r7 f7).2) by
    have h1 := HF4.out
    have h2 := HP.out
    have h7 := HF7.out
    simp only [rdE, HI0.out, HI1.out, HI2.out, HI3.out]
    rw [← h1, HI4.out]
    simp only [rdK, if_neg HK1.out]
    by_cases hk2 : k = 2
    · rw [if_pos hk2] at h2
      simp only [if_pos hk2, h2, HIM.out]
      rw [← h7]
    · rw [if_neg hk2] at h2
      simp only [if_neg hk2]
      injection h2 with h3 h4
      injection h4 with h4 h5
      subst h3 h4 h5
      simp only [HIM.out]
      rw [← h7])
  go_upto_region 23 with fail
  go_wp2_with fail
  go_loopw [5] (fun i wr => ∃ (j : Nat) (Ad : Option Addr) (md cd : Nat), j ≤ m ∧ i = .int .i64 j ∧ RdS w g b A n c bs #[.int .i64 (n1 : Nat), .int .i64 (q : Nat), .int .i64 (t : Nat), .int .i64 (k : Nat), .int .i64 (wk : Nat), .int .i64 0, .int .i64 (P.getD 0 0), .int .i64 (P.getD 1 0), .int .i64 (P.getD 2 0), .int .i64 (P.getD 3 0), .int .i64 (P.getD 4 0), .int .i64 (P.getD 5 0), .int .i64 (P.getD 6 0), .slice Ad md cd] (rdDD j r7 f7).2.1 (rdDD j r7 f7).2.2 wr ∧ OwnD wr (b + 1 + 1) Ad md cd (rdDD j r7 f7).1 ∧ md ≤ j) (fun i _ => m - (intOf i).toNat)
  case atStart => exact ⟨0, none, 0, 0, by omega, rfl, h8, OwnD.nil _ _, by omega⟩
  case round =>
    clear h8
    obtain ⟨j, Ad, md, cd, hj, rfl, hs, ho, hmd⟩ := hrel
    have hst : (rdDD j r7 f7).2.2 = 0 → f7 = 0 ∧ rdDD (j + 1) r7 f7 = ((rdDD j r7 f7).1 ++ [(((Vint.intM (rdDD j r7 f7).2.1 0).1 : Int), ((Vint.intM (Vint.intM (rdDD j r7 f7).2.1 0).2.1 (Vint.intM (rdDD j r7 f7).2.1 0).2.2).1 : Int))], (Vint.intM (Vint.intM (rdDD j r7 f7).2.1 0).2.1 (Vint.intM (rdDD j r7 f7).2.1 0).2.2).2) := fun h => by
      refine ⟨?_, by rw [rdDD, if_pos h]⟩
      false_or_by_contra
      rename_i hne
      rw [rdDD_bad j r7 f7 hne] at h
      exact hne h
    have hfin : (j = m ∨ (rdDD j r7 f7).2.2 ≠ 0) → rdDD m r7 f7 = rdDD j r7 f7 := fun h => by
      rcases h with h | h
      · rw [h]
      · exact rdDD_stuck r7 f7 j h m hj
    generalize rdDD j r7 f7 = S at *
    obtain ⟨L, r8, e8⟩ := S
    simp only at hs ho hst hfin
    have HST := Lib.hid hst
    have HFN := Lib.hid hfin
    clear hst hfin
    obtain ⟨at8, _, kR, _⟩ := hs.R
    have c2 : wr.cell? ⟨g, 2, none⟩ = some (.int .i64 (e8 : Nat)) := kR.cell 2
    clear kR
    have hmb := HMB.out
    by_cases hgo : j < m ∧ e8 = 0
    case pos =>
      obtain ⟨hlt, rfl⟩ := hgo
      obtain ⟨hf0, hst⟩ := HST.out rfl
      have hm96 := HMS.out hf0
      have HST2 := Lib.hid hst
      have c2 : wr.cell? ⟨g, 2, none⟩ = some (.int .i64 0) := c2
      have hk1 : (j : Int) < (m : Int) := by omega
      clear HST HFN hst hf0
      go_wp2_with fail
      clear c2
      refine (HINT.out _ _ _ hs.R hs.gW).mono ?_
      rintro e w9 ⟨rfl, gg, R9⟩
      obtain ⟨x1, r9, e9, hI⟩ : ∃ x1 r9 e9, Vint.intM r8 0 = (x1, r9, e9) := ⟨_, _, _, rfl⟩
      rw [hI] at R9 ⊢
      have hst := HST2.out
      rw [hI] at hst
      have HST3 := Lib.hid hst
      have h9 := hs.after HW.out.2 gg R9
      have o9 := ho.grown gg (.inr (fun h => by have := (ho.lt g h).1; have := HW.out; omega))
      clear gg hI R9 hs ho HST2 hst
      go_upto_region 27 with fail
      obtain ⟨su, hsu⟩ : ∃ su : Array Value, su = #[.int .i64 (n1 : Nat), .int .i64 (q : Nat), .int .i64 (t : Nat), .int .i64 (k : Nat), .int .i64 (wk : Nat), .int .i64 0, .int .i64 (P.getD 0 0), .int .i64 (P.getD 1 0), .int .i64 (P.getD 2 0), .int .i64 (P.getD 3 0), .int .i64 (P.getD 4 0), .int .i64 (P.getD 5 0), .int .i64 (P.getD 6 0), .slice Ad md cd] := ⟨_, rfl⟩
      rw [← hsu] at h9
      have HU13 := Lib.hid (show su[13]? = some (.slice Ad md cd) by rw [hsu]; rfl)
      have HUS := Lib.hid (fun (A' : Option Addr) (m' c' : Nat) => (show su.setIfInBounds 13 (.slice A' m' c') = #[.int .i64 (n1 : Nat), .int .i64 (q : Nat), .int .i64 (t : Nat), .int .i64 (k : Nat), .int .i64 (wk : Nat), .int .i64 0, .int .i64 (P.getD 0 0), .int .i64 (P.getD 1 0), .int .i64 (P.getD 2 0), .int .i64 (P.getD 3 0), .int .i64 (P.getD 4 0), .int .i64 (P.getD 5 0), .int .i64 (P.getD 6 0), .slice A' m' c'] by rw [hsu]; rfl))
      clear hsu
      refine wp_region_C (fun w' => Blk w' (b + 1) 28 su) 7 (by kernel_rfl) ?_
      replace h9 : RdS w g b A n c bs su r9 e9 w9.drew := ⟨h9.kz, h9.kx, h9.R.map (fun _ _ q => q.drew), only_drew h9.gW⟩
      replace o9 := o9.drew
      generalize w9.drew = wd at *
      refine wpAnyC_pure (i := 0) (v := ?rv952) rfl (by kernel_rfl) (by kernel_rfl) (by kernel_rfl) (fun _ _ _ h => h) (by decide) (Or.inl ⟨by rfl, ?ry952⟩) (fun _ => (h9.kx)) ?_
      case ry952 => ((intro w; go_simp); (try with_reducible rfl))
      simp only [Act.put, List.getElem_toArray, List.getElem_cons_zero, List.getElem_cons_succ, List.setIfInBounds_toArray, List.set_cons_succ, List.set_cons_zero]
      refine wpAnyC_pure (i := 2) (v := ?rv955) rfl (by kernel_rfl) (by kernel_rfl) (by kernel_rfl) (fun _ _ _ h => h) (by decide) (Or.inl ⟨by rfl, ?ry955⟩) (fun _ => (h9.kx)) ?_
      case ry955 => ((intro w; go_simp); (try with_reducible rfl))
      simp only [Act.put, List.getElem_toArray, List.getElem_cons_zero, List.getElem_cons_succ, List.setIfInBounds_toArray, List.set_cons_succ, List.set_cons_zero]
      refine wpAnyC_pure (i := 3) (v := ?rv958) rfl (by kernel_rfl) (by kernel_rfl) (by kernel_rfl) (fun _ _ _ h => h) (by decide) (Or.inl ⟨by rfl, ?ry958⟩) (fun _ => (h9.kx)) ?_
      case ry958 => ((intro w; go_simp); (try with_reducible rfl))
      simp only [Act.put, List.getElem_toArray, List.getElem_cons_zero, List.getElem_cons_succ, List.setIfInBounds_toArray, List.set_cons_succ, List.set_cons_zero]
      refine wpAnyC_take (i := 1) (v := ?rv1) rfl (by kernel_rfl) (by kernel_rfl) (by kernel_rfl) (fun _ _ _ h => h) (by decide) (by kernel_rfl) (by kernel_rfl) (Or.inl ⟨by rfl, ?ry1⟩) h9.kx ?_
      case ry1 => (intro wS hSw; have c8 : wS.cell? ⟨b + 1, 13, none⟩ = some (.slice Ad md cd) := (hSw.cell 13).trans HU13.out; clear hSw; go_simp; (try with_reducible rfl))
      try simp only [Act.put, List.getElem_toArray, List.getElem_cons_zero, List.getElem_cons_succ, List.setIfInBounds_toArray, List.set_cons_succ, List.set_cons_zero]
      refine wpAnyC_ready (rs := [4]) (by kernel_rfl) (by simp) ?_
      refine AllReadyC.consS rfl (fun K hK => ?_) .nil
      go_simp
      refine (HINT.out _ _ _ h9.R h9.gW).mono ?_
      rintro e w10 ⟨rfl, gg, R10⟩
      obtain ⟨x2, r10, e10, hI⟩ : ∃ x2 r10 e10, Vint.intM r9 e9 = (x2, r10, e10) := ⟨_, _, _, rfl⟩
      rw [hI] at R10 ⊢
      have hst := HST3.out
      simp only [hI] at hst
      have HST4 := Lib.hid hst
      have h10 := h9.after HW.out.2 gg R10
      have o10 := o9.grown gg (.inr (fun h => by have := (o9.lt g h).1; have := HW.out; omega))
      refine hK.out _ _ h10.kx ?_
      clear hK K gg hI R10 h9 o9 HST3 hst
      try simp only [Act.put, List.getElem_toArray, List.getElem_cons_zero, List.getElem_cons_succ, List.setIfInBounds_toArray, List.set_cons_succ, List.set_cons_zero]
      refine wpAnyC_pure (i := 5) (v := ?rv979) rfl (by kernel_rfl) (by kernel_rfl) (by kernel_rfl) (fun _ _ _ h => h) (by decide) (Or.inl ⟨by rfl, ?ry979⟩) (fun _ => (h10.kx)) ?_
      case ry979 => ((intro w; go_simp); (try with_reducible rfl))
      simp only [Act.put, List.getElem_toArray, List.getElem_cons_zero, List.getElem_cons_succ, List.setIfInBounds_toArray, List.set_cons_succ, List.set_cons_zero]
      refine wpAnyC_ready (rs := [6]) (by kernel_rfl) (by simp) ?_
      refine AllReadyC.consS rfl (fun K hK => ?_) .nil
      go_simp
      have h11 : RdS w g b A n c bs su r10 e10 (w10.alloc (.cells #[.int .i64 (x1 : Nat), .int .i64 (x2 : Nat)] 23)) := ⟨h10.kz.alloc _, h10.kx.alloc _, h10.R.map (fun _ _ q => q.alloc _), only_alloc h10.gW _⟩
      have o11 := o10.alloc (.cells #[.int .i64 (x1 : Nat), .int .i64 (x2 : Nat)] 23)
      have rX := Rd.made w10 #[.int .i64 (x1 : Nat), .int .i64 (x2 : Nat)] 23 (0, 0)
      refine hK.out _ _ h11.kx ?_
      clear hK K h10 o10
      generalize w10.alloc (.cells #[.int .i64 (x1 : Nat), .int .i64 (x2 : Nat)] 23) = w11 at *
      generalize w10.heap.size = gx at *
      try simp only [Act.put, List.getElem_toArray, List.getElem_cons_zero, List.getElem_cons_succ, List.setIfInBounds_toArray, List.set_cons_succ, List.set_cons_zero]
      have hs11 : b + 1 < w11.heap.size := h11.kx.lt
      refine wpAnyC_ready (rs := [7]) (by kernel_rfl) (by simp) ?_
      refine AllReadyC.cons rfl (by kernel_rfl) (fun K hK => ?_) .nil
      refine stepsD rfl (.tmp 101) (.tmp 106) rfl (by rfl) o11 (by rfl) (m := 1) (news := [(((x1 : Nat) : Int), ((x2 : Nat) : Int))]) rX rfl (by omega) (by omega) ?_
      intro A8 c8' w12 o12 g12 m12 b12
      have h12 : RdS w g b A n c bs su r10 e10 w12 := ⟨h11.kz.grown g12 (own_ne o11.2 h11.kz (by decide)), h11.kx.grown g12 (own_ne o11.2 h11.kx (by decide)), h11.R.map (fun _ _ q => q.grown g12 (fun h => by have := (o11.lt g h).1; have := HW.out; omega)), only_below h11.gW (b12.mono (by have := HW.out; omega))⟩
      refine hK.out _ _ ?_
      clear hK K h11 o11 g12 m12 b12 rX
      try simp only [Act.put, List.getElem_toArray, List.getElem_cons_zero, List.getElem_cons_succ, List.setIfInBounds_toArray, List.set_cons_succ, List.set_cons_zero]
      refine wpAnyC_pure (i := 8) (v := ?rv8) rfl (by kernel_rfl) (by kernel_rfl) (by kernel_rfl) (fun _ _ _ h => h) (by decide) (Or.inl ⟨by rfl, ?ry8⟩) (fun h => absurd h (by decide)) ?_
      case ry8 => ((intro w; go_simp); (try with_reducible rfl))
      try simp only [Act.put, List.getElem_toArray, List.getElem_cons_zero, List.getElem_cons_succ, List.setIfInBounds_toArray, List.set_cons_succ, List.set_cons_zero]
      have c9 : w12.cell? ⟨b + 1, 13, none⟩ = some (.slice Ad md cd) := (h12.kx.cell 13).trans HU13.out
      have f9 := h12.kx.free 13
      have o13 := o12.setFar (p := ⟨b + 1, 13, none⟩) (own_ne o12.2 h12.kx (by decide)) (.slice A8 (md + 1) c8')
      have h13 := (h12.set_ HW.out.2 HW.out.1 13 (.slice A8 (md + 1) c8')).cs_ (HUS.out A8 (md + 1) c8')
      have H13 := Lib.hid h13
      have O13 := Lib.hid o13
      refine wpAnyC_ready (rs := [9]) (by kernel_rfl) (by simp) ?_
      refine AllReadyC.cons rfl (by kernel_rfl) (fun K hK => ?_) .nil
      clear h13 o13 h12 o12
      go_simp
      refine hK.out _ _ ?_
      clear hK K c9 f9
      refine wpAnyC_done (by kernel_rfl) ?_ _
      go_wp2_with fail
      go_roundw
      case rel => exact ⟨j + 1, A8, md + 1, c8', by omega, by go_num, by rw [HST4.out]; exact H13.out, by rw [HST4.out]; exact O13.out, by omega⟩
      case measure => simp [intOf]; omega
    case neg =>
      have hf2 := HFN.out (by omega)
      have hrl := HFIN.out
      rw [hf2] at hrl
      have HE := Lib.hid hrl
      clear HST HFN hf2 hrl HFIN
      obtain ⟨cz, hcz⟩ : ∃ cz : Array Value, cz = #[.int .i64 (n1 : Nat), .int .i64 (q : Nat), .int .i64 (t : Nat), .int .i64 (k : Nat), .int .i64 (wk : Nat), .int .i64 0, .int .i64 (P.getD 0 0), .int .i64 (P.getD 1 0), .int .i64 (P.getD 2 0), .int .i64 (P.getD 3 0), .int .i64 (P.getD 4 0), .int .i64 (P.getD 5 0), .int .i64 (P.getD 6 0), .slice Ad md cd] := ⟨_, rfl⟩
      have hf := hs.cs_ hcz.symm
      have SX := Lib.hid (show cz.size = 14 by rw [hcz]; rfl)
      have OX := Lib.hid (show cz.all (·.oneCell') = true by rw [hcz]; kernel_rfl)
      have SZ := Lib.hid (show (cT 0).size = 14 from rfl)
      have HCZ := Lib.hid hcz
      obtain ⟨kz, kx, hRf, gWf⟩ := hf
      clear hcz hs
      by_cases hlt : j < m
      case' pos =>
        have he1 : e8 ≠ 0 := fun h => hgo ⟨hlt, h⟩
        have hk1 : (j : Int) < (m : Int) := by omega
        have hq : (((e8 : Nat) : Int) == 0) = false := by rw [beq_eq_false_iff_ne]; omega
        clear hgo
        go_upto_region 28 with fail
        clear c2
      case' neg =>
        obtain rfl : j = m := by omega
        clear hgo
        go_upto_region 28 with fail
        clear c2
      all_goals
        go_wp2_with first
          | ((with_reducible refine wpList_ld rowE kx SX.out ?_ ?_); rotate_left; (rfl))
          | ((with_reducible refine wpList_st rowE kz SX.out SZ.out OX.out ?_ ?_ ?_); rotate_left; (rfl); (rfl); intro w92 k92 g92 z92)
        have hR92 := hRf.map (fun _ _ k => k.grown g92 (fun h => by injection h; have := HW.out; omega))
        have gW92 := grown_on gWf g92 HW.out.1
        have o92 := (ho.grown g92 (.inr (own_ne ho.2 kz (by decide)))).mono (base' := w.heap.size) (by have := HW.out; omega)
        exact bodyPost_ret (v := .agg cz) (results_blk rfl rowE k92 SX.out rfl) rfl ⟨Ad, md, cd, by rw [HE.out, HCZ.out]; rfl, by rw [HE.out]; exact o92, by rw [HE.out]; exact hR92, gW92⟩
end Go.Proofs.Ytiemlnomlfebkaa

/- What the rows' proofs share: how an argument that came in reads. -/
namespace Go.Proofs.Ytiemlnomlfebkaa
open Go.ChangeShapes Go.WideShapes Go.ChangeAt Go.RowKit

theorem own : ownKnob Try.prog.godebug = none := by kernel_rfl
theorem laidOut : laidOutB Try.prog = true := by kernel_rfl
/-- What a byte slice's cell reads as. -/
theorem rd_bytes {H : Type} {enc : TypeId × Value → H} {W : World} {base : Nat} {sp : Nat → Bool} {held : Bool} {fuel : Nat} {cs : List Value} {x : DataW H × List MemPlace}
    (hf : DataW.trod enc Try.prog W base sp held fuel 37 cs = some x) :
    ∃ (a : Option Addr) (n cap : Nat) (bs : List UInt8), cs = [.slice a n cap] ∧ RdB W W.heap.size a n bs ∧ n ≤ cap ∧ cap ≤ maxLen := by
  rcases open_ints Try.underlying37 Try.underlying5 (by kernel_rfl) hf with ⟨hcs, _⟩ | ⟨x, len0, cap0, zs, hcs, _, hl, hm, hz, _, hcell, hwz⟩
  · exact ⟨_, _, _, [], hcs, RdB.nil _ _ _, Nat.le_refl _, Nat.zero_le _⟩
  · have hz' : len0 ≤ zs.length := by rw [hz]; split <;> omega
    have hlen : ((zs.take len0).map fun z => UInt8.ofNat z.toNat).length = len0 := by simp; omega
    refine ⟨_, len0, cap0, (zs.take len0).map fun z => UInt8.ofNat z.toNat, hcs, ⟨hlen.symm, ?_⟩, hl, hm⟩
    intro j u hu
    simp only [List.getElem?_map, List.getElem?_take] at hu
    by_cases hj : j < len0
    · rw [if_pos hj] at hu
      have hjz : j < zs.length := by omega
      have hw := hwz zs[j] (List.getElem_mem hjz)
      have hw2 : 0 ≤ zs[j] ∧ zs[j] < 256 := by
        have hmin : IntKind.u8.min = 0 := rfl
        have hmax : IntKind.u8.max = 255 := rfl
        simp only [Lit.wf, Bool.and_eq_true, decide_eq_true_eq] at hw
        omega
      have hcj := hcell j hjz
      rw [List.getD_eq_getElem?_getD, List.getElem?_eq_getElem hjz] at hcj
      rw [List.getElem?_eq_getElem hjz] at hu
      simp only [Option.map_some, Option.some.injEq] at hu
      refine ⟨x, rfl, ?_, ?_⟩
      · have := World.block_lt_of_cell? W _ hcj
        rwa [block_add] at this
      · rw [hcj, ← hu]
        show some (Value.int .u8 zs[j]) = some (Value.int .u8 _)
        have : ((UInt8.ofNat zs[j].toNat).toNat : Int) = zs[j] := by
          rw [UInt8.toNat_ofNat']
          omega
        rw [this]
    · rw [if_neg hj] at hu; simp at hu
set_option maxRecDepth 100000
/-- A slice of bytes that came in. -/
theorem open_bytesC {H : Type} {enc : TypeId × Value → H} {W : World} {base : Nat} {sp : Nat → Bool} {held : Bool} {r : Reach} {b0 : Nat} {v : Value} {d : DataW H} {p : List MemPlace}
    (hv : Value.okWide Try.prog W r b0 37 v) (h : DataW.Trod enc Try.prog W base sp held 37 v d p) :
    ∃ (a : Option Addr) (n cap : Nat) (bs : List UInt8), v = .slice a n cap ∧ RdB W W.heap.size a n bs ∧ n ≤ cap ∧ cap ≤ maxLen := by
  obtain ⟨a0, len0, cap0, rfl⟩ := okWide_slice Try.underlying37 hv
  obtain ⟨fuel, hf⟩ := h
  obtain ⟨a, n, c, bs, h1, h2⟩ := rd_bytes hf
  simp [Value.cells] at h1
  obtain ⟨rfl, rfl, rfl⟩ := h1
  exact ⟨_, _, _, bs, rfl, h2⟩
theorem open_bytes {H : Type} {enc : TypeId × Value → H} {W : World} {base : Nat} {sp : Nat → Bool} {held : Bool} {r : Reach} {b0 : Nat} {v : Value} {d : DataW H} {p : List MemPlace}
    (hv : Value.okWide Try.prog W r b0 37 v) (h : DataW.Trod enc Try.prog W base sp held 37 v d p) :
    ∃ (a : Option Addr) (n cap : Nat) (bs : List UInt8), v = .slice a n cap ∧ RdB W W.heap.size a n bs ∧ n ≤ maxLen := by
  obtain ⟨a, n, c, bs, h1, h2, h3, h4⟩ := open_bytesC hv h
  exact ⟨a, n, c, bs, h1, h2, Nat.le_trans h3 h4⟩
end Go.Proofs.Ytiemlnomlfebkaa

/- How ints, structs and slices that came in read: on cells. -/
namespace Go.Proofs.Ytiemlnomlfebkaa
open Go.ChangeShapes Go.WideShapes Go.ChangeAt Go.RowKit Go.Deep

section
variable {H : Type} {enc : TypeId × Value → H} {W : World} {base : Nat} {sp : Nat → Bool} {held : Bool} {fuel : Nat} {cs : List Value} {x : DataW H × List MemPlace}
/-- an int's cell -/
theorem rd_int (hf : DataW.trod enc Try.prog W base sp held fuel 3 cs = some x) : ∃ z : Int, cs = [.int .i64 z] ∧ -9223372036854775808 ≤ z ∧ z ≤ 9223372036854775807 := by
  obtain ⟨z, h1, _, hw⟩ := DataW.trod_int Try.underlying3 hf
  refine ⟨z, h1, ?_⟩
  have hmin : IntKind.i64.min = -9223372036854775808 := rfl
  have hmax : IntKind.i64.max = 9223372036854775807 := rfl
  simp only [Lit.wf, Bool.and_eq_true, decide_eq_true_eq] at hw
  omega
/-- a struct's field, as its cells -/
theorem rd_field {t : TypeId} {fs : Array Field} (ht : (Try.prog).underlying t = some (.struct fs)) (hf : DataW.trod enc Try.prog W base sp held fuel t cs = some x) (j T o m : Nat)
    (hj : (fs[j]?).map (fun f => (f.type, f.offset)) = some (T, o)) (hm : (Try.prog).cellsOf T = m) : ∃ n y, DataW.trod enc Try.prog W base sp held n T ((cs.drop o).take m) = some y := by
  obtain ⟨xs, n, _, _, _, hxl, hg⟩ := DataW.trod_struct ht hf
  obtain ⟨f, hf1, hf2⟩ := Option.map_eq_some_iff.1 hj
  injection hf2 with h1 h2
  have hjl : j < xs.length := by
    rw [hxl]
    exact (Array.getElem?_eq_some_iff.1 hf1).1
  have h := hg j f hf1
  rw [h1, h2, hm, List.getElem?_eq_getElem hjl] at h
  exact ⟨n, _, h⟩
theorem rd_len {t : TypeId} {fs : Array Field} {m : Nat} (ht : (Try.prog).underlying t = some (.struct fs)) (hm : (Try.prog).cellsOf t = m) (hf : DataW.trod enc Try.prog W base sp held fuel t cs = some x) : cs.length = m := by
  obtain ⟨xs, n, _, _, hl, _⟩ := DataW.trod_struct ht hf
  rw [hl, hm]
/-- a slice's elements, each as its cells -/
theorem rd_slice {t e : TypeId} {m : Nat} (ht : (Try.prog).underlying t = some (.slice e)) (hm : (Try.prog).cellsOf e = m) (hf : DataW.trod enc Try.prog W base sp held fuel t cs = some x) :
    ∃ (a : Option Addr) (n cap : Nat), cs = [.slice a n cap] ∧ n ≤ cap ∧ cap ≤ maxLen ∧ ∀ i, i < n → ∃ (ad : Addr) (cs' : List Value) (fuel' : Nat) (x' : DataW H × List MemPlace), a = some ad ∧ cs'.length = m ∧ (∀ j, j < m → W.cell? ((ad.add (i * m)).add j) = cs'[j]?) ∧ DataW.trod enc Try.prog W base sp held fuel' e cs' = some x' := by
  rcases open_slice ht hf with ⟨h0, _⟩ | ⟨a, len, cap, k, n, D, Pl, hcs, hb, hl, hc, hk, hx, hi⟩
  · exact ⟨none, 0, 0, h0, Nat.le_refl _, Nat.zero_le _, fun i h => absurd h (Nat.not_lt_zero _)⟩
  · refine ⟨some a, len, cap, hcs, hl, hc, fun i h => ?_⟩
    have hik : i < k := by rw [hk]; split <;> omega
    obtain ⟨cs', hc', ht'⟩ := hi i hik
    rw [hm] at hc'
    obtain ⟨_, hcl, hat⟩ := World.cells?_some hc'
    exact ⟨a, cs', n, _, rfl, hcl, fun j hj => hat j hj, ht'⟩
end
end Go.Proofs.Ytiemlnomlfebkaa

/- The reach: how much what came in weighs; what is read then is short enough to be copied. -/
namespace Go.Proofs.Ytiemlnomlfebkaa
open Go.ChangeShapes Go.WideShapes Go.ChangeAt Go.RowKit Go.Deep

/-- What a datum weighs is within the form's reach. -/
def Sz {H : Type} (t : TypeId) (d : DataW H) : Prop := ∀ n ∈ d.weights Try.prog t, n ≤ reachBytes
theorem sz_arg {H : Type} {ts : List TypeId} {ds : List (DataW H)} (h : (DataW.weightsEach Try.prog ts ds).all (· ≤ reachBytes) = true) {j : Nat} {t : TypeId} {d : DataW H} (ht : ts[j]? = some t) (hd : ds[j]? = some d) : Sz t d := fun n hn => by
  have := List.all_eq_true.1 h n (DataW.weights_mem_each ht hd n hn)
  simpa using this
theorem weightsAll_mem {H : Type} {P : Program} {e : TypeId} {l : List (DataW H)} {d : DataW H} (hd : d ∈ l) : ∀ n ∈ d.weights P e, n ∈ DataW.weightsAll P e l := by
  induction l with
  | nil => cases hd
  | cons a r ih =>
    intro n hn
    simp only [DataW.weightsAll, List.mem_append]
    rcases List.mem_cons.1 hd with h | h
    · subst h; exact .inl hn
    · exact .inr (ih h n hn)
section
variable {H : Type} {enc : TypeId × Value → H} {W : World} {base : Nat} {sp : Nat → Bool} {held : Bool} {fuel : Nat} {cs : List Value} {x : DataW H × List MemPlace}
/-- a struct's field, as its cells; it weighs no more than the struct -/
theorem rdz_field {t : TypeId} {fs : Array Field} (ht : (Try.prog).underlying t = some (.struct fs)) (hf : DataW.trod enc Try.prog W base sp held fuel t cs = some x) (hs : Sz t x.1) (j T o m : Nat)
    (hj : (fs[j]?).map (fun f => (f.type, f.offset)) = some (T, o)) (hm : (Try.prog).cellsOf T = m) : ∃ n y, DataW.trod enc Try.prog W base sp held n T ((cs.drop o).take m) = some y ∧ Sz T y.1 := by
  obtain ⟨xs, n, _, hx, _, hxl, hg⟩ := DataW.trod_struct ht hf
  obtain ⟨f, hf1, hf2⟩ := Option.map_eq_some_iff.1 hj
  injection hf2 with h1 h2
  have hjl : j < xs.length := by
    rw [hxl]
    exact (Array.getElem?_eq_some_iff.1 hf1).1
  have h := hg j f hf1
  rw [h1, h2, hm, List.getElem?_eq_getElem hjl] at h
  refine ⟨n, _, h, fun k hk => hs k ?_⟩
  rw [hx]
  simp only [DataW.weights, ht]
  refine DataW.weights_mem_each (j := j) (t := T) (d := xs[j].1) ?_ ?_ k hk
  · rw [List.getElem?_map, Array.getElem?_toList, hf1]; simp [h1]
  · rw [List.getElem?_map, List.getElem?_eq_getElem hjl]; rfl
/-- a slice's elements, each as its cells -/
theorem rdz_slice {t e : TypeId} {m : Nat} (ht : (Try.prog).underlying t = some (.slice e)) (hm : (Try.prog).cellsOf e = m) (hf : DataW.trod enc Try.prog W base sp held fuel t cs = some x) (hs : Sz t x.1) :
    ∃ (a : Option Addr) (n cap : Nat), cs = [.slice a n cap] ∧ n ≤ cap ∧ cap ≤ maxLen ∧ n * (Try.prog).bytesOf e ≤ reachBytes ∧ ∀ i, i < n → ∃ (ad : Addr) (cs' : List Value) (fuel' : Nat) (x' : DataW H × List MemPlace), a = some ad ∧ cs'.length = m ∧ (∀ j, j < m → W.cell? ((ad.add (i * m)).add j) = cs'[j]?) ∧ DataW.trod enc Try.prog W base sp held fuel' e cs' = some x' ∧ Sz e x'.1 := by
  rcases open_slice ht hf with ⟨h0, _⟩ | ⟨a, len, cap, k, n, D, Pl, hcs, hb, hl, hc, hk, hx, hi⟩
  · exact ⟨none, 0, 0, h0, Nat.le_refl _, Nat.zero_le _, by simp, fun i h => absurd h (Nat.not_lt_zero _)⟩
  · refine ⟨some a, len, cap, hcs, hl, hc, ?_, fun i h => ?_⟩
    · have := hs ((len + (k - len)) * (Try.prog).bytesOf e) (by rw [hx]; simp [DataW.weights, ht])
      refine Nat.le_trans (Nat.mul_le_mul_right _ ?_) this
      omega
    · have hik : i < k := by rw [hk]; split <;> omega
      obtain ⟨cs', hc', ht'⟩ := hi i hik
      rw [hm] at hc'
      obtain ⟨_, hcl, hat⟩ := World.cells?_some hc'
      refine ⟨a, cs', n, _, rfl, hcl, fun j hj => hat j hj, ht', fun q hq => hs q ?_⟩
      rw [hx]
      simp only [DataW.weights, ht]
      refine List.mem_cons_of_mem _ (List.mem_append_left _ (weightsAll_mem (List.mem_map.2 ⟨i, by simpa using h, rfl⟩) q hq))
theorem bytesOf8 : (Try.prog).bytesOf 5 = 1 := by kernel_rfl
theorem rdz_bytes (hf : DataW.trod enc Try.prog W base sp held fuel 37 cs = some x) (hs : Sz 37 x.1) :
    ∃ (a : Option Addr) (n cap : Nat) (bs : List UInt8), cs = [.slice a n cap] ∧ RdB W W.heap.size a n bs ∧ n ≤ cap ∧ cap ≤ maxLen ∧ n ≤ reachBytes := by
  obtain ⟨a, n, c, bs, h1, h2, h3, h4⟩ := rd_bytes hf
  obtain ⟨a', n', c', k1, k2, k3, k4, _⟩ := rdz_slice Try.underlying37 (m := 1) (by kernel_rfl) hf hs
  rw [h1] at k1
  injection k1 with k1 _
  injection k1 with _ k1 _
  rw [bytesOf8, Nat.mul_one] at k4
  exact ⟨a, n, c, bs, h1, h2, h3, h4, by omega⟩
end
end Go.Proofs.Ytiemlnomlfebkaa

/- How events that came in read. -/
namespace Go.Proofs.Ytiemlnomlfebkaa
open Go.ChangeShapes Go.WideShapes Go.ChangeAt Go.RowKit Go.Deep
open Dot Evt
set_option maxRecDepth 100000
theorem cellsI' : (Try.prog).cellsOf 3 = 1 := by kernel_rfl
theorem cellsD : (Try.prog).cellsOf 23 = 2 := by kernel_rfl
theorem cellsDs : (Try.prog).cellsOf 26 = 1 := by kernel_rfl
theorem cellsP : (Try.prog).cellsOf 25 = 7 := by kernel_rfl
theorem cellsE : (Try.prog).cellsOf 28 = 14 := by kernel_rfl
section
variable {H : Type} {enc : TypeId × Value → H} {W : World} {base : Nat} {sp : Nat → Bool} {held : Bool} {fuel : Nat} {cs : List Value} {x : DataW H × List MemPlace}
theorem rd_dot (hf : DataW.trod enc Try.prog W base sp held fuel 23 cs = some x) : ∃ d : Dt, cs = [.int .i64 d.1, .int .i64 d.2] := by
  have hl := rd_len Try.underlying23 cellsD hf
  obtain ⟨_, _, g0⟩ := rd_field Try.underlying23 hf 0 3 0 1 rfl cellsI'
  obtain ⟨_, _, g1⟩ := rd_field Try.underlying23 hf 1 3 1 1 rfl cellsI'
  obtain ⟨x0, e0, _⟩ := rd_int g0
  obtain ⟨x1, e1, _⟩ := rd_int g1
  match cs, hl with
  | [a, b], _ =>
    simp at e0 e1
    exact ⟨(x0, x1), by rw [e0, e1]⟩
theorem rd_dots (hf : DataW.trod enc Try.prog W base sp held fuel 26 cs = some x) : ∃ (A : Option Addr) (n c : Nat) (l : List Dt), cs = [.slice A n c] ∧ RdD W W.heap.size A n l ∧ n ≤ maxLen := by
  obtain ⟨a, n, c, hcs, hnc, hcm, hg⟩ := rd_slice Try.underlying26 cellsD hf
  have key : ∀ i, i < n → ∃ (ad : Addr) (d : Dt), a = some ad ∧ DotAt W W.heap.size (ad.add (i * 2)) d := fun i hi => by
    obtain ⟨ad, cs', f', x', e, hl, hc, ht⟩ := hg i hi
    obtain ⟨d, rfl⟩ := rd_dot ht
    have h0 := hc 0 (by omega)
    have h1 := hc 1 (by omega)
    rw [add_add] at h0 h1
    rw [Nat.add_zero] at h0
    rw [add_next] at h1
    exact ⟨ad, d, e, World.block_lt_of_cell? W _ h0, h0, h1⟩
  have hex : ∀ i, ∃ d : Dt, i < n → ∃ ad, a = some ad ∧ DotAt W W.heap.size (ad.add (i * 2)) d := fun i => by
    by_cases hi : i < n
    · obtain ⟨ad, d, h⟩ := key i hi
      exact ⟨d, fun _ => ⟨ad, h⟩⟩
    · exact ⟨(0, 0), fun h => absurd h hi⟩
  refine ⟨a, n, c, (List.range n).map fun i => (hex i).choose, hcs, ⟨by simp, fun i d hi => ?_⟩, Nat.le_trans hnc hcm⟩
  have hi' : i < n := by
    have := (List.getElem?_eq_some_iff.1 hi).1
    simpa using this
  rw [List.getElem?_map, List.getElem?_range hi'] at hi
  injection hi with hi
  rw [← hi]
  exact (hex i).choose_spec hi'
theorem rd_pol (hf : DataW.trod enc Try.prog W base sp held fuel 25 cs = some x) : ∃ p : List Int, p.length = 7 ∧ cs = (pc p).toList := by
  have hl := rd_len Try.underlying25 cellsP hf
  obtain ⟨_, _, g0⟩ := rd_field Try.underlying25 hf 0 3 0 1 rfl cellsI'
  obtain ⟨_, _, g1⟩ := rd_field Try.underlying25 hf 1 3 1 1 rfl cellsI'
  obtain ⟨_, _, g2⟩ := rd_field Try.underlying25 hf 2 3 2 1 rfl cellsI'
  obtain ⟨_, _, g3⟩ := rd_field Try.underlying25 hf 3 3 3 1 rfl cellsI'
  obtain ⟨_, _, g4⟩ := rd_field Try.underlying25 hf 4 3 4 1 rfl cellsI'
  obtain ⟨_, _, g5⟩ := rd_field Try.underlying25 hf 5 3 5 1 rfl cellsI'
  obtain ⟨_, _, g6⟩ := rd_field Try.underlying25 hf 6 3 6 1 rfl cellsI'
  obtain ⟨x0, e0, _⟩ := rd_int g0
  obtain ⟨x1, e1, _⟩ := rd_int g1
  obtain ⟨x2, e2, _⟩ := rd_int g2
  obtain ⟨x3, e3, _⟩ := rd_int g3
  obtain ⟨x4, e4, _⟩ := rd_int g4
  obtain ⟨x5, e5, _⟩ := rd_int g5
  obtain ⟨x6, e6, _⟩ := rd_int g6
  match cs, hl with
  | [a0, a1, a2, a3, a4, a5, a6], _ =>
    simp at e0 e1 e2 e3 e4 e5 e6
    exact ⟨[x0, x1, x2, x3, x4, x5, x6], rfl, by rw [e0, e1, e2, e3, e4, e5, e6]; rfl⟩
/-- an event, as its cells stand -/
theorem rd_ev (hf : DataW.trod enc Try.prog W base sp held fuel 28 cs = some x) : ∃ (e : Ev) (A : Option Addr) (n c : Nat), e.p.length = 7 ∧ cs = (ec e (.slice A n c)).toList ∧ RdD W W.heap.size A n e.l ∧ n ≤ maxLen := by
  have hl := rd_len Try.underlying28 cellsE hf
  obtain ⟨_, _, g0⟩ := rd_field Try.underlying28 hf 0 23 0 2 rfl cellsD
  obtain ⟨_, _, g1⟩ := rd_field Try.underlying28 hf 1 3 2 1 rfl cellsI'
  obtain ⟨_, _, g2⟩ := rd_field Try.underlying28 hf 2 3 3 1 rfl cellsI'
  obtain ⟨_, _, g3⟩ := rd_field Try.underlying28 hf 3 3 4 1 rfl cellsI'
  obtain ⟨_, _, g4⟩ := rd_field Try.underlying28 hf 4 3 5 1 rfl cellsI'
  obtain ⟨_, _, g5⟩ := rd_field Try.underlying28 hf 5 25 6 7 rfl cellsP
  obtain ⟨_, _, g6⟩ := rd_field Try.underlying28 hf 6 26 13 1 rfl cellsDs
  obtain ⟨d, e0⟩ := rd_dot g0
  obtain ⟨x1, e1, _⟩ := rd_int g1
  obtain ⟨x2, e2, _⟩ := rd_int g2
  obtain ⟨x3, e3, _⟩ := rd_int g3
  obtain ⟨x4, e4, _⟩ := rd_int g4
  obtain ⟨p, hp, e5⟩ := rd_pol g5
  obtain ⟨A, n, c, l, e6, hr, hn⟩ := rd_dots g6
  refine ⟨⟨d, x1, x2, x3, x4, p, l⟩, A, n, c, hp, ?_, hr, hn⟩
  match cs, hl with
  | [a0, a1, a2, a3, a4, a5, a6, a7, a8, a9, a10, a11, a12, a13], _ =>
    simp [pc] at e0 e1 e2 e3 e4 e5 e6
    obtain ⟨rfl, rfl⟩ := e0
    obtain ⟨rfl, rfl, rfl, rfl, rfl, rfl, rfl⟩ := e5
    subst e1 e2 e3 e4 e6
    simp [ec]
end
section
variable {H : Type} {enc : TypeId × Value → H} {W : World} {base : Nat} {sp : Nat → Bool} {held : Bool} {r : Reach} {b0 : Nat} {v : Value} {d : DataW H} {p : List MemPlace}
theorem open_ev (hv : Value.okWide Try.prog W r b0 28 v) (h : DataW.Trod enc Try.prog W base sp held 28 v d p) :
    ∃ (e : Ev) (A : Option Addr) (n c : Nat), v = .agg (ec e (.slice A n c)) ∧ e.p.length = 7 ∧ RdD W W.heap.size A n e.l ∧ n ≤ maxLen := by
  obtain ⟨cs, rfl, hsz⟩ := okWide_struct Try.underlying28 hv
  obtain ⟨fuel, hf0⟩ := h
  have hf : DataW.trod enc Try.prog W base sp held fuel 28 cs.toList = some (d, p) := hf0
  obtain ⟨e, A, n, c, h1, h2, h3, h4⟩ := rd_ev hf
  exact ⟨e, A, n, c, by rw [← Array.toArray_toList (xs := cs), h2], h1, h3, h4⟩
end
end Go.Proofs.Ytiemlnomlfebkaa

/- How events that came in read, within the reach. -/
namespace Go.Proofs.Ytiemlnomlfebkaa
open Go.ChangeShapes Go.WideShapes Go.ChangeAt Go.RowKit Go.Deep
open Dot Evt
set_option maxRecDepth 100000
theorem bytesDt : (Try.prog).bytesOf 23 = 16 := by kernel_rfl
theorem bytesEv : (Try.prog).bytesOf 28 = 128 := by kernel_rfl
section
variable {H : Type} {enc : TypeId × Value → H} {W : World} {base : Nat} {sp : Nat → Bool} {held : Bool} {fuel : Nat} {cs : List Value} {x : DataW H × List MemPlace}
theorem rdz_ev (hf : DataW.trod enc Try.prog W base sp held fuel 28 cs = some x) (hs : Sz 28 x.1) : ∃ e : EvV, cs = e.cs.toList ∧ EvOk W W.heap.size e := by
  obtain ⟨e, A, n, c, h1, h2, h3, _⟩ := rd_ev hf
  obtain ⟨_, _, g6, z6⟩ := rdz_field Try.underlying28 hf hs 6 26 13 1 rfl cellsDs
  obtain ⟨a3, l3, c3, e1, _, _, e4, _⟩ := rdz_slice Try.underlying26 cellsD g6 z6
  rw [bytesDt] at e4
  have hr : reachBytes = 140737488351232 := rfl
  rw [h2] at e1
  have e2 : ((ec e (.slice A n c)).toList.drop 13).take 1 = [.slice A n c] := rfl
  rw [e2] at e1
  injection e1 with e1 _
  injection e1 with _ e1 _
  exact ⟨⟨e, A, n, c⟩, h2, h1, h3, by show n ≤ _; omega⟩
theorem rdz_evs (hf : DataW.trod enc Try.prog W base sp held fuel 31 cs = some x) (hs : Sz 31 x.1) : ∃ (A : Option Addr) (n c : Nat) (xs : List EvV), cs = [.slice A n c] ∧ RowEv W W.heap.size A n xs ∧ n ≤ 10000000000000 := by
  obtain ⟨a, n, c, h1, _, _, h3, h4⟩ := rdz_slice Try.underlying31 cellsE hf hs
  rw [bytesEv] at h3
  have hr : reachBytes = 140737488351232 := rfl
  have key : ∀ i, i < n → ∃ e : EvV, EvOk W W.heap.size e ∧ ∃ ad, a = some ad ∧ ad.block < W.heap.size ∧ ∀ (j : Nat) v, e.cs[j]? = some v → W.cell? ((ad.add (i * 14)).add j) = some v := fun i hi => by
    obtain ⟨ad, cs', f', x', e1, hl, hc, ht, hz⟩ := h4 i hi
    obtain ⟨e, h5, h6⟩ := rdz_ev ht hz
    have hlt : ad.block < W.heap.size := by
      have e6 := hc 0 (by omega)
      rw [List.getElem?_eq_getElem (by omega)] at e6
      have := World.block_lt_of_cell? W _ e6
      rwa [block_add, block_add] at this
    refine ⟨e, h6, ad, e1, hlt, fun j v hv => ?_⟩
    have hj : j < 14 := by
      have := (Array.getElem?_eq_some_iff.1 hv).1
      rwa [e.size] at this
    rw [hc j hj, h5, Array.getElem?_toList, hv]
  have hex : ∀ i, ∃ e : EvV, i < n → EvOk W W.heap.size e ∧ ∃ ad, a = some ad ∧ ad.block < W.heap.size ∧ ∀ (j : Nat) v, e.cs[j]? = some v → W.cell? ((ad.add (i * 14)).add j) = some v := fun i => by
    by_cases hi : i < n
    · obtain ⟨e, h⟩ := key i hi
      exact ⟨e, fun _ => h⟩
    · exact ⟨⟨exZ, none, 0, 0⟩, fun h => absurd h hi⟩
  refine ⟨a, n, c, (List.range n).map fun i => (hex i).choose, h1, ⟨by simp, fun i d hi => ?_⟩, by omega⟩
  have hi' : i < n := by
    have := (List.getElem?_eq_some_iff.1 hi).1
    simpa using this
  rw [List.getElem?_map, List.getElem?_range hi'] at hi
  injection hi with hi
  rw [← hi]
  exact (hex i).choose_spec hi'
end
section
variable {H : Type} {enc : TypeId × Value → H} {W : World} {base : Nat} {sp : Nat → Bool} {held : Bool} {r : Reach} {b0 : Nat} {v : Value} {d : DataW H} {p : List MemPlace}
theorem open_evz (hv : Value.okWide Try.prog W r b0 28 v) (h : DataW.Trod enc Try.prog W base sp held 28 v d p) (hs : Sz 28 d) :
    ∃ e : EvV, v = .agg e.cs ∧ EvOk W W.heap.size e := by
  obtain ⟨cs, rfl, hsz⟩ := okWide_struct Try.underlying28 hv
  obtain ⟨fuel, hf0⟩ := h
  have hf : DataW.trod enc Try.prog W base sp held fuel 28 cs.toList = some (d, p) := hf0
  obtain ⟨e, h1, h2⟩ := rdz_ev hf hs
  exact ⟨e, by rw [← Array.toArray_toList (xs := cs), h1], h2⟩
theorem open_evsz (hv : Value.okWide Try.prog W r b0 31 v) (h : DataW.Trod enc Try.prog W base sp held 31 v d p) (hs : Sz 31 d) :
    ∃ (A : Option Addr) (n c : Nat) (xs : List EvV), v = .slice A n c ∧ RowEv W W.heap.size A n xs ∧ n ≤ 10000000000000 := by
  obtain ⟨a0, len0, cap0, rfl⟩ := okWide_slice Try.underlying31 hv
  obtain ⟨fuel, hf⟩ := h
  obtain ⟨A, n, c, xs, h1, h2⟩ := rdz_evs hf hs
  simp [Value.cells] at h1
  obtain ⟨rfl, rfl, rfl⟩ := h1
  exact ⟨_, _, _, xs, rfl, h2⟩
end
end Go.Proofs.Ytiemlnomlfebkaa

/- Regions that draw their order, walked by an invariant: each operation once, whatever came up ahead of it. -/
namespace Go.Proofs.Ytiemlnomlfebkaa
open Go.RowKit
/-- how many are left -/
def leftL (l : List Bool) : Nat := (l.filter fun b => !b).length
theorem leftL_set : ∀ (l : List Bool) (i : Nat), l[i]? = some false → leftL (l.set i true) + 1 = leftL l
  | [], i, h => by simp at h
  | b :: l, 0, h => by
    simp at h
    subst h
    simp [leftL]
  | b :: l, i + 1, h => by
    have ih := leftL_set l i (by simpa using h)
    cases b
    · simp [leftL] at ih ⊢
      omega
    · simp [leftL] at ih ⊢
      omega
theorem leftL_zero : ∀ (l : List Bool), leftL l = 0 → ∀ (i : Nat) b, l[i]? = some b → b = true
  | [], _, i, b, h => by simp at h
  | c :: l, h0, 0, b, h => by
    simp at h
    subst h
    cases c
    · simp [leftL] at h0
    · rfl
  | c :: l, h0, i + 1, b, h => by
    refine leftL_zero l ?_ i b (by simpa using h)
    cases c
    · simp [leftL] at h0
    · simpa [leftL] using h0
/-- number i has come up too -/
def upd (L : Nat → Bool) (i : Nat) : Nat → Bool := fun j => if j = i then true else L j
section
variable {P : Program} {ops : Array Oper} {Q : Exit → Act → World → Prop} {md : Region.Mode} {I : (Nat → Bool) → Act → World → Prop}
theorem wpAny_inv (hstep : ∀ i o (L : Nat → Bool) a w, ops[i]? = some o → L i = false → (∀ e ∈ o.after, Region.binds md e = true → L e.on = true) → I L a w → wpOp P ops Q i (I (upd L i)) a w)
    (hend : ∀ (L : Nat → Bool) a w, (∀ i, i < ops.size → L i = true) → I L a w → Q .normal a w)
    (htop : ∀ i o, ops[i]? = some o → ∀ e ∈ o.after, Region.binds md e = true → e.on < i) :
    ∀ (fuel : Nat) (listed : Array Bool) (a : Act) (w : World), listed.size = ops.size → leftL listed.toList ≤ fuel → I (fun i => listed.getD i true) a w → wpAny P md ops Q fuel listed a w := by
  have hall : ∀ (listed : Array Bool), listed.size = ops.size → Region.ready md ops listed = [] → ∀ i, i < ops.size → listed.getD i true = true := by
    intro listed hs h0 i
    induction i using Nat.strongRecOn with
    | ind i ih =>
      intro hi
      false_or_by_contra
      rename_i hne
      have hf : listed.getD i true = false := by simpa using hne
      have ho : ops[i]? = some ops[i] := Array.getElem?_eq_getElem hi
      have hm : i ∈ Region.ready md ops listed := mem_ready.2 ⟨hf, ops[i], ho, fun e he hb => by
        have h1 := htop i _ ho e he hb
        have h2 := ih e.on h1 (by omega)
        rw [Array.getD_eq_getD_getElem?, Array.getElem?_eq_getElem (by omega)] at h2 ⊢
        exact h2⟩
      rw [h0] at hm
      cases hm
  intro fuel
  induction fuel with
  | zero =>
    intro listed a w hs hl hI
    have ht : ∀ i, i < ops.size → listed.getD i true = true := fun i hi => by
      have h1 : listed.toList[i]? = some listed[i] := by rw [Array.getElem?_toList, Array.getElem?_eq_getElem (by omega)]
      have h2 := leftL_zero _ (by omega) i _ h1
      rw [Array.getD_eq_getD_getElem?, Array.getElem?_eq_getElem (by omega)]
      exact h2
    refine ⟨?_, hend _ a w ht hI⟩
    rw [List.eq_nil_iff_forall_not_mem]
    intro j hj
    obtain ⟨h1, o, ho, _⟩ := mem_ready.1 hj
    rw [ht j (Array.getElem?_eq_some_iff.1 ho).1] at h1
    cases h1
  | succ fuel ih =>
    intro listed a w hs hl hI
    refine ⟨fun h0 => hend _ a w (hall listed hs h0) hI, fun i hi => ?_⟩
    obtain ⟨h1, o, ho, hd⟩ := mem_ready.1 hi
    have hlt : i < listed.size := by have := (Array.getElem?_eq_some_iff.1 ho).1; omega
    have hst := hstep i o (fun i => listed.getD i true) a w ho h1 (fun e he hb => by
      have h2 := hd e he hb
      show listed.getD e.on true = true
      rcases Nat.lt_or_ge e.on listed.size with h | h
      · rw [Array.getD_eq_getD_getElem?, Array.getElem?_eq_getElem h] at h2 ⊢
        exact h2
      · rw [Array.getD_eq_getD_getElem?, Array.getElem?_eq_none h]
        rfl) hI
    refine wpOp_mono (fun a' w' h => ih _ a' w' (by simpa using hs) ?_ ?_) hst
    · have h3 : listed.toList[i]? = some false := by
        rw [Array.getElem?_toList, Array.getElem?_eq_getElem hlt]
        rw [Array.getD_eq_getD_getElem?, Array.getElem?_eq_getElem hlt] at h1
        exact congrArg some h1
      have h4 := leftL_set _ i h3
      rw [Array.toList_setIfInBounds]
      omega
    · have e : (fun j => (listed.setIfInBounds i true).getD j true) = upd (fun j => listed.getD j true) i := by
        funext j
        unfold upd
        by_cases hj : j = i
        · subst hj
          rw [if_pos rfl, Array.getD_eq_getD_getElem?]
          simp [hlt]
        · rw [if_neg hj]
          show (listed.setIfInBounds i true).getD j true = listed.getD j true
          rw [Array.getD_eq_getD_getElem?, Array.getD_eq_getD_getElem?, Array.getElem?_setIfInBounds_ne (fun e => hj e.symm)]
      rw [e]
      exact h
/-- what number i waits for -/
def waits (md : Region.Mode) (o : Oper) : List Nat := (o.after.toList.filter fun e => Region.binds md e).map (·.on)
/-- the steps of an invariant, each operation once -/
structure InvSteps (P : Program) (md : Region.Mode) (ops : Array Oper) (Q : Exit → Act → World → Prop) (I : (Nat → Bool) → Act → World → Prop) (rs : List Nat) : Prop where
  out : ∀ i ∈ rs, ∀ o (L : Nat → Bool) a w, ops[i]? = some o → L i = false → (∀ d ∈ waits md o, L d = true) → I L a w → wpOp P ops Q i (I (upd L i)) a w
theorem InvSteps.nil : InvSteps P md ops Q I [] := ⟨fun _ h => by cases h⟩
theorem InvSteps.cons {i : Nat} {o : Oper} {ds : List Nat} {rs : List Nat} (ho : ops[i]? = some o) (hd : waits md o = ds)
    (h : ∀ (L : Nat → Bool) (a : Act) (w : World), L i = false → (∀ d ∈ ds, L d = true) → I L a w → ∀ K : Act → World → Prop, Shut (∀ a w, I (upd L i) a w → K a w) → if Region.wanted o (yielded ops a.tmps) = true then Oper.wp P o a w K Q else K (a.put o.dst undef) w)
    (hs : InvSteps P md ops Q I rs) : InvSteps P md ops Q I (i :: rs) := ⟨fun j hj => by
  rcases List.mem_cons.1 hj with rfl | hj
  · intro o' L a w ho' hL hdep hI
    rw [ho] at ho'
    injection ho' with ho'
    subst ho'
    rw [hd] at hdep
    exact wpOp_step ho (fun K hK => h L a w hL hdep hI K hK)
  · exact hs.out j hj⟩
/-- A drawn region, by an invariant. -/
theorem wp_region_inv (I : (Nat → Bool) → Act → World → Prop) {id : Nat} {a : Act} {w : World} (hm : P.follows .mixedOrders = true)
    (htop : ((List.range ops.size).all fun i => ((ops[i]?).map fun o => (waits .any o).all fun d => decide (d < i)).getD true) = true)
    (h0 : ∀ L : Nat → Bool, (∀ i, i < ops.size → L i = false) → I L a w.drew) (hst : InvSteps P .any ops Q I (List.range ops.size))
    (hend : ∀ (L : Nat → Bool) a w, (∀ i, i < ops.size → L i = true) → I L a w → Q .normal a w) : (Code.region id ops true).wp P Q a w := by
  refine wp_region_any hm (wpAny_inv (I := I) ?_ hend ?_ ops.size _ a _ (by simp) ?_ ?_)
  · intro i o L a w ho hL hdep hI
    refine hst.out i (List.mem_range.2 (Array.getElem?_eq_some_iff.1 ho).1) o L a w ho hL (fun d hd => ?_) hI
    unfold waits at hd
    obtain ⟨e, he, rfl⟩ := List.mem_map.1 hd
    obtain ⟨h1, h2⟩ := List.mem_filter.1 he
    exact hdep e (by simpa using h1) h2
  · intro i o ho e he hb
    have h1 := List.all_eq_true.1 htop i (List.mem_range.2 (Array.getElem?_eq_some_iff.1 ho).1)
    rw [ho] at h1
    simp only [Option.map_some, Option.getD_some] at h1
    have h2 := List.all_eq_true.1 h1 e.on (by
      unfold waits
      exact List.mem_map.2 ⟨e, List.mem_filter.2 ⟨by simpa using he, hb⟩, rfl⟩)
    exact of_decide_eq_true h2
  · rw [Array.toList_replicate]
    unfold leftL
    exact Nat.le_trans (List.length_filter_le _ _) (by simp)
  · have e : (fun i => (Array.replicate ops.size false).getD i true) = fun i => decide (ops.size ≤ i) := by
      funext i
      rw [Array.getD_eq_getD_getElem?, Array.getElem?_replicate]
      by_cases h : i < ops.size
      · rw [if_pos h]
        simp
        omega
      · rw [if_neg h]
        simp
        omega
    rw [e]
    exact h0 _ fun i hi => decide_eq_false (by omega)
end
end Go.Proofs.Ytiemlnomlfebkaa

namespace Go.Proofs.Ytiemlnomlfebkaa.EventBends
open Go.ChangeShapes Go.WideShapes Go.ChangeAt Go.RowKit Go.Deep
open Dot Evt
set_option linter.unusedVariables false
set_option linter.unusedSimpArgs false
/-- one copy: plain laws first -/
theorem nr_own {e : Ev} : rightE { e with l := e.d :: e.l } = false := by
  have : namedB e.d (e.d :: e.l) = false := by
    rw [← Bool.not_eq_true]
    intro h
    have h1 := (named_iff _ _).1 h 0 (by simp)
    unfold nameAt at h1
    simp at h1
  unfold rightE
  simp [this]
theorem nr_twice {e : Ev} {d : Dt} {N : Nat} (hN : e.l.length = N + 1) (hd : e.l[N]? = some d) : rightE { e with l := e.l ++ [d] } = false := by
  have : namedB e.d (e.l ++ [d]) = false := by
    rw [← Bool.not_eq_true]
    intro h
    have h1 := (named_iff _ _).1 h (N + 1) (by simp; omega)
    unfold nameAt at h1
    rw [List.getD_eq_getElem?_getD, List.getD_eq_getElem?_getD, List.getElem?_append_right (by omega), hN, Nat.sub_self, Nat.add_sub_cancel, List.getElem?_append_left (by omega), hd] at h1
    simp [befB] at h1
  unfold rightE
  simp [this]
theorem nr_seq {e : Ev} : rightE { e with d := (e.d.1, 0) } = false := by
  have : mayB (e.d.1, 0) = false := by
    rw [← Bool.not_eq_true]
    intro h
    have := (may_iff _).1 h
    simp at this
  unfold rightE
  simp [this]
theorem nr_value {e : Ev} : rightE { e with v := -1 } = false := by
  have : kindB { e with v := -1 } = false := by
    unfold kindB
    simp only
    by_cases h1 : e.k = 1
    · rw [if_pos h1]; simp [inB]
    · rw [if_neg h1]
      by_cases h2 : e.k = 2
      · rw [if_pos h2]; simp
      · rw [if_neg h2]
        by_cases h3 : e.k = 3
        · rw [if_pos h3]; simp
        · rw [if_neg h3]
  unfold rightE
  simp [this]
theorem nr_work {e : Ev} : rightE { e with w := 8 } = false := by
  unfold rightE
  simp [inB]
/-- an event in a variable of the call's own -/
def Var (w : World) (B0 g : Nat) (e : Ev) (A : Option Addr) (m c : Nat) : Prop := B0 ≤ g ∧ Blk w g 28 (ec e (.slice A m c)) ∧ OwnD w B0 A m c e.l ∧ e.p.length = 7
section
variable {w w' : World} {B0 g m c : Nat} {e : Ev} {A : Option Addr}
theorem Var.below (h : Var w B0 g e A m c) (hb : Below w.heap.size w w') : Var w' B0 g e A m c := ⟨h.1, h.2.1.below hb h.2.1.lt, h.2.2.1.below hb (Nat.le_refl _), h.2.2.2⟩
theorem Var.grown (h : Var w B0 g e A m c) {row : Option Nat} (hg : w.grownBy w' row) (h1 : row ≠ some g) (h2 : A.map (·.block) = none ∨ A.map (·.block) ≠ row) : Var w' B0 g e A m c := ⟨h.1, h.2.1.grown hg h1, h.2.2.1.grown hg h2, h.2.2.2⟩
theorem Var.setv (h : Var w B0 g e A m c) {g' : Nat} {ds : Array Value} (k : Blk w g' 28 ds) (hne : g ≠ g') (i : Nat) (v : Value) : Var (w.setCell ⟨g', i, none⟩ v) B0 g e A m c := ⟨h.1, h.2.1.far (p := ⟨g', i, none⟩) hne v, h.2.2.1.setFar (own_ne h.2.2.1.2 k (by decide)) v, h.2.2.2⟩
end
theorem own_oneD (w : World) (base : Nat) (d : Dt) (hb : base ≤ w.heap.size) : OwnD (w.alloc (.cells #[.int .i64 d.1, .int .i64 d.2] 23)) base (some ⟨w.heap.size, 0, none⟩) 1 1 [d] :=
  ⟨rfl, rfl, .inr ⟨w.heap.size, 1, _, rfl, hb, heap_alloc_new w _, Nat.le_refl _, by unfold maxLen; omega, rfl, rfl⟩⟩
/-- four events, in an array -/
def four (a b c d : EvV) : Array Value := a.cs ++ b.cs ++ c.cs ++ d.cs
theorem build4 (a b c d : EvV) (w : World) : (Instr.build 48 #[(0, .agg a.cs), (1, .agg b.cs), (2, .agg c.cs), (3, .agg d.cs)]).run Try.prog w = .ok (.agg (four a b c d)) w := by
  obtain ⟨⟨⟨n, q⟩, t, k, wk, v, p, l⟩, A, m, c0⟩ := a
  obtain ⟨⟨⟨n', q'⟩, t', k', wk', v', p', l'⟩, A', m', c0'⟩ := b
  obtain ⟨⟨⟨n2, q2⟩, t2, k2, wk2, v2, p2, l2⟩, A2, m2, c02⟩ := c
  obtain ⟨⟨⟨n3, q3⟩, t3, k3, wk3, v3, p3, l3⟩, A3, m3, c03⟩ := d
  kernel_rfl
theorem index4 (a b c d : EvV) (w : World) : (Instr.index 48 (.agg (four a b c d)) (.int .i64 0)).run Try.prog w = .ok (.agg a.cs) w ∧ (Instr.index 48 (.agg (four a b c d)) (.int .i64 1)).run Try.prog w = .ok (.agg b.cs) w ∧
    (Instr.index 48 (.agg (four a b c d)) (.int .i64 2)).run Try.prog w = .ok (.agg c.cs) w ∧ (Instr.index 48 (.agg (four a b c d)) (.int .i64 3)).run Try.prog w = .ok (.agg d.cs) w := by
  obtain ⟨⟨⟨n, q⟩, t, k, wk, v, p, l⟩, A, m, c0⟩ := a
  obtain ⟨⟨⟨n', q'⟩, t', k', wk', v', p', l'⟩, A', m', c0'⟩ := b
  obtain ⟨⟨⟨n2, q2⟩, t2, k2, wk2, v2, p2, l2⟩, A2, m2, c02⟩ := c
  obtain ⟨⟨⟨n3, q3⟩, t3, k3, wk3, v3, p3, l3⟩, A3, m3, c03⟩ := d
  refine ⟨?_, ?_, ?_, ?_⟩ <;> kernel_rfl
theorem wpList_bd {P : Program} {ops : Array Oper} {rest : List Oper} {o : Oper} {a : Act} {w w' : World} {v : Value} {Q : Exit → Act → World → Prop} (hg : o.guard = none) (t : TypeId) (parts : Array (Nat × Operand)) (ho : o.op = .build t parts)
    (hrun : (Instr.build t (parts.map fun (i, x) => (i, a.eval x))).run P w = .ok v w') (h : wpList P ops Q rest (a.put o.dst v) w') : wpList P ops Q (o :: rest) a w := by
  refine wpList_plain hg fun K hK => ?_
  unfold Oper.wp execOp
  simp only [ho, Sem.run_bind, hrun, Result.andThen_ok]
  exact hK _ _ h
theorem wpList_ix {P : Program} {ops : Array Oper} {rest : List Oper} {a : Act} {w : World} {v u : Value} {i : Int} {Q : Exit → Act → World → Prop} {d : Option Tmp} {ty T : TypeId} {pos : String} {aft : Array Edge} {x y : Operand}
    (hrun : (Instr.index T u (.int .i64 i)).run P w = .ok v w) (h : wpList P ops Q rest (a.put d v) w) (hx : a.eval x = u) (hy : a.eval y = .int .i64 i) : wpList P ops Q (⟨d, .index T x y, ty, pos, aft, none⟩ :: rest) a w := by
  refine wpList_plain rfl fun K hK => ?_
  unfold Oper.wp execOp
  simp only [hx, hy, Sem.run_bind, hrun, Result.andThen_ok]
  exact hK _ _ h
/-- one copy: the call, the variable, the store -/
def CpF (B0 : Nat) (x : EvV) (c a s : Bool) (q p : Value) (w : World) : Prop :=
  (s = true → c = true ∧ a = true) ∧ (c = true → ∃ A' c', q = .agg (ec x.e (.slice A' x.m c')) ∧ OwnD w B0 A' x.m c' x.e.l) ∧
  (a = true → ∃ g cs, p = .pointer (some ⟨g, 0, none⟩) ∧ B0 ≤ g ∧ Blk w g 28 cs ∧ cs.size = 14 ∧ (s = true → q = .agg cs))
section
variable {B0 : Nat} {x : EvV} {c a s c' a' s' : Bool} {q p q' p' : Value} {w w' : World}
theorem CpF.below (h : CpF B0 x c a s q p w) (hb : Below w.heap.size w w') : CpF B0 x c a s q p w' := by
  refine ⟨h.1, fun hc => ?_, fun ha => ?_⟩
  · obtain ⟨A1, c1, e, o⟩ := h.2.1 hc
    exact ⟨A1, c1, e, o.below hb (Nat.le_refl _)⟩
  · obtain ⟨g, cs, e, hg, k, r⟩ := h.2.2 ha
    exact ⟨g, cs, e, hg, k.below hb k.lt, r⟩
theorem CpF.none_ (h1 : c = false) (h2 : a = false) (h3 : s = false) : CpF B0 x c a s q p w := by
  subst h1 h2 h3
  exact ⟨fun h => (by cases h), fun h => (by cases h), fun h => (by cases h)⟩
theorem off {L : Nat → Bool} {n i : Nat} {R : Prop} (h : ∀ i, i < n → L i = false) (hi : i < n) : L i = true → R := fun h2 => by rw [h i hi] at h2; cases h2
theorem CpF.call (h : CpF B0 x false a s q p w) {A1 : Option Addr} {c1 : Nat} (hb : Below w.heap.size w w') (o : OwnD w' B0 A1 x.m c1 x.e.l) : CpF B0 x true a s (.agg (ec x.e (.slice A1 x.m c1))) p w' := by
  have hs : s = false := by
    cases hs : s with
    | false => rfl
    | true => have := (h.1 hs).1; cases this
  subst hs
  refine ⟨fun h => (by cases h), fun _ => ⟨A1, c1, rfl, o⟩, fun ha => ?_⟩
  obtain ⟨g, cs, e, hg, k, r, _⟩ := h.2.2 ha
  exact ⟨g, cs, e, hg, k.below hb k.lt, r, fun h => by cases h⟩
theorem CpF.alloc_ (h : CpF B0 x c false s q p w) (hB : B0 ≤ w.heap.size) : CpF B0 x c true s q (.pointer (some ⟨w.heap.size, 0, none⟩)) (w.alloc (.cells (cT 0) 28)) := by
  have hs : s = false := by
    cases hs : s with
    | false => rfl
    | true => have := (h.1 hs).2; cases this
  subst hs
  refine ⟨fun h => (by cases h), fun hc => ?_, fun _ => ⟨_, _, rfl, hB, Blk.new _ _ _, rfl, fun h => by cases h⟩⟩
  obtain ⟨A1, c1, e, o⟩ := h.2.1 hc
  exact ⟨A1, c1, e, o.alloc _⟩
theorem CpF.lt (h : CpF B0 x c true s q p w) : p ≠ .pointer (some ⟨w.heap.size, 0, none⟩) := fun e => by
  obtain ⟨g, cs, e1, _, k, _⟩ := h.2.2 rfl
  rw [e1] at e
  injection e with e
  injection e with e
  injection e with e
  have := k.lt
  omega
theorem CpF.store {g : Nat} {cs ds : Array Value} (h : CpF B0 x true true s (.agg cs) (.pointer (some ⟨g, 0, none⟩)) w) (k : Blk w g 28 ds) (k' : Blk w' g 28 cs) (hg : w.grownBy w' (some g)) (hs : cs.size = 14) : CpF B0 x true true true (.agg cs) (.pointer (some ⟨g, 0, none⟩)) w' := by
  obtain ⟨g', cs', e, hB, _⟩ := h.2.2 rfl
  injection e with e
  injection e with e
  injection e with e
  subst e
  refine ⟨fun _ => ⟨rfl, rfl⟩, fun _ => ?_, fun _ => ⟨g, cs, rfl, hB, k', hs, fun _ => rfl⟩⟩
  obtain ⟨A1, c1, e, o⟩ := h.2.1 rfl
  exact ⟨A1, c1, e, o.grown hg (.inr (own_ne o.2 k (by decide)))⟩
theorem CpF.far {g : Nat} {ds : Array Value} (h : CpF B0 x c a s q p w) (k : Blk w g 28 ds) (hg : w.grownBy w' (some g)) (hp : a = true → p ≠ .pointer (some ⟨g, 0, none⟩)) : CpF B0 x c a s q p w' := by
  refine ⟨h.1, fun hc => ?_, fun ha => ?_⟩
  · obtain ⟨A1, c1, e, o⟩ := h.2.1 hc
    exact ⟨A1, c1, e, o.grown hg (.inr (own_ne o.2 k (by decide)))⟩
  · obtain ⟨g', cs, e, hB, k', r⟩ := h.2.2 ha
    have hne : g' ≠ g := fun e2 => hp ha (by rw [e, e2])
    exact ⟨g', cs, e, hB, k'.grown hg (fun e3 => hne (by injection e3 with e3; exact e3.symm)), r⟩
end
/-- the block of an event's dots -/
def rowOf : Value → Option Nat
  | .agg cs => match cs[13]? with
    | some (Value.slice A _ _) => A.map (·.block)
    | _ => none
  | _ => none
def TwoR (c c' : Bool) (q q' : Value) : Prop := c = true → c' = true → rowOf q = none ∨ rowOf q ≠ rowOf q'
theorem TwoR.new_l {B0 m c1 m' : Nat} {x : EvV} {a s : Bool} {q p : Value} {wx wy : World} {A1 : Option Addr} {l : List Dt} {e : Ev} (h : CpF B0 x true a s q p wx) (o : OwnD wy wx.heap.size A1 m c1 l) : rowOf (.agg (ec e (.slice A1 m' c1))) = none ∨ rowOf (.agg (ec e (.slice A1 m' c1))) ≠ rowOf q := by
  obtain ⟨A2, c2, rfl, o2⟩ := h.2.1 rfl
  show A1.map (·.block) = none ∨ A1.map (·.block) ≠ A2.map (·.block)
  cases hk : A1.map (·.block) with
  | none => exact .inl rfl
  | some k =>
    refine .inr fun e2 => ?_
    have h1 := (o.lt k hk).1
    have h2 := (o2.lt k e2.symm).2
    omega
theorem TwoR.new_r {B0 m c1 m' : Nat} {x : EvV} {a s : Bool} {q p : Value} {wx wy : World} {A1 : Option Addr} {l : List Dt} {e : Ev} (h : CpF B0 x true a s q p wx) (o : OwnD wy wx.heap.size A1 m c1 l) : rowOf q = none ∨ rowOf q ≠ rowOf (.agg (ec e (.slice A1 m' c1))) := by
  obtain ⟨A2, c2, rfl, o2⟩ := h.2.1 rfl
  show A2.map (·.block) = none ∨ A2.map (·.block) ≠ A1.map (·.block)
  cases hk : A2.map (·.block) with
  | none => exact .inl rfl
  | some k =>
    refine .inr fun e2 => ?_
    have h1 := (o.lt k e2.symm).1
    have h2 := (o2.lt k hk).2
    omega
/-- two variables are two -/
def Two (a a' : Bool) (p p' : Value) : Prop := a = true → a' = true → p ≠ p'
set_option maxRecDepth 100000 in
set_option maxHeartbeats 4000000 in
theorem walk (x : EvV) (w : World) (hx : EvOk w w.heap.size x) :
    Calls Try.prog 6 #[.agg x.cs] w fun e w' => e = .returned (.bool true) ∧ Below w.heap.size w w' := by
  have hp7 := hx.1
  have hxl := hx.2.1.1
  have hrt := fun (w' : World) (h : Below w.heap.size w w') => eright_any x.e hp7 x.A x.m x.c w' (hx.2.1.below h).size
  have hcp := fun (w' : World) (h : Below w.heap.size w w') (h2 : x.m ≤ 100000) => rcopy07_any x w' ((hx.below h).more h.size) h2
  have hpt := fun (w' : World) (h : Below w.heap.size w w') => eput_any x.e hp7 x.A x.m x.c w' (hx.2.1.below h).size
  have hmb := hx.2.2
  obtain ⟨cx, hcx⟩ : ∃ cx, cx = x.cs := ⟨_, rfl⟩
  have hec : ec x.e (.slice x.A x.m x.c) = cx := hcx.symm
  rw [hec] at hrt hpt
  rw [← hcx] at hcp ⊢
  have SX := Lib.hid (show cx.size = 14 by rw [hcx]; rfl)
  have X13 := Lib.hid (show cx[13]? = some (.slice x.A x.m x.c) by rw [hcx]; rfl)
  have HCX := Lib.hid hcx
  have HRT := Lib.hid hrt
  have HCP := Lib.hid hcp
  have HPT := Lib.hid hpt
  have HP7 := Lib.hid hp7
  have HXL := Lib.hid hxl
  have HX := Lib.hid fun (w' : World) (h : Below w.heap.size w w') => hx.2.1.below h
  clear hcx hec hrt hcp hpt hx hp7 hxl
  go_enter Try.func6, Try.ntmps6
  go_upto_region 1 with fail
  refine nameW ?_
  intro wv hwv
  obtain ⟨b, hb⟩ : ∃ b, b = w.heap.size := ⟨_, rfl⟩
  rw [← hb]
  have kb : Blk wv b 28 cx := by rw [hwv, hb]; exact Blk.new _ _ _
  have gb : Below w.heap.size w wv := by rw [hwv]; exact (Below.refl _ _).alloc (Nat.le_refl _) _
  have HB := Lib.hid hb
  clear hwv hb
  go_wp2_with fail
  refine (alive07 wv).mono ?_
  rintro e w1 ⟨rfl, b1⟩
  have kb1 := kb.below b1 kb.lt
  have gb1 := gb.trans (b1.mono gb.size)
  have c13 : w1.cell? ⟨b, 13, none⟩ = some (.slice x.A x.m x.c) := (kb1.cell 13).trans X13.out
  clear kb gb b1
  by_cases h90 : 90 < x.m
  · have hd : (90 : Int) < (x.m : Int) := by omega
    clear h90
    go_wp2_with fail
    go_ret
    exact ⟨rfl, gb1⟩
  have hd : decide ((90 : Int) < (x.m : Int)) = false := decide_eq_false (by omega)
  have H90 := Lib.hid (show x.m ≤ 90 by omega)
  clear h90
  go_wp2_with first
    | ((with_reducible refine wpList_ldg rowE kb1 SX.out ?_ ?_ ?_); rotate_left; (rfl); (rfl))
  refine (HRT.out w1 gb1).mono ?_
  rintro e w2 ⟨rfl, b2⟩
  have kb2 := kb1.below b2 kb1.lt
  have gb2 := gb1.trans (b2.mono gb1.size)
  clear kb1 gb1 b2 c13 hd
  cases hx : rightE x.e
  case false =>
    go_wp2_with fail
    go_ret
    exact ⟨rfl, gb2⟩
  have HXR := Lib.hid hx
  clear hx
  go_upto_region 5 with fail
  refine wp_region_inv (fun L a wx => ∃ q26 q27 q28 q29 q30 q31 q32 q33 p3 p4 p5 p6 : Value, a = { tmps := (.agg cx :: .pointer (some ⟨b , 0, none⟩) :: .bool false :: p3 :: p4 :: p5 :: p6 :: undef :: undef :: undef :: undef :: undef :: undef :: undef :: undef :: .bool true :: .bool false :: .pointer (some ⟨b , 13, none⟩) :: .slice x.A x.m x.c :: .int .i64 (x.m : Nat) :: .bool false :: .bool false :: .agg cx :: .bool true :: .bool false :: .bool false :: q26 :: q27 :: q28 :: q29 :: q30 :: q31 :: q32 :: q33 :: undef :: undef :: undef :: undef :: undef :: undef :: undef :: undef :: undef :: undef :: undef :: undef :: undef :: undef :: undef :: undef :: undef :: undef :: undef :: undef :: undef :: undef :: undef :: undef :: undef :: undef :: undef :: undef :: undef :: undef :: undef :: undef :: undef :: undef :: undef :: undef :: undef :: undef :: undef :: undef :: undef :: undef :: undef :: undef :: undef :: undef :: undef :: undef :: undef :: undef :: undef :: undef :: undef :: undef :: undef :: undef :: undef :: undef :: undef :: undef :: undef :: undef :: undef :: undef :: undef :: undef :: []).toArray, defers := [] } ∧ Below w2.heap.size w2 wx ∧ (L 0 = true → q26 = .agg cx) ∧ (L 2 = true → q28 = .agg cx) ∧ (L 4 = true → q30 = .agg cx) ∧ (L 6 = true → q32 = .agg cx) ∧ CpF w2.heap.size x (L 1) (L 8) (L 12) q27 p3 wx ∧ CpF w2.heap.size x (L 3) (L 9) (L 13) q29 p4 wx ∧ CpF w2.heap.size x (L 5) (L 10) (L 14) q31 p5 wx ∧ CpF w2.heap.size x (L 7) (L 11) (L 15) q33 p6 wx ∧ Two (L 8) (L 9) p3 p4 ∧ Two (L 8) (L 10) p3 p5 ∧ Two (L 8) (L 11) p3 p6 ∧ Two (L 9) (L 10) p4 p5 ∧ Two (L 9) (L 11) p4 p6 ∧ Two (L 10) (L 11) p5 p6 ∧ TwoR (L 1) (L 3) q27 q29 ∧ TwoR (L 1) (L 5) q27 q31 ∧ TwoR (L 1) (L 7) q27 q33 ∧ TwoR (L 3) (L 5) q29 q31 ∧ TwoR (L 3) (L 7) q29 q33 ∧ TwoR (L 5) (L 7) q31 q33) (by kernel_rfl) (by kernel_rfl) ?h0 ?hst ?hend
  case h0 =>
    intro L h0
    have h0 : ∀ i, i < 16 → L i = false := h0
    exact ⟨undef, undef, undef, undef, undef, undef, undef, undef, undef, undef, undef, undef, rfl, (Below.refl _ _).drew, off h0 (by omega), off h0 (by omega), off h0 (by omega), off h0 (by omega), CpF.none_ (h0 _ (by omega)) (h0 _ (by omega)) (h0 _ (by omega)), CpF.none_ (h0 _ (by omega)) (h0 _ (by omega)) (h0 _ (by omega)), CpF.none_ (h0 _ (by omega)) (h0 _ (by omega)) (h0 _ (by omega)), CpF.none_ (h0 _ (by omega)) (h0 _ (by omega)) (h0 _ (by omega)), off h0 (by omega), off h0 (by omega), off h0 (by omega), off h0 (by omega), off h0 (by omega), off h0 (by omega), off h0 (by omega), off h0 (by omega), off h0 (by omega), off h0 (by omega), off h0 (by omega), off h0 (by omega)⟩
  case hst =>
    show InvSteps _ _ _ _ _ [0, 1, 2, 3, 4, 5, 6, 7, 8, 9, 10, 11, 12, 13, 14, 15]
    refine @InvSteps.cons _ _ _ _ _ 0 _ [] _ rfl (by kernel_rfl) ?s0 ?_
    rotate_left
    refine @InvSteps.cons _ _ _ _ _ 1 _ [0] _ rfl (by kernel_rfl) ?s1 ?_
    rotate_left
    refine @InvSteps.cons _ _ _ _ _ 2 _ [] _ rfl (by kernel_rfl) ?s2 ?_
    rotate_left
    refine @InvSteps.cons _ _ _ _ _ 3 _ [2, 1] _ rfl (by kernel_rfl) ?s3 ?_
    rotate_left
    refine @InvSteps.cons _ _ _ _ _ 4 _ [] _ rfl (by kernel_rfl) ?s4 ?_
    rotate_left
    refine @InvSteps.cons _ _ _ _ _ 5 _ [4, 3] _ rfl (by kernel_rfl) ?s5 ?_
    rotate_left
    refine @InvSteps.cons _ _ _ _ _ 6 _ [] _ rfl (by kernel_rfl) ?s6 ?_
    rotate_left
    refine @InvSteps.cons _ _ _ _ _ 7 _ [6, 5] _ rfl (by kernel_rfl) ?s7 ?_
    rotate_left
    refine @InvSteps.cons _ _ _ _ _ 8 _ [] _ rfl (by kernel_rfl) ?s8 ?_
    rotate_left
    refine @InvSteps.cons _ _ _ _ _ 9 _ [] _ rfl (by kernel_rfl) ?s9 ?_
    rotate_left
    refine @InvSteps.cons _ _ _ _ _ 10 _ [] _ rfl (by kernel_rfl) ?s10 ?_
    rotate_left
    refine @InvSteps.cons _ _ _ _ _ 11 _ [] _ rfl (by kernel_rfl) ?s11 ?_
    rotate_left
    refine @InvSteps.cons _ _ _ _ _ 12 _ [8, 1, 7, 0, 1, 8, 9, 10, 11] _ rfl (by kernel_rfl) ?s12 ?_
    rotate_left
    refine @InvSteps.cons _ _ _ _ _ 13 _ [9, 3, 12, 0, 1, 2, 3, 8, 9, 10, 11, 12] _ rfl (by kernel_rfl) ?s13 ?_
    rotate_left
    refine @InvSteps.cons _ _ _ _ _ 14 _ [10, 5, 13, 0, 1, 2, 3, 4, 5, 8, 9, 10, 11, 12, 13] _ rfl (by kernel_rfl) ?s14 ?_
    rotate_left
    refine @InvSteps.cons _ _ _ _ _ 15 _ [11, 7, 14, 0, 1, 2, 3, 4, 5, 6, 7, 8, 9, 10, 11, 12, 13, 14] _ rfl (by kernel_rfl) ?s15 ?_
    rotate_left
    exact InvSteps.nil
    case s0 =>
      rintro L a wx hL hd ⟨q26, q27, q28, q29, q30, q31, q32, q33, p3, p4, p5, p6, rfl, hbl, l0, l2, l4, l6, f1, f2, f3, f4, d12, d13, d14, d23, d24, d34, r12, r13, r14, r23, r24, r34⟩ K hK
      refine step_ld rfl rowE (.tmp 1) rfl rfl (kb2.below hbl kb2.lt) SX.out ?_
      exact hK.out _ _ ⟨.agg cx, q27, q28, q29, q30, q31, q32, q33, p3, p4, p5, p6, rfl, hbl, fun _ => rfl, l2, l4, l6, f1, f2, f3, f4, d12, d13, d14, d23, d24, d34, r12, r13, r14, r23, r24, r34⟩
    case s1 =>
      rintro L a wx hL hd ⟨q26, q27, q28, q29, q30, q31, q32, q33, p3, p4, p5, p6, rfl, hbl, l0, l2, l4, l6, f1, f2, f3, f4, d12, d13, d14, d23, d24, d34, r12, r13, r14, r23, r24, r34⟩ K hK
      obtain rfl := l0 (hd 0 (by simp))
      have hl0 : ∀ h : L 0 = true, Value.agg cx = .agg cx := fun _ => rfl
      go_simp
      refine (HCP.out _ (gb2.trans (hbl.mono gb2.size)) (by have := H90.out; omega)).mono ?_
      rintro e wy ⟨A1, c1, rfl, oo, bb⟩
      have oo0 := oo
      have oo := oo.mono (base' := w2.heap.size) hbl.size
      rw [hL] at f1
      exact hK.out _ _ ⟨.agg cx, .agg (ec x.e (.slice A1 x.m c1)), q28, q29, q30, q31, q32, q33, p3, p4, p5, p6, rfl, hbl.trans (bb.mono hbl.size), fun _ => rfl, l2, l4, l6, f1.call bb oo, f2.below bb, f3.below bb, f4.below bb, d12, d13, d14, d23, d24, d34, fun _ h => (by have f := f2; rw [show L 3 = true from h] at f; exact TwoR.new_l f oo0), fun _ h => (by have f := f3; rw [show L 5 = true from h] at f; exact TwoR.new_l f oo0), fun _ h => (by have f := f4; rw [show L 7 = true from h] at f; exact TwoR.new_l f oo0), r23, r24, r34⟩
    case s2 =>
      rintro L a wx hL hd ⟨q26, q27, q28, q29, q30, q31, q32, q33, p3, p4, p5, p6, rfl, hbl, l0, l2, l4, l6, f1, f2, f3, f4, d12, d13, d14, d23, d24, d34, r12, r13, r14, r23, r24, r34⟩ K hK
      refine step_ld rfl rowE (.tmp 1) rfl rfl (kb2.below hbl kb2.lt) SX.out ?_
      exact hK.out _ _ ⟨q26, q27, .agg cx, q29, q30, q31, q32, q33, p3, p4, p5, p6, rfl, hbl, l0, fun _ => rfl, l4, l6, f1, f2, f3, f4, d12, d13, d14, d23, d24, d34, r12, r13, r14, r23, r24, r34⟩
    case s3 =>
      rintro L a wx hL hd ⟨q26, q27, q28, q29, q30, q31, q32, q33, p3, p4, p5, p6, rfl, hbl, l0, l2, l4, l6, f1, f2, f3, f4, d12, d13, d14, d23, d24, d34, r12, r13, r14, r23, r24, r34⟩ K hK
      obtain rfl := l2 (hd 2 (by simp))
      have hl0 : ∀ h : L 2 = true, Value.agg cx = .agg cx := fun _ => rfl
      go_simp
      refine (HCP.out _ (gb2.trans (hbl.mono gb2.size)) (by have := H90.out; omega)).mono ?_
      rintro e wy ⟨A1, c1, rfl, oo, bb⟩
      have oo0 := oo
      have oo := oo.mono (base' := w2.heap.size) hbl.size
      rw [hL] at f2
      exact hK.out _ _ ⟨q26, q27, .agg cx, .agg (ec x.e (.slice A1 x.m c1)), q30, q31, q32, q33, p3, p4, p5, p6, rfl, hbl.trans (bb.mono hbl.size), l0, fun _ => rfl, l4, l6, f1.below bb, f2.call bb oo, f3.below bb, f4.below bb, d12, d13, d14, d23, d24, d34, fun h _ => (by have f := f1; rw [show L 1 = true from h] at f; exact TwoR.new_r f oo0), r13, r14, fun _ h => (by have f := f3; rw [show L 5 = true from h] at f; exact TwoR.new_l f oo0), fun _ h => (by have f := f4; rw [show L 7 = true from h] at f; exact TwoR.new_l f oo0), r34⟩
    case s4 =>
      rintro L a wx hL hd ⟨q26, q27, q28, q29, q30, q31, q32, q33, p3, p4, p5, p6, rfl, hbl, l0, l2, l4, l6, f1, f2, f3, f4, d12, d13, d14, d23, d24, d34, r12, r13, r14, r23, r24, r34⟩ K hK
      refine step_ld rfl rowE (.tmp 1) rfl rfl (kb2.below hbl kb2.lt) SX.out ?_
      exact hK.out _ _ ⟨q26, q27, q28, q29, .agg cx, q31, q32, q33, p3, p4, p5, p6, rfl, hbl, l0, l2, fun _ => rfl, l6, f1, f2, f3, f4, d12, d13, d14, d23, d24, d34, r12, r13, r14, r23, r24, r34⟩
    case s5 =>
      rintro L a wx hL hd ⟨q26, q27, q28, q29, q30, q31, q32, q33, p3, p4, p5, p6, rfl, hbl, l0, l2, l4, l6, f1, f2, f3, f4, d12, d13, d14, d23, d24, d34, r12, r13, r14, r23, r24, r34⟩ K hK
      obtain rfl := l4 (hd 4 (by simp))
      have hl0 : ∀ h : L 4 = true, Value.agg cx = .agg cx := fun _ => rfl
      go_simp
      refine (HCP.out _ (gb2.trans (hbl.mono gb2.size)) (by have := H90.out; omega)).mono ?_
      rintro e wy ⟨A1, c1, rfl, oo, bb⟩
      have oo0 := oo
      have oo := oo.mono (base' := w2.heap.size) hbl.size
      rw [hL] at f3
      exact hK.out _ _ ⟨q26, q27, q28, q29, .agg cx, .agg (ec x.e (.slice A1 x.m c1)), q32, q33, p3, p4, p5, p6, rfl, hbl.trans (bb.mono hbl.size), l0, l2, fun _ => rfl, l6, f1.below bb, f2.below bb, f3.call bb oo, f4.below bb, d12, d13, d14, d23, d24, d34, r12, fun h _ => (by have f := f1; rw [show L 1 = true from h] at f; exact TwoR.new_r f oo0), r14, fun h _ => (by have f := f2; rw [show L 3 = true from h] at f; exact TwoR.new_r f oo0), r24, fun _ h => (by have f := f4; rw [show L 7 = true from h] at f; exact TwoR.new_l f oo0)⟩
    case s6 =>
      rintro L a wx hL hd ⟨q26, q27, q28, q29, q30, q31, q32, q33, p3, p4, p5, p6, rfl, hbl, l0, l2, l4, l6, f1, f2, f3, f4, d12, d13, d14, d23, d24, d34, r12, r13, r14, r23, r24, r34⟩ K hK
      refine step_ld rfl rowE (.tmp 1) rfl rfl (kb2.below hbl kb2.lt) SX.out ?_
      exact hK.out _ _ ⟨q26, q27, q28, q29, q30, q31, .agg cx, q33, p3, p4, p5, p6, rfl, hbl, l0, l2, l4, fun _ => rfl, f1, f2, f3, f4, d12, d13, d14, d23, d24, d34, r12, r13, r14, r23, r24, r34⟩
    case s7 =>
      rintro L a wx hL hd ⟨q26, q27, q28, q29, q30, q31, q32, q33, p3, p4, p5, p6, rfl, hbl, l0, l2, l4, l6, f1, f2, f3, f4, d12, d13, d14, d23, d24, d34, r12, r13, r14, r23, r24, r34⟩ K hK
      obtain rfl := l6 (hd 6 (by simp))
      have hl0 : ∀ h : L 6 = true, Value.agg cx = .agg cx := fun _ => rfl
      go_simp
      refine (HCP.out _ (gb2.trans (hbl.mono gb2.size)) (by have := H90.out; omega)).mono ?_
      rintro e wy ⟨A1, c1, rfl, oo, bb⟩
      have oo0 := oo
      have oo := oo.mono (base' := w2.heap.size) hbl.size
      rw [hL] at f4
      exact hK.out _ _ ⟨q26, q27, q28, q29, q30, q31, .agg cx, .agg (ec x.e (.slice A1 x.m c1)), p3, p4, p5, p6, rfl, hbl.trans (bb.mono hbl.size), l0, l2, l4, fun _ => rfl, f1.below bb, f2.below bb, f3.below bb, f4.call bb oo, d12, d13, d14, d23, d24, d34, r12, r13, fun h _ => (by have f := f1; rw [show L 1 = true from h] at f; exact TwoR.new_r f oo0), r23, fun h _ => (by have f := f2; rw [show L 3 = true from h] at f; exact TwoR.new_r f oo0), fun h _ => (by have f := f3; rw [show L 5 = true from h] at f; exact TwoR.new_r f oo0)⟩
    case s8 =>
      rintro L a wx hL hd ⟨q26, q27, q28, q29, q30, q31, q32, q33, p3, p4, p5, p6, rfl, hbl, l0, l2, l4, l6, f1, f2, f3, f4, d12, d13, d14, d23, d24, d34, r12, r13, r14, r23, r24, r34⟩ K hK
      go_simp
      rw [hL] at f1
      have bb : Below wx.heap.size wx (wx.alloc (.cells (cT 0) 28)) := (Below.refl _ _).alloc (Nat.le_refl _) _
      exact hK.out _ _ ⟨q26, q27, q28, q29, q30, q31, q32, q33, .pointer (some ⟨wx.heap.size, 0, none⟩), p4, p5, p6, rfl, hbl.trans (bb.mono hbl.size), l0, l2, l4, l6, f1.alloc_ hbl.size, f2.below bb, f3.below bb, f4.below bb, fun _ h => (by have f := f2; rw [show L 9 = true from h] at f; exact fun e => f.lt e.symm), fun _ h => (by have f := f3; rw [show L 10 = true from h] at f; exact fun e => f.lt e.symm), fun _ h => (by have f := f4; rw [show L 11 = true from h] at f; exact fun e => f.lt e.symm), d23, d24, d34, r12, r13, r14, r23, r24, r34⟩
    case s9 =>
      rintro L a wx hL hd ⟨q26, q27, q28, q29, q30, q31, q32, q33, p3, p4, p5, p6, rfl, hbl, l0, l2, l4, l6, f1, f2, f3, f4, d12, d13, d14, d23, d24, d34, r12, r13, r14, r23, r24, r34⟩ K hK
      go_simp
      rw [hL] at f2
      have bb : Below wx.heap.size wx (wx.alloc (.cells (cT 0) 28)) := (Below.refl _ _).alloc (Nat.le_refl _) _
      exact hK.out _ _ ⟨q26, q27, q28, q29, q30, q31, q32, q33, p3, .pointer (some ⟨wx.heap.size, 0, none⟩), p5, p6, rfl, hbl.trans (bb.mono hbl.size), l0, l2, l4, l6, f1.below bb, f2.alloc_ hbl.size, f3.below bb, f4.below bb, fun h _ => (by have f := f1; rw [show L 8 = true from h] at f; exact f.lt), d13, d14, fun _ h => (by have f := f3; rw [show L 10 = true from h] at f; exact fun e => f.lt e.symm), fun _ h => (by have f := f4; rw [show L 11 = true from h] at f; exact fun e => f.lt e.symm), d34, r12, r13, r14, r23, r24, r34⟩
    case s10 =>
      rintro L a wx hL hd ⟨q26, q27, q28, q29, q30, q31, q32, q33, p3, p4, p5, p6, rfl, hbl, l0, l2, l4, l6, f1, f2, f3, f4, d12, d13, d14, d23, d24, d34, r12, r13, r14, r23, r24, r34⟩ K hK
      go_simp
      rw [hL] at f3
      have bb : Below wx.heap.size wx (wx.alloc (.cells (cT 0) 28)) := (Below.refl _ _).alloc (Nat.le_refl _) _
      exact hK.out _ _ ⟨q26, q27, q28, q29, q30, q31, q32, q33, p3, p4, .pointer (some ⟨wx.heap.size, 0, none⟩), p6, rfl, hbl.trans (bb.mono hbl.size), l0, l2, l4, l6, f1.below bb, f2.below bb, f3.alloc_ hbl.size, f4.below bb, d12, fun h _ => (by have f := f1; rw [show L 8 = true from h] at f; exact f.lt), d14, fun h _ => (by have f := f2; rw [show L 9 = true from h] at f; exact f.lt), d24, fun _ h => (by have f := f4; rw [show L 11 = true from h] at f; exact fun e => f.lt e.symm), r12, r13, r14, r23, r24, r34⟩
    case s11 =>
      rintro L a wx hL hd ⟨q26, q27, q28, q29, q30, q31, q32, q33, p3, p4, p5, p6, rfl, hbl, l0, l2, l4, l6, f1, f2, f3, f4, d12, d13, d14, d23, d24, d34, r12, r13, r14, r23, r24, r34⟩ K hK
      go_simp
      rw [hL] at f4
      have bb : Below wx.heap.size wx (wx.alloc (.cells (cT 0) 28)) := (Below.refl _ _).alloc (Nat.le_refl _) _
      exact hK.out _ _ ⟨q26, q27, q28, q29, q30, q31, q32, q33, p3, p4, p5, .pointer (some ⟨wx.heap.size, 0, none⟩), rfl, hbl.trans (bb.mono hbl.size), l0, l2, l4, l6, f1.below bb, f2.below bb, f3.below bb, f4.alloc_ hbl.size, d12, d13, fun h _ => (by have f := f1; rw [show L 8 = true from h] at f; exact f.lt), d23, fun h _ => (by have f := f2; rw [show L 9 = true from h] at f; exact f.lt), fun h _ => (by have f := f3; rw [show L 10 = true from h] at f; exact f.lt), r12, r13, r14, r23, r24, r34⟩
    case s12 =>
      rintro L a wx hL hd ⟨q26, q27, q28, q29, q30, q31, q32, q33, p3, p4, p5, p6, rfl, hbl, l0, l2, l4, l6, f1, f2, f3, f4, d12, d13, d14, d23, d24, d34, r12, r13, r14, r23, r24, r34⟩ K hK
      have hc := hd 1 (by simp)
      have ha := hd 8 (by simp)
      rw [hc, ha] at f1
      obtain ⟨A1, c1, rfl, oo⟩ := f1.2.1 rfl
      obtain ⟨g, ds, rfl, hg, kk, hds, _⟩ := f1.2.2 rfl
      refine step_st (cs := ec x.e (.slice A1 x.m c1)) rfl rowE (.tmp 3) (.tmp 27) rfl rfl rfl kk rfl hds (ec_one _ _ _ _) ?_
      intro wy ky gy zy
      exact hK.out _ _ ⟨q26, .agg (ec x.e (.slice A1 x.m c1)), q28, q29, q30, q31, q32, q33, .pointer (some ⟨g, 0, none⟩), p4, p5, p6, rfl, hbl.trans (only_Below gy hg (by exact hbl.size)), l0, l2, l4, l6, (by rw [show upd L 12 1 = true from hc, show upd L 12 8 = true from ha]; exact f1.store kk ky gy rfl), f2.far kk gy (fun h => fun e => d12 ha h e.symm), f3.far kk gy (fun h => fun e => d13 ha h e.symm), f4.far kk gy (fun h => fun e => d14 ha h e.symm), d12, d13, d14, d23, d24, d34, r12, r13, r14, r23, r24, r34⟩
    case s13 =>
      rintro L a wx hL hd ⟨q26, q27, q28, q29, q30, q31, q32, q33, p3, p4, p5, p6, rfl, hbl, l0, l2, l4, l6, f1, f2, f3, f4, d12, d13, d14, d23, d24, d34, r12, r13, r14, r23, r24, r34⟩ K hK
      have hc := hd 3 (by simp)
      have ha := hd 9 (by simp)
      rw [hc, ha] at f2
      obtain ⟨A1, c1, rfl, oo⟩ := f2.2.1 rfl
      obtain ⟨g, ds, rfl, hg, kk, hds, _⟩ := f2.2.2 rfl
      refine step_st (cs := ec x.e (.slice A1 x.m c1)) rfl rowE (.tmp 4) (.tmp 29) rfl rfl rfl kk rfl hds (ec_one _ _ _ _) ?_
      intro wy ky gy zy
      exact hK.out _ _ ⟨q26, q27, q28, .agg (ec x.e (.slice A1 x.m c1)), q30, q31, q32, q33, p3, .pointer (some ⟨g, 0, none⟩), p5, p6, rfl, hbl.trans (only_Below gy hg (by exact hbl.size)), l0, l2, l4, l6, f1.far kk gy (fun h => d12 h ha), (by rw [show upd L 13 3 = true from hc, show upd L 13 9 = true from ha]; exact f2.store kk ky gy rfl), f3.far kk gy (fun h => fun e => d23 ha h e.symm), f4.far kk gy (fun h => fun e => d24 ha h e.symm), d12, d13, d14, d23, d24, d34, r12, r13, r14, r23, r24, r34⟩
    case s14 =>
      rintro L a wx hL hd ⟨q26, q27, q28, q29, q30, q31, q32, q33, p3, p4, p5, p6, rfl, hbl, l0, l2, l4, l6, f1, f2, f3, f4, d12, d13, d14, d23, d24, d34, r12, r13, r14, r23, r24, r34⟩ K hK
      have hc := hd 5 (by simp)
      have ha := hd 10 (by simp)
      rw [hc, ha] at f3
      obtain ⟨A1, c1, rfl, oo⟩ := f3.2.1 rfl
      obtain ⟨g, ds, rfl, hg, kk, hds, _⟩ := f3.2.2 rfl
      refine step_st (cs := ec x.e (.slice A1 x.m c1)) rfl rowE (.tmp 5) (.tmp 31) rfl rfl rfl kk rfl hds (ec_one _ _ _ _) ?_
      intro wy ky gy zy
      exact hK.out _ _ ⟨q26, q27, q28, q29, q30, .agg (ec x.e (.slice A1 x.m c1)), q32, q33, p3, p4, .pointer (some ⟨g, 0, none⟩), p6, rfl, hbl.trans (only_Below gy hg (by exact hbl.size)), l0, l2, l4, l6, f1.far kk gy (fun h => d13 h ha), f2.far kk gy (fun h => d23 h ha), (by rw [show upd L 14 5 = true from hc, show upd L 14 10 = true from ha]; exact f3.store kk ky gy rfl), f4.far kk gy (fun h => fun e => d34 ha h e.symm), d12, d13, d14, d23, d24, d34, r12, r13, r14, r23, r24, r34⟩
    case s15 =>
      rintro L a wx hL hd ⟨q26, q27, q28, q29, q30, q31, q32, q33, p3, p4, p5, p6, rfl, hbl, l0, l2, l4, l6, f1, f2, f3, f4, d12, d13, d14, d23, d24, d34, r12, r13, r14, r23, r24, r34⟩ K hK
      have hc := hd 7 (by simp)
      have ha := hd 11 (by simp)
      rw [hc, ha] at f4
      obtain ⟨A1, c1, rfl, oo⟩ := f4.2.1 rfl
      obtain ⟨g, ds, rfl, hg, kk, hds, _⟩ := f4.2.2 rfl
      refine step_st (cs := ec x.e (.slice A1 x.m c1)) rfl rowE (.tmp 6) (.tmp 33) rfl rfl rfl kk rfl hds (ec_one _ _ _ _) ?_
      intro wy ky gy zy
      exact hK.out _ _ ⟨q26, q27, q28, q29, q30, q31, q32, .agg (ec x.e (.slice A1 x.m c1)), p3, p4, p5, .pointer (some ⟨g, 0, none⟩), rfl, hbl.trans (only_Below gy hg (by exact hbl.size)), l0, l2, l4, l6, f1.far kk gy (fun h => d14 h ha), f2.far kk gy (fun h => d24 h ha), f3.far kk gy (fun h => d34 h ha), (by rw [show upd L 15 7 = true from hc, show upd L 15 11 = true from ha]; exact f4.store kk ky gy rfl), d12, d13, d14, d23, d24, d34, r12, r13, r14, r23, r24, r34⟩
  case hend =>
    rintro L a wx hall ⟨q26, q27, q28, q29, q30, q31, q32, q33, p3, p4, p5, p6, rfl, hbl, l0, l2, l4, l6, f1, f2, f3, f4, d12, d13, d14, d23, d24, d34, r12, r13, r14, r23, r24, r34⟩
    have hL : ∀ i, i < 16 → L i = true := hall
    clear l0 l2 l4 l6
    rw [hL 1 (by omega), hL 8 (by omega), hL 12 (by omega)] at f1
    rw [hL 3 (by omega), hL 9 (by omega), hL 13 (by omega)] at f2
    rw [hL 5 (by omega), hL 10 (by omega), hL 14 (by omega)] at f3
    rw [hL 7 (by omega), hL 11 (by omega), hL 15 (by omega)] at f4
    have d12 := d12 (hL 8 (by omega)) (hL 9 (by omega))
    have d13 := d13 (hL 8 (by omega)) (hL 10 (by omega))
    have d14 := d14 (hL 8 (by omega)) (hL 11 (by omega))
    have d23 := d23 (hL 9 (by omega)) (hL 10 (by omega))
    have d24 := d24 (hL 9 (by omega)) (hL 11 (by omega))
    have d34 := d34 (hL 10 (by omega)) (hL 11 (by omega))
    have r12 := r12 (hL 1 (by omega)) (hL 3 (by omega))
    have r13 := r13 (hL 1 (by omega)) (hL 5 (by omega))
    have r14 := r14 (hL 1 (by omega)) (hL 7 (by omega))
    have r23 := r23 (hL 3 (by omega)) (hL 5 (by omega))
    have r24 := r24 (hL 3 (by omega)) (hL 7 (by omega))
    have r34 := r34 (hL 5 (by omega)) (hL 7 (by omega))
    obtain ⟨A1, c1, rfl, o1⟩ := f1.2.1 rfl
    obtain ⟨g1, ds, rfl, hg1, k1, _, he⟩ := f1.2.2 rfl
    have he := he rfl
    injection he with he
    subst he
    clear f1
    obtain ⟨A2, c2, rfl, o2⟩ := f2.2.1 rfl
    obtain ⟨g2, ds, rfl, hg2, k2, _, he⟩ := f2.2.2 rfl
    have he := he rfl
    injection he with he
    subst he
    clear f2
    obtain ⟨A3, c3, rfl, o3⟩ := f3.2.1 rfl
    obtain ⟨g3, ds, rfl, hg3, k3, _, he⟩ := f3.2.2 rfl
    have he := he rfl
    injection he with he
    subst he
    clear f3
    obtain ⟨A4, c4, rfl, o4⟩ := f4.2.1 rfl
    obtain ⟨g4, ds, rfl, hg4, k4, _, he⟩ := f4.2.2 rfl
    have he := he rfl
    injection he with he
    subst he
    clear f4
    have d12 : g1 ≠ g2 := fun e => d12 (by rw [e])
    have d13 : g1 ≠ g3 := fun e => d13 (by rw [e])
    have d14 : g1 ≠ g4 := fun e => d14 (by rw [e])
    have d23 : g2 ≠ g3 := fun e => d23 (by rw [e])
    have d24 : g2 ≠ g4 := fun e => d24 (by rw [e])
    have d34 : g3 ≠ g4 := fun e => d34 (by rw [e])
    have r12 : A1.map (·.block) = none ∨ A1.map (·.block) ≠ A2.map (·.block) := r12
    have r13 : A1.map (·.block) = none ∨ A1.map (·.block) ≠ A3.map (·.block) := r13
    have r14 : A1.map (·.block) = none ∨ A1.map (·.block) ≠ A4.map (·.block) := r14
    have r23 : A2.map (·.block) = none ∨ A2.map (·.block) ≠ A3.map (·.block) := r23
    have r24 : A2.map (·.block) = none ∨ A2.map (·.block) ≠ A4.map (·.block) := r24
    have r34 : A3.map (·.block) = none ∨ A3.map (·.block) ≠ A4.map (·.block) := r34
    clear hL hall
    have v1 : Var wx w2.heap.size g1 x.e A1 x.m c1 := ⟨hg1, k1, o1, HP7.out⟩
    have v2 : Var wx w2.heap.size g2 x.e A2 x.m c2 := ⟨hg2, k2, o2, HP7.out⟩
    have v3 : Var wx w2.heap.size g3 x.e A3 x.m c3 := ⟨hg3, k3, o3, HP7.out⟩
    have v4 : Var wx w2.heap.size g4 x.e A4 x.m c4 := ⟨hg4, k4, o4, HP7.out⟩
    have kb3 := kb2.below hbl kb2.lt
    have hb0 := kb2.lt
    obtain ⟨B0, hB0⟩ : ∃ B0, B0 = w2.heap.size := ⟨_, rfl⟩
    rw [← hB0] at v1 v2 v3 v4 hbl hg1 hg2 hg3 hg4 hb0 o2
    have HB0 := Lib.hid hB0
    have X0 := Lib.hid (show cx[0]? = some (.int .i64 x.e.d.1) by rw [HCX.out]; rfl)
    have X1 := Lib.hid (show cx[1]? = some (.int .i64 x.e.d.2) by rw [HCX.out]; rfl)
    have h0 : wx.cell? ⟨b, 0, none⟩ = some (.int .i64 x.e.d.1) := (kb3.cell 0).trans X0.out
    have h1 : wx.cell? ⟨b, 1, none⟩ = some (.int .i64 x.e.d.2) := (kb3.cell 1).trans X1.out
    have h13 : wx.cell? ⟨g1, 13, none⟩ = some (.slice A1 x.m c1) := k1.cell 13
    have hsb := kb3.lt
    have hsg := k1.lt
    have h90 := H90.out
    have HR12 := Lib.hid (show (∀ k, A2.map (·.block) = some k → k < wx.heap.size) from fun k hk => (o2.lt k hk).2)
    have HSRC := Lib.hid (show Rd (wx.alloc (.cells #[.int .i64 x.e.d.1, .int .i64 x.e.d.2] 23)) wx.heap.size A1 (dcs x.e.l) from (o1.rd.below ((Below.refl _ _).alloc (Nat.le_refl _) _)).rd)
    clear hB0 o1 o2 o3 o4 k2 k3 k4 k1
    go_wp2_with (at_builtin; refine wpList_appD rfl (.tmp 36) (.tmp 38) rfl rfl (own_oneD wx wx.heap.size x.e.d (Nat.le_refl _)) rfl (news := x.e.l) HSRC.out HXL.out ?ha3 (by simp) ?_)
    case ha3 => omega
    intro A5 c5 w5 o5 gr5 m5 bl5
    have bx5 : Below wx.heap.size wx w5 := ((Below.refl _ _).alloc (Nat.le_refl _) (.cells #[.int .i64 x.e.d.1, .int .i64 x.e.d.2] 23)).trans bl5
    have v15 := v1.below bx5
    have v25 := v2.below bx5
    have v35 := v3.below bx5
    have v45 := v4.below bx5
    have hBx : B0 ≤ wx.heap.size := by have := hbl.size; have := HB0.out; omega
    have hbl5 := hbl.trans (bx5.mono hBx)
    have kb5 := kb3.below bx5 kb3.lt
    have k15 := v15.2.1
    have h13' : w5.cell? ⟨g1, 13, none⟩ = some (.slice A1 x.m c1) := k15.cell 13
    have f13' := k15.free 13
    have v1n : Var (w5.setCell ⟨g1, 13, none⟩ (.slice A5 (1 + x.m) c5)) B0 g1 { x.e with l := x.e.d :: x.e.l } A5 (1 + x.m) c5 := ⟨hg1, k15.set_ 13 _, (o5.setFar (own_ne o5.2 k15 (by decide)) _).mono hBx, HP7.out⟩
    have H5 := Lib.hid (show (∀ k, A5.map (·.block) = some k → wx.heap.size ≤ k) from fun k hk => (o5.lt k hk).1)
    have v26 := v25.setv k15 (Ne.symm d12) 13 (.slice A5 (1 + x.m) c5)
    have v36 := v35.setv k15 (Ne.symm d13) 13 (.slice A5 (1 + x.m) c5)
    have v46 := v45.setv k15 (Ne.symm d14) 13 (.slice A5 (1 + x.m) c5)
    have hbl6 : Below B0 w2 (w5.setCell ⟨g1, 13, none⟩ (.slice A5 (1 + x.m) c5)) := hbl5.setCell hg1 _
    have kb6 := kb5.far (p := ⟨g1, 13, none⟩) (by show b ≠ g1; omega) (.slice A5 (1 + x.m) c5)
    have HV1 := Lib.hid v1n
    have HV2 := Lib.hid v26
    have HV3 := Lib.hid v36
    have HV4 := Lib.hid v46
    have HBL := Lib.hid hbl6
    have HKB := Lib.hid kb6
    clear v1 v2 v3 v4 v15 v25 v35 v45 hbl hbl5 kb3 kb5 k15 v1n v26 v36 v46 hbl6 kb6 o5 gr5 m5 bl5 bx5 h0 h1 h13 hsb hsg HSRC
    go_upto_region 7 with fail
    have v1 := HV1.out
    have v2 := HV2.out
    have v3 := HV3.out
    have v4 := HV4.out
    have hbl := HBL.out
    have kb := HKB.out
    clear HV1 HV2 HV3 HV4 HBL HKB h13' f13'
    generalize w5.setCell ⟨g1, 13, none⟩ (.slice A5 (1 + x.m) c5) = w6 at *
    have h13 : w6.cell? ⟨g2, 13, none⟩ = some (.slice A2 x.m c2) := v2.2.1.cell 13
    go_upto_if 44 with fail
    go_cut [] (fun wy => ∃ (e2 : Ev) (A6 : Option Addr) (m6 c6 : Nat), rightE e2 = false ∧ m6 ≤ 100 ∧ Var wy B0 g2 e2 A6 m6 c6 ∧ Var wy B0 g1 { x.e with l := x.e.d :: x.e.l } A5 (1 + x.m) c5 ∧ Var wy B0 g3 x.e A3 x.m c3 ∧ Var wy B0 g4 x.e A4 x.m c4 ∧ Below B0 w2 wy ∧ Blk wy b 28 cx)
    case first =>
      by_cases hm0 : 0 < x.m
      · have hd0 : decide ((0 : Int) < (x.m : Int)) = true := decide_eq_true (by omega)
        obtain ⟨r2, hA2, hr2B, hr2⟩ := v2.2.2.1.form hm0
        obtain ⟨N, hN⟩ : ∃ N, x.m = N + 1 := ⟨x.m - 1, by omega⟩
        have hlN : x.e.l.length = N + 1 := by rw [← HXL.out]; exact hN
        have hlt : N < x.e.l.length := by omega
        obtain ⟨d9, hd9⟩ : ∃ d9, x.e.l[N]? = some d9 := ⟨_, List.getElem?_eq_getElem hlt⟩
        obtain ⟨ad, hA2', hdt⟩ := v2.2.2.1.rd.2 N d9 hd9
        have had : ad = ⟨r2, 0, none⟩ := by rw [hA2] at hA2'; injection hA2' with h; exact h.symm
        subst had
        have hnr := Lib.hid (nr_twice (e := x.e) hlN hd9)
        have hr2w : r2 < wx.heap.size := HR12.out r2 (by rw [hA2]; rfl)
        have hrw := hr2w
        obtain ⟨q5, q0, q1⟩ := hdt
        have q0' : w6.cell? ⟨r2, N * 2, none⟩ = some (.int .i64 d9.1) := by rw [← q0, add_mk, Nat.zero_add]
        have q1' : w6.cell? ⟨r2, N * 2 + 1, none⟩ = some (.int .i64 d9.2) := by rw [← q1, add_mk, Nat.zero_add]
        subst hA2
        have hd0' : (0 : Int) < (x.m : Int) := by omega
        have eN : IntKind.i64.wrap ((x.m : Int) - 1) = (N : Int) := by rw [IntWalk.i64_in _ (by omega)]; omega
        have hk0 : (0 : Int) ≤ (N : Int) := by omega
        have hk1 : (N : Int) < (x.m : Int) := by omega
        have hg2l : g2 < w6.heap.size := v2.2.1.lt
        have HNN := Lib.hid hN
        have HR13 := Lib.hid (show A3.map (·.block) = none ∨ A3.map (·.block) ≠ some r2 from by
          rcases r23 with h | h
          · cases h
          · exact .inr (Ne.symm h))
        have HR14 := Lib.hid (show A4.map (·.block) = none ∨ A4.map (·.block) ≠ some r2 from by
          rcases r24 with h | h
          · cases h
          · exact .inr (Ne.symm h))
        have HR11 := Lib.hid (show A5.map (·.block) = none ∨ A5.map (·.block) ≠ some r2 from by
          refine .inr fun h => ?_
          have := H5.out r2 h
          omega)
        clear hN hlN hlt hd9 q0 q1 q5 hA2' hr2 r12 r13 r14 r23 r24 r34
        go_upto_region 8 with fail
        refine wp_region_C (fun w' => Below w6.heap.size w6 w') 11 (by kernel_rfl) ?_
        have hS0 : Below w6.heap.size w6 w6.drew := (Below.refl _ _).drew
        refine wpAnyC_pure (i := 0) (v := ?rv568) rfl (by kernel_rfl) (by kernel_rfl) (by kernel_rfl) (fun _ _ _ h => h) (by decide) (Or.inl ⟨by rfl, ?ry568⟩) (fun _ => hS0) ?_
        case ry568 => ((intro w; go_simp); (try with_reducible rfl))
        simp only [Act.put, List.getElem_toArray, List.getElem_cons_zero, List.getElem_cons_succ, List.setIfInBounds_toArray, List.set_cons_succ, List.set_cons_zero]
        refine wpAnyC_pure (i := 2) (v := ?rv571) rfl (by kernel_rfl) (by kernel_rfl) (by kernel_rfl) (fun _ _ _ h => h) (by decide) (Or.inl ⟨by rfl, ?ry571⟩) (fun _ => hS0) ?_
        case ry571 => ((intro w; go_simp); (try with_reducible rfl))
        simp only [Act.put, List.getElem_toArray, List.getElem_cons_zero, List.getElem_cons_succ, List.setIfInBounds_toArray, List.set_cons_succ, List.set_cons_zero]
        refine wpAnyC_pure (i := 4) (v := ?rv574) rfl (by kernel_rfl) (by kernel_rfl) (by kernel_rfl) (fun _ _ _ h => h) (by decide) (Or.inl ⟨by rfl, ?ry574⟩) (fun _ => hS0) ?_
        case ry574 => ((intro w; go_simp); (try with_reducible rfl))
        simp only [Act.put, List.getElem_toArray, List.getElem_cons_zero, List.getElem_cons_succ, List.setIfInBounds_toArray, List.set_cons_succ, List.set_cons_zero]
        refine wpAnyC_take (i := 1) (v := ?rv1) rfl (by kernel_rfl) (by kernel_rfl) (by kernel_rfl) (fun _ _ _ h => h) (by decide) (by kernel_rfl) (by kernel_rfl) (Or.inl ⟨by rfl, ?ry1⟩) hS0 ?_
        case ry1 => (intro wS hSw; have c8 := (hSw.cell (p := ⟨g2, 13, none⟩) hg2l).trans h13; clear hSw; go_simp; (try with_reducible rfl))
        try simp only [Act.put, List.getElem_toArray, List.getElem_cons_zero, List.getElem_cons_succ, List.setIfInBounds_toArray, List.set_cons_succ, List.set_cons_zero]
        refine wpAnyC_takeP [3, 8, 9, 10, 11] (i := 3) (v := ?rv3) rfl (by kernel_rfl) (by kernel_rfl) (by kernel_rfl) (fun _ _ _ h => h) (by decide) (by decide) (by decide) (by kernel_rfl) (by kernel_rfl) (Or.inl ⟨by rfl, ?ry3⟩) hS0 ?_
        case ry3 => (intro wS hSw; have c8 := (hSw.cell (p := ⟨g2, 13, none⟩) hg2l).trans h13; clear hSw; go_simp; (try with_reducible rfl))
        try simp only [Act.put, List.getElem_toArray, List.getElem_cons_zero, List.getElem_cons_succ, List.setIfInBounds_toArray, List.set_cons_succ, List.set_cons_zero]
        refine wpAnyC_takeP [5, 6, 7, 8, 9, 10, 11] (i := 5) (v := ?rv5) rfl (by kernel_rfl) (by kernel_rfl) (by kernel_rfl) (fun _ _ _ h => h) (by decide) (by decide) (by decide) (by kernel_rfl) (by kernel_rfl) (Or.inl ⟨by rfl, ?ry5⟩) hS0 ?_
        case ry5 => (intro wS hSw; have c8 := (hSw.cell (p := ⟨g2, 13, none⟩) hg2l).trans h13; clear hSw; go_simp; (try with_reducible rfl))
        try simp only [Act.put, List.getElem_toArray, List.getElem_cons_zero, List.getElem_cons_succ, List.setIfInBounds_toArray, List.set_cons_succ, List.set_cons_zero]
        refine wpAnyC_pure (i := 6) (v := ?rv586) rfl (by kernel_rfl) (by kernel_rfl) (by kernel_rfl) (fun _ _ _ h => h) (by decide) (Or.inl ⟨by rfl, ?ry586⟩) (fun _ => hS0) ?_
        case ry586 => ((intro w; go_simp); (try with_reducible rfl))
        simp only [Act.put, List.getElem_toArray, List.getElem_cons_zero, List.getElem_cons_succ, List.setIfInBounds_toArray, List.set_cons_succ, List.set_cons_zero]
        refine wpAnyC_pure (i := 7) (v := ?rv589) rfl (by kernel_rfl) (by kernel_rfl) (by kernel_rfl) (fun _ _ _ h => h) (by decide) (Or.inl ⟨by rfl, ?ry589⟩) (fun _ => hS0) ?_
        case ry589 => ((intro w; go_simp); (try with_reducible rfl))
        simp only [Act.put, List.getElem_toArray, List.getElem_cons_zero, List.getElem_cons_succ, List.setIfInBounds_toArray, List.set_cons_succ, List.set_cons_zero]
        refine wpAnyC_pure (i := 8) (v := ?rv592) rfl (by kernel_rfl) (by kernel_rfl) (by kernel_rfl) (fun _ _ _ h => h) (by decide) (Or.inl ⟨by rfl, ?ry592⟩) (fun _ => hS0) ?_
        case ry592 => ((intro w; go_simp); (try with_reducible rfl))
        simp only [Act.put, List.getElem_toArray, List.getElem_cons_zero, List.getElem_cons_succ, List.setIfInBounds_toArray, List.set_cons_succ, List.set_cons_zero]
        refine wpAnyC_takeP [9, 10, 11] (i := 9) (v := ?rv9) rfl (by kernel_rfl) (by kernel_rfl) (by kernel_rfl) (fun _ _ _ h => h) (by decide) (by decide) (by decide) (by kernel_rfl) (by kernel_rfl) (Or.inl ⟨by rfl, ?ry9⟩) hS0 ?_
        case ry9 => (intro wS hSw; have c8 := (hSw.cell (p := ⟨r2, N * 2, none⟩) (World.block_lt_of_cell? w6 _ q0')).trans q0'; have c9 := (hSw.cell (p := ⟨r2, N * 2 + 1, none⟩) (World.block_lt_of_cell? w6 _ q1')).trans q1'; clear hSw; go_simp; (try with_reducible rfl))
        try simp only [Act.put, List.getElem_toArray, List.getElem_cons_zero, List.getElem_cons_succ, List.setIfInBounds_toArray, List.set_cons_succ, List.set_cons_zero]
        refine wpAnyC_ready (rs := [10]) (by kernel_rfl) (by simp) ?_
        refine AllReadyC.consS rfl (fun K hK => ?_) .nil
        go_simp
        have hS1 : Below w6.heap.size w6 (w6.alloc (.cells #[.int .i64 d9.1, .int .i64 d9.2] 23)).drew := ((Below.refl _ _).alloc (Nat.le_refl _) _).drew
        refine hK.out _ _ hS1 ?_
        clear hK K
        try simp only [Act.put, List.getElem_toArray, List.getElem_cons_zero, List.getElem_cons_succ, List.setIfInBounds_toArray, List.set_cons_succ, List.set_cons_zero]
        have rX := (Rd.made w6 #[.int .i64 d9.1, .int .i64 d9.2] 23 (0, 0)).drew
        have n1 := v1.below hS1
        have n2 := v2.below hS1
        have n3 := v3.below hS1
        have n4 := v4.below hS1
        have nbl := hbl.trans (hS1.mono (by have := v2.1; omega))
        have nkb := kb.below hS1 kb.lt
        generalize (w6.alloc (.cells #[.int .i64 d9.1, .int .i64 d9.2] 23)).drew = w7 at *
        have hs7 : B0 ≤ w7.heap.size := by have := n2.2.1.lt; omega
        refine wpAnyC_ready (rs := [11]) (by kernel_rfl) (by simp) ?_
        refine AllReadyC.cons rfl (by kernel_rfl) (fun K hK => ?_) .nil
        refine stepsD rfl (.tmp 46) (.tmp 55) rfl (by rfl) n2.2.2.1 (by rfl) (m := 1) (news := [d9]) rX rfl (by omega) hs7 ?_
        intro A6 c6 w8 o8 gr8 mv8 bl8
        have p1 := n1.grown gr8 (own_ne n2.2.2.1.2 n1.2.1 (by decide)) HR11.out
        have p3 := n3.grown gr8 (own_ne n2.2.2.1.2 n3.2.1 (by decide)) HR13.out
        have p4 := n4.grown gr8 (own_ne n2.2.2.1.2 n4.2.1 (by decide)) HR14.out
        have pk2 := n2.2.1.grown gr8 (own_ne n2.2.2.1.2 n2.2.1 (by decide))
        have pbl := nbl.trans bl8
        have pkb := nkb.grown gr8 (own_ne n2.2.2.1.2 nkb (by decide))
        refine hK.out _ _ ?_
        clear hK K n1 n2 n3 n4 nbl nkb gr8 mv8 bl8 rX v1 v2 v3 v4 hbl kb hS0 hS1
        try simp only [Act.put, List.getElem_toArray, List.getElem_cons_zero, List.getElem_cons_succ, List.setIfInBounds_toArray, List.set_cons_succ, List.set_cons_zero]
        refine wpAnyC_pure (i := 12) (v := ?rv12) rfl (by kernel_rfl) (by kernel_rfl) (by kernel_rfl) (fun _ _ _ h => h) (by decide) (Or.inl ⟨by rfl, ?ry12⟩) (fun h => absurd h (by decide)) ?_
        case ry12 => ((intro w; go_simp); (try with_reducible rfl))
        try simp only [Act.put, List.getElem_toArray, List.getElem_cons_zero, List.getElem_cons_succ, List.setIfInBounds_toArray, List.set_cons_succ, List.set_cons_zero]
        have c9 : w8.cell? ⟨g2, 13, none⟩ = some (.slice (some ⟨r2, 0, none⟩) x.m c2) := pk2.cell 13
        have f9 := pk2.free 13
        have z2 : Var (w8.setCell ⟨g2, 13, none⟩ (.slice A6 (x.m + 1) c6)) B0 g2 { x.e with l := x.e.l ++ [d9] } A6 (x.m + 1) c6 := ⟨hg2, pk2.set_ 13 _, o8.setFar (own_ne o8.2 pk2 (by decide)) _, HP7.out⟩
        have z1 := p1.setv pk2 d12 13 (.slice A6 (x.m + 1) c6)
        have z3 := p3.setv pk2 (Ne.symm d23) 13 (.slice A6 (x.m + 1) c6)
        have z4 := p4.setv pk2 (Ne.symm d24) 13 (.slice A6 (x.m + 1) c6)
        have zbl : Below B0 w2 (w8.setCell ⟨g2, 13, none⟩ (.slice A6 (x.m + 1) c6)) := pbl.setCell hg2 _
        have zkb := pkb.far (p := ⟨g2, 13, none⟩) (by show b ≠ g2; omega) (.slice A6 (x.m + 1) c6)
        have Z1 := Lib.hid z1
        have Z2 := Lib.hid z2
        have Z3 := Lib.hid z3
        have Z4 := Lib.hid z4
        have ZB := Lib.hid zbl
        have ZK := Lib.hid zkb
        clear z1 z2 z3 z4 zbl zkb p1 p3 p4 pk2 pbl pkb o8
        refine wpAnyC_ready (rs := [13]) (by kernel_rfl) (by simp) ?_
        refine AllReadyC.cons rfl (by kernel_rfl) (fun K hK => ?_) .nil
        go_simp
        refine hK.out _ _ ?_
        clear hK K c9 f9
        refine wpAnyC_done (by kernel_rfl) ?_ _
        go_wp2_with fail
        go_meet
        exact ⟨_, A6, x.m + 1, c6, hnr.out, by omega, Z2.out, Z1.out, Z3.out, Z4.out, ZB.out, ZK.out⟩
      · have hx0 : x.m = 0 := by omega
        have hd0 : decide ((0 : Int) < (x.m : Int)) = false := decide_eq_false (by omega)
        have k2 := v2.2.1
        have s1 : w6.cell? ⟨g2, 1, none⟩ = some (.int .i64 x.e.d.2) := k2.cell 1
        have sf := k2.free 1
        have n2 : Var (w6.setCell ⟨g2, 1, none⟩ (.int .i64 0)) B0 g2 { x.e with d := (x.e.d.1, 0) } A2 x.m c2 := ⟨hg2, k2.set_ 1 _, v2.2.2.1.setFar (own_ne v2.2.2.1.2 k2 (by decide)) _, HP7.out⟩
        have n1 := v1.setv k2 d12 1 (.int .i64 0)
        have n3 := v3.setv k2 (Ne.symm d23) 1 (.int .i64 0)
        have n4 := v4.setv k2 (Ne.symm d24) 1 (.int .i64 0)
        have nbl : Below B0 w2 (w6.setCell ⟨g2, 1, none⟩ (.int .i64 0)) := hbl.setCell hg2 _
        have nkb := kb.far (p := ⟨g2, 1, none⟩) (by show b ≠ g2; omega) (.int .i64 0)
        have N1 := Lib.hid n1
        have N2 := Lib.hid n2
        have N3 := Lib.hid n3
        have N4 := Lib.hid n4
        have NB := Lib.hid nbl
        have NK := Lib.hid nkb
        clear n1 n2 n3 n4 nbl nkb k2 hx0 v1 v2 v3 v4 hbl kb
        go_wp2_with fail
        go_meet
        exact ⟨_, A2, x.m, c2, nr_seq, by omega, N2.out, N1.out, N3.out, N4.out, NB.out, NK.out⟩
    case rest =>
      obtain ⟨e2, A6, m6, c6, hr2, hm6, v2, v1, v3, v4, hbl, kb⟩ := hcut
      generalize wc = w7 at *
      clear h13 r12 r13 r14 r23 r24 r34
      have k3 := v3.2.1
      have k4 := v4.2.1
      have s3 : w7.cell? ⟨g3, 5, none⟩ = some (.int .i64 x.e.v) := k3.cell 5
      have f3 := k3.free 5
      have s4 : w7.cell? ⟨g4, 4, none⟩ = some (.int .i64 x.e.w) := k4.cell 4
      have f4 := k4.free 4
      have n3 : Var (w7.setCell ⟨g3, 5, none⟩ (.int .i64 (-1))) B0 g3 { x.e with v := -1 } A3 x.m c3 := ⟨hg3, k3.set_ 5 _, v3.2.2.1.setFar (own_ne v3.2.2.1.2 k3 (by decide)) _, HP7.out⟩
      have n1 := v1.setv k3 d13 5 (.int .i64 (-1))
      have n2 := v2.setv k3 d23 5 (.int .i64 (-1))
      have n4 := v4.setv k3 (Ne.symm d34) 5 (.int .i64 (-1))
      have nkb := kb.far (p := ⟨g3, 5, none⟩) (by show b ≠ g3; omega) (.int .i64 (-1))
      have nbl : Below B0 w2 (w7.setCell ⟨g3, 5, none⟩ (.int .i64 (-1))) := hbl.setCell hg3 _
      have k4' := n4.2.1
      have m4 : Var ((w7.setCell ⟨g3, 5, none⟩ (.int .i64 (-1))).setCell ⟨g4, 4, none⟩ (.int .i64 8)) B0 g4 { x.e with w := 8 } A4 x.m c4 := ⟨hg4, k4'.set_ 4 _, n4.2.2.1.setFar (own_ne n4.2.2.1.2 k4' (by decide)) _, HP7.out⟩
      have m1 := n1.setv k4' d14 4 (.int .i64 8)
      have m2 := n2.setv k4' d24 4 (.int .i64 8)
      have m3 := n3.setv k4' d34 4 (.int .i64 8)
      have mkb := nkb.far (p := ⟨g4, 4, none⟩) (by show b ≠ g4; omega) (.int .i64 8)
      have mbl : Below B0 w2 ((w7.setCell ⟨g3, 5, none⟩ (.int .i64 (-1))).setCell ⟨g4, 4, none⟩ (.int .i64 8)) := nbl.setCell hg4 _
      have t4 : (w7.setCell ⟨g3, 5, none⟩ (.int .i64 (-1))).cell? ⟨g4, 4, none⟩ = some (.int .i64 x.e.w) := k4'.cell 4
      have u4 := k4'.free 4
      have M1 := Lib.hid m1
      have M2 := Lib.hid m2
      have M3 := Lib.hid m3
      have M4 := Lib.hid m4
      have MK := Lib.hid mkb
      have MB := Lib.hid mbl
      clear n1 n2 n3 n4 nkb nbl k4' m1 m2 m3 m4 mkb mbl v1 v2 v3 v4 hbl kb k3 k4
      go_upto_region 12 with fail
      clear s3 f3 s4 f4 t4 u4
      have m1 := M1.out
      have m2 := M2.out
      have m3 := M3.out
      have m4 := M4.out
      have mkb := MK.out
      have mbl := MB.out
      clear M1 M2 M3 M4 MK MB
      generalize (w7.setCell ⟨g3, 5, none⟩ (.int .i64 (-1))).setCell ⟨g4, 4, none⟩ (.int .i64 8) = w8 at *
      obtain ⟨y1, hy1⟩ : ∃ y : EvV, y = ⟨{ x.e with l := x.e.d :: x.e.l }, A5, 1 + x.m, c5⟩ := ⟨_, rfl⟩
      obtain ⟨y2, hy2⟩ : ∃ y : EvV, y = ⟨e2, A6, m6, c6⟩ := ⟨_, rfl⟩
      obtain ⟨y3, hy3⟩ : ∃ y : EvV, y = ⟨{ x.e with v := -1 }, A3, x.m, c3⟩ := ⟨_, rfl⟩
      obtain ⟨y4, hy4⟩ : ∃ y : EvV, y = ⟨{ x.e with w := 8 }, A4, x.m, c4⟩ := ⟨_, rfl⟩
      have hPut : ∀ (y : EvV) g, Var w8 B0 g y.e y.A y.m y.c → rightE y.e = false → ∀ w', Below w8.heap.size w8 w' → Calls Try.prog 21 #[.agg y.cs] w' (GiveBE w' [] 2) ∧ Calls Try.prog 11 #[.agg y.cs] w' fun e w'' => e = .returned (.bool false) ∧ Below w'.heap.size w' w'' := fun y g hv hr w' hb => by
        have h1 := eput_any y.e hv.2.2.2 y.A y.m y.c w' (hv.2.2.1.rd.below hb).size
        have h2 := eright_any y.e hv.2.2.2 y.A y.m y.c w' (hv.2.2.1.rd.below hb).size
        have h3 : putE y.e = ([], 2) := by unfold putE; rw [hr]; rfl
        rw [h3] at h1
        rw [hr] at h2
        exact ⟨h1, h2⟩
      have P1 := Lib.hid (hPut y1 g1 (by rw [hy1]; exact m1) (by rw [hy1]; exact nr_own))
      have P2 := Lib.hid (hPut y2 g2 (by rw [hy2]; exact m2) (by rw [hy2]; exact hr2))
      have P3 := Lib.hid (hPut y3 g3 (by rw [hy3]; exact m3) (by rw [hy3]; exact nr_value))
      have P4 := Lib.hid (hPut y4 g4 (by rw [hy4]; exact m4) (by rw [hy4]; exact nr_work))
      have k1 : Blk w8 g1 28 y1.cs := by rw [hy1]; exact m1.2.1
      have k2 : Blk w8 g2 28 y2.cs := by rw [hy2]; exact m2.2.1
      have k3 : Blk w8 g3 28 y3.cs := by rw [hy3]; exact m3.2.1
      have k4 : Blk w8 g4 28 y4.cs := by rw [hy4]; exact m4.2.1
      have HB4 := Lib.hid (fun w => build4 y1 y2 y3 y4 w)
      have HI4 := Lib.hid (fun w => index4 y1 y2 y3 y4 w)
      obtain ⟨CC, hCC⟩ : ∃ CC, CC = four y1 y2 y3 y4 := ⟨_, rfl⟩
      rw [← hCC] at HB4 HI4
      obtain ⟨z1, hz1⟩ : ∃ z, z = y1.cs := ⟨_, rfl⟩
      obtain ⟨z2, hz2⟩ : ∃ z, z = y2.cs := ⟨_, rfl⟩
      obtain ⟨z3, hz3⟩ : ∃ z, z = y3.cs := ⟨_, rfl⟩
      obtain ⟨z4, hz4⟩ : ∃ z, z = y4.cs := ⟨_, rfl⟩
      have S1 := Lib.hid (show z1.size = 14 ∧ z1.all (·.oneCell') = true by rw [hz1]; exact ⟨rfl, y1.one⟩)
      have S2 := Lib.hid (show z2.size = 14 ∧ z2.all (·.oneCell') = true by rw [hz2]; exact ⟨rfl, y2.one⟩)
      have S3 := Lib.hid (show z3.size = 14 ∧ z3.all (·.oneCell') = true by rw [hz3]; exact ⟨rfl, y3.one⟩)
      have S4 := Lib.hid (show z4.size = 14 ∧ z4.all (·.oneCell') = true by rw [hz4]; exact ⟨rfl, y4.one⟩)
      have SZ0 := Lib.hid (show (cT 0).size = 14 from rfl)
      rw [← hz1] at HB4 HI4 P1 k1
      rw [← hz2] at HB4 HI4 P2 k2
      rw [← hz3] at HB4 HI4 P3 k3
      rw [← hz4] at HB4 HI4 P4 k4
      clear hPut hy1 hy2 hy3 hy4 hCC hz1 hz2 hz3 hz4 m1 m2 m3 m4 hr2
      go_wp2_with first
        | ((with_reducible refine wpList_ld rowE k1 S1.out.1 ?_ ?_); rotate_left; (rfl))
        | ((with_reducible refine wpList_ld rowE k2 S2.out.1 ?_ ?_); rotate_left; (rfl))
        | ((with_reducible refine wpList_ld rowE k3 S3.out.1 ?_ ?_); rotate_left; (rfl))
        | ((with_reducible refine wpList_ld rowE k4 S4.out.1 ?_ ?_); rotate_left; (rfl))
        | ((refine wpList_bd (v := .agg CC) (w' := w8) rfl 48 #[(0, .tmp 62), (1, .tmp 63), (2, .tmp 64), (3, .tmp 65)] rfl ?_ ?_); (simp only [List.map_toArray, List.map_cons, List.map_nil]; exact HB4.out w8))
      clear k1 k2 k3 k4
      refine wp_loop_rounds 5 ?_
      have be0 : Below w8.heap.size w8 w8 := Below.refl _ _
      have hgb8 : Below w.heap.size w w8 := gb2.trans ((show Below w2.heap.size w2 w8 by rw [← HB0.out]; exact mbl).mono gb2.size)
      rw [rounds_succ]
      go_upto_region 15 with first
        | ((with_reducible refine wpList_ix (HI4.out _).1 ?_ ?_ ?_); rotate_left; (rfl); (rfl))
        | ((with_reducible refine wpList_st rowE (Blk.new _ _ _) S1.out.1 SZ0.out S1.out.2 ?_ ?_ ?_); rotate_left; (rfl); (rfl); intro wa ka ga za)
      have bA : Below w8.heap.size w8 wa := (((Below.refl _ _).alloc (Nat.le_refl _) _).grown ga (by simp) (fun q hq => by injection hq with hq; omega))
      have be : Below w8.heap.size w8 wa := be0.trans (bA.mono be0.size)
      obtain ⟨h1, hh⟩ : ∃ h, h = w8.heap.size := ⟨_, rfl⟩
      rw [← hh] at ka ⊢
      clear ga za bA be0 hh
      go_wp2_with first
        | ((with_reducible refine wpList_ld rowE ka S1.out.1 ?_ ?_); rotate_left; (rfl))
      refine (P1.out wa be).1.mono ?_
      rintro e wb ⟨Ab, nb, cb, rfl, ob, bb⟩
      have kb' := ka.below bb ka.lt
      have be' := be.trans (bb.mono be.size)
      clear ka be ob bb
      go_wp2_with first
        | ((with_reducible refine wpList_ld rowE kb' S1.out.1 ?_ ?_); rotate_left; (rfl))
      refine (P1.out wb be').2.mono ?_
      rintro e v1 ⟨rfl, bb⟩
      have be1 := be'.trans (bb.mono be'.size)
      clear kb' be' bb
      go_wp2_with fail
      rw [rounds_succ]
      go_upto_region 15 with first
        | ((with_reducible refine wpList_ix (HI4.out _).2.1 ?_ ?_ ?_); rotate_left; (rfl); (rfl))
        | ((with_reducible refine wpList_st rowE (Blk.new _ _ _) S2.out.1 SZ0.out S2.out.2 ?_ ?_ ?_); rotate_left; (rfl); (rfl); intro wa ka ga za)
      have bA : Below v1.heap.size v1 wa := (((Below.refl _ _).alloc (Nat.le_refl _) _).grown ga (by simp) (fun q hq => by injection hq with hq; omega))
      have be : Below w8.heap.size w8 wa := be1.trans (bA.mono be1.size)
      obtain ⟨h2, hh⟩ : ∃ h, h = v1.heap.size := ⟨_, rfl⟩
      rw [← hh] at ka ⊢
      clear ga za bA be1 hh
      go_wp2_with first
        | ((with_reducible refine wpList_ld rowE ka S2.out.1 ?_ ?_); rotate_left; (rfl))
      refine (P2.out wa be).1.mono ?_
      rintro e wb ⟨Ab, nb, cb, rfl, ob, bb⟩
      have kb' := ka.below bb ka.lt
      have be' := be.trans (bb.mono be.size)
      clear ka be ob bb
      go_wp2_with first
        | ((with_reducible refine wpList_ld rowE kb' S2.out.1 ?_ ?_); rotate_left; (rfl))
      refine (P2.out wb be').2.mono ?_
      rintro e v2 ⟨rfl, bb⟩
      have be2 := be'.trans (bb.mono be'.size)
      clear kb' be' bb
      go_wp2_with fail
      rw [rounds_succ]
      go_upto_region 15 with first
        | ((with_reducible refine wpList_ix (HI4.out _).2.2.1 ?_ ?_ ?_); rotate_left; (rfl); (rfl))
        | ((with_reducible refine wpList_st rowE (Blk.new _ _ _) S3.out.1 SZ0.out S3.out.2 ?_ ?_ ?_); rotate_left; (rfl); (rfl); intro wa ka ga za)
      have bA : Below v2.heap.size v2 wa := (((Below.refl _ _).alloc (Nat.le_refl _) _).grown ga (by simp) (fun q hq => by injection hq with hq; omega))
      have be : Below w8.heap.size w8 wa := be2.trans (bA.mono be2.size)
      obtain ⟨h3, hh⟩ : ∃ h, h = v2.heap.size := ⟨_, rfl⟩
      rw [← hh] at ka ⊢
      clear ga za bA be2 hh
      go_wp2_with first
        | ((with_reducible refine wpList_ld rowE ka S3.out.1 ?_ ?_); rotate_left; (rfl))
      refine (P3.out wa be).1.mono ?_
      rintro e wb ⟨Ab, nb, cb, rfl, ob, bb⟩
      have kb' := ka.below bb ka.lt
      have be' := be.trans (bb.mono be.size)
      clear ka be ob bb
      go_wp2_with first
        | ((with_reducible refine wpList_ld rowE kb' S3.out.1 ?_ ?_); rotate_left; (rfl))
      refine (P3.out wb be').2.mono ?_
      rintro e v3 ⟨rfl, bb⟩
      have be3 := be'.trans (bb.mono be'.size)
      clear kb' be' bb
      go_wp2_with fail
      rw [rounds_succ]
      go_upto_region 15 with first
        | ((with_reducible refine wpList_ix (HI4.out _).2.2.2 ?_ ?_ ?_); rotate_left; (rfl); (rfl))
        | ((with_reducible refine wpList_st rowE (Blk.new _ _ _) S4.out.1 SZ0.out S4.out.2 ?_ ?_ ?_); rotate_left; (rfl); (rfl); intro wa ka ga za)
      have bA : Below v3.heap.size v3 wa := (((Below.refl _ _).alloc (Nat.le_refl _) _).grown ga (by simp) (fun q hq => by injection hq with hq; omega))
      have be : Below w8.heap.size w8 wa := be3.trans (bA.mono be3.size)
      obtain ⟨h4, hh⟩ : ∃ h, h = v3.heap.size := ⟨_, rfl⟩
      rw [← hh] at ka ⊢
      clear ga za bA be3 hh
      go_wp2_with first
        | ((with_reducible refine wpList_ld rowE ka S4.out.1 ?_ ?_); rotate_left; (rfl))
      refine (P4.out wa be).1.mono ?_
      rintro e wb ⟨Ab, nb, cb, rfl, ob, bb⟩
      have kb' := ka.below bb ka.lt
      have be' := be.trans (bb.mono be.size)
      clear ka be ob bb
      go_wp2_with first
        | ((with_reducible refine wpList_ld rowE kb' S4.out.1 ?_ ?_); rotate_left; (rfl))
      refine (P4.out wb be').2.mono ?_
      rintro e v4 ⟨rfl, bb⟩
      have be4 := be'.trans (bb.mono be'.size)
      clear kb' be' bb
      go_wp2_with fail
      rw [rounds_succ]
      have kbE : Blk v4 b 28 cx := mkb.below be4 mkb.lt
      have hgE : Below w.heap.size w v4 := hgb8.trans (be4.mono hgb8.size)
      have hpe : putE x.e = (encE x.e, 0) := by unfold putE; rw [if_pos HXR.out]
      have hpt := HPT.out v4 hgE
      rw [hpe] at hpt
      have HPE := Lib.hid hpt
      have hge : getEv (encE x.e ++ [0]) = (exZ, 4) := by
        unfold getEv
        rw [decE_enc HP7.out HXR.out]
        simp
      have HGE := Lib.hid hge
      have HLE := Lib.hid (encE_len HP7.out HXR.out)
      clear hpe hpt hge mkb mbl hgb8 be4
      go_wp2_with first
        | ((with_reducible refine wpList_ld rowE kbE SX.out ?_ ?_); rotate_left; (rfl))
      refine HPE.out.mono ?_
      rintro e u1 ⟨Ae, ne, ce, rfl, oe, bE⟩
      have hg1' := hgE.trans (bE.mono hgE.size)
      have hvs := hgE.size
      have hne := oe.1
      have hbs := bE.size
      have HNE := Lib.hid hne
      have hnl : ne ≤ 1230 := by rw [hne]; exact HLE.out
      clear kbE hgE bE hne HPE
      go_wp2_with (at_builtin; refine wpList_appB rfl (.tmp 88) (.tmp 89) rfl rfl (oe.alloc _) rfl (RdB.made u1 [0] _ _ _ rfl) ?hy0 ?hy2 ?_)
      case hy0 => show ne + 1 ≤ _; omega
      case hy2 => simp; omega
      intro Af cf u2 of gf mf bf
      have hg2' := hg1'.trans (((Below.refl _ _).alloc (by have := hg1'.size; omega) (.cells #[.int .u8 0] 5)).trans (bf.mono (by have := hg1'.size; omega)))
      have hgt := eget_any Af (ne + 1) cf (encE x.e ++ [0]) u2 of.rd (by omega)
      unfold GetEv at hgt
      rw [HGE.out] at hgt
      have HGT := Lib.hid hgt
      clear hgt of gf mf bf oe hg1' hbs
      go_wp2_with fail
      refine HGT.out.mono ?_
      rintro e u3 ⟨Ag, mg, cg, rfl, og, bg⟩
      have hg3' := hg2'.trans (bg.mono hg2'.size)
      obtain ⟨cy, hcy⟩ : ∃ cy, cy = ec exZ (.slice Ag mg cg) := ⟨_, rfl⟩
      have SY := Lib.hid (show cy.size = 14 by rw [hcy]; rfl)
      have OY := Lib.hid (show cy.all (·.oneCell') = true by rw [hcy]; exact ec_one _ _ _ _)
      rw [← hcy]
      clear hcy og bg hg2' HGT
      go_wp2_with first
        | ((with_reducible refine wpList_st rowE (Blk.new _ _ _) SY.out SZ0.out OY.out ?_ ?_ ?_); rotate_left; (rfl); (rfl); intro u4 k7 g7 z7)
      have bA : Below u3.heap.size u3 u4 := (((Below.refl _ _).alloc (Nat.le_refl _) _).grown g7 (by simp) (fun q hq => by injection hq with hq; omega))
      go_ret
      exact ⟨rfl, hg3'.trans (bA.mono hg3'.size)⟩
set_option maxRecDepth 100000 in
theorem lifted (os : Os) (started : os.Started) (H : Type) (enc : TypeId × Value → H) :
    ReturnsInHanded {} Try.checked os 6 .any (Rows.eventBendsSpec.pre6 enc Try.prog Try.f6 Rows.eventBendsRow.domain false) (Rows.eventBendsSpec.post enc Try.prog Try.f6 false true false false) := by
  refine returnsInHanded_of_change_sized (C := Try.checked) own started (by kernel_rfl) Try.func6
    (ChangeSpec.witness6 (enc := enc) (C := Try.checked) false ⟨#[], #[.agg (ec exZ (.slice none 0 0))], []⟩ 8 (by kernel_rfl) (by kernel_rfl) (by kernel_rfl) (by kernel_rfl)) ?_
  intro W base args ds gs before hval0 hW hcnd hsz0 _
  have hsz : (DataW.weightsEach Try.prog (Try.f6.params.toList ++ []) (ds ++ gs)).all (· ≤ reachBytes) = true := hsz0
  have hval : ∀ (j : Nat) t v, Try.f6.params[j]? = some t → args[j]? = some v → Value.okWide Try.prog W .any base t v := hval0
  have hW' := hW
  obtain ⟨p, q, hA0, hV, rfl, hfz, hnd⟩ := hW
  have hA : DataW.TrodAll enc Try.prog W 0 (fun _ => true) true Try.f6.params.toList args.toList ds p := hA0
  rw [Try.params6] at hA hval hsz
  obtain ⟨v0, vs0, d0, ds0, p0, q0, hargs, rfl, rfl, h0, r0⟩ := trodAll_cons hA
  obtain ⟨rfl, rfl, rfl⟩ := trodAll_nil r0
  obtain rfl : args = #[v0] := by cases args; simp_all
  obtain ⟨rfl, rfl⟩ := trodVars_none hV
  have lt0 : ∀ x ∈ p0, x.block < W.heap.size := by obtain ⟨m, hm⟩ := h0; exact DataW.trod_lt m _ _ _ hm
  have k0 := h0
  have sz0 : Sz 28 d0 := sz_arg (j := 0) hsz rfl rfl
  obtain ⟨e0, rfl, w0⟩ := open_evz (hval 0 28 v0 rfl rfl) h0 sz0
  clear hA0 hval0
  refine (walk e0 W w0).mono fun e W' ⟨he, bel⟩ => ?_
  subst he
  exact ⟨_, rfl, _, _, _, [], _, [], hW', trodAll_mk1 (shut_bool Try.underlying4 _), (trodAll_cons_mk (Below.trod laidOut (by kernel_rfl) (of_decide_eq_true (by kernel_rfl)) k0 bel lt0) trodAll_mk0), rfl, bel.frame _, fun h => by cases h⟩

theorem proved : Rows.EventBendsSaid :=
  OpenClaim.holds_of_wide 6 Try.f6 rfl rfl rfl rfl rfl rfl rfl ⟨rfl, rfl, rfl, rfl, rfl⟩ rfl rfl rfl rfl rfl (by kernel_rfl) Try.func6 (by kernel_rfl)
    (of_decide_eq_true (by kernel_rfl)) (by unfold Func.isWrapper; first | (rw [if_pos (by decide +kernel)]; kernel_rfl) | (rw [if_neg (by decide +kernel)]; exact ⟨rfl, rfl⟩))
    (fun os started H enc _ => lifted os started H enc)
#print axioms proved
end Go.Proofs.Ytiemlnomlfebkaa.EventBends

/- EventBack: right events that are put are got as they were; what is got is right, and put as it was: the whole statement, without a condition. -/
import Derived.Test.YtiemlnomlfebkaaMem
import Derived.Deep.RegionHeld
import Derived.Test.YtiemlnomlfebkaaEvGetM
import Derived.Test.YtiemlnomlfebkaaEvCopy
import Derived.Test.YtiemlnomlfebkaaRSt
import Derived.Deep.DeepCutAuto
import Derived.Test.YtiemlnomlfebkaaDotAdd
import Derived.Test.YtiemlnomlfebkaaEvRow
import Derived.Test.YtiemlnomlfebkaaRows
import Derived.ProofKit
import Derived.OpenShut
import Derived.ShutString
import Derived.ChangeOld
import Derived.Below
import Derived.Deep.Slices
import Derived.Deep.Fields
import Derived.Deep.Strs
import Derived.SizedLaws
import Derived.Test.YtiemlnomlfebkaaEvAlive
import Derived.Test.YtiemlnomlfebkaaEvPlain
/- Regions that draw their order: loads that a call waits for may be taken first, whatever the call and what stands behind it write. -/
namespace Go.Proofs.Ytiemlnomlfebkaa
open Go.RowKit
section
variable {P : Program} {ops : Array Oper} {Q : Exit → Act → World → Prop} {md : Region.Mode} {S : World → Prop} {c : Nat}
/-- Whatever order is picked from here on; S holds behind every operation, till number c has come up. -/
def wpAnyC (P : Program) (md : Region.Mode) (ops : Array Oper) (Q : Exit → Act → World → Prop) (S : World → Prop) (c : Nat) : Nat → Array Bool → Act → World → Prop
  | 0, listed, a, w => Region.ready md ops listed = [] ∧ Q .normal a w
  | fuel + 1, listed, a, w =>
    (Region.ready md ops listed = [] → Q .normal a w) ∧
    ∀ i ∈ Region.ready md ops listed, wpOp P ops Q i (fun a' w' => ((listed.setIfInBounds i true).getD c true = false → S w') ∧ wpAnyC P md ops Q S c fuel (listed.setIfInBounds i true) a' w') a w
theorem wpAny_of_C : ∀ (fuel : Nat) (listed : Array Bool) (a : Act) (w : World), wpAnyC P md ops Q S c fuel listed a w → wpAny P md ops Q fuel listed a w
  | 0, _, _, _, h => h
  | fuel + 1, _, _, _, h => ⟨h.1, fun i hi => wpOp_mono (fun a' w' h' => wpAny_of_C fuel _ a' w' h'.2) (h.2 i hi)⟩
theorem wpAnyC_first {i : Nat} {oi : Oper} {v : Value} (hi : ops[i]? = some oi) (hsel : ∀ (j : Nat) (o : Oper) cs b, ops[j]? = some o → o.op ≠ .select cs b)
    (hQ : ∀ c a w, Q (.panic c) (a.put oi.dst v) w → Q (.panic c) a w) (hic : i ≠ c) (hdep : ∀ oc, ops[c]? = some oc → ∃ e ∈ oc.after, Region.binds md e = true ∧ e.on = i) :
    ∀ (fuel : Nat) (listed : Array Bool) (a : Act) (w : World),
      (∀ j oj, ops[j]? = some oj → j ≠ i → listed.getD j true = false → (∀ e ∈ oj.after, Region.binds md e = true → e.on ≠ i) → oi.apart ops oj = true) →
      i ∈ Region.ready md ops listed → listed.getD c true = false → YieldsIf P ops S oi v a → S w →
      wpAnyC P md ops Q S c fuel (listed.setIfInBounds i true) (a.put oi.dst v) w → wpAnyC P md ops Q S c (fuel + 1) listed a w := by
  intro fuel
  induction fuel with
  | zero =>
    intro listed a w _ hr _ hy hS H
    refine ⟨fun h => (by rw [h] at hr; cases hr), fun j hj => ?_⟩
    by_cases hji : j = i
    · subst hji; exact hy.wpOp hi hS ⟨fun _ => hS, H⟩
    · have := ready_mono hj hji
      rw [H.1] at this
      cases this
  | succ fuel ih =>
    intro listed a w hfree hr hcl hy hS H
    refine ⟨fun h => (by rw [h] at hr; cases hr), fun j hj => ?_⟩
    by_cases hji : j = i
    · subst hji; exact hy.wpOp hi hS ⟨fun _ => hS, H⟩
    · have h1 := H.2 j (ready_mono hj hji)
      obtain ⟨hjun, oj, hoj, hall⟩ := mem_ready.1 hj
      have hnot : ∀ e ∈ oj.after, Region.binds md e = true → e.on ≠ i := fun e he hb heq => by
        have h1 := hall e he hb
        have h0 := (mem_ready.1 hr).1
        rw [heq] at h1
        rcases Nat.lt_or_ge i listed.size with h' | h'
        · simp [h'] at h0 h1; rw [h0] at h1; cases h1
        · simp [Array.getElem?_eq_none h'] at h1
      have hjc : j ≠ c := fun e => by
        subst e
        obtain ⟨e, he, hb, hon⟩ := hdep oj hoj
        exact hnot e he hb hon
      have hcl2 : (listed.setIfInBounds j true).getD c true = false := by rw [getD_set_ne true hjc]; exact hcl
      have hcl3 : ((listed.setIfInBounds i true).setIfInBounds j true).getD c true = false := by rw [getD_set_ne true hjc, getD_set_ne true hic]; exact hcl
      have h2 := wpOp_putIf hoj (hfree j oj hoj hji hjun hnot) (fun cs b => hsel i oi cs b hi) (fun cs b => hsel j oj cs b hoj) hQ hy h1
      have hfree' : ∀ k ok, ops[k]? = some ok → k ≠ i → (listed.setIfInBounds j true).getD k true = false →
          (∀ e ∈ ok.after, Region.binds md e = true → e.on ≠ i) → oi.apart ops ok = true := fun k ok hk hki hun hno => by
        refine hfree k ok hk hki ?_ hno
        by_cases hjk : j = k
        · subst hjk; exact hjun
        · rw [getD_set_ne true hjk] at hun; exact hun
      refine wpOp_mono (fun a' w' h3 => ⟨fun _ => h3.2.1 hcl3, ih (listed.setIfInBounds j true) a' w' hfree' (ready_mono hr (Ne.symm hji)) hcl2 h3.1 (h3.2.1 hcl3) ?_⟩) h2
      rw [Array.setIfInBounds_comm _ _ hji]
      exact h3.2.2
theorem wpAnyC_firstP {p : List Nat} {i : Nat} {oi : Oper} {v : Value} (hi : ops[i]? = some oi) (hsel : ∀ (j : Nat) (o : Oper) cs b, ops[j]? = some o → o.op ≠ .select cs b)
    (hQ : ∀ c a w, Q (.panic c) (a.put oi.dst v) w → Q (.panic c) a w) (hic : i ≠ c) (hip : i ∈ p) (hcp : c ∈ p) (hdep : ∀ m ∈ p, m ≠ i → ∀ om, ops[m]? = some om → ∃ e ∈ om.after, Region.binds md e = true ∧ e.on ∈ p) :
    ∀ (fuel : Nat) (listed : Array Bool) (a : Act) (w : World),
      (∀ j oj, ops[j]? = some oj → j ≠ i → listed.getD j true = false → (∀ e ∈ oj.after, Region.binds md e = true → e.on ≠ i) → oi.apart ops oj = true) →
      i ∈ Region.ready md ops listed → (∀ m ∈ p, listed.getD m true = false) → YieldsIf P ops S oi v a → S w →
      wpAnyC P md ops Q S c fuel (listed.setIfInBounds i true) (a.put oi.dst v) w → wpAnyC P md ops Q S c (fuel + 1) listed a w := by
  intro fuel
  induction fuel with
  | zero =>
    intro listed a w _ hr _ hy hS H
    refine ⟨fun h => (by rw [h] at hr; cases hr), fun j hj => ?_⟩
    by_cases hji : j = i
    · subst hji; exact hy.wpOp hi hS ⟨fun _ => hS, H⟩
    · have := ready_mono hj hji
      rw [H.1] at this
      cases this
  | succ fuel ih =>
    intro listed a w hfree hr hcl hy hS H
    refine ⟨fun h => (by rw [h] at hr; cases hr), fun j hj => ?_⟩
    by_cases hji : j = i
    · subst hji; exact hy.wpOp hi hS ⟨fun _ => hS, H⟩
    · have h1 := H.2 j (ready_mono hj hji)
      obtain ⟨hjun, oj, hoj, hall⟩ := mem_ready.1 hj
      have hnot : ∀ e ∈ oj.after, Region.binds md e = true → e.on ≠ i := fun e he hb heq => by
        have h1 := hall e he hb
        have h0 := (mem_ready.1 hr).1
        rw [heq] at h1
        rcases Nat.lt_or_ge i listed.size with h' | h'
        · simp [h'] at h0 h1; rw [h0] at h1; cases h1
        · simp [Array.getElem?_eq_none h'] at h1
      have hjp : ∀ m ∈ p, j ≠ m := fun m hm e => by
        subst e
        obtain ⟨e, he, hb, hon⟩ := hdep j hm hji oj hoj
        have h1 := hall e he hb
        have h0 := hcl _ hon
        rcases Nat.lt_or_ge e.on listed.size with h' | h'
        · simp [h'] at h0 h1; rw [h0] at h1; cases h1
        · simp [Array.getElem?_eq_none h'] at h1
      have hcl2 : ∀ m ∈ p, (listed.setIfInBounds j true).getD m true = false := fun m hm => by rw [getD_set_ne true (hjp m hm)]; exact hcl m hm
      have hcl3 : ((listed.setIfInBounds i true).setIfInBounds j true).getD c true = false := by rw [getD_set_ne true (hjp c hcp), getD_set_ne true hic]; exact hcl c hcp
      have h2 := wpOp_putIf hoj (hfree j oj hoj hji hjun hnot) (fun cs b => hsel i oi cs b hi) (fun cs b => hsel j oj cs b hoj) hQ hy h1
      have hfree' : ∀ k ok, ops[k]? = some ok → k ≠ i → (listed.setIfInBounds j true).getD k true = false →
          (∀ e ∈ ok.after, Region.binds md e = true → e.on ≠ i) → oi.apart ops ok = true := fun k ok hk hki hun hno => by
        refine hfree k ok hk hki ?_ hno
        by_cases hjk : j = k
        · subst hjk; exact hjun
        · rw [getD_set_ne true hjk] at hun; exact hun
      refine wpOp_mono (fun a' w' h3 => ⟨fun _ => h3.2.1 hcl3, ih (listed.setIfInBounds j true) a' w' hfree' (ready_mono hr (Ne.symm hji)) hcl2 h3.1 (h3.2.1 hcl3) ?_⟩) h2
      rw [Array.setIfInBounds_comm _ _ hji]
      exact h3.2.2
/-- Take number i, that c waits for through the operations of p, first. -/
theorem wpAnyC_takeP (p : List Nat) {i : Nat} {oi : Oper} {v : Value} {fuel : Nat} {listed : Array Bool} {a : Act} {w : World} (hi : ops[i]? = some oi)
    (hs : Region.noSelect ops = true) (hf : Region.free md ops listed i = true) (hr : (Region.ready md ops listed).contains i = true)
    (hQ : ∀ c a w, Q (.panic c) (a.put oi.dst v) w → Q (.panic c) a w) (hic : i ≠ c) (hip : i ∈ p) (hcp : c ∈ p)
    (hdep : (p.all fun m => m == i || ((ops[m]?).map fun om => om.after.any fun e => Region.binds md e && p.contains e.on) == some true) = true) (hcl : (p.all fun m => listed.getD m true == false) = true)
    (hy : YieldsIf P ops S oi v a) (hS : S w)
    (h : wpAnyC P md ops Q S c fuel (listed.setIfInBounds i true) (a.put oi.dst v) w) : wpAnyC P md ops Q S c (fuel + 1) listed a w :=
  wpAnyC_firstP hi (Region.noSelect_spec hs) hQ hic hip hcp (fun m hm hmi om ho => by
    have h1 := List.all_eq_true.1 hdep m hm
    rw [ho] at h1
    simp only [Option.map_some, Bool.or_eq_true, beq_iff_eq, Option.some.injEq] at h1
    obtain ⟨e, he, hb⟩ := Array.any_eq_true'.1 (h1.resolve_left hmi)
    simp only [Bool.and_eq_true] at hb
    exact ⟨e, he, hb.1, by simpa using hb.2⟩) fuel listed a w (Region.free_spec hi hf) (by simpa using hr) (fun m hm => by simpa using List.all_eq_true.1 hcl m hm) hy hS h
/-- Take number i, that c waits for, first. -/
theorem wpAnyC_take {i : Nat} {oi : Oper} {v : Value} {fuel : Nat} {listed : Array Bool} {a : Act} {w : World} (hi : ops[i]? = some oi)
    (hs : Region.noSelect ops = true) (hf : Region.free md ops listed i = true) (hr : (Region.ready md ops listed).contains i = true)
    (hQ : ∀ c a w, Q (.panic c) (a.put oi.dst v) w → Q (.panic c) a w) (hic : i ≠ c) (hdep : ((ops[c]?).map fun oc => oc.after.any fun e => Region.binds md e && e.on == i) = some true) (hcl : listed.getD c true = false)
    (hy : YieldsIf P ops S oi v a) (hS : S w)
    (h : wpAnyC P md ops Q S c fuel (listed.setIfInBounds i true) (a.put oi.dst v) w) : wpAnyC P md ops Q S c (fuel + 1) listed a w :=
  wpAnyC_first hi (Region.noSelect_spec hs) hQ hic (fun oc ho => by
    rw [ho] at hdep
    simp only [Option.map_some, Option.some.injEq] at hdep
    obtain ⟨e, he, hb⟩ := Array.any_eq_true'.1 hdep
    simp only [Bool.and_eq_true, beq_iff_eq] at hb
    exact ⟨e, he, hb.1, hb.2⟩) fuel listed a w (Region.free_spec hi hf) (by simpa using hr) hcl hy hS h
theorem wpAnyC_first0 {i : Nat} {oi : Oper} {v : Value} (hi : ops[i]? = some oi) (hsel : ∀ (j : Nat) (o : Oper) cs b, ops[j]? = some o → o.op ≠ .select cs b)
    (hQ : ∀ c a w, Q (.panic c) (a.put oi.dst v) w → Q (.panic c) a w) (hic : i ≠ c) :
    ∀ (fuel : Nat) (listed : Array Bool) (a : Act) (w : World),
      (∀ j oj, ops[j]? = some oj → j ≠ i → listed.getD j true = false → (∀ e ∈ oj.after, Region.binds md e = true → e.on ≠ i) → oi.apart ops oj = true) →
      i ∈ Region.ready md ops listed → YieldsIf P ops (fun _ => True) oi v a → (listed.getD c true = false → S w) →
      wpAnyC P md ops Q S c fuel (listed.setIfInBounds i true) (a.put oi.dst v) w → wpAnyC P md ops Q S c (fuel + 1) listed a w := by
  intro fuel
  induction fuel with
  | zero =>
    intro listed a w _ hr hy hS H
    refine ⟨fun h => (by rw [h] at hr; cases hr), fun j hj => ?_⟩
    by_cases hji : j = i
    · subst hji; exact hy.wpOp hi trivial ⟨fun h => hS (by rw [getD_set_ne true hic] at h; exact h), H⟩
    · have := ready_mono hj hji
      rw [H.1] at this
      cases this
  | succ fuel ih =>
    intro listed a w hfree hr hy hS H
    refine ⟨fun h => (by rw [h] at hr; cases hr), fun j hj => ?_⟩
    by_cases hji : j = i
    · subst hji; exact hy.wpOp hi trivial ⟨fun h => hS (by rw [getD_set_ne true hic] at h; exact h), H⟩
    · have h1 := H.2 j (ready_mono hj hji)
      obtain ⟨hjun, oj, hoj, hall⟩ := mem_ready.1 hj
      have hnot : ∀ e ∈ oj.after, Region.binds md e = true → e.on ≠ i := fun e he hb heq => by
        have h1 := hall e he hb
        have h0 := (mem_ready.1 hr).1
        rw [heq] at h1
        rcases Nat.lt_or_ge i listed.size with h' | h'
        · simp [h'] at h0 h1; rw [h0] at h1; cases h1
        · simp [Array.getElem?_eq_none h'] at h1
      have h2 := wpOp_putIf hoj (hfree j oj hoj hji hjun hnot) (fun cs b => hsel i oi cs b hi) (fun cs b => hsel j oj cs b hoj) hQ hy h1
      have hfree' : ∀ k ok, ops[k]? = some ok → k ≠ i → (listed.setIfInBounds j true).getD k true = false →
          (∀ e ∈ ok.after, Region.binds md e = true → e.on ≠ i) → oi.apart ops ok = true := fun k ok hk hki hun hno => by
        refine hfree k ok hk hki ?_ hno
        by_cases hjk : j = k
        · subst hjk; exact hjun
        · rw [getD_set_ne true hjk] at hun; exact hun
      have hsw : ∀ w', (((listed.setIfInBounds i true).setIfInBounds j true).getD c true = false → S w') → (listed.setIfInBounds j true).getD c true = false → S w' := fun w' h h' => h (by
        rw [Array.setIfInBounds_comm _ _ (Ne.symm hji), getD_set_ne true hic]; exact h')
      refine wpOp_mono (fun a' w' h3 => ⟨hsw w' h3.2.1, ih (listed.setIfInBounds j true) a' w' hfree' (ready_mono hr (Ne.symm hji)) h3.1 (hsw w' h3.2.1) ?_⟩) h2
      rw [Array.setIfInBounds_comm _ _ hji]
      exact h3.2.2
/-- What yields its value in whatever world may be taken first. -/
theorem wpAnyC_pure {i : Nat} {oi : Oper} {v : Value} {fuel : Nat} {listed : Array Bool} {a : Act} {w : World} (hi : ops[i]? = some oi)
    (hs : Region.noSelect ops = true) (hf : Region.free md ops listed i = true) (hr : (Region.ready md ops listed).contains i = true)
    (hQ : ∀ c a w, Q (.panic c) (a.put oi.dst v) w → Q (.panic c) a w) (hic : i ≠ c) (hy : Yields P ops oi v a) (hS : listed.getD c true = false → S w)
    (h : wpAnyC P md ops Q S c fuel (listed.setIfInBounds i true) (a.put oi.dst v) w) : wpAnyC P md ops Q S c (fuel + 1) listed a w :=
  wpAnyC_first0 hi (Region.noSelect_spec hs) hQ hic fuel listed a w (Region.free_spec hi hf) (by simpa using hr) (Yields.yieldsIf hy) hS h
/-- Each of the operations comes up next. -/
def AllReadyC (P : Program) (md : Region.Mode) (ops : Array Oper) (Q : Exit → Act → World → Prop) (S : World → Prop) (c : Nat) (fuel : Nat) (listed : Array Bool) (a : Act) (w : World) (rs : List Nat) : Prop :=
  ∀ i ∈ rs, wpOp P ops Q i (fun a' w' => ((listed.setIfInBounds i true).getD c true = false → S w') ∧ wpAnyC P md ops Q S c fuel (listed.setIfInBounds i true) a' w') a w
theorem AllReadyC.nil {fuel : Nat} {listed : Array Bool} {a : Act} {w : World} : AllReadyC P md ops Q S c fuel listed a w [] := fun _ h => by cases h
/-- From number c on nothing is asked of S. -/
theorem AllReadyC.cons {fuel : Nat} {listed : Array Bool} {a : Act} {w : World} {i : Nat} {o : Oper} {rs : List Nat} (ho : ops[i]? = some o) (hl : (listed.setIfInBounds i true).getD c true = true)
    (h : ∀ K' : Act → World → Prop, Shut (∀ a w, wpAnyC P md ops Q S c fuel (listed.setIfInBounds i true) a w → K' a w) → if Region.wanted o (yielded ops a.tmps) = true then Oper.wp P o a w K' Q else K' (a.put o.dst undef) w)
    (hs : AllReadyC P md ops Q S c fuel listed a w rs) : AllReadyC P md ops Q S c fuel listed a w (i :: rs) := fun j hj => by
  rcases List.mem_cons.1 hj with rfl | hj
  · exact wpOp_step ho (fun K' hK => h K' (fun a w hW => hK a w ⟨(fun h => by rw [hl] at h; cases h), hW⟩))
  · exact hs j hj
/-- An operation ahead of number c: S is shown of what it leaves. -/
theorem AllReadyC.consS {fuel : Nat} {listed : Array Bool} {a : Act} {w : World} {i : Nat} {o : Oper} {rs : List Nat} (ho : ops[i]? = some o)
    (h : ∀ K' : Act → World → Prop, Shut (∀ a w, S w → wpAnyC P md ops Q S c fuel (listed.setIfInBounds i true) a w → K' a w) → if Region.wanted o (yielded ops a.tmps) = true then Oper.wp P o a w K' Q else K' (a.put o.dst undef) w)
    (hs : AllReadyC P md ops Q S c fuel listed a w rs) : AllReadyC P md ops Q S c fuel listed a w (i :: rs) := fun j hj => by
  rcases List.mem_cons.1 hj with rfl | hj
  · exact wpOp_step ho (fun K' hK => h K' (fun a w hS hW => hK a w ⟨fun _ => hS, hW⟩))
  · exact hs j hj
theorem wpAnyC_ready {rs : List Nat} {fuel : Nat} {listed : Array Bool} {a : Act} {w : World} (hr : Region.ready md ops listed = rs) (hne : rs ≠ [])
    (h : AllReadyC P md ops Q S c fuel listed a w rs) : wpAnyC P md ops Q S c (fuel + 1) listed a w := ⟨fun h0 => absurd (hr ▸ h0) hne, fun i hi => h i (hr ▸ hi)⟩
theorem wpAnyC_done {listed : Array Bool} {a : Act} {w : World} (hr : Region.ready md ops listed = []) (h : Q .normal a w) : ∀ fuel, wpAnyC P md ops Q S c fuel listed a w
  | 0 => ⟨hr, h⟩
  | _ + 1 => ⟨fun _ => h, by rw [hr]; simp⟩
theorem wp_region_C (S : World → Prop) (c : Nat) {id : Nat} {a : Act} {w : World} (hm : P.follows .mixedOrders = true)
    (h : wpAnyC P .any ops Q S c ops.size (Array.replicate ops.size false) a w.drew) : (Code.region id ops true).wp P Q a w :=
  wp_region_any hm (wpAny_of_C _ _ _ _ h)
end
end Go.Proofs.Ytiemlnomlfebkaa

/- The walk of the document's Read of an event (printed by wip/gen/evread.py). -/
namespace Go.Proofs.Ytiemlnomlfebkaa
open Go.RowKit
open Dot Evt
namespace Evt
/-- so many numbers, as the document's reader has them -/
def rdN : Nat → List UInt8 → Nat → List Int × List UInt8 × Nat
  | 0, l, e => ([], l, e)
  | k + 1, l, e =>
    let a := Vint.intM l e
    let R := rdN k a.2.1 a.2.2
    ((a.1 : Int) :: R.1, R.2)
def rd7 (l : List UInt8) (e : Nat) : List Int × List UInt8 × Nat := rdN 7 l e
/-- up to so many dots, as the document's reader has them -/
def rdDD : Nat → List UInt8 → Nat → List Dt × List UInt8 × Nat
  | 0, l, e => ([], l, e)
  | k + 1, l, e => if (rdDD k l e).2.2 = 0 then
      let a := Vint.intM (rdDD k l e).2.1 0
      let b := Vint.intM a.2.1 a.2.2
      ((rdDD k l e).1 ++ [((a.1 : Int), (b.1 : Int))], b.2)
    else rdDD k l e
/-- what is behind the kind -/
def rdK (n q t k w : Nat) (l : List UInt8) (e : Nat) : Ev × List UInt8 × Nat :=
  if k = 1 then
    let v := Vint.intM l e
    (⟨((n : Int), (q : Int)), t, k, w, (v.1 : Nat), p0, []⟩, v.2)
  else
    let P := if k = 2 then rd7 l e else (p0, l, e)
    let m := Vint.intM P.2.1 P.2.2
    let e6 := if 96 < m.1 then (if m.2.2 = 0 then 6 else m.2.2) else m.2.2
    let D := rdDD m.1 m.2.1 e6
    (⟨((n : Int), (q : Int)), t, k, w, 0, P.1, D.1⟩, D.2)
/-- an event, as the document's reader has it -/
def rdE (l : List UInt8) : Ev × List UInt8 × Nat :=
  let a := Vint.intM l 0
  let b := Vint.intM a.2.1 a.2.2
  let c := Vint.intM b.2.1 b.2.2
  let d := Vint.intM c.2.1 c.2.2
  let e4 := if d.2.2 = 0 ∧ ¬ (1 ≤ d.1 ∧ d.1 ≤ 3) then 4 else d.2.2
  let f := Vint.intM d.2.1 e4
  rdK a.1 b.1 c.1 d.1 f.1 f.2.1 f.2.2
theorem rd7_len (l : List UInt8) (e : Nat) : (rd7 l e).1.length = 7 := rfl
theorem rdK_p (n q t k w : Nat) (l : List UInt8) (e : Nat) : (rdK n q t k w l e).1.p.length = 7 := by
  unfold rdK
  by_cases h1 : k = 1
  · rw [if_pos h1]; rfl
  · rw [if_neg h1]
    by_cases h2 : k = 2
    · simp only [if_pos h2]; exact rd7_len l e
    · simp only [if_neg h2]; rfl
theorem rdDD_stuck (l : List UInt8) (e k : Nat) (h : (rdDD k l e).2.2 ≠ 0) : ∀ m, k ≤ m → rdDD m l e = rdDD k l e := by
  intro m
  induction m with
  | zero => intro hk; obtain rfl : k = 0 := by omega
            rfl
  | succ m ih =>
    intro hk
    by_cases e1 : k = m + 1
    · rw [e1]
    · have h1 := ih (by omega)
      rw [rdDD, if_neg (by rw [h1]; exact h), h1]
/-! the same as with early ends -/
theorem rdN_bad (k : Nat) : ∀ (l : List UInt8) (e : Nat), e ≠ 0 → (rdN k l e).2.2 = e := by
  induction k with
  | zero => intro l e _; rfl
  | succ k ih =>
    intro l e h
    show (rdN k (Vint.intM l e).2.1 (Vint.intM l e).2.2).2.2 = e
    rw [intM_err h]
    exact ih l e h
theorem rdN_ok (k : Nat) : ∀ (l : List UInt8) (ns : List Nat) (r : List UInt8), decs k l = .ok (ns, r) → rdN k l 0 = (ns.map fun x : Nat => (x : Int), r, 0) := by
  induction k with
  | zero => intro l ns r h; simp [decs] at h; obtain ⟨rfl, rfl⟩ := h; rfl
  | succ k ih =>
    intro l ns r h
    unfold decs at h
    split at h
    · cases h
    · rename_i n l1 h1
      split at h
      · cases h
      · rename_i ns' r' h2
        injection h with h
        injection h with h h'
        subst h h'
        show (((Vint.intM l 0).1 : Int) :: (rdN k (Vint.intM l 0).2.1 (Vint.intM l 0).2.2).1, (rdN k (Vint.intM l 0).2.1 (Vint.intM l 0).2.2).2) = _
        rw [Vint.intM_ok h1]
        simp only
        rw [ih _ _ _ h2]
        rfl
theorem rdN_err (k : Nat) : ∀ (l : List UInt8) (y : Nat), decs k l = .error y → (rdN k l 0).2.2 = y ∧ y ≠ 0 := by
  induction k with
  | zero => intro l y h; cases h
  | succ k ih =>
    intro l y h
    unfold decs at h
    show (rdN k (Vint.intM l 0).2.1 (Vint.intM l 0).2.2).2.2 = y ∧ _
    split at h
    · rename_i x h1
      injection h with h
      subst h
      have hx := Vint.dec_err h1
      have hne : x ≠ 0 := by omega
      rw [Vint.intM_bad h1]
      exact ⟨rdN_bad k _ _ hne, hne⟩
    · rename_i n l1 h1
      split at h
      · rename_i x h2
        injection h with h
        subst h
        rw [Vint.intM_ok h1]
        exact ih _ _ h2
      · cases h
theorem rdDD_ok (k : Nat) (l : List UInt8) : ∀ (ds : List Dt) (r : List UInt8), decD k l = .ok (ds, r) → rdDD k l 0 = (ds, r, 0) := by
  induction k with
  | zero => intro ds r h; simp [decD] at h; obtain ⟨rfl, rfl⟩ := h; rfl
  | succ k ih =>
    intro ds r h
    unfold decD at h
    split at h
    · cases h
    · rename_i ds' r' h0
      split at h
      · cases h
      · rename_i n r1 h1
        split at h
        · cases h
        · rename_i q r2 h2
          injection h with h
          injection h with h h'
          subst h h'
          rw [rdDD, ih _ _ h0, if_pos rfl]
          simp only [Vint.intM_ok h1, Vint.intM_ok h2]
theorem rdDD_err (k : Nat) (l : List UInt8) : ∀ (y : Nat), decD k l = .error y → (rdDD k l 0).2.2 = y ∧ y ≠ 0 := by
  induction k with
  | zero => intro y h; cases h
  | succ k ih =>
    intro y h
    unfold decD at h
    split at h
    · rename_i x h0
      injection h with h
      subst h
      obtain ⟨q1, q2⟩ := ih _ h0
      rw [rdDD, if_neg (by rw [q1]; exact q2)]
      exact ⟨q1, q2⟩
    · rename_i ds' r' h0
      rw [rdDD, rdDD_ok k l _ _ h0, if_pos rfl]
      split at h
      · rename_i x h1
        injection h with h
        subst h
        have hx := Vint.dec_err h1
        simp only [Vint.intM_bad h1]
        rw [intM_err (by omega)]
        exact ⟨rfl, by omega⟩
      · rename_i n r1 h1
        split at h
        · rename_i x h2
          injection h with h
          subst h
          have hx := Vint.dec_err h2
          simp only [Vint.intM_ok h1, Vint.intM_bad h2]
          first | exact ⟨rfl, by omega⟩ | exact ⟨trivial, by omega⟩
        · cases h
theorem rdDD_bad (k : Nat) (l : List UInt8) (e : Nat) (h : e ≠ 0) : rdDD k l e = ([], l, e) := rdDD_stuck l e 0 h k (Nat.zero_le _)
/-- the dots that an event removes, as the document's reader has them -/
def rdLL (l : List UInt8) (e : Nat) : List Dt × List UInt8 × Nat :=
  let m := Vint.intM l e
  let e6 := if 96 < m.1 then (if m.2.2 = 0 then 6 else m.2.2) else m.2.2
  rdDD m.1 m.2.1 e6
theorem rdLL_ok {l : List UInt8} {ds : List Dt} {r : List UInt8} (h : decL l = .ok (ds, r)) : rdLL l 0 = (ds, r, 0) := by
  unfold decL at h
  split at h
  · cases h
  · rename_i m r1 h1
    split at h
    · cases h
    · rename_i hm
      simp only [rdLL, Vint.intM_ok h1, if_neg hm]
      exact rdDD_ok _ _ _ _ h
theorem rdLL_err {l : List UInt8} {y : Nat} (h : decL l = .error y) : (rdLL l 0).2.2 = y ∧ y ≠ 0 := by
  unfold decL at h
  split at h
  · rename_i x h1
    injection h with h
    subst h
    have hx := Vint.dec_err h1
    simp only [rdLL, Vint.intM_bad h1]
    rw [if_neg (by omega), rdDD_bad _ _ _ (by omega)]
    exact ⟨rfl, by omega⟩
  · rename_i m r1 h1
    split at h
    · rename_i hm
      injection h with h
      subst h
      simp only [rdLL, Vint.intM_ok h1, if_pos hm, if_true]
      rw [rdDD_bad _ _ _ (by omega)]
      exact ⟨rfl, by omega⟩
    · rename_i hm
      simp only [rdLL, Vint.intM_ok h1, if_neg hm]
      exact rdDD_err _ _ _ h
theorem rdLL_bad {l : List UInt8} {e : Nat} (h : e ≠ 0) : (rdLL l e).2.2 = e := by
  simp only [rdLL, intM_err h]
  rw [if_neg (by omega), rdDD_bad _ _ _ h]
theorem rdK_eq (n q t k w : Nat) (l : List UInt8) (e : Nat) : rdK n q t k w l e = if k = 1 then (⟨((n : Int), (q : Int)), t, k, w, ((Vint.intM l e).1 : Nat), p0, []⟩, (Vint.intM l e).2) else
    if k = 2 then (⟨((n : Int), (q : Int)), t, k, w, 0, (rd7 l e).1, (rdLL (rd7 l e).2.1 (rd7 l e).2.2).1⟩, (rdLL (rd7 l e).2.1 (rd7 l e).2.2).2)
    else (⟨((n : Int), (q : Int)), t, k, w, 0, p0, (rdLL l e).1⟩, (rdLL l e).2) := by
  unfold rdK
  by_cases h1 : k = 1
  · rw [if_pos h1, if_pos h1]
  · rw [if_neg h1, if_neg h1]
    by_cases h2 : k = 2
    · simp only [if_pos h2]; rfl
    · simp only [if_neg h2]; rfl
theorem rdK_bad (n q t k w : Nat) {l : List UInt8} {e : Nat} (h : e ≠ 0) : (rdK n q t k w l e).2.2 = e := by
  rw [rdK_eq]
  by_cases h1 : k = 1
  · rw [if_pos h1]; simp only [intM_err h]
  · rw [if_neg h1]
    by_cases h2 : k = 2
    · rw [if_pos h2]
      have h3 := rdN_bad 7 l e h
      simp only
      rw [rdLL_bad (by unfold rd7; rw [h3]; exact h)]
      exact h3
    · rw [if_neg h2]
      exact rdLL_bad h
theorem rdK_ok {n q t k w : Nat} {l : List UInt8} {x : Ev} {r : List UInt8} (h : decK n q t k w l = .ok (x, r)) : rdK n q t k w l 0 = (x, r, 0) := by
  rw [rdK_eq]
  unfold decK at h
  by_cases h1 : k = 1
  · rw [if_pos h1] at h ⊢
    split at h
    · cases h
    · rename_i h2
      injection h with h
      injection h with h h'
      subst h h'
      simp only [Vint.intM_ok h2]
  · rw [if_neg h1] at h ⊢
    by_cases h2 : k = 2
    · rw [if_pos h2] at h ⊢
      split at h
      · cases h
      · rename_i h3
        split at h
        · cases h
        · rename_i h4
          injection h with h
          injection h with h h'
          subst h h'
          have h5 := rdN_ok 7 _ _ _ h3
          unfold rd7
          rw [h5]
          simp only [rdLL_ok h4]
    · rw [if_neg h2] at h ⊢
      split at h
      · cases h
      · rename_i h4
        injection h with h
        injection h with h h'
        subst h h'
        simp only [rdLL_ok h4]
theorem rdK_err {n q t k w : Nat} {l : List UInt8} {y : Nat} (h : decK n q t k w l = .error y) : (rdK n q t k w l 0).2.2 = y ∧ y ≠ 0 := by
  rw [rdK_eq]
  unfold decK at h
  by_cases h1 : k = 1
  · rw [if_pos h1] at h ⊢
    split at h
    · rename_i h2
      injection h with h
      subst h
      have := Vint.dec_err h2
      simp only [Vint.intM_bad h2]
      exact ⟨trivial, by omega⟩
    · cases h
  · rw [if_neg h1] at h ⊢
    by_cases h2 : k = 2
    · rw [if_pos h2] at h ⊢
      split at h
      · rename_i h3
        injection h with h
        subst h
        obtain ⟨q1, q2⟩ := rdN_err 7 _ _ h3
        unfold rd7
        simp only
        rw [rdLL_bad (by rw [q1]; exact q2)]
        exact ⟨q1, q2⟩
      · rename_i h3
        split at h
        · rename_i h4
          injection h with h
          subst h
          have h5 := rdN_ok 7 _ _ _ h3
          unfold rd7
          rw [h5]
          exact rdLL_err h4
        · cases h
    · rw [if_neg h2] at h ⊢
      split at h
      · rename_i h4
        injection h with h
        subst h
        exact rdLL_err h4
      · cases h
theorem rdE_eq {l : List UInt8} : (∀ x r, decE l = .ok (x, r) → rdE l = (x, r, 0)) ∧ ∀ y, decE l = .error y → (rdE l).2.2 = y ∧ y ≠ 0 := by
  cases h0 : Vint.dec l with
  | error x0 =>
    have hx := Vint.dec_err h0
    refine ⟨fun x r h => ?_, fun y h => ?_⟩
    · simp [decE, h0] at h
    · simp [decE, h0] at h
      subst h
      have hne : x0 ≠ 0 := by omega
      simp only [rdE, Vint.intM_bad h0, intM_err hne, hne, false_and, if_false]
      exact ⟨rdK_bad _ _ _ _ _ hne, hne⟩
  | ok p0 =>
    obtain ⟨n, l1⟩ := p0
    cases h1 : Vint.dec l1 with
    | error x0 =>
      have hx := Vint.dec_err h1
      refine ⟨fun x r h => ?_, fun y h => ?_⟩
      · simp [decE, h0, h1] at h
      · simp [decE, h0, h1] at h
        subst h
        have hne : x0 ≠ 0 := by omega
        simp only [rdE, Vint.intM_ok h0, Vint.intM_bad h1, intM_err hne, hne, false_and, if_false]
        exact ⟨rdK_bad _ _ _ _ _ hne, hne⟩
    | ok p1 =>
      obtain ⟨q, l2⟩ := p1
      cases h2 : Vint.dec l2 with
      | error x0 =>
        have hx := Vint.dec_err h2
        refine ⟨fun x r h => ?_, fun y h => ?_⟩
        · simp [decE, h0, h1, h2] at h
        · simp [decE, h0, h1, h2] at h
          subst h
          have hne : x0 ≠ 0 := by omega
          simp only [rdE, Vint.intM_ok h0, Vint.intM_ok h1, Vint.intM_bad h2, intM_err hne, hne, false_and, if_false]
          exact ⟨rdK_bad _ _ _ _ _ hne, hne⟩
      | ok p2 =>
        obtain ⟨t, l3⟩ := p2
        cases h3 : Vint.dec l3 with
        | error x0 =>
          have hx := Vint.dec_err h3
          refine ⟨fun x r h => ?_, fun y h => ?_⟩
          · simp [decE, h0, h1, h2, h3] at h
          · simp [decE, h0, h1, h2, h3] at h
            subst h
            have hne : x0 ≠ 0 := by omega
            simp only [rdE, Vint.intM_ok h0, Vint.intM_ok h1, Vint.intM_ok h2, Vint.intM_bad h3, intM_err hne, hne, false_and, if_false]
            exact ⟨rdK_bad _ _ _ _ _ hne, hne⟩
        | ok p3 =>
          obtain ⟨k, l4⟩ := p3
          by_cases hk : 1 ≤ k ∧ k ≤ 3
          · cases h4 : Vint.dec l4 with
            | error x0 =>
              have hx := Vint.dec_err h4
              refine ⟨fun x r h => ?_, fun y h => ?_⟩
              · simp [decE, h0, h1, h2, h3, h4, hk] at h
              · simp [decE, h0, h1, h2, h3, h4, hk] at h
                subst h
                have hne : x0 ≠ 0 := by omega
                simp only [rdE, Vint.intM_ok h0, Vint.intM_ok h1, Vint.intM_ok h2, Vint.intM_ok h3, hk, and_self, not_true_eq_false, and_false, if_false, Vint.intM_bad h4]
                exact ⟨rdK_bad _ _ _ _ _ hne, hne⟩
            | ok p4 =>
              obtain ⟨w, l5⟩ := p4
              refine ⟨fun x r h => ?_, fun y h => ?_⟩
              · have h' : decK n q t k w l5 = .ok (x, r) := by simpa [decE, h0, h1, h2, h3, h4, hk] using h
                simp only [rdE, Vint.intM_ok h0, Vint.intM_ok h1, Vint.intM_ok h2, Vint.intM_ok h3, hk, and_self, not_true_eq_false, and_false, if_false, Vint.intM_ok h4]
                exact rdK_ok h'
              · have h' : decK n q t k w l5 = .error y := by simpa [decE, h0, h1, h2, h3, h4, hk] using h
                simp only [rdE, Vint.intM_ok h0, Vint.intM_ok h1, Vint.intM_ok h2, Vint.intM_ok h3, hk, and_self, not_true_eq_false, and_false, if_false, Vint.intM_ok h4]
                exact rdK_err h'
          · refine ⟨fun x r h => ?_, fun y h => ?_⟩
            · simp [decE, h0, h1, h2, h3, hk] at h
            · simp [decE, h0, h1, h2, h3, hk] at h
              subst h
              simp only [rdE, Vint.intM_ok h0, Vint.intM_ok h1, Vint.intM_ok h2, Vint.intM_ok h3, hk, not_false_eq_true, and_true, if_true, intM_err (show (4 : Nat) ≠ 0 by omega)]
              exact ⟨rdK_bad _ _ _ _ _ (by omega), by omega⟩
end Evt
/-- what Read of an event leaves -/
def ReadEv (w : World) (g : Nat) (A : Option Addr) (n c : Nat) (bs r0 : List UInt8) (e : Ending) (w' : World) : Prop :=
  ∃ A' m' c', e = .returned (.agg (ec (rdE r0).1 (.slice A' m' c'))) ∧ OwnD w' w.heap.size A' m' c' (rdE r0).1.l ∧ RSt w' g A n c bs (rdE r0).2.1 (rdE r0).2.2 ∧ w.grownBy w' (some g)
theorem stepsD {w : World} {ops : Array Oper} {o : Oper} {a : Act} {K : Act → World → Prop} {Q : Exit → Act → World → Prop} {E : Prop} (hgd : o.guard = none) (s x : Operand)
    (ho : o.op = .call { callee := .builtin .append, args := #[s, x], argTypes := #[26, 26] })
    {base : Nat} {A : Option Addr} {n c : Nat} {bs : List Dt} (hs : a.eval s = .slice A n c) (hown : OwnD w base A n c bs)
    {B : Nat} {D : Option Addr} {m d : Nat} {news : List Dt} (hx : a.eval x = .slice D m d) (hr : Rd w B D (dcs news)) (hm : m = news.length)
    (hbytes : n + m ≤ 1000000000000) (hbase : base ≤ w.heap.size)
    (h : ∀ A' c' w', OwnD w' base A' (n + m) c' (bs ++ news) → w.grownBy w' (A.map (·.block)) → Moved A' (A.map (·.block)) w.heap.size → Below base w w' →
      K (a.put o.dst (.slice A' (n + m) c')) w') :
    if Region.wanted o (yielded ops a.tmps) = true then Oper.wp Try.prog o a w K Q else E := by
  have hw : Region.wanted o (yielded ops a.tmps) = true := by simp [Region.wanted, hgd]
  rw [if_pos hw]
  obtain ⟨i0, hi, hz0, hz1, hz2⟩ := info_parts infoD
  have hob : (Value.slice A n c).ownBlock = A.map (·.block) := by cases A <;> rfl
  obtain ⟨v', w', hrun, h2, h3, h4⟩ := run_app (P := Try.prog) w base 26 o.type 23 i0 (.agg #[.int .i64 0, .int .i64 0]) 2 16 Try.underlying26 hi hz0 hz1 hz2 rfl (by decide) (.slice A n c) n _ hown.2 B D m d (dcs news) hr (by rw [dcs_len, hm]) (dcs_one _) (by unfold maxLen; omega) (by omega) hbase
  unfold Oper.wp execOp
  simp only [ho, resolve, invoke, builtin, Sem.run_bind, Sem.run_pure, Result.andThen_ok, List.map_toArray, List.map_cons, List.map_nil, hs, hx, hrun]
  have hv : ∃ A' c', v' = .slice A' (n + m) c' ∧ v'.ownBlock = A'.map (·.block) := by
    rcases h2.2 with ⟨rfl, h0⟩ | ⟨g, cap, cur, rfl, _⟩
    · exact ⟨none, 0, by rw [h0], rfl⟩
    · exact ⟨_, _, rfl, rfl⟩
  obtain ⟨A', c', rfl, hb⟩ := hv
  rw [hb] at h4
  rw [hob] at h3 h4
  exact h _ _ _ ⟨by rw [List.length_append, hown.1, hm], by rw [dcs_app]; exact h2⟩ h3 h4 ((Below.refl _ _).grown h3 hbase (fun g hg => (hown.lt g hg).1))
/-- while an event is read: the result's and the event's own memory, the reader -/
structure RdS (w0 : World) (g b : Nat) (A : Option Addr) (n c : Nat) (bs : List UInt8) (cs : Array Value) (r : List UInt8) (e : Nat) (w : World) : Prop where
  kz : Blk w b 28 (cT 0)
  kx : Blk w (b + 1) 28 cs
  R : RSt w g A n c bs r e
  gW : w0.grownBy w (some g)
section
variable {w0 w w' : World} {g b n c : Nat} {A : Option Addr} {bs r : List UInt8} {cs : Array Value} {e : Nat}
theorem RdS.after (h : RdS w0 g b A n c bs cs r e w) (hgb : g < b) {r' : List UInt8} {e' : Nat} (gg : w.grownBy w' (some g)) (R : RSt w' g A n c bs r' e') : RdS w0 g b A n c bs cs r' e' w' :=
  ⟨h.kz.grown gg (fun h => by injection h; omega), h.kx.grown gg (fun h => by injection h; omega), R, grown_trans h.gW gg⟩
theorem RdS.set_ (h : RdS w0 g b A n c bs cs r e w) (hgb : g < b) (hw : w0.heap.size ≤ b) (i : Nat) (v : Value) : RdS w0 g b A n c bs (cs.setIfInBounds i v) r e (w.setCell ⟨b + 1, i, none⟩ v) :=
  ⟨h.kz.far (p := ⟨b + 1, i, none⟩) (by show b ≠ b + 1; omega) v, h.kx.set_ i v, h.R.map fun _ _ k => k.far (p := ⟨b + 1, i, none⟩) (by show g ≠ b + 1; omega) v, only_new h.gW (p := ⟨b + 1, i, none⟩) (by show _ ≤ b + 1; omega) v⟩
theorem RdS.cs_ (h : RdS w0 g b A n c bs cs r e w) {cs' : Array Value} (hc : cs = cs') : RdS w0 g b A n c bs cs' r e w := hc ▸ h
end
set_option maxRecDepth 100000 in
set_option maxHeartbeats 4000000 in
theorem rread07_any (g : Nat) (A : Option Addr) (n c B : Nat) (bs r0 : List UInt8) (w : World) (hR : RSt w g A n c bs r0 0) (hb : RdB w B A n bs) (hB : B ≤ g) (hglt : g < w.heap.size) (hn : n ≤ 1000000000) :
    Calls Try.prog 46 #[.pointer (some ⟨g, 0, none⟩)] w (ReadEv w g A n c bs r0) := by
  have HBG := Lib.hid (hb.more hB)
  have HGL := Lib.hid hglt
  clear hb
  have HINT := Lib.hid (fun (r : List UInt8) (e : Nat) (w1 : World) (h : RSt w1 g A n c bs r e) (gW : w.grownBy w1 (some g)) => rint_m g A n c g bs r e w1 h (Rdr.only HBG.out gW HGL.out) hn)
  go_enter Try.func46, Try.ntmps46
  go_upto_region 2 with fail
  refine nameW ?_
  intro wv hwv
  obtain ⟨b, hbb⟩ : ∃ b, b = w.heap.size := ⟨_, rfl⟩
  rw [← hbb]
  have h0 : RdS w g b A n c bs (cT 0) r0 0 wv := by
    refine ⟨?_, ?_, ?_, ?_⟩
    · rw [hwv, hbb]; exact (Blk.new w _ _).alloc _
    · have h := Blk.new (w.alloc (.cells (cT 0) 28)) 28 (cT 0)
      rw [show (w.alloc (.cells (cT 0) 28)).heap.size = w.heap.size + 1 by simp] at h
      rw [hwv, hbb]
      exact h
    · rw [hwv]; exact hR.map (fun _ _ k => (k.alloc _).alloc _)
    · rw [hwv]; exact only_alloc (only_alloc (World.grownBy.refl _ _) _) _
  have HW := Lib.hid (show w.heap.size ≤ b ∧ g < b from by omega)
  clear hwv hbb hR hglt
  go_wp2_with fail
  refine (HINT.out _ _ _ h0.R h0.gW).mono ?_
  rintro e w1 ⟨rfl, gg, R1⟩
  obtain ⟨n1, r1, e1, hI⟩ : ∃ n1 r1 e1, Vint.intM r0 0 = (n1, r1, e1) := ⟨_, _, _, rfl⟩
  rw [hI] at R1 ⊢
  have HI0 := Lib.hid hI
  have h0' := h0.after HW.out.2 gg R1
  clear gg hI R1 h0
  have cc := h0'.kx.cell 0
  have fc := h0'.kx.free 0
  have h1 := (h0'.set_ HW.out.2 HW.out.1 0 (.int .i64 (n1 : Nat))).cs_ (cs' := #[.int .i64 (n1 : Nat), .int .i64 0, .int .i64 0, .int .i64 0, .int .i64 0, .int .i64 0, .int .i64 0, .int .i64 0, .int .i64 0, .int .i64 0, .int .i64 0, .int .i64 0, .int .i64 0, .slice none 0 0]) rfl
  clear h0'
  go_upto_region 3 with fail
  refine nameW ?_
  intro W1 hwn
  rw [← hwn] at h1
  clear hwn cc fc
  go_wp2_with fail
  refine (HINT.out _ _ _ h1.R h1.gW).mono ?_
  rintro e w2 ⟨rfl, gg, R2⟩
  obtain ⟨q, r2, e2, hI⟩ : ∃ q r2 e2, Vint.intM r1 e1 = (q, r2, e2) := ⟨_, _, _, rfl⟩
  rw [hI] at R2 ⊢
  have HI1 := Lib.hid hI
  have h1' := h1.after HW.out.2 gg R2
  clear gg hI R2 h1
  have cc := h1'.kx.cell 1
  have fc := h1'.kx.free 1
  have h2 := (h1'.set_ HW.out.2 HW.out.1 1 (.int .i64 (q : Nat))).cs_ (cs' := #[.int .i64 (n1 : Nat), .int .i64 (q : Nat), .int .i64 0, .int .i64 0, .int .i64 0, .int .i64 0, .int .i64 0, .int .i64 0, .int .i64 0, .int .i64 0, .int .i64 0, .int .i64 0, .int .i64 0, .slice none 0 0]) rfl
  clear h1'
  go_upto_region 4 with fail
  refine nameW ?_
  intro W2 hwn
  rw [← hwn] at h2
  clear hwn cc fc
  go_wp2_with fail
  refine (HINT.out _ _ _ h2.R h2.gW).mono ?_
  rintro e w3 ⟨rfl, gg, R3⟩
  obtain ⟨t, r3, e3, hI⟩ : ∃ t r3 e3, Vint.intM r2 e2 = (t, r3, e3) := ⟨_, _, _, rfl⟩
  rw [hI] at R3 ⊢
  have HI2 := Lib.hid hI
  have h2' := h2.after HW.out.2 gg R3
  clear gg hI R3 h2
  have cc := h2'.kx.cell 2
  have fc := h2'.kx.free 2
  have h3 := (h2'.set_ HW.out.2 HW.out.1 2 (.int .i64 (t : Nat))).cs_ (cs' := #[.int .i64 (n1 : Nat), .int .i64 (q : Nat), .int .i64 (t : Nat), .int .i64 0, .int .i64 0, .int .i64 0, .int .i64 0, .int .i64 0, .int .i64 0, .int .i64 0, .int .i64 0, .int .i64 0, .int .i64 0, .slice none 0 0]) rfl
  clear h2'
  go_upto_region 5 with fail
  refine nameW ?_
  intro W3 hwn
  rw [← hwn] at h3
  clear hwn cc fc
  go_wp2_with fail
  refine (HINT.out _ _ _ h3.R h3.gW).mono ?_
  rintro e w4 ⟨rfl, gg, R4⟩
  obtain ⟨k, r4, e4, hI⟩ : ∃ k r4 e4, Vint.intM r3 e3 = (k, r4, e4) := ⟨_, _, _, rfl⟩
  rw [hI] at R4 ⊢
  have HI3 := Lib.hid hI
  have h3' := h3.after HW.out.2 gg R4
  clear gg hI R4 h3
  have cc := h3'.kx.cell 3
  have fc := h3'.kx.free 3
  have h4 := (h3'.set_ HW.out.2 HW.out.1 3 (.int .i64 (k : Nat))).cs_ (cs' := #[.int .i64 (n1 : Nat), .int .i64 (q : Nat), .int .i64 (t : Nat), .int .i64 (k : Nat), .int .i64 0, .int .i64 0, .int .i64 0, .int .i64 0, .int .i64 0, .int .i64 0, .int .i64 0, .int .i64 0, .int .i64 0, .slice none 0 0]) rfl
  clear h3'
  go_upto_region 6 with fail
  refine nameW ?_
  intro W4 hwn
  rw [← hwn] at h4
  clear hwn cc fc
  obtain ⟨F, hF⟩ : ∃ F : Bool, F = decide (e4 = 0 ∧ ¬ (1 ≤ k ∧ k ≤ 3)) := ⟨_, rfl⟩
  have HF := Lib.hid hF
  clear hF
  go_cut [35] (fun f wx => f = .bool F ∧ W4 = wx)
  case first =>
    obtain ⟨at4, _, kR, _⟩ := h4.R
    have c2 : W4.cell? ⟨g, 2, none⟩ = some (.int .i64 (e4 : Nat)) := kR.cell 2
    have c3 : W4.cell? ⟨b + 1, 3, none⟩ = some (.int .i64 (k : Nat)) := h4.kx.cell 3
    by_cases he : e4 = 0
    · have hq : ((e4 : Int) == 0) = true := by rw [beq_iff_eq]; omega
      by_cases hk1 : 1 ≤ k
      · have d1 : decide ((k : Int) < 1) = false := decide_eq_false (by omega)
        by_cases hk2 : k ≤ 3
        · have d3 : decide ((3 : Int) < (k : Int)) = false := decide_eq_false (by omega)
          have hf : F = false := by rw [HF.out]; simp [hk1, hk2]
          subst hf
          clear he kR
          go_wp2_with fail
          go_meet
          exact ⟨rfl, rfl⟩
        · have d3 : decide ((3 : Int) < (k : Int)) = true := decide_eq_true (by omega)
          have hf : F = true := by rw [HF.out]; simp [he, hk2]
          subst hf
          clear he kR
          go_wp2_with fail
          go_meet
          exact ⟨rfl, rfl⟩
      · have d1 : decide ((k : Int) < 1) = true := decide_eq_true (by omega)
        have hf : F = true := by rw [HF.out]; simp [he, hk1]
        subst hf
        clear he kR
        go_wp2_with fail
        go_meet
        exact ⟨rfl, rfl⟩
    · have hq : ((e4 : Int) == 0) = false := by rw [beq_eq_false_iff_ne]; omega
      have hf : F = false := by rw [HF.out]; simp [he]
      subst hf
      clear he kR
      go_wp2_with fail
      go_meet
      exact ⟨rfl, rfl⟩
  case rest =>
  obtain ⟨rfl, rfl⟩ := hcut
  obtain ⟨f4, hf4⟩ : ∃ f4 : Nat, f4 = if e4 = 0 ∧ ¬ (1 ≤ k ∧ k ≤ 3) then 4 else e4 := ⟨_, rfl⟩
  have HF4 := Lib.hid hf4
  clear hf4
  go_upto_if 35 with fail
  go_cut [] (fun wx => RdS w g b A n c bs #[.int .i64 (n1 : Nat), .int .i64 (q : Nat), .int .i64 (t : Nat), .int .i64 (k : Nat), .int .i64 0, .int .i64 0, .int .i64 0, .int .i64 0, .int .i64 0, .int .i64 0, .int .i64 0, .int .i64 0, .int .i64 0, .slice none 0 0] r4 f4 wx)
  case first =>
    cases F
    case false =>
      have hf : f4 = e4 := by
        rw [HF4.out, if_neg]
        intro h
        have := HF.out
        rw [decide_eq_true h] at this
        cases this
      rw [← hf] at h4
      clear hf
      go_wp2_with fail
      go_meet
      exact h4
    case true =>
      have hf : f4 = 4 := by
        rw [HF4.out, if_pos (of_decide_eq_true HF.out.symm)]
      obtain ⟨kz, kx, ⟨at4, q1, kR, q2⟩, gW⟩ := h4
      have c2 : W4.cell? ⟨g, 2, none⟩ = some (.int .i64 (e4 : Nat)) := kR.cell 2
      have f2 := kR.free 2
      have hn5 : RdS w g b A n c bs #[.int .i64 (n1 : Nat), .int .i64 (q : Nat), .int .i64 (t : Nat), .int .i64 (k : Nat), .int .i64 0, .int .i64 0, .int .i64 0, .int .i64 0, .int .i64 0, .int .i64 0, .int .i64 0, .int .i64 0, .int .i64 0, .slice none 0 0] r4 4 (W4.setCell ⟨g, 2, none⟩ (.int .i64 4)) := ⟨kz.far (p := ⟨g, 2, none⟩) (by show b ≠ g; have := HW.out; omega) _, kx.far (p := ⟨g, 2, none⟩) (by show b + 1 ≠ g; have := HW.out; omega) _, ⟨at4, q1, kR.set_ 2 _, q2⟩, only_set gW _⟩
      have HN5 := Lib.hid hn5
      have HFF := Lib.hid hf
      clear hf hn5 kz kx kR gW
      go_wp2_with fail
      go_meet
      rw [HFF.out]
      exact HN5.out
  case rest =>
  have h4 := hcut
  clear hcut
  rename_i _ W4
  go_upto_region 8 with fail
  go_wp2_with fail
  refine (HINT.out _ _ _ h4.R h4.gW).mono ?_
  rintro e w5 ⟨rfl, gg, R5⟩
  obtain ⟨wk, r5, e5, hI⟩ : ∃ wk r5 e5, Vint.intM r4 f4 = (wk, r5, e5) := ⟨_, _, _, rfl⟩
  rw [hI] at R5 ⊢
  have HI4 := Lib.hid hI
  have h4' := h4.after HW.out.2 gg R5
  clear gg hI R5 h4
  have cc := h4'.kx.cell 4
  have fc := h4'.kx.free 4
  have h5 := (h4'.set_ HW.out.2 HW.out.1 4 (.int .i64 (wk : Nat))).cs_ (cs' := #[.int .i64 (n1 : Nat), .int .i64 (q : Nat), .int .i64 (t : Nat), .int .i64 (k : Nat), .int .i64 (wk : Nat), .int .i64 0, .int .i64 0, .int .i64 0, .int .i64 0, .int .i64 0, .int .i64 0, .int .i64 0, .int .i64 0, .slice none 0 0]) rfl
  clear h4'
  go_upto_region 9 with fail
  refine nameW ?_
  intro W5 hwn
  rw [← hwn] at h5
  clear hwn cc fc
  by_cases hk1 : k = 1
  · have hq1 : ((k : Int) == 1) = true := by rw [beq_iff_eq]; omega
    have HK1 := Lib.hid hk1
    clear hk1
    have cc := h5.kx.cell 3
    have c3 : W5.cell? ⟨b + 1, 3, none⟩ = some (.int .i64 (k : Nat)) := cc
    clear cc
    go_wp2_with fail
    clear c3
    refine (HINT.out _ _ _ h5.R h5.gW).mono ?_
    rintro e w6 ⟨rfl, gg, R6⟩
    obtain ⟨v, r6, e6, hI⟩ : ∃ v r6 e6, Vint.intM r5 e5 = (v, r6, e6) := ⟨_, _, _, rfl⟩
    rw [hI] at R6 ⊢
    have HI5 := Lib.hid hI
    have h5' := h5.after HW.out.2 gg R6
    clear gg hI R6 h5
    have cc := h5'.kx.cell 5
    have fc := h5'.kx.free 5
    have h6 := (h5'.set_ HW.out.2 HW.out.1 5 (.int .i64 (v : Nat))).cs_ (cs' := #[.int .i64 (n1 : Nat), .int .i64 (q : Nat), .int .i64 (t : Nat), .int .i64 (k : Nat), .int .i64 (wk : Nat), .int .i64 (v : Nat), .int .i64 0, .int .i64 0, .int .i64 0, .int .i64 0, .int .i64 0, .int .i64 0, .int .i64 0, .slice none 0 0]) rfl
    clear h5'
    go_upto_region 11 with fail
    refine nameW ?_
    intro W6 hwn
    rw [← hwn] at h6
    clear hwn cc fc
    have HE := Lib.hid (show rdE r0 = (⟨((n1 : Int), (q : Int)), (t : Nat), (k : Nat), (wk : Nat), (v : Nat), Evt.p0, []⟩, r6, e6) by
      have h1 := HF4.out
      simp only [rdE, HI0.out, HI1.out, HI2.out, HI3.out]
      rw [← h1, HI4.out, rdK_eq, if_pos HK1.out, HI5.out])
    obtain ⟨cz, hcz⟩ : ∃ cz : Array Value, cz = #[.int .i64 (n1 : Nat), .int .i64 (q : Nat), .int .i64 (t : Nat), .int .i64 (k : Nat), .int .i64 (wk : Nat), .int .i64 (v : Nat), .int .i64 0, .int .i64 0, .int .i64 0, .int .i64 0, .int .i64 0, .int .i64 0, .int .i64 0, .slice none 0 0] := ⟨_, rfl⟩
    have hf := h6.cs_ hcz.symm
    have SX := Lib.hid (show cz.size = 14 by rw [hcz]; rfl)
    have OX := Lib.hid (show cz.all (·.oneCell') = true by rw [hcz]; kernel_rfl)
    have SZ := Lib.hid (show (cT 0).size = 14 from rfl)
    have HCZ := Lib.hid hcz
    obtain ⟨kz, kx, hRf, gWf⟩ := hf
    clear hcz h6
    go_wp2_with first
      | ((with_reducible refine wpList_ld rowE kx SX.out ?_ ?_); rotate_left; (rfl))
      | ((with_reducible refine wpList_st rowE kz SX.out SZ.out OX.out ?_ ?_ ?_); rotate_left; (rfl); (rfl); intro w92 k92 g92 z92)
    have hR92 := hRf.map (fun _ _ k => k.grown g92 (fun h => by injection h; have := HW.out; omega))
    have gW92 := grown_on gWf g92 HW.out.1
    exact bodyPost_ret (v := .agg cz) (results_blk rfl rowE k92 SX.out rfl) rfl ⟨none, 0, 0, by rw [HE.out, HCZ.out]; rfl, by rw [HE.out]; exact OwnD.nil _ _, by rw [HE.out]; exact hR92, gW92⟩
  have hq1 : ((k : Int) == 1) = false := by rw [beq_eq_false_iff_ne]; omega
  have HK1 := Lib.hid hk1
  clear hk1
  have c3 : W5.cell? ⟨b + 1, 3, none⟩ = some (.int .i64 (k : Nat)) := h5.kx.cell 3
  obtain ⟨P, rP, eP, hP⟩ : ∃ P rP eP, (if k = 2 then rd7 r5 e5 else (Evt.p0, r5, e5)) = (P, rP, eP) := ⟨_, _, _, rfl⟩
  have HP := Lib.hid hP
  clear hP
  go_upto_if 51 with fail
  go_cut [] (fun wx => RdS w g b A n c bs #[.int .i64 (n1 : Nat), .int .i64 (q : Nat), .int .i64 (t : Nat), .int .i64 (k : Nat), .int .i64 (wk : Nat), .int .i64 0, .int .i64 (P.getD 0 0), .int .i64 (P.getD 1 0), .int .i64 (P.getD 2 0), .int .i64 (P.getD 3 0), .int .i64 (P.getD 4 0), .int .i64 (P.getD 5 0), .int .i64 (P.getD 6 0), .slice none 0 0] rP eP wx)
  case first =>
    by_cases hk2 : k = 2
    · have hq2 : ((k : Int) == 2) = true := by rw [beq_iff_eq]; omega
      have HK2 := Lib.hid hk2
      clear hk2
      go_wp2_with fail
      clear c3
      refine (HINT.out _ _ _ h5.R h5.gW).mono ?_
      rintro e w6 ⟨rfl, gg, R6⟩
      obtain ⟨y0, r6, e6, hI⟩ : ∃ y0 r6 e6, Vint.intM r5 e5 = (y0, r6, e6) := ⟨_, _, _, rfl⟩
      rw [hI] at R6 ⊢
      have HI5 := Lib.hid hI
      have h5' := h5.after HW.out.2 gg R6
      clear gg hI R6 h5
      have cc := h5'.kx.cell 6
      have fc := h5'.kx.free 6
      have h6 := (h5'.set_ HW.out.2 HW.out.1 6 (.int .i64 (y0 : Nat))).cs_ (cs' := #[.int .i64 (n1 : Nat), .int .i64 (q : Nat), .int .i64 (t : Nat), .int .i64 (k : Nat), .int .i64 (wk : Nat), .int .i64 0, .int .i64 (y0 : Nat), .int .i64 0, .int .i64 0, .int .i64 0, .int .i64 0, .int .i64 0, .int .i64 0, .slice none 0 0]) rfl
      clear h5'
      go_upto_region 14 with fail
      refine nameW ?_
      intro W6 hwn
      rw [← hwn] at h6
      clear hwn cc fc
      go_wp2_with fail
      refine (HINT.out _ _ _ h6.R h6.gW).mono ?_
      rintro e w7 ⟨rfl, gg, R7⟩
      obtain ⟨y1, r7, e7, hI⟩ : ∃ y1 r7 e7, Vint.intM r6 e6 = (y1, r7, e7) := ⟨_, _, _, rfl⟩
      rw [hI] at R7 ⊢
      have HI6 := Lib.hid hI
      have h6' := h6.after HW.out.2 gg R7
      clear gg hI R7 h6
      have cc := h6'.kx.cell 7
      have fc := h6'.kx.free 7
      have h7 := (h6'.set_ HW.out.2 HW.out.1 7 (.int .i64 (y1 : Nat))).cs_ (cs' := #[.int .i64 (n1 : Nat), .int .i64 (q : Nat), .int .i64 (t : Nat), .int .i64 (k : Nat), .int .i64 (wk : Nat), .int .i64 0, .int .i64 (y0 : Nat), .int .i64 (y1 : Nat), .int .i64 0, .int .i64 0, .int .i64 0, .int .i64 0, .int .i64 0, .slice none 0 0]) rfl
      clear h6'
      go_upto_region 15 with fail
      refine nameW ?_
      intro W7 hwn
      rw [← hwn] at h7
      clear hwn cc fc
      go_wp2_with fail
      refine (HINT.out _ _ _ h7.R h7.gW).mono ?_
      rintro e w8 ⟨rfl, gg, R8⟩
      obtain ⟨y2, r8, e8, hI⟩ : ∃ y2 r8 e8, Vint.intM r7 e7 = (y2, r8, e8) := ⟨_, _, _, rfl⟩
      rw [hI] at R8 ⊢
      have HI7 := Lib.hid hI
      have h7' := h7.after HW.out.2 gg R8
      clear gg hI R8 h7
      have cc := h7'.kx.cell 8
      have fc := h7'.kx.free 8
      have h8 := (h7'.set_ HW.out.2 HW.out.1 8 (.int .i64 (y2 : Nat))).cs_ (cs' := #[.int .i64 (n1 : Nat), .int .i64 (q : Nat), .int .i64 (t : Nat), .int .i64 (k : Nat), .int .i64 (wk : Nat), .int .i64 0, .int .i64 (y0 : Nat), .int .i64 (y1 : Nat), .int .i64 (y2 : Nat), .int .i64 0, .int .i64 0, .int .i64 0, .int .i64 0, .slice none 0 0]) rfl
      clear h7'
      go_upto_region 16 with fail
      refine nameW ?_
      intro W8 hwn
      rw [← hwn] at h8
      clear hwn cc fc
      go_wp2_with fail
      refine (HINT.out _ _ _ h8.R h8.gW).mono ?_
      rintro e w9 ⟨rfl, gg, R9⟩
      obtain ⟨y3, r9, e9, hI⟩ : ∃ y3 r9 e9, Vint.intM r8 e8 = (y3, r9, e9) := ⟨_, _, _, rfl⟩
      rw [hI] at R9 ⊢
      have HI8 := Lib.hid hI
      have h8' := h8.after HW.out.2 gg R9
      clear gg hI R9 h8
      have cc := h8'.kx.cell 9
      have fc := h8'.kx.free 9
      have h9 := (h8'.set_ HW.out.2 HW.out.1 9 (.int .i64 (y3 : Nat))).cs_ (cs' := #[.int .i64 (n1 : Nat), .int .i64 (q : Nat), .int .i64 (t : Nat), .int .i64 (k : Nat), .int .i64 (wk : Nat), .int .i64 0, .int .i64 (y0 : Nat), .int .i64 (y1 : Nat), .int .i64 (y2 : Nat), .int .i64 (y3 : Nat), .int .i64 0, .int .i64 0, .int .i64 0, .slice none 0 0]) rfl
      clear h8'
      go_upto_region 17 with fail
      refine nameW ?_
      intro W9 hwn
      rw [← hwn] at h9
      clear hwn cc fc
      go_wp2_with fail
      refine (HINT.out _ _ _ h9.R h9.gW).mono ?_
      rintro e w10 ⟨rfl, gg, R10⟩
      obtain ⟨y4, r10, e10, hI⟩ : ∃ y4 r10 e10, Vint.intM r9 e9 = (y4, r10, e10) := ⟨_, _, _, rfl⟩
      rw [hI] at R10 ⊢
      have HI9 := Lib.hid hI
      have h9' := h9.after HW.out.2 gg R10
      clear gg hI R10 h9
      have cc := h9'.kx.cell 10
      have fc := h9'.kx.free 10
      have h10 := (h9'.set_ HW.out.2 HW.out.1 10 (.int .i64 (y4 : Nat))).cs_ (cs' := #[.int .i64 (n1 : Nat), .int .i64 (q : Nat), .int .i64 (t : Nat), .int .i64 (k : Nat), .int .i64 (wk : Nat), .int .i64 0, .int .i64 (y0 : Nat), .int .i64 (y1 : Nat), .int .i64 (y2 : Nat), .int .i64 (y3 : Nat), .int .i64 (y4 : Nat), .int .i64 0, .int .i64 0, .slice none 0 0]) rfl
      clear h9'
      go_upto_region 18 with fail
      refine nameW ?_
      intro W10 hwn
      rw [← hwn] at h10
      clear hwn cc fc
      go_wp2_with fail
      refine (HINT.out _ _ _ h10.R h10.gW).mono ?_
      rintro e w11 ⟨rfl, gg, R11⟩
      obtain ⟨y5, r11, e11, hI⟩ : ∃ y5 r11 e11, Vint.intM r10 e10 = (y5, r11, e11) := ⟨_, _, _, rfl⟩
      rw [hI] at R11 ⊢
      have HI10 := Lib.hid hI
      have h10' := h10.after HW.out.2 gg R11
      clear gg hI R11 h10
      have cc := h10'.kx.cell 11
      have fc := h10'.kx.free 11
      have h11 := (h10'.set_ HW.out.2 HW.out.1 11 (.int .i64 (y5 : Nat))).cs_ (cs' := #[.int .i64 (n1 : Nat), .int .i64 (q : Nat), .int .i64 (t : Nat), .int .i64 (k : Nat), .int .i64 (wk : Nat), .int .i64 0, .int .i64 (y0 : Nat), .int .i64 (y1 : Nat), .int .i64 (y2 : Nat), .int .i64 (y3 : Nat), .int .i64 (y4 : Nat), .int .i64 (y5 : Nat), .int .i64 0, .slice none 0 0]) rfl
      clear h10'
      go_upto_region 19 with fail
      refine nameW ?_
      intro W11 hwn
      rw [← hwn] at h11
      clear hwn cc fc
      go_wp2_with fail
      refine (HINT.out _ _ _ h11.R h11.gW).mono ?_
      rintro e w12 ⟨rfl, gg, R12⟩
      obtain ⟨y6, r12, e12, hI⟩ : ∃ y6 r12 e12, Vint.intM r11 e11 = (y6, r12, e12) := ⟨_, _, _, rfl⟩
      rw [hI] at R12 ⊢
      have HI11 := Lib.hid hI
      have h11' := h11.after HW.out.2 gg R12
      clear gg hI R12 h11
      have cc := h11'.kx.cell 12
      have fc := h11'.kx.free 12
      have h12 := (h11'.set_ HW.out.2 HW.out.1 12 (.int .i64 (y6 : Nat))).cs_ (cs' := #[.int .i64 (n1 : Nat), .int .i64 (q : Nat), .int .i64 (t : Nat), .int .i64 (k : Nat), .int .i64 (wk : Nat), .int .i64 0, .int .i64 (y0 : Nat), .int .i64 (y1 : Nat), .int .i64 (y2 : Nat), .int .i64 (y3 : Nat), .int .i64 (y4 : Nat), .int .i64 (y5 : Nat), .int .i64 (y6 : Nat), .slice none 0 0]) rfl
      clear h11'
      have hp : P = [(y0 : Int), (y1 : Int), (y2 : Int), (y3 : Int), (y4 : Int), (y5 : Int), (y6 : Int)] ∧ rP = r12 ∧ eP = e12 := by
        have h := HP.out
        rw [if_pos HK2.out] at h
        simp only [rd7, rdN, HI5.out, HI6.out, HI7.out, HI8.out, HI9.out, HI10.out, HI11.out] at h
        injection h with h1 h2
        injection h2 with h2 h3
        exact ⟨h1.symm, h2.symm, h3.symm⟩
      have H12 := Lib.hid h12
      have HPP := Lib.hid hp
      clear h12 hp
      go_wp2_with fail
      go_meet
      obtain ⟨rfl, rfl, rfl⟩ := HPP.out
      exact H12.out
    · have hq2 : ((k : Int) == 2) = false := by rw [beq_eq_false_iff_ne]; omega
      have hp : P = Evt.p0 ∧ rP = r5 ∧ eP = e5 := by
        have h := HP.out
        rw [if_neg hk2] at h
        injection h with h1 h2
        injection h2 with h2 h3
        exact ⟨h1.symm, h2.symm, h3.symm⟩
      have HPP := Lib.hid hp
      clear hp hk2
      go_wp2_with fail
      go_meet
      obtain ⟨rfl, rfl, rfl⟩ := HPP.out
      exact h5
  case rest =>
  have hp := hcut
  clear hcut h5 c3
  rename_i _ W6
  go_upto_region 20 with fail
  go_wp2_with fail
  refine (HINT.out _ _ _ hp.R hp.gW).mono ?_
  rintro e w7 ⟨rfl, gg, R7⟩
  obtain ⟨m, r7, e7, hI⟩ : ∃ m r7 e7, Vint.intM rP eP = (m, r7, e7) := ⟨_, _, _, rfl⟩
  rw [hI] at R7 ⊢
  have HIM := Lib.hid hI
  have h7 := hp.after HW.out.2 gg R7
  obtain ⟨f7, hf7⟩ : ∃ f7 : Nat, f7 = if 96 < m then (if e7 = 0 then 6 else e7) else e7 := ⟨_, rfl⟩
  have HF7 := Lib.hid hf7
  have HMS := Lib.hid (show f7 = 0 → m ≤ 96 from fun h => by
    false_or_by_contra
    rw [hf7, if_pos (by omega)] at h
    split at h <;> omega)
  have hmb : m ≤ 1099511627776 := by
    have h := hI
    by_cases he : e7 = 0
    · subst he
      have := intM_good (l := rP) (e := eP) (by rw [h])
      rw [h] at this
      exact this.2.2
    · have := intM_small rP eP (by rw [h]; exact he)
      rw [h] at this
      simp only at this
      omega
  have HMB := Lib.hid hmb
  clear gg hI R7 hp hf7 hmb
  go_upto_if 83 with fail
  go_cut [] (fun wx => RdS w g b A n c bs #[.int .i64 (n1 : Nat), .int .i64 (q : Nat), .int .i64 (t : Nat), .int .i64 (k : Nat), .int .i64 (wk : Nat), .int .i64 0, .int .i64 (P.getD 0 0), .int .i64 (P.getD 1 0), .int .i64 (P.getD 2 0), .int .i64 (P.getD 3 0), .int .i64 (P.getD 4 0), .int .i64 (P.getD 5 0), .int .i64 (P.getD 6 0), .slice none 0 0] r7 f7 wx)
  case first =>
    by_cases hm : 96 < m
    · have hd : (96 : Int) < (m : Int) := by omega
      have hf : f7 = if e7 = 0 then 6 else e7 := by rw [HF7.out, if_pos hm]
      have HFF := Lib.hid hf
      clear hf hm
      go_wp2_with fail
      refine (rfail_m g 6 A n c bs r7 e7 _ h7.R).mono ?_
      rintro e w8 ⟨rfl, gg, R8⟩
      rw [← HFF.out] at R8
      have h8 := h7.after HW.out.2 gg R8
      clear gg R8
      go_wp2_with fail
      go_meet
      exact h8
    · have hd : (m : Int) ≤ 96 := by omega
      have hf : f7 = e7 := by rw [HF7.out, if_neg hm]
      rw [← hf] at h7
      clear hf hm
      go_wp2_with fail
      go_meet
      exact h7
  case rest =>
  have h8 := hcut
  clear hcut h7
  rename_i _ W8
  have HFIN := Lib.hid (show rdE r0 = (⟨((n1 : Int), (q : Int)), (t : Nat), (k : Nat), (wk : Nat), 0, P, (rdDD m r7 f7).1⟩, (rdDD m r7 f7).2) by
    have h1 := HF4.out
    have h2 := HP.out
    have h7 := HF7.out
    simp only [rdE, HI0.out, HI1.out, HI2.out, HI3.out]
    rw [← h1, HI4.out]
    simp only [rdK, if_neg HK1.out]
    by_cases hk2 : k = 2
    · rw [if_pos hk2] at h2
      simp only [if_pos hk2, h2, HIM.out]
      rw [← h7]
    · rw [if_neg hk2] at h2
      simp only [if_neg hk2]
      injection h2 with h3 h4
      injection h4 with h4 h5
      subst h3 h4 h5
      simp only [HIM.out]
      rw [← h7])
  go_upto_region 23 with fail
  go_wp2_with fail
  go_loopw [5] (fun i wr => ∃ (j : Nat) (Ad : Option Addr) (md cd : Nat), j ≤ m ∧ i = .int .i64 j ∧ RdS w g b A n c bs #[.int .i64 (n1 : Nat), .int .i64 (q : Nat), .int .i64 (t : Nat), .int .i64 (k : Nat), .int .i64 (wk : Nat), .int .i64 0, .int .i64 (P.getD 0 0), .int .i64 (P.getD 1 0), .int .i64 (P.getD 2 0), .int .i64 (P.getD 3 0), .int .i64 (P.getD 4 0), .int .i64 (P.getD 5 0), .int .i64 (P.getD 6 0), .slice Ad md cd] (rdDD j r7 f7).2.1 (rdDD j r7 f7).2.2 wr ∧ OwnD wr (b + 1 + 1) Ad md cd (rdDD j r7 f7).1 ∧ md ≤ j) (fun i _ => m - (intOf i).toNat)
  case atStart => exact ⟨0, none, 0, 0, by omega, rfl, h8, OwnD.nil _ _, by omega⟩
  case round =>
    clear h8
    obtain ⟨j, Ad, md, cd, hj, rfl, hs, ho, hmd⟩ := hrel
    have hst : (rdDD j r7 f7).2.2 = 0 → f7 = 0 ∧ rdDD (j + 1) r7 f7 = ((rdDD j r7 f7).1 ++ [(((Vint.intM (rdDD j r7 f7).2.1 0).1 : Int), ((Vint.intM (Vint.intM (rdDD j r7 f7).2.1 0).2.1 (Vint.intM (rdDD j r7 f7).2.1 0).2.2).1 : Int))], (Vint.intM (Vint.intM (rdDD j r7 f7).2.1 0).2.1 (Vint.intM (rdDD j r7 f7).2.1 0).2.2).2) := fun h => by
      refine ⟨?_, by rw [rdDD, if_pos h]⟩
      false_or_by_contra
      rename_i hne
      rw [rdDD_bad j r7 f7 hne] at h
      exact hne h
    have hfin : (j = m ∨ (rdDD j r7 f7).2.2 ≠ 0) → rdDD m r7 f7 = rdDD j r7 f7 := fun h => by
      rcases h with h | h
      · rw [h]
      · exact rdDD_stuck r7 f7 j h m hj
    generalize rdDD j r7 f7 = S at *
    obtain ⟨L, r8, e8⟩ := S
    simp only at hs ho hst hfin
    have HST := Lib.hid hst
    have HFN := Lib.hid hfin
    clear hst hfin
    obtain ⟨at8, _, kR, _⟩ := hs.R
    have c2 : wr.cell? ⟨g, 2, none⟩ = some (.int .i64 (e8 : Nat)) := kR.cell 2
    clear kR
    have hmb := HMB.out
    by_cases hgo : j < m ∧ e8 = 0
    case pos =>
      obtain ⟨hlt, rfl⟩ := hgo
      obtain ⟨hf0, hst⟩ := HST.out rfl
      have hm96 := HMS.out hf0
      have HST2 := Lib.hid hst
      have c2 : wr.cell? ⟨g, 2, none⟩ = some (.int .i64 0) := c2
      have hk1 : (j : Int) < (m : Int) := by omega
      clear HST HFN hst hf0
      go_wp2_with fail
      clear c2
      refine (HINT.out _ _ _ hs.R hs.gW).mono ?_
      rintro e w9 ⟨rfl, gg, R9⟩
      obtain ⟨x1, r9, e9, hI⟩ : ∃ x1 r9 e9, Vint.intM r8 0 = (x1, r9, e9) := ⟨_, _, _, rfl⟩
      rw [hI] at R9 ⊢
      have hst := HST2.out
      rw [hI] at hst
      have HST3 := Lib.hid hst
      have h9 := hs.after HW.out.2 gg R9
      have o9 := ho.grown gg (.inr (fun h => by have := (ho.lt g h).1; have := HW.out; omega))
      clear gg hI R9 hs ho HST2 hst
      go_upto_region 27 with fail
      obtain ⟨su, hsu⟩ : ∃ su : Array Value, su = #[.int .i64 (n1 : Nat), .int .i64 (q : Nat), .int .i64 (t : Nat), .int .i64 (k : Nat), .int .i64 (wk : Nat), .int .i64 0, .int .i64 (P.getD 0 0), .int .i64 (P.getD 1 0), .int .i64 (P.getD 2 0), .int .i64 (P.getD 3 0), .int .i64 (P.getD 4 0), .int .i64 (P.getD 5 0), .int .i64 (P.getD 6 0), .slice Ad md cd] := ⟨_, rfl⟩
      rw [← hsu] at h9
      have HU13 := Lib.hid (show su[13]? = some (.slice Ad md cd) by rw [hsu]; rfl)
      have HUS := Lib.hid (fun (A' : Option Addr) (m' c' : Nat) => (show su.setIfInBounds 13 (.slice A' m' c') = #[.int .i64 (n1 : Nat), .int .i64 (q : Nat), .int .i64 (t : Nat), .int .i64 (k : Nat), .int .i64 (wk : Nat), .int .i64 0, .int .i64 (P.getD 0 0), .int .i64 (P.getD 1 0), .int .i64 (P.getD 2 0), .int .i64 (P.getD 3 0), .int .i64 (P.getD 4 0), .int .i64 (P.getD 5 0), .int .i64 (P.getD 6 0), .slice A' m' c'] by rw [hsu]; rfl))
      clear hsu
      refine wp_region_C (fun w' => Blk w' (b + 1) 28 su) 7 (by kernel_rfl) ?_
      replace h9 : RdS w g b A n c bs su r9 e9 w9.drew := ⟨h9.kz, h9.kx, h9.R.map (fun _ _ q => q.drew), only_drew h9.gW⟩
      replace o9 := o9.drew
      generalize w9.drew = wd at *
      refine wpAnyC_pure (i := 0) (v := ?rv952) rfl (by kernel_rfl) (by kernel_rfl) (by kernel_rfl) (fun _ _ _ h => h) (by decide) (Or.inl ⟨by rfl, ?ry952⟩) (fun _ => (h9.kx)) ?_
      case ry952 => ((intro w; go_simp); (try with_reducible rfl))
      simp only [Act.put, List.getElem_toArray, List.getElem_cons_zero, List.getElem_cons_succ, List.setIfInBounds_toArray, List.set_cons_succ, List.set_cons_zero]
      refine wpAnyC_pure (i := 2) (v := ?rv955) rfl (by kernel_rfl) (by kernel_rfl) (by kernel_rfl) (fun _ _ _ h => h) (by decide) (Or.inl ⟨by rfl, ?ry955⟩) (fun _ => (h9.kx)) ?_
      case ry955 => ((intro w; go_simp); (try with_reducible rfl))
      simp only [Act.put, List.getElem_toArray, List.getElem_cons_zero, List.getElem_cons_succ, List.setIfInBounds_toArray, List.set_cons_succ, List.set_cons_zero]
      refine wpAnyC_pure (i := 3) (v := ?rv958) rfl (by kernel_rfl) (by kernel_rfl) (by kernel_rfl) (fun _ _ _ h => h) (by decide) (Or.inl ⟨by rfl, ?ry958⟩) (fun _ => (h9.kx)) ?_
      case ry958 => ((intro w; go_simp); (try with_reducible rfl))
      simp only [Act.put, List.getElem_toArray, List.getElem_cons_zero, List.getElem_cons_succ, List.setIfInBounds_toArray, List.set_cons_succ, List.set_cons_zero]
      refine wpAnyC_take (i := 1) (v := ?rv1) rfl (by kernel_rfl) (by kernel_rfl) (by kernel_rfl) (fun _ _ _ h => h) (by decide) (by kernel_rfl) (by kernel_rfl) (Or.inl ⟨by rfl, ?ry1⟩) h9.kx ?_
      case ry1 => (intro wS hSw; have c8 : wS.cell? ⟨b + 1, 13, none⟩ = some (.slice Ad md cd) := (hSw.cell 13).trans HU13.out; clear hSw; go_simp; (try with_reducible rfl))
      try simp only [Act.put, List.getElem_toArray, List.getElem_cons_zero, List.getElem_cons_succ, List.setIfInBounds_toArray, List.set_cons_succ, List.set_cons_zero]
      refine wpAnyC_ready (rs := [4]) (by kernel_rfl) (by simp) ?_
      refine AllReadyC.consS rfl (fun K hK => ?_) .nil
      go_simp
      refine (HINT.out _ _ _ h9.R h9.gW).mono ?_
      rintro e w10 ⟨rfl, gg, R10⟩
      obtain ⟨x2, r10, e10, hI⟩ : ∃ x2 r10 e10, Vint.intM r9 e9 = (x2, r10, e10) := ⟨_, _, _, rfl⟩
      rw [hI] at R10 ⊢
      have hst := HST3.out
      simp only [hI] at hst
      have HST4 := Lib.hid hst
      have h10 := h9.after HW.out.2 gg R10
      have o10 := o9.grown gg (.inr (fun h => by have := (o9.lt g h).1; have := HW.out; omega))
      refine hK.out _ _ h10.kx ?_
      clear hK K gg hI R10 h9 o9 HST3 hst
      try simp only [Act.put, List.getElem_toArray, List.getElem_cons_zero, List.getElem_cons_succ, List.setIfInBounds_toArray, List.set_cons_succ, List.set_cons_zero]
      refine wpAnyC_pure (i := 5) (v := ?rv979) rfl (by kernel_rfl) (by kernel_rfl) (by kernel_rfl) (fun _ _ _ h => h) (by decide) (Or.inl ⟨by rfl, ?ry979⟩) (fun _ => (h10.kx)) ?_
      case ry979 => ((intro w; go_simp); (try with_reducible rfl))
      simp only [Act.put, List.getElem_toArray, List.getElem_cons_zero, List.getElem_cons_succ, List.setIfInBounds_toArray, List.set_cons_succ, List.set_cons_zero]
      refine wpAnyC_ready (rs := [6]) (by kernel_rfl) (by simp) ?_
      refine AllReadyC.consS rfl (fun K hK => ?_) .nil
      go_simp
      have h11 : RdS w g b A n c bs su r10 e10 (w10.alloc (.cells #[.int .i64 (x1 : Nat), .int .i64 (x2 : Nat)] 23)) := ⟨h10.kz.alloc _, h10.kx.alloc _, h10.R.map (fun _ _ q => q.alloc _), only_alloc h10.gW _⟩
      have o11 := o10.alloc (.cells #[.int .i64 (x1 : Nat), .int .i64 (x2 : Nat)] 23)
      have rX := Rd.made w10 #[.int .i64 (x1 : Nat), .int .i64 (x2 : Nat)] 23 (0, 0)
      refine hK.out _ _ h11.kx ?_
      clear hK K h10 o10
      generalize w10.alloc (.cells #[.int .i64 (x1 : Nat), .int .i64 (x2 : Nat)] 23) = w11 at *
      generalize w10.heap.size = gx at *
      try simp only [Act.put, List.getElem_toArray, List.getElem_cons_zero, List.getElem_cons_succ, List.setIfInBounds_toArray, List.set_cons_succ, List.set_cons_zero]
      have hs11 : b + 1 < w11.heap.size := h11.kx.lt
      refine wpAnyC_ready (rs := [7]) (by kernel_rfl) (by simp) ?_
      refine AllReadyC.cons rfl (by kernel_rfl) (fun K hK => ?_) .nil
      refine stepsD rfl (.tmp 101) (.tmp 106) rfl (by rfl) o11 (by rfl) (m := 1) (news := [(((x1 : Nat) : Int), ((x2 : Nat) : Int))]) rX rfl (by omega) (by omega) ?_
      intro A8 c8' w12 o12 g12 m12 b12
      have h12 : RdS w g b A n c bs su r10 e10 w12 := ⟨h11.kz.grown g12 (own_ne o11.2 h11.kz (by decide)), h11.kx.grown g12 (own_ne o11.2 h11.kx (by decide)), h11.R.map (fun _ _ q => q.grown g12 (fun h => by have := (o11.lt g h).1; have := HW.out; omega)), only_below h11.gW (b12.mono (by have := HW.out; omega))⟩
      refine hK.out _ _ ?_
      clear hK K h11 o11 g12 m12 b12 rX
      try simp only [Act.put, List.getElem_toArray, List.getElem_cons_zero, List.getElem_cons_succ, List.setIfInBounds_toArray, List.set_cons_succ, List.set_cons_zero]
      refine wpAnyC_pure (i := 8) (v := ?rv8) rfl (by kernel_rfl) (by kernel_rfl) (by kernel_rfl) (fun _ _ _ h => h) (by decide) (Or.inl ⟨by rfl, ?ry8⟩) (fun h => absurd h (by decide)) ?_
      case ry8 => ((intro w; go_simp); (try with_reducible rfl))
      try simp only [Act.put, List.getElem_toArray, List.getElem_cons_zero, List.getElem_cons_succ, List.setIfInBounds_toArray, List.set_cons_succ, List.set_cons_zero]
      have c9 : w12.cell? ⟨b + 1, 13, none⟩ = some (.slice Ad md cd) := (h12.kx.cell 13).trans HU13.out
      have f9 := h12.kx.free 13
      have o13 := o12.setFar (p := ⟨b + 1, 13, none⟩) (own_ne o12.2 h12.kx (by decide)) (.slice A8 (md + 1) c8')
      have h13 := (h12.set_ HW.out.2 HW.out.1 13 (.slice A8 (md + 1) c8')).cs_ (HUS.out A8 (md + 1) c8')
      have H13 := Lib.hid h13
      have O13 := Lib.hid o13
      refine wpAnyC_ready (rs := [9]) (by kernel_rfl) (by simp) ?_
      refine AllReadyC.cons rfl (by kernel_rfl) (fun K hK => ?_) .nil
      clear h13 o13 h12 o12
      go_simp
      refine hK.out _ _ ?_
      clear hK K c9 f9
      refine wpAnyC_done (by kernel_rfl) ?_ _
      go_wp2_with fail
      go_roundw
      case rel => exact ⟨j + 1, A8, md + 1, c8', by omega, by go_num, by rw [HST4.out]; exact H13.out, by rw [HST4.out]; exact O13.out, by omega⟩
      case measure => simp [intOf]; omega
    case neg =>
      have hf2 := HFN.out (by omega)
      have hrl := HFIN.out
      rw [hf2] at hrl
      have HE := Lib.hid hrl
      clear HST HFN hf2 hrl HFIN
      obtain ⟨cz, hcz⟩ : ∃ cz : Array Value, cz = #[.int .i64 (n1 : Nat), .int .i64 (q : Nat), .int .i64 (t : Nat), .int .i64 (k : Nat), .int .i64 (wk : Nat), .int .i64 0, .int .i64 (P.getD 0 0), .int .i64 (P.getD 1 0), .int .i64 (P.getD 2 0), .int .i64 (P.getD 3 0), .int .i64 (P.getD 4 0), .int .i64 (P.getD 5 0), .int .i64 (P.getD 6 0), .slice Ad md cd] := ⟨_, rfl⟩
      have hf := hs.cs_ hcz.symm
      have SX := Lib.hid (show cz.size = 14 by rw [hcz]; rfl)
      have OX := Lib.hid (show cz.all (·.oneCell') = true by rw [hcz]; kernel_rfl)
      have SZ := Lib.hid (show (cT 0).size = 14 from rfl)
      have HCZ := Lib.hid hcz
      obtain ⟨kz, kx, hRf, gWf⟩ := hf
      clear hcz hs
      by_cases hlt : j < m
      case' pos =>
        have he1 : e8 ≠ 0 := fun h => hgo ⟨hlt, h⟩
        have hk1 : (j : Int) < (m : Int) := by omega
        have hq : (((e8 : Nat) : Int) == 0) = false := by rw [beq_eq_false_iff_ne]; omega
        clear hgo
        go_upto_region 28 with fail
        clear c2
      case' neg =>
        obtain rfl : j = m := by omega
        clear hgo
        go_upto_region 28 with fail
        clear c2
      all_goals
        go_wp2_with first
          | ((with_reducible refine wpList_ld rowE kx SX.out ?_ ?_); rotate_left; (rfl))
          | ((with_reducible refine wpList_st rowE kz SX.out SZ.out OX.out ?_ ?_ ?_); rotate_left; (rfl); (rfl); intro w92 k92 g92 z92)
        have hR92 := hRf.map (fun _ _ k => k.grown g92 (fun h => by injection h; have := HW.out; omega))
        have gW92 := grown_on gWf g92 HW.out.1
        have o92 := (ho.grown g92 (.inr (own_ne ho.2 kz (by decide)))).mono (base' := w.heap.size) (by have := HW.out; omega)
        exact bodyPost_ret (v := .agg cz) (results_blk rfl rowE k92 SX.out rfl) rfl ⟨Ad, md, cd, by rw [HE.out, HCZ.out]; rfl, by rw [HE.out]; exact o92, by rw [HE.out]; exact hR92, gW92⟩
end Go.Proofs.Ytiemlnomlfebkaa

/- The walks of List, Count, Join. -/
namespace Go.Proofs.Ytiemlnomlfebkaa
open Go.RowKit
open Dot

/-- List, under way -/
def LstI (w0 : World) (base g gs : Nat) (G : Grid) (n q : Nat) (w : World) : Prop := q ≤ 98 ∧ n ≤ 8 ∧ Blk w g 115 (gc G) ∧ ∃ A m c, Blk w gs 26 #[.slice A m c] ∧ OwnD w base A m c (dotsTo G n ++ rowTo G n q) ∧ A.map (·.block) ≠ some gs ∧ Below base w0 w
theorem lst_skip (w0 : World) (base g gs : Nat) (G : Grid) (n q : Nat) (w : World) (hq : q < 98) (hg : G n q = false) (hI : LstI w0 base g gs G n q w) : LstI w0 base g gs G n (q + 1) w := by
  obtain ⟨_, hn, kg, A, m, c, ks, oD, hne, hb⟩ := hI
  refine ⟨by omega, hn, kg, A, m, c, ks, ?_, hne, hb⟩
  rw [rowTo, if_neg (by rw [hg]; simp)]
  exact oD
theorem lst_next (w0 : World) (base g gs : Nat) (G : Grid) (n : Nat) (w : World) (hn : n < 8) (hI : LstI w0 base g gs G n 98 w) : LstI w0 base g gs G (n + 1) 0 w := by
  obtain ⟨_, _, kg, A, m, c, ks, oD, hne, hb⟩ := hI
  refine ⟨by omega, by omega, kg, A, m, c, ks, ?_, hne, hb⟩
  rw [show dotsTo G (n + 1) ++ rowTo G (n + 1) 0 = dotsTo G n ++ rowTo G n 98 by rw [show rowTo G (n + 1) 0 = [] from rfl, List.append_nil]; rfl]
  exact oD
theorem results_cell {P : Program} {fn : Func} {p : Tmp} {w : World} {tmps : Array Value} {T : TypeId} {g : Nat} {v : Value} (h : fn.results = #[.cell p T]) (hag : ∀ w, (isAgg T).run P w = .ok false w) (hc : w.cell? ⟨g, 0, none⟩ = some v) (hp : tmps.getD p undef = .pointer (some ⟨g, 0, none⟩)) : (results fn tmps).run P w = .ok v w := by
  have hp' : tmps[p]?.getD undef = .pointer (some ⟨g, 0, none⟩) := by simpa using hp
  simp [results, h, hp', asAddr, loadVar, hag, hc]
/-- a row, as a call hands it back -/
def ListEnd (w : World) (l : List Dt) (e : Ending) (w' : World) : Prop := ∃ A m c, e = .returned (.slice A m c) ∧ OwnD w' w.heap.size A m c l ∧ Below w.heap.size w w'
end Go.Proofs.Ytiemlnomlfebkaa

/- The walk of the document's Right. -/
namespace Go.Proofs.Ytiemlnomlfebkaa
open Go.RowKit
open Dot
end Go.Proofs.Ytiemlnomlfebkaa

/- The walk of the document's Has. -/
namespace Go.Proofs.Ytiemlnomlfebkaa
open Go.RowKit
open Dot
theorem hasB_false1 {U : List Int} {l : List Dt} {d : Dt} (h : rightB U l = false) : hasB U l d = false := by unfold hasB hasG; rw [h]; simp
theorem hasB_false2 {U : List Int} {l : List Dt} {d : Dt} (h : mayB d = false) : hasB U l d = false := by unfold hasB; rw [h]; rfl
theorem hasB_eq {U : List Int} {l : List Dt} {y p : Nat} (h : rightB U l = true) (hm : mayB ((y : Int), (p : Int)) = true) : hasB U l ((y : Int), (p : Int)) = (decide ((p : Int) ≤ U.getD y 0) || l.contains ((y : Int), (p : Int))) := by
  have := (may_iff _).1 hm
  simp only at this
  unfold hasB hasG
  rw [h, hm]
  simp only [Int.toNat_natCast]
  rw [decide_eq_true (show y < 8 by omega), decide_eq_true (show 1 ≤ p by omega), decide_eq_true (show p ≤ 96 by omega)]
  simp
end Go.Proofs.Ytiemlnomlfebkaa

/- The walk of the document's List. -/
namespace Go.Proofs.Ytiemlnomlfebkaa
open Go.RowKit
open Dot
theorem hasG_zero (U : List Int) (l : List Dt) (n : Nat) : hasG U l n 0 = false := by simp [hasG]
theorem hasG_top (U : List Int) (l : List Dt) (n : Nat) : hasG U l n 97 = false := by simp [hasG]
theorem hasB_grid {U : List Int} {l : List Dt} {y p : Nat} (hy : y < 8) (h1 : 1 ≤ p) (h2 : p ≤ 96) : hasB U l ((y : Int), (p : Int)) = hasG U l y p := by
  have hm : mayB ((y : Int), (p : Int)) = true := (may_iff _).2 (by simp only; omega)
  unfold hasB
  rw [hm]
  simp
end Go.Proofs.Ytiemlnomlfebkaa

/- The walk of the document's Of. -/
namespace Go.Proofs.Ytiemlnomlfebkaa
open Go.RowKit
open Dot
theorem listG_no : listG [] = noG := rfl
theorem listG_snoc (l : List Dt) (d : Dt) : listG (l ++ [d]) = if mayB d = true then putG (listG l) d else listG l := by
  funext n q
  unfold listG
  rw [List.any_append]
  by_cases h : mayB d = true
  · rw [if_pos h]
    unfold putG
    simp only [List.any_cons, List.any_nil, h, Bool.true_and, Bool.or_false]
    congr 1
    rw [show decide ((n : Int) = d.1) = decide (d.1 = (n : Int)) by simp [eq_comm], show decide ((q : Int) = d.2) = decide (d.2 = (q : Int)) by simp [eq_comm]]
  · rw [if_neg h]
    simp [h]
theorem listG_zero (l : List Dt) (n : Nat) : listG l n 0 = false := by
  rw [← Bool.not_eq_true]
  intro h
  unfold listG at h
  rw [List.any_eq_true] at h
  obtain ⟨d, _, h⟩ := h
  simp only [Bool.and_eq_true, decide_eq_true_eq] at h
  have := (may_iff d).1 h.1.1
  omega
theorem listG_top (l : List Dt) (n : Nat) : listG l n 97 = false := by
  rw [← Bool.not_eq_true]
  intro h
  unfold listG at h
  rw [List.any_eq_true] at h
  obtain ⟨d, _, h⟩ := h
  simp only [Bool.and_eq_true, decide_eq_true_eq] at h
  have := (may_iff d).1 h.1.1
  omega
theorem upT_fill (G : Grid) (n q : Nat) (hn : n < 8) : (upT G n q).set n (lead (G n) 98 : Int) = upT G n 98 := upT_ext (by rw [List.length_set, upT_len]) fun j hj => by
  by_cases e : n = j
  · subst e
    rw [List.getElem?_set_self (by rw [upT_len]; omega), if_neg (by omega), if_pos rfl]
  · rw [List.getElem?_set_ne e, upT_get G n q hj]
    by_cases h1 : j < n
    · rw [if_pos h1, if_pos h1]
    · rw [if_neg h1, if_neg h1, if_neg (fun h => e h.symm), if_neg (fun h => e h.symm)]
theorem zvalG97 (w : World) : (zeroValue 114).run Try.prog w = .ok (.agg (gc noG)) w := by kernel_rfl
end Go.Proofs.Ytiemlnomlfebkaa

/- The walks of the document's Dots and Same. -/
namespace Go.Proofs.Ytiemlnomlfebkaa
open Go.RowKit
open Dot
set_option maxHeartbeats 1000000 in
theorem dots_any (A1 A2 : Option Addr) (n1 c1 n2 c2 B1 B2 : Nat) (l1 l2 : List Dt) (w : World) (h1 : RdD w B1 A1 n1 l1) (h2 : RdD w B2 A2 n2 l2) (hm : n1 ≤ 1000000) :
    Calls Try.prog 50 #[.slice A1 n1 c1, .slice A2 n2 c2] w fun e w' => e = .returned (.bool (decide (l1 = l2))) ∧ ∃ m, w' = w.drewN m := by
  have H1 := Lib.hid h1.1
  have H2 := Lib.hid h2.1
  obtain ⟨R, hR⟩ : ∃ R, R = decide (l1 = l2) := ⟨_, rfl⟩
  rw [← hR]
  have HR := Lib.hid hR
  clear hR
  by_cases hn : n1 = n2
  case neg =>
    have hf : R = false := by
      rw [HR.out]
      exact decide_eq_false (fun e => hn (by rw [H1.out, H2.out, e]))
    subst hf
    have hnd : ¬ (n1 : Int) = (n2 : Int) := by omega
    go_enter Try.func50, Try.ntmps50
    go_wp2_with fail
    go_ret
    exact ⟨rfl, 0, rfl⟩
  subst hn
  go_enter Try.func50, Try.ntmps50
  go_wp2_with fail
  go_loopw [13] (fun i wr => ∃ k m : Nat, k ≤ n1 ∧ i = .int .i64 k ∧ (∀ j, j < k → l1[j]? = l2[j]?) ∧ wr = w.drewN m) (fun i _ => n1 - (intOf i).toNat)
  case atStart => exact ⟨0, 0, by omega, rfl, fun j hj => by omega, rfl⟩
  case round =>
    obtain ⟨k, m, hk, rfl, hall, rfl⟩ := hrel
    have HA := Lib.hid hall
    clear hall
    by_cases hlt : k < n1
    · have hkl1 : k < l1.length := by rw [← H1.out]; exact hlt
      have hkl2 : k < l2.length := by rw [← H2.out]; exact hlt
      obtain ⟨ad1, rfl, q5, q0, q1⟩ := h1.2 k _ (List.getElem?_eq_getElem hkl1)
      obtain ⟨ad2, rfl, p5, p0, p1⟩ := h2.2 k _ (List.getElem?_eq_getElem hkl2)
      have e1 : l1[k]? = some l1[k] := List.getElem?_eq_getElem hkl1
      have e2 : l2[k]? = some l2[k] := List.getElem?_eq_getElem hkl2
      generalize l1[k] = d1 at *
      generalize l2[k] = d2 at *
      obtain ⟨x1, y1⟩ := d1
      obtain ⟨x2, y2⟩ := d2
      simp only at q0 q1 p0 p1
      have E1 := Lib.hid e1
      have E2 := Lib.hid e2
      have hk0 : (0 : Int) ≤ (k : Int) := by omega
      have hkn : (k : Int) < (n1 : Int) := by omega
      have q0' : (w.drewN m).cell? (ad1.add (k * 2)) = some (.int .i64 x1) := q0
      have q1' : (w.drewN m).cell? ⟨(ad1.add (k * 2)).block, (ad1.add (k * 2)).off + 1, none⟩ = some (.int .i64 y1) := q1
      have p0' : (w.drewN m).cell? (ad2.add (k * 2)) = some (.int .i64 x2) := p0
      have p1' : (w.drewN m).cell? ⟨(ad2.add (k * 2)).block, (ad2.add (k * 2)).off + 1, none⟩ = some (.int .i64 y2) := p1
      clear e1 e2
      by_cases ex : x1 = x2
      · by_cases ey : y1 = y2
        · subst ex ey
          go_upto_region 6 with fail
          go_quiet (fail)
          go_wp2_with fail
          go_roundw
          case rel => exact ⟨k + 1, m + nq, by omega, by go_num, fun j hj => by
            by_cases e : j = k
            · subst e; rw [E1.out, E2.out]
            · exact HA.out j (by omega), rfl⟩
          case measure => simp [intOf]; omega
        · have hf : R = false := by
            rw [HR.out]
            refine decide_eq_false (fun e => ?_)
            have h3 := E1.out
            rw [e, E2.out] at h3
            injection h3 with h3
            injection h3 with h3 h4
            exact ey h4.symm
          subst hf
          subst ex
          go_upto_region 6 with fail
          go_quiet (fail)
          go_wp2_with fail
          go_ret
          exact ⟨rfl, m + nq, by simp⟩
      · have hf : R = false := by
          rw [HR.out]
          refine decide_eq_false (fun e => ?_)
          have h3 := E1.out
          rw [e, E2.out] at h3
          injection h3 with h3
          injection h3 with h3 h4
          exact ex h3.symm
        subst hf
        go_upto_region 6 with fail
        go_quiet (fail)
        go_wp2_with fail
        go_ret
        exact ⟨rfl, m + nq, by simp⟩
    · have hf : R = true := by
        rw [HR.out]
        refine decide_eq_true (List.ext_getElem? fun i => ?_)
        by_cases hi : i < n1
        · exact HA.out i (by omega)
        · rw [List.getElem?_eq_none (by have := H1.out; omega), List.getElem?_eq_none (by have := H2.out; omega)]
      subst hf
      go_wp2_with fail
      go_ret
      exact ⟨rfl, m, rfl⟩
end Go.Proofs.Ytiemlnomlfebkaa

/- The walks of the document's Same and All of events that are the same. -/
namespace Go.Proofs.Ytiemlnomlfebkaa
open Go.RowKit
open Dot Evt
set_option maxRecDepth 100000 in
set_option maxHeartbeats 2000000 in
theorem rsame07_eq (x y : EvV) (w : World) (hx : EvOk w w.heap.size x) (hy : EvOk w w.heap.size y) (he : x.e = y.e) (hm : x.m ≤ 1000000) :
    Calls Try.prog 30 #[.agg x.cs, .agg y.cs] w fun e w' => e = .returned (.bool true) ∧ Below w.heap.size w w' := by
  obtain ⟨ex, A1, m1, c1⟩ := x
  obtain ⟨ey, A2, m2, c2⟩ := y
  simp only at he
  subst he
  have hd := fun (w' : World) (h : Below w.heap.size w w') => dots_any A1 A2 m1 c1 m2 c2 w.heap.size w.heap.size ex.l ex.l w' (hx.2.1.below h) (hy.2.1.below h) hm
  obtain ⟨⟨n, q⟩, t, k, wk, v, p, l⟩ := ex
  simp only [decide_true] at hd
  have HD := Lib.hid hd
  clear hd hx hy hm
  unfold EvV.cs ec
  simp only
  generalize p.getD 0 0 = p0, p.getD 1 0 = p1, p.getD 2 0 = p2, p.getD 3 0 = p3, p.getD 4 0 = p4, p.getD 5 0 = p5, p.getD 6 0 = p6
  go_enter Try.func30, Try.ntmps30
  go_upto_region 1 with fail
  refine nameW ?_
  intro wv hwv
  obtain ⟨b, hb⟩ : ∃ b, b = w.heap.size := ⟨_, rfl⟩
  rw [← hb]
  have kb : Blk wv b 28 #[.int .i64 n, .int .i64 q, .int .i64 t, .int .i64 k, .int .i64 wk, .int .i64 v, .int .i64 p0, .int .i64 p1, .int .i64 p2, .int .i64 p3, .int .i64 p4, .int .i64 p5, .int .i64 p6, .slice A1 m1 c1] := by rw [hwv, hb]; exact (Blk.new w _ _).alloc _
  have kz : Blk wv (b + 1) 28 #[.int .i64 n, .int .i64 q, .int .i64 t, .int .i64 k, .int .i64 wk, .int .i64 v, .int .i64 p0, .int .i64 p1, .int .i64 p2, .int .i64 p3, .int .i64 p4, .int .i64 p5, .int .i64 p6, .slice A2 m2 c2] := by
    have h := Blk.new (w.alloc (.cells #[.int .i64 n, .int .i64 q, .int .i64 t, .int .i64 k, .int .i64 wk, .int .i64 v, .int .i64 p0, .int .i64 p1, .int .i64 p2, .int .i64 p3, .int .i64 p4, .int .i64 p5, .int .i64 p6, .slice A1 m1 c1] 28)) 28 #[.int .i64 n, .int .i64 q, .int .i64 t, .int .i64 k, .int .i64 wk, .int .i64 v, .int .i64 p0, .int .i64 p1, .int .i64 p2, .int .i64 p3, .int .i64 p4, .int .i64 p5, .int .i64 p6, .slice A2 m2 c2]
    rw [show (w.alloc (.cells #[.int .i64 n, .int .i64 q, .int .i64 t, .int .i64 k, .int .i64 wk, .int .i64 v, .int .i64 p0, .int .i64 p1, .int .i64 p2, .int .i64 p3, .int .i64 p4, .int .i64 p5, .int .i64 p6, .slice A1 m1 c1] 28)).heap.size = w.heap.size + 1 by simp] at h
    rw [hwv, hb]
    exact h
  have gb : Below w.heap.size w wv := by rw [hwv]; exact ((Below.refl _ _).alloc (Nat.le_refl _) _).alloc (by simp) _
  have hD := HD.out wv gb
  have HD2 := Lib.hid hD
  have HG := Lib.hid gb
  clear hwv hb gb hD HD
  obtain ⟨c0, c1, c2, c3, c4, c5, c6, c7, c8, c9, c10, c11, c12, c13⟩ := ecells kb
  obtain ⟨d0, d1, d2, d3, d4, d5, d6, d7, d8, d9, d10, d11, d12, d13⟩ := ecells kz
  go_wp2_with fail
  refine HD2.out.mono ?_
  rintro e w1 ⟨rfl, mm, rfl⟩
  go_wp2_with fail
  go_ret
  exact ⟨rfl, below_drewN HG.out mm⟩
section
variable {P : Program} {T : TypeId} {n : Nat} {ad : Addr} {cs : Array Value}
theorem quiet_lda {ops : Array Oper} {rest : List Oper} {a : Act} {Q : Act → Prop} {C : World → Prop} {d : Option Tmp} {ty : TypeId} {pos : String} {aft : Array Edge} {gd : Option (Nat × Bool)} {x : Operand} (hR : RowT P T n) (hS : ∀ w, C w → ∀ (j : Nat) v, cs[j]? = some v → w.cell? (ad.add j) = some v) (hn : cs.size = n)
    (h : wpQuiet P ops C Q rest (a.put d (.agg cs))) (hx : a.eval x = .pointer (some ad)) (hw : Region.wanted ⟨d, .load T x, ty, pos, aft, gd⟩ (yielded ops a.tmps) = true) : wpQuiet P ops C Q (⟨d, .load T x, ty, pos, aft, gd⟩ :: rest) a := by
  unfold wpQuiet
  rw [if_pos hw]
  obtain ⟨e, hu, hd, hi⟩ := hR
  rw [← hn, ← Array.length_toList] at hi
  refine ⟨.agg cs, fun w hw => ?_, h⟩
  have hcl : ∀ (j : Nat) v, cs.toList[j]? = some v → w.cell? (ad.add j) = some v := fun j v hj => hS w hw j v (by simpa using hj)
  unfold Oper.quietAt execOp
  simp only [hx, Instr.loadAt, Instr.sureAddr, Sem.run_bind, Sem.run_pure, Result.andThen_ok, run_loadVar_at w ad T cs.toList e hcl hu hd hi, Array.toArray_toList]
  exact ⟨rfl, rfl⟩
end
set_option maxRecDepth 100000 in
set_option maxHeartbeats 2000000 in
theorem rall07_eq (A1 A2 : Option Addr) (n c1 c2 : Nat) (xs ys : List EvV) (w : World) (hx : RowEv w w.heap.size A1 n xs) (hy : RowEv w w.heap.size A2 n ys) (he : xs.map (·.e) = ys.map (·.e)) (hm : ∀ x ∈ xs, x.m ≤ 1000000) (hn : n ≤ 10000000000000) :
    Calls Try.prog 23 #[.slice A1 n c1, .slice A2 n c2] w fun e w' => e = .returned (.bool true) ∧ Below w.heap.size w w' := by
  have HN := Lib.hid hx.1
  have HN2 := Lib.hid hy.1
  have HX := Lib.hid fun (w' : World) (h : Below w.heap.size w w') => (hx.below h)
  have HY := Lib.hid fun (w' : World) (h : Below w.heap.size w w') => (hy.below h)
  have HE := Lib.hid he
  have HM := Lib.hid hm
  clear hx hy he hm
  go_enter Try.func23, Try.ntmps23
  go_wp2_with fail
  go_loopw [13] (fun i wr => ∃ k : Nat, k ≤ n ∧ i = .int .i64 k ∧ Below w.heap.size w wr) (fun i _ => n - (intOf i).toNat)
  case atStart => exact ⟨0, by omega, rfl, Below.refl _ _⟩
  case round =>
    obtain ⟨k, hk, rfl, gb⟩ := hrel
    by_cases hlt : k < n
    · have hkl : k < xs.length := by rw [← HN.out]; exact hlt
      have hky : k < ys.length := by rw [← HN2.out]; exact hlt
      have hX := (HX.out wr gb).2 k _ (List.getElem?_eq_getElem hkl)
      have hY := (HY.out wr gb).2 k _ (List.getElem?_eq_getElem hky)
      have hmm := HM.out _ (List.getElem_mem hkl)
      have hee : xs[k].e = ys[k].e := by
        have h := congrArg (fun l => l[k]?) HE.out
        simp only [List.getElem?_map, List.getElem?_eq_getElem hkl, List.getElem?_eq_getElem hky, Option.map_some] at h
        injection h
      generalize xs[k] = x at *
      generalize ys[k] = y at *
      obtain ⟨okx, ad1, hA1, hb1, hc1⟩ := hX
      obtain ⟨oky, ad2, hA2, hb2, hc2⟩ := hY
      subst hA1 hA2
      have hcl1 := fun (w' : World) (h : Below wr.heap.size wr w') => fun (j : Nat) (v : Value) (hv : x.cs[j]? = some v) => ((h.cell (p := (ad1.add (k * 14)).add j) (by rw [block_add, block_add]; have := gb.size; omega)).trans (hc1 j v hv))
      have hcl2 := fun (w' : World) (h : Below wr.heap.size wr w') => fun (j : Nat) (v : Value) (hv : y.cs[j]? = some v) => ((h.cell (p := (ad2.add (k * 14)).add j) (by rw [block_add, block_add]; have := gb.size; omega)).trans (hc2 j v hv))
      have hsm := fun (w' : World) (h : Below wr.heap.size wr w') => rsame07_eq x y w' ((okx.below (h.mono gb.size)).more (by have := gb.size; have := h.size; omega)) ((oky.below (h.mono gb.size)).more (by have := gb.size; have := h.size; omega)) hee hmm
      obtain ⟨cx, hcx⟩ : ∃ cx, cx = x.cs := ⟨_, rfl⟩
      obtain ⟨cy, hcy⟩ : ∃ cy, cy = y.cs := ⟨_, rfl⟩
      have SX := Lib.hid (show cx.size = 14 by rw [hcx]; rfl)
      have SY := Lib.hid (show cy.size = 14 by rw [hcy]; rfl)
      rw [← hcx, ← hcy] at hsm
      rw [← hcx] at hcl1
      rw [← hcy] at hcl2
      have HC1 := Lib.hid hcl1
      have HC2 := Lib.hid hcl2
      have HSM := Lib.hid hsm
      have hk0 : (0 : Int) ≤ (k : Int) := by omega
      have hkm : (k : Int) < (n : Int) := by omega
      clear hcl1 hcl2 hsm hcx hcy hee hmm hc1 hc2 okx oky
      go_upto_region 6 with fail
      refine wp_region_below (by kernel_rfl) (by kernel_rfl) ?_
      intro T iT F hF hT
      have HF := Lib.hid hF
      have HT := Lib.hid hT
      clear hF hT
      iterate 3 (go_big_quiet_step (fail))
      (with_reducible refine quiet_lda rowE (fun w' hw' => by obtain ⟨qf, rfl⟩ := hw'; exact HC1.out _ (HF.out qf)) SX.out ?_ ?_ ?_); rotate_left; (rfl); (rfl); simp only [Act.put, List.setIfInBounds_toArray, List.set_cons_succ, List.set_cons_zero, eq_self, decide_true, Bool.not_true, Bool.not_false, beq_self_eq_true]
      iterate 3 (go_big_quiet_step (fail))
      (with_reducible refine quiet_lda rowE (fun w' hw' => by obtain ⟨qf, rfl⟩ := hw'; exact HC2.out _ (HF.out qf)) SY.out ?_ ?_ ?_); rotate_left; (rfl); (rfl); simp only [Act.put, List.setIfInBounds_toArray, List.set_cons_succ, List.set_cons_zero, eq_self, decide_true, Bool.not_true, Bool.not_false, beq_self_eq_true]
      go_big_quiet_step ((go_at_call 30; exact calls_below HF.out HT.out (HSM.out _ (HF.out _))))
      repeat (go_big_quiet_step (fail))
      refine wpQuiet_nil ?_
      intro w' hw'
      obtain ⟨qf, rfl⟩ := hw'
      have bF := HF.out qf
      have gbF := gb.trans (bF.mono gb.size)
      clear HC1 HC2 HSM HF HT bF
      go_wp2_with fail
      go_roundw
      case rel => exact ⟨k + 1, by omega, by go_num, gbF⟩
      case measure => simp [intOf]; omega
    · have hkd : decide ((k : Int) < (n : Int)) = false := decide_eq_false (by omega)
      go_wp2_with fail
      go_ret
      exact ⟨rfl, gb⟩
end Go.Proofs.Ytiemlnomlfebkaa

/- What the rows' proofs share: how an argument that came in reads. -/
namespace Go.Proofs.Ytiemlnomlfebkaa
open Go.ChangeShapes Go.WideShapes Go.ChangeAt Go.RowKit

theorem own : ownKnob Try.prog.godebug = none := by kernel_rfl
theorem laidOut : laidOutB Try.prog = true := by kernel_rfl
/-- What a byte slice's cell reads as. -/
theorem rd_bytes {H : Type} {enc : TypeId × Value → H} {W : World} {base : Nat} {sp : Nat → Bool} {held : Bool} {fuel : Nat} {cs : List Value} {x : DataW H × List MemPlace}
    (hf : DataW.trod enc Try.prog W base sp held fuel 37 cs = some x) :
    ∃ (a : Option Addr) (n cap : Nat) (bs : List UInt8), cs = [.slice a n cap] ∧ RdB W W.heap.size a n bs ∧ n ≤ cap ∧ cap ≤ maxLen := by
  rcases open_ints Try.underlying37 Try.underlying5 (by kernel_rfl) hf with ⟨hcs, _⟩ | ⟨x, len0, cap0, zs, hcs, _, hl, hm, hz, _, hcell, hwz⟩
  · exact ⟨_, _, _, [], hcs, RdB.nil _ _ _, Nat.le_refl _, Nat.zero_le _⟩
  · have hz' : len0 ≤ zs.length := by rw [hz]; split <;> omega
    have hlen : ((zs.take len0).map fun z => UInt8.ofNat z.toNat).length = len0 := by simp; omega
    refine ⟨_, len0, cap0, (zs.take len0).map fun z => UInt8.ofNat z.toNat, hcs, ⟨hlen.symm, ?_⟩, hl, hm⟩
    intro j u hu
    simp only [List.getElem?_map, List.getElem?_take] at hu
    by_cases hj : j < len0
    · rw [if_pos hj] at hu
      have hjz : j < zs.length := by omega
      have hw := hwz zs[j] (List.getElem_mem hjz)
      have hw2 : 0 ≤ zs[j] ∧ zs[j] < 256 := by
        have hmin : IntKind.u8.min = 0 := rfl
        have hmax : IntKind.u8.max = 255 := rfl
        simp only [Lit.wf, Bool.and_eq_true, decide_eq_true_eq] at hw
        omega
      have hcj := hcell j hjz
      rw [List.getD_eq_getElem?_getD, List.getElem?_eq_getElem hjz] at hcj
      rw [List.getElem?_eq_getElem hjz] at hu
      simp only [Option.map_some, Option.some.injEq] at hu
      refine ⟨x, rfl, ?_, ?_⟩
      · have := World.block_lt_of_cell? W _ hcj
        rwa [block_add] at this
      · rw [hcj, ← hu]
        show some (Value.int .u8 zs[j]) = some (Value.int .u8 _)
        have : ((UInt8.ofNat zs[j].toNat).toNat : Int) = zs[j] := by
          rw [UInt8.toNat_ofNat']
          omega
        rw [this]
    · rw [if_neg hj] at hu; simp at hu
set_option maxRecDepth 100000
/-- A slice of bytes that came in. -/
theorem open_bytesC {H : Type} {enc : TypeId × Value → H} {W : World} {base : Nat} {sp : Nat → Bool} {held : Bool} {r : Reach} {b0 : Nat} {v : Value} {d : DataW H} {p : List MemPlace}
    (hv : Value.okWide Try.prog W r b0 37 v) (h : DataW.Trod enc Try.prog W base sp held 37 v d p) :
    ∃ (a : Option Addr) (n cap : Nat) (bs : List UInt8), v = .slice a n cap ∧ RdB W W.heap.size a n bs ∧ n ≤ cap ∧ cap ≤ maxLen := by
  obtain ⟨a0, len0, cap0, rfl⟩ := okWide_slice Try.underlying37 hv
  obtain ⟨fuel, hf⟩ := h
  obtain ⟨a, n, c, bs, h1, h2⟩ := rd_bytes hf
  simp [Value.cells] at h1
  obtain ⟨rfl, rfl, rfl⟩ := h1
  exact ⟨_, _, _, bs, rfl, h2⟩
theorem open_bytes {H : Type} {enc : TypeId × Value → H} {W : World} {base : Nat} {sp : Nat → Bool} {held : Bool} {r : Reach} {b0 : Nat} {v : Value} {d : DataW H} {p : List MemPlace}
    (hv : Value.okWide Try.prog W r b0 37 v) (h : DataW.Trod enc Try.prog W base sp held 37 v d p) :
    ∃ (a : Option Addr) (n cap : Nat) (bs : List UInt8), v = .slice a n cap ∧ RdB W W.heap.size a n bs ∧ n ≤ maxLen := by
  obtain ⟨a, n, c, bs, h1, h2, h3, h4⟩ := open_bytesC hv h
  exact ⟨a, n, c, bs, h1, h2, Nat.le_trans h3 h4⟩
end Go.Proofs.Ytiemlnomlfebkaa

/- How ints, structs and slices that came in read: on cells. -/
namespace Go.Proofs.Ytiemlnomlfebkaa
open Go.ChangeShapes Go.WideShapes Go.ChangeAt Go.RowKit Go.Deep

section
variable {H : Type} {enc : TypeId × Value → H} {W : World} {base : Nat} {sp : Nat → Bool} {held : Bool} {fuel : Nat} {cs : List Value} {x : DataW H × List MemPlace}
/-- an int's cell -/
theorem rd_int (hf : DataW.trod enc Try.prog W base sp held fuel 3 cs = some x) : ∃ z : Int, cs = [.int .i64 z] ∧ -9223372036854775808 ≤ z ∧ z ≤ 9223372036854775807 := by
  obtain ⟨z, h1, _, hw⟩ := DataW.trod_int Try.underlying3 hf
  refine ⟨z, h1, ?_⟩
  have hmin : IntKind.i64.min = -9223372036854775808 := rfl
  have hmax : IntKind.i64.max = 9223372036854775807 := rfl
  simp only [Lit.wf, Bool.and_eq_true, decide_eq_true_eq] at hw
  omega
/-- a struct's field, as its cells -/
theorem rd_field {t : TypeId} {fs : Array Field} (ht : (Try.prog).underlying t = some (.struct fs)) (hf : DataW.trod enc Try.prog W base sp held fuel t cs = some x) (j T o m : Nat)
    (hj : (fs[j]?).map (fun f => (f.type, f.offset)) = some (T, o)) (hm : (Try.prog).cellsOf T = m) : ∃ n y, DataW.trod enc Try.prog W base sp held n T ((cs.drop o).take m) = some y := by
  obtain ⟨xs, n, _, _, _, hxl, hg⟩ := DataW.trod_struct ht hf
  obtain ⟨f, hf1, hf2⟩ := Option.map_eq_some_iff.1 hj
  injection hf2 with h1 h2
  have hjl : j < xs.length := by
    rw [hxl]
    exact (Array.getElem?_eq_some_iff.1 hf1).1
  have h := hg j f hf1
  rw [h1, h2, hm, List.getElem?_eq_getElem hjl] at h
  exact ⟨n, _, h⟩
theorem rd_len {t : TypeId} {fs : Array Field} {m : Nat} (ht : (Try.prog).underlying t = some (.struct fs)) (hm : (Try.prog).cellsOf t = m) (hf : DataW.trod enc Try.prog W base sp held fuel t cs = some x) : cs.length = m := by
  obtain ⟨xs, n, _, _, hl, _⟩ := DataW.trod_struct ht hf
  rw [hl, hm]
/-- a slice's elements, each as its cells -/
theorem rd_slice {t e : TypeId} {m : Nat} (ht : (Try.prog).underlying t = some (.slice e)) (hm : (Try.prog).cellsOf e = m) (hf : DataW.trod enc Try.prog W base sp held fuel t cs = some x) :
    ∃ (a : Option Addr) (n cap : Nat), cs = [.slice a n cap] ∧ n ≤ cap ∧ cap ≤ maxLen ∧ ∀ i, i < n → ∃ (ad : Addr) (cs' : List Value) (fuel' : Nat) (x' : DataW H × List MemPlace), a = some ad ∧ cs'.length = m ∧ (∀ j, j < m → W.cell? ((ad.add (i * m)).add j) = cs'[j]?) ∧ DataW.trod enc Try.prog W base sp held fuel' e cs' = some x' := by
  rcases open_slice ht hf with ⟨h0, _⟩ | ⟨a, len, cap, k, n, D, Pl, hcs, hb, hl, hc, hk, hx, hi⟩
  · exact ⟨none, 0, 0, h0, Nat.le_refl _, Nat.zero_le _, fun i h => absurd h (Nat.not_lt_zero _)⟩
  · refine ⟨some a, len, cap, hcs, hl, hc, fun i h => ?_⟩
    have hik : i < k := by rw [hk]; split <;> omega
    obtain ⟨cs', hc', ht'⟩ := hi i hik
    rw [hm] at hc'
    obtain ⟨_, hcl, hat⟩ := World.cells?_some hc'
    exact ⟨a, cs', n, _, rfl, hcl, fun j hj => hat j hj, ht'⟩
end
end Go.Proofs.Ytiemlnomlfebkaa

/- The reach: how much what came in weighs; what is read then is short enough to be copied. -/
namespace Go.Proofs.Ytiemlnomlfebkaa
open Go.ChangeShapes Go.WideShapes Go.ChangeAt Go.RowKit Go.Deep

/-- What a datum weighs is within the form's reach. -/
def Sz {H : Type} (t : TypeId) (d : DataW H) : Prop := ∀ n ∈ d.weights Try.prog t, n ≤ reachBytes
theorem sz_arg {H : Type} {ts : List TypeId} {ds : List (DataW H)} (h : (DataW.weightsEach Try.prog ts ds).all (· ≤ reachBytes) = true) {j : Nat} {t : TypeId} {d : DataW H} (ht : ts[j]? = some t) (hd : ds[j]? = some d) : Sz t d := fun n hn => by
  have := List.all_eq_true.1 h n (DataW.weights_mem_each ht hd n hn)
  simpa using this
theorem weightsAll_mem {H : Type} {P : Program} {e : TypeId} {l : List (DataW H)} {d : DataW H} (hd : d ∈ l) : ∀ n ∈ d.weights P e, n ∈ DataW.weightsAll P e l := by
  induction l with
  | nil => cases hd
  | cons a r ih =>
    intro n hn
    simp only [DataW.weightsAll, List.mem_append]
    rcases List.mem_cons.1 hd with h | h
    · subst h; exact .inl hn
    · exact .inr (ih h n hn)
section
variable {H : Type} {enc : TypeId × Value → H} {W : World} {base : Nat} {sp : Nat → Bool} {held : Bool} {fuel : Nat} {cs : List Value} {x : DataW H × List MemPlace}
/-- a struct's field, as its cells; it weighs no more than the struct -/
theorem rdz_field {t : TypeId} {fs : Array Field} (ht : (Try.prog).underlying t = some (.struct fs)) (hf : DataW.trod enc Try.prog W base sp held fuel t cs = some x) (hs : Sz t x.1) (j T o m : Nat)
    (hj : (fs[j]?).map (fun f => (f.type, f.offset)) = some (T, o)) (hm : (Try.prog).cellsOf T = m) : ∃ n y, DataW.trod enc Try.prog W base sp held n T ((cs.drop o).take m) = some y ∧ Sz T y.1 := by
  obtain ⟨xs, n, _, hx, _, hxl, hg⟩ := DataW.trod_struct ht hf
  obtain ⟨f, hf1, hf2⟩ := Option.map_eq_some_iff.1 hj
  injection hf2 with h1 h2
  have hjl : j < xs.length := by
    rw [hxl]
    exact (Array.getElem?_eq_some_iff.1 hf1).1
  have h := hg j f hf1
  rw [h1, h2, hm, List.getElem?_eq_getElem hjl] at h
  refine ⟨n, _, h, fun k hk => hs k ?_⟩
  rw [hx]
  simp only [DataW.weights, ht]
  refine DataW.weights_mem_each (j := j) (t := T) (d := xs[j].1) ?_ ?_ k hk
  · rw [List.getElem?_map, Array.getElem?_toList, hf1]; simp [h1]
  · rw [List.getElem?_map, List.getElem?_eq_getElem hjl]; rfl
/-- a slice's elements, each as its cells -/
theorem rdz_slice {t e : TypeId} {m : Nat} (ht : (Try.prog).underlying t = some (.slice e)) (hm : (Try.prog).cellsOf e = m) (hf : DataW.trod enc Try.prog W base sp held fuel t cs = some x) (hs : Sz t x.1) :
    ∃ (a : Option Addr) (n cap : Nat), cs = [.slice a n cap] ∧ n ≤ cap ∧ cap ≤ maxLen ∧ n * (Try.prog).bytesOf e ≤ reachBytes ∧ ∀ i, i < n → ∃ (ad : Addr) (cs' : List Value) (fuel' : Nat) (x' : DataW H × List MemPlace), a = some ad ∧ cs'.length = m ∧ (∀ j, j < m → W.cell? ((ad.add (i * m)).add j) = cs'[j]?) ∧ DataW.trod enc Try.prog W base sp held fuel' e cs' = some x' ∧ Sz e x'.1 := by
  rcases open_slice ht hf with ⟨h0, _⟩ | ⟨a, len, cap, k, n, D, Pl, hcs, hb, hl, hc, hk, hx, hi⟩
  · exact ⟨none, 0, 0, h0, Nat.le_refl _, Nat.zero_le _, by simp, fun i h => absurd h (Nat.not_lt_zero _)⟩
  · refine ⟨some a, len, cap, hcs, hl, hc, ?_, fun i h => ?_⟩
    · have := hs ((len + (k - len)) * (Try.prog).bytesOf e) (by rw [hx]; simp [DataW.weights, ht])
      refine Nat.le_trans (Nat.mul_le_mul_right _ ?_) this
      omega
    · have hik : i < k := by rw [hk]; split <;> omega
      obtain ⟨cs', hc', ht'⟩ := hi i hik
      rw [hm] at hc'
      obtain ⟨_, hcl, hat⟩ := World.cells?_some hc'
      refine ⟨a, cs', n, _, rfl, hcl, fun j hj => hat j hj, ht', fun q hq => hs q ?_⟩
      rw [hx]
      simp only [DataW.weights, ht]
      refine List.mem_cons_of_mem _ (List.mem_append_left _ (weightsAll_mem (List.mem_map.2 ⟨i, by simpa using h, rfl⟩) q hq))
theorem bytesOf8 : (Try.prog).bytesOf 5 = 1 := by kernel_rfl
theorem rdz_bytes (hf : DataW.trod enc Try.prog W base sp held fuel 37 cs = some x) (hs : Sz 37 x.1) :
    ∃ (a : Option Addr) (n cap : Nat) (bs : List UInt8), cs = [.slice a n cap] ∧ RdB W W.heap.size a n bs ∧ n ≤ cap ∧ cap ≤ maxLen ∧ n ≤ reachBytes := by
  obtain ⟨a, n, c, bs, h1, h2, h3, h4⟩ := rd_bytes hf
  obtain ⟨a', n', c', k1, k2, k3, k4, _⟩ := rdz_slice Try.underlying37 (m := 1) (by kernel_rfl) hf hs
  rw [h1] at k1
  injection k1 with k1 _
  injection k1 with _ k1 _
  rw [bytesOf8, Nat.mul_one] at k4
  exact ⟨a, n, c, bs, h1, h2, h3, h4, by omega⟩
end
end Go.Proofs.Ytiemlnomlfebkaa

/- How events that came in read. -/
namespace Go.Proofs.Ytiemlnomlfebkaa
open Go.ChangeShapes Go.WideShapes Go.ChangeAt Go.RowKit Go.Deep
open Dot Evt
set_option maxRecDepth 100000
theorem cellsI' : (Try.prog).cellsOf 3 = 1 := by kernel_rfl
theorem cellsD : (Try.prog).cellsOf 23 = 2 := by kernel_rfl
theorem cellsDs : (Try.prog).cellsOf 26 = 1 := by kernel_rfl
theorem cellsP : (Try.prog).cellsOf 25 = 7 := by kernel_rfl
theorem cellsE : (Try.prog).cellsOf 28 = 14 := by kernel_rfl
section
variable {H : Type} {enc : TypeId × Value → H} {W : World} {base : Nat} {sp : Nat → Bool} {held : Bool} {fuel : Nat} {cs : List Value} {x : DataW H × List MemPlace}
theorem rd_dot (hf : DataW.trod enc Try.prog W base sp held fuel 23 cs = some x) : ∃ d : Dt, cs = [.int .i64 d.1, .int .i64 d.2] := by
  have hl := rd_len Try.underlying23 cellsD hf
  obtain ⟨_, _, g0⟩ := rd_field Try.underlying23 hf 0 3 0 1 rfl cellsI'
  obtain ⟨_, _, g1⟩ := rd_field Try.underlying23 hf 1 3 1 1 rfl cellsI'
  obtain ⟨x0, e0, _⟩ := rd_int g0
  obtain ⟨x1, e1, _⟩ := rd_int g1
  match cs, hl with
  | [a, b], _ =>
    simp at e0 e1
    exact ⟨(x0, x1), by rw [e0, e1]⟩
theorem rd_dots (hf : DataW.trod enc Try.prog W base sp held fuel 26 cs = some x) : ∃ (A : Option Addr) (n c : Nat) (l : List Dt), cs = [.slice A n c] ∧ RdD W W.heap.size A n l ∧ n ≤ maxLen := by
  obtain ⟨a, n, c, hcs, hnc, hcm, hg⟩ := rd_slice Try.underlying26 cellsD hf
  have key : ∀ i, i < n → ∃ (ad : Addr) (d : Dt), a = some ad ∧ DotAt W W.heap.size (ad.add (i * 2)) d := fun i hi => by
    obtain ⟨ad, cs', f', x', e, hl, hc, ht⟩ := hg i hi
    obtain ⟨d, rfl⟩ := rd_dot ht
    have h0 := hc 0 (by omega)
    have h1 := hc 1 (by omega)
    rw [add_add] at h0 h1
    rw [Nat.add_zero] at h0
    rw [add_next] at h1
    exact ⟨ad, d, e, World.block_lt_of_cell? W _ h0, h0, h1⟩
  have hex : ∀ i, ∃ d : Dt, i < n → ∃ ad, a = some ad ∧ DotAt W W.heap.size (ad.add (i * 2)) d := fun i => by
    by_cases hi : i < n
    · obtain ⟨ad, d, h⟩ := key i hi
      exact ⟨d, fun _ => ⟨ad, h⟩⟩
    · exact ⟨(0, 0), fun h => absurd h hi⟩
  refine ⟨a, n, c, (List.range n).map fun i => (hex i).choose, hcs, ⟨by simp, fun i d hi => ?_⟩, Nat.le_trans hnc hcm⟩
  have hi' : i < n := by
    have := (List.getElem?_eq_some_iff.1 hi).1
    simpa using this
  rw [List.getElem?_map, List.getElem?_range hi'] at hi
  injection hi with hi
  rw [← hi]
  exact (hex i).choose_spec hi'
theorem rd_pol (hf : DataW.trod enc Try.prog W base sp held fuel 25 cs = some x) : ∃ p : List Int, p.length = 7 ∧ cs = (pc p).toList := by
  have hl := rd_len Try.underlying25 cellsP hf
  obtain ⟨_, _, g0⟩ := rd_field Try.underlying25 hf 0 3 0 1 rfl cellsI'
  obtain ⟨_, _, g1⟩ := rd_field Try.underlying25 hf 1 3 1 1 rfl cellsI'
  obtain ⟨_, _, g2⟩ := rd_field Try.underlying25 hf 2 3 2 1 rfl cellsI'
  obtain ⟨_, _, g3⟩ := rd_field Try.underlying25 hf 3 3 3 1 rfl cellsI'
  obtain ⟨_, _, g4⟩ := rd_field Try.underlying25 hf 4 3 4 1 rfl cellsI'
  obtain ⟨_, _, g5⟩ := rd_field Try.underlying25 hf 5 3 5 1 rfl cellsI'
  obtain ⟨_, _, g6⟩ := rd_field Try.underlying25 hf 6 3 6 1 rfl cellsI'
  obtain ⟨x0, e0, _⟩ := rd_int g0
  obtain ⟨x1, e1, _⟩ := rd_int g1
  obtain ⟨x2, e2, _⟩ := rd_int g2
  obtain ⟨x3, e3, _⟩ := rd_int g3
  obtain ⟨x4, e4, _⟩ := rd_int g4
  obtain ⟨x5, e5, _⟩ := rd_int g5
  obtain ⟨x6, e6, _⟩ := rd_int g6
  match cs, hl with
  | [a0, a1, a2, a3, a4, a5, a6], _ =>
    simp at e0 e1 e2 e3 e4 e5 e6
    exact ⟨[x0, x1, x2, x3, x4, x5, x6], rfl, by rw [e0, e1, e2, e3, e4, e5, e6]; rfl⟩
/-- an event, as its cells stand -/
theorem rd_ev (hf : DataW.trod enc Try.prog W base sp held fuel 28 cs = some x) : ∃ (e : Ev) (A : Option Addr) (n c : Nat), e.p.length = 7 ∧ cs = (ec e (.slice A n c)).toList ∧ RdD W W.heap.size A n e.l ∧ n ≤ maxLen := by
  have hl := rd_len Try.underlying28 cellsE hf
  obtain ⟨_, _, g0⟩ := rd_field Try.underlying28 hf 0 23 0 2 rfl cellsD
  obtain ⟨_, _, g1⟩ := rd_field Try.underlying28 hf 1 3 2 1 rfl cellsI'
  obtain ⟨_, _, g2⟩ := rd_field Try.underlying28 hf 2 3 3 1 rfl cellsI'
  obtain ⟨_, _, g3⟩ := rd_field Try.underlying28 hf 3 3 4 1 rfl cellsI'
  obtain ⟨_, _, g4⟩ := rd_field Try.underlying28 hf 4 3 5 1 rfl cellsI'
  obtain ⟨_, _, g5⟩ := rd_field Try.underlying28 hf 5 25 6 7 rfl cellsP
  obtain ⟨_, _, g6⟩ := rd_field Try.underlying28 hf 6 26 13 1 rfl cellsDs
  obtain ⟨d, e0⟩ := rd_dot g0
  obtain ⟨x1, e1, _⟩ := rd_int g1
  obtain ⟨x2, e2, _⟩ := rd_int g2
  obtain ⟨x3, e3, _⟩ := rd_int g3
  obtain ⟨x4, e4, _⟩ := rd_int g4
  obtain ⟨p, hp, e5⟩ := rd_pol g5
  obtain ⟨A, n, c, l, e6, hr, hn⟩ := rd_dots g6
  refine ⟨⟨d, x1, x2, x3, x4, p, l⟩, A, n, c, hp, ?_, hr, hn⟩
  match cs, hl with
  | [a0, a1, a2, a3, a4, a5, a6, a7, a8, a9, a10, a11, a12, a13], _ =>
    simp [pc] at e0 e1 e2 e3 e4 e5 e6
    obtain ⟨rfl, rfl⟩ := e0
    obtain ⟨rfl, rfl, rfl, rfl, rfl, rfl, rfl⟩ := e5
    subst e1 e2 e3 e4 e6
    simp [ec]
end
section
variable {H : Type} {enc : TypeId × Value → H} {W : World} {base : Nat} {sp : Nat → Bool} {held : Bool} {r : Reach} {b0 : Nat} {v : Value} {d : DataW H} {p : List MemPlace}
theorem open_ev (hv : Value.okWide Try.prog W r b0 28 v) (h : DataW.Trod enc Try.prog W base sp held 28 v d p) :
    ∃ (e : Ev) (A : Option Addr) (n c : Nat), v = .agg (ec e (.slice A n c)) ∧ e.p.length = 7 ∧ RdD W W.heap.size A n e.l ∧ n ≤ maxLen := by
  obtain ⟨cs, rfl, hsz⟩ := okWide_struct Try.underlying28 hv
  obtain ⟨fuel, hf0⟩ := h
  have hf : DataW.trod enc Try.prog W base sp held fuel 28 cs.toList = some (d, p) := hf0
  obtain ⟨e, A, n, c, h1, h2, h3, h4⟩ := rd_ev hf
  exact ⟨e, A, n, c, by rw [← Array.toArray_toList (xs := cs), h2], h1, h3, h4⟩
end
end Go.Proofs.Ytiemlnomlfebkaa

/- How events that came in read, within the reach. -/
namespace Go.Proofs.Ytiemlnomlfebkaa
open Go.ChangeShapes Go.WideShapes Go.ChangeAt Go.RowKit Go.Deep
open Dot Evt
set_option maxRecDepth 100000
theorem bytesDt : (Try.prog).bytesOf 23 = 16 := by kernel_rfl
theorem bytesEv : (Try.prog).bytesOf 28 = 128 := by kernel_rfl
section
variable {H : Type} {enc : TypeId × Value → H} {W : World} {base : Nat} {sp : Nat → Bool} {held : Bool} {fuel : Nat} {cs : List Value} {x : DataW H × List MemPlace}
theorem rdz_ev (hf : DataW.trod enc Try.prog W base sp held fuel 28 cs = some x) (hs : Sz 28 x.1) : ∃ e : EvV, cs = e.cs.toList ∧ EvOk W W.heap.size e := by
  obtain ⟨e, A, n, c, h1, h2, h3, _⟩ := rd_ev hf
  obtain ⟨_, _, g6, z6⟩ := rdz_field Try.underlying28 hf hs 6 26 13 1 rfl cellsDs
  obtain ⟨a3, l3, c3, e1, _, _, e4, _⟩ := rdz_slice Try.underlying26 cellsD g6 z6
  rw [bytesDt] at e4
  have hr : reachBytes = 140737488351232 := rfl
  rw [h2] at e1
  have e2 : ((ec e (.slice A n c)).toList.drop 13).take 1 = [.slice A n c] := rfl
  rw [e2] at e1
  injection e1 with e1 _
  injection e1 with _ e1 _
  exact ⟨⟨e, A, n, c⟩, h2, h1, h3, by show n ≤ _; omega⟩
theorem rdz_evs (hf : DataW.trod enc Try.prog W base sp held fuel 31 cs = some x) (hs : Sz 31 x.1) : ∃ (A : Option Addr) (n c : Nat) (xs : List EvV), cs = [.slice A n c] ∧ RowEv W W.heap.size A n xs ∧ n ≤ 10000000000000 := by
  obtain ⟨a, n, c, h1, _, _, h3, h4⟩ := rdz_slice Try.underlying31 cellsE hf hs
  rw [bytesEv] at h3
  have hr : reachBytes = 140737488351232 := rfl
  have key : ∀ i, i < n → ∃ e : EvV, EvOk W W.heap.size e ∧ ∃ ad, a = some ad ∧ ad.block < W.heap.size ∧ ∀ (j : Nat) v, e.cs[j]? = some v → W.cell? ((ad.add (i * 14)).add j) = some v := fun i hi => by
    obtain ⟨ad, cs', f', x', e1, hl, hc, ht, hz⟩ := h4 i hi
    obtain ⟨e, h5, h6⟩ := rdz_ev ht hz
    have hlt : ad.block < W.heap.size := by
      have e6 := hc 0 (by omega)
      rw [List.getElem?_eq_getElem (by omega)] at e6
      have := World.block_lt_of_cell? W _ e6
      rwa [block_add, block_add] at this
    refine ⟨e, h6, ad, e1, hlt, fun j v hv => ?_⟩
    have hj : j < 14 := by
      have := (Array.getElem?_eq_some_iff.1 hv).1
      rwa [e.size] at this
    rw [hc j hj, h5, Array.getElem?_toList, hv]
  have hex : ∀ i, ∃ e : EvV, i < n → EvOk W W.heap.size e ∧ ∃ ad, a = some ad ∧ ad.block < W.heap.size ∧ ∀ (j : Nat) v, e.cs[j]? = some v → W.cell? ((ad.add (i * 14)).add j) = some v := fun i => by
    by_cases hi : i < n
    · obtain ⟨e, h⟩ := key i hi
      exact ⟨e, fun _ => h⟩
    · exact ⟨⟨exZ, none, 0, 0⟩, fun h => absurd h hi⟩
  refine ⟨a, n, c, (List.range n).map fun i => (hex i).choose, h1, ⟨by simp, fun i d hi => ?_⟩, by omega⟩
  have hi' : i < n := by
    have := (List.getElem?_eq_some_iff.1 hi).1
    simpa using this
  rw [List.getElem?_map, List.getElem?_range hi'] at hi
  injection hi with hi
  rw [← hi]
  exact (hex i).choose_spec hi'
end
section
variable {H : Type} {enc : TypeId × Value → H} {W : World} {base : Nat} {sp : Nat → Bool} {held : Bool} {r : Reach} {b0 : Nat} {v : Value} {d : DataW H} {p : List MemPlace}
theorem open_evz (hv : Value.okWide Try.prog W r b0 28 v) (h : DataW.Trod enc Try.prog W base sp held 28 v d p) (hs : Sz 28 d) :
    ∃ e : EvV, v = .agg e.cs ∧ EvOk W W.heap.size e := by
  obtain ⟨cs, rfl, hsz⟩ := okWide_struct Try.underlying28 hv
  obtain ⟨fuel, hf0⟩ := h
  have hf : DataW.trod enc Try.prog W base sp held fuel 28 cs.toList = some (d, p) := hf0
  obtain ⟨e, h1, h2⟩ := rdz_ev hf hs
  exact ⟨e, by rw [← Array.toArray_toList (xs := cs), h1], h2⟩
theorem open_evsz (hv : Value.okWide Try.prog W r b0 31 v) (h : DataW.Trod enc Try.prog W base sp held 31 v d p) (hs : Sz 31 d) :
    ∃ (A : Option Addr) (n c : Nat) (xs : List EvV), v = .slice A n c ∧ RowEv W W.heap.size A n xs ∧ n ≤ 10000000000000 := by
  obtain ⟨a0, len0, cap0, rfl⟩ := okWide_slice Try.underlying31 hv
  obtain ⟨fuel, hf⟩ := h
  obtain ⟨A, n, c, xs, h1, h2⟩ := rdz_evs hf hs
  simp [Value.cells] at h1
  obtain ⟨rfl, rfl, rfl⟩ := h1
  exact ⟨_, _, _, xs, rfl, h2⟩
end
end Go.Proofs.Ytiemlnomlfebkaa

namespace Go.Proofs.Ytiemlnomlfebkaa.EventBack
open Go.ChangeShapes Go.WideShapes Go.ChangeAt Go.RowKit Go.Deep
open Dot Evt
set_option linter.unusedVariables false
set_option linter.unusedSimpArgs false
theorem right_l {x : Ev} (h : rightE x = true) : x.l.length ≤ 96 := by
  unfold rightE at h
  simp only [Bool.and_eq_true, decide_eq_true_eq] at h
  exact h.1.1.2
theorem evSum_len (xs : List EvV) : xs.length ≤ evSum xs := by
  unfold evSum
  induction xs with
  | nil => simp
  | cons x l ih => simp at ih ⊢; omega
/-- the right ones -/
def rts (xs : List EvV) : List EvV := xs.filter fun x => rightE x.e
theorem rts_mem {xs : List EvV} {x : EvV} (h : x ∈ rts xs) : x ∈ xs ∧ rightE x.e = true := by
  unfold rts at h
  simpa using h
theorem rts_len (xs : List EvV) : (rts xs).length ≤ xs.length := List.length_filter_le _ _
theorem rts_snoc (l : List EvV) (x : EvV) : rts (l ++ [x]) = if rightE x.e = true then rts l ++ [x] else rts l := by
  unfold rts
  rw [List.filter_append]
  by_cases h : rightE x.e = true
  · rw [if_pos h]; simp [h]
  · rw [if_neg h]; simp [h]
theorem zero3 : (cT 0)[3]? = some (.int .i64 0) := rfl
set_option maxRecDepth 100000 in
set_option maxHeartbeats 4000000 in
theorem walk (A : Option Addr) (n c : Nat) (xs : List EvV) (A1 : Option Addr) (n1 c1 : Nat) (bs : List UInt8) (w : World) (hR : RowEv w w.heap.size A n xs) (hn : n ≤ 10000000000000) (hb : RdB w w.heap.size A1 n1 bs) (hl : n1 ≤ maxLen) :
    Calls Try.prog 8 #[.slice A n c, .slice A1 n1 c1] w fun e w' => e = .returned (.bool true) ∧ Below w.heap.size w w' := by
  have HR := Lib.hid fun (w' : World) (h : Below w.heap.size w w') => hR.below h
  have HB := Lib.hid fun (w' : World) (h : Below w.heap.size w w') => hb.below h
  have HN := Lib.hid hR.1
  have HP7 := Lib.hid (show ∀ x ∈ xs, x.e.p.length = 7 from fun x hx => by
    obtain ⟨i, hi⟩ := List.getElem?_of_mem hx
    exact (hR.2 i x hi).1.1)
  have HNB := Lib.hid hn
  unfold maxLen at hl
  have HNL := Lib.hid hb.1
  clear hR hn hb
  go_enter Try.func8, Try.ntmps8
  go_wp2_with fail
  refine (alive07 w).mono ?_
  rintro e w1 ⟨rfl, b1⟩
  go_wp2_with fail
  refine (egreat_any A n c xs w.heap.size w1 (by have := HNB.out; omega) (HR.out w1 b1) b1.size).mono ?_
  rintro e w2 ⟨⟨G, rfl, hG⟩, b2'⟩
  have b2 := b1.trans (b2'.mono b1.size)
  clear b1 b2'
  cases G
  case true =>
    go_wp2_with fail
    go_ret
    exact ⟨rfl, b2⟩
  clear hG
  by_cases h5 : 5000 < n1
  · have hd : decide ((5000 : Int) < (n1 : Int)) = true := decide_eq_true (by omega)
    clear h5
    go_wp2_with fail
    go_ret
    exact ⟨rfl, b2⟩
  have hd5 : decide ((5000 : Int) < (n1 : Int)) = false := decide_eq_false (by omega)
  have H5 := Lib.hid (show n1 ≤ 5000 by omega)
  clear h5
  by_cases h7 : 700 < n
  · have hd : decide ((700 : Int) < (n : Int)) = true := decide_eq_true (by omega)
    clear h7
    go_wp2_with fail
    go_ret
    exact ⟨rfl, b2⟩
  have hd7 : decide ((700 : Int) < (n : Int)) = false := decide_eq_false (by omega)
  have H7 := Lib.hid (show n ≤ 700 by omega)
  clear h7
  go_wp2_with fail
  obtain ⟨s, hs⟩ : ∃ s, s = w.heap.size := ⟨_, rfl⟩
  have HS := Lib.hid hs
  clear hs hd5 hd7
  go_loopw [5, 32] (fun z i wr => ∃ (k : Nat) (A' : Option Addr) (m c' : Nat), k ≤ n ∧ i = .int .i64 k ∧ z = .slice A' m c' ∧ m ≤ k ∧ OwnEv wr s A' m c' (rts (xs.take k)) ∧ Below w.heap.size w wr) (fun _ i _ => n - (intOf i).toNat)
  case atStart => exact ⟨0, none, 0, 0, by omega, rfl, rfl, by omega, OwnEv.nil _ _, b2⟩
  case round =>
    clear b2
    obtain ⟨k, A', m, c', hk, rfl, rfl, hmk, ho, gb⟩ := hrel
    have hgs : s ≤ wr.heap.size := by have := gb.size; have := HS.out; omega
    by_cases hlt : k < n
    · have hkl : k < xs.length := by rw [← HN.out]; exact hlt
      obtain ⟨hok, ad, hA, hab, hcell⟩ := (HR.out wr gb).2 k _ (List.getElem?_eq_getElem hkl)
      have hsn := take_snoc xs hkl
      generalize xs[k] = x at *
      subst hA
      have hrs := rts_snoc (xs.take k) x
      rw [← hsn] at hrs
      have HRS := Lib.hid hrs
      have hrt := fun (w' : World) (h : Below wr.heap.size wr w') => eright_any x.e hok.1 x.A x.m x.c w' ((hok.2.1.below (h.mono gb.size)).size)
      obtain ⟨cs, hcs⟩ : ∃ cs, cs = x.cs := ⟨_, rfl⟩
      have hec : ec x.e (.slice x.A x.m x.c) = cs := hcs.symm
      rw [hec] at hrt
      rw [← hcs] at hcell
      have HRT := Lib.hid hrt
      have HCS := Lib.hid hcs
      have HSZ := Lib.hid (show cs.size = 14 by rw [hcs]; rfl)
      have H1C := Lib.hid (show cs.all (·.oneCell') = true by rw [hcs]; exact x.one)
      have HC := Lib.hid hcell
      have HBS2 := Lib.hid (fun w => buildE1 x w)
      rw [← hcs] at HBS2
      have hk0 : (0 : Int) ≤ (k : Int) := by omega
      have hkm : (k : Int) < (n : Int) := by omega
      clear hcs hec hcell hok hsn hrs hrt
      go_upto_region 8 with fail
      go_upto_region 9 with first
        | ((with_reducible refine wpList_lda rowE HC.out HSZ.out ?_ ?_); rotate_left; (rfl))
        | ((with_reducible refine wpList_st rowE (Blk.new _ _ _) HSZ.out ?_ H1C.out ?_ ?_ ?_); (rfl); rotate_left; (rfl); (rfl); intro w6 k6 g6 z6)
      have bA : Below wr.heap.size wr w6 := (((Below.refl _ _).alloc (Nat.le_refl _) _).grown g6 (by simp) (fun q hq => by injection hq with hq; omega))
      have gb6 := gb.trans (bA.mono gb.size)
      have ho6 := ho.below bA (Nat.le_refl _)
      have HRT6 := Lib.hid (HRT.out w6 bA)
      obtain ⟨gr, hgr2⟩ : ∃ gr, gr = wr.heap.size := ⟨_, rfl⟩
      rw [← hgr2] at k6 ⊢
      have hs6 : s ≤ w6.heap.size := by have := bA.size; omega
      clear hgr2 g6 z6 bA gb ho HRT
      go_wp2_with first
        | ((with_reducible refine wpList_ld rowE k6 HSZ.out ?_ ?_); rotate_left; (rfl))
      refine HRT6.out.mono ?_
      rintro e w7 ⟨rfl, b7⟩
      have gb7 := gb6.trans (b7.mono gb6.size)
      have k7 := k6.below b7 k6.lt
      have ho7 := ho6.below b7 (Nat.le_refl _)
      have hs7 : s ≤ w7.heap.size := by have := b7.size; omega
      have h7 := H7.out
      clear k6 ho6 gb6 b7 HRT6
      cases hx : rightE x.e
      case false =>
        have hr2 := HRS.out
        rw [if_neg (by rw [hx]; simp)] at hr2
        have HR2 := Lib.hid hr2
        clear hx hr2
        go_wp2_with fail
        go_roundw
        case rel => exact ⟨k + 1, A', m, c', by omega, by go_num, rfl, by omega, by rw [HR2.out]; exact ho7, gb7⟩
        case measure => simp [intOf]; omega
      case true =>
        have hr2 := HRS.out
        rw [if_pos hx] at hr2
        have HR2 := Lib.hid hr2
        clear hx hr2
        go_wp2_with first
          | ((with_reducible refine wpList_ld rowE k7 HSZ.out ?_ ?_); rotate_left; (rfl))
          | ((refine wpList_bs (v := .slice (some ⟨w7.heap.size, 0, none⟩) 1 1) (w' := w7.alloc (.cells cs 28)) rfl 31 1 #[(0, .tmp 39)] rfl ?_ ?_); (simp only [List.map_toArray, List.map_cons, List.map_nil]; exact HBS2.out w7))
          | (at_builtin; refine wpList_appE rfl (.tmp 38) (.tmp 40) rfl rfl (ho7.alloc _) rfl (news := [x]) (B := w7.heap.size + 1) ?hd1 rfl ?hd2 ?hd3 ?_)
        case hd1 =>
          have h := Rd.made w7 cs 28 (0, 0)
          rw [show ecsL [x] = cs.toList by rw [HCS.out]; simp [ecsL]]
          exact h
        case hd2 => omega
        case hd3 => simp; omega
        intro A3 c3 w8 o8 g8 m8 b8
        have gb8 := gb7.trans (((Below.refl _ _).alloc (by have := gb7.size; omega) (.cells cs 28)).trans (b8.mono (by have := HS.out; omega)))
        clear g8 m8 b8 k7 gb7 ho7
        go_wp2_with fail
        go_roundw
        case rel => exact ⟨k + 1, A3, m + 1, c3, by omega, by go_num, rfl, by omega, by rw [HR2.out]; exact o8, gb8⟩
        case measure => simp [intOf]; omega
    · obtain rfl : k = n := by omega
      rw [List.take_of_length_le (by rw [← HN.out]; omega)] at ho
      have hkd : decide ((k : Int) < (k : Int)) = false := decide_eq_false (by omega)
      have h7 := H7.out
      obtain ⟨zs, hzs⟩ : ∃ zs, zs = rts xs := ⟨_, rfl⟩
      rw [← hzs] at ho
      have hpz : ∀ z ∈ zs, z.e.p.length = 7 ∧ rightE z.e = true := fun z hz => by
        rw [hzs] at hz
        exact ⟨HP7.out z (rts_mem hz).1, (rts_mem hz).2⟩
      have hozs : ∀ z ∈ zs, EvOk wr wr.heap.size z := fun z hz => by
        rw [hzs] at hz
        obtain ⟨i, hi⟩ := List.getElem?_of_mem (rts_mem hz).1
        exact ((HR.out wr gb).2 i z hi).1.more gb.size
      have hrz : RowEv wr wr.heap.size A' m zs := ho.row hozs
      have hml : m = zs.length := ho.1
      have hall : zs.all (fun x => rightE x.e) = true := List.all_eq_true.2 fun z hz => (hpz z hz).2
      have hpa : putAllE zs = (Vint.enc zs.length ++ zs.flatMap (fun x => encE x.e), 0) := by
        unfold putAllE
        rw [if_neg (by omega), if_pos hall]
      have hga : getAllE (Vint.enc zs.length ++ zs.flatMap (fun x => encE x.e)) = (zs.map (·.e), 0) := by
        have h := getAll_enc (zs.map (·.e)) (fun x hx => by
          obtain ⟨z, hz, rfl⟩ := List.mem_map.1 hx
          exact hpz z hz) (by rw [List.length_map]; omega)
        rw [List.length_map, List.flatMap_map] at h
        exact h
      have hlen := encAll_len zs hpz
      have hzm : ∀ z ∈ zs, z.m ≤ 1000000 := fun z hz => by
        have := (hozs z hz).2.1.1
        have := right_l (hpz z hz).2
        omega
      have HRZ := Lib.hid fun (w' : World) (h : Below wr.heap.size wr w') => (hrz.below h).more h.size
      have HPA := Lib.hid hpa
      have HGA := Lib.hid hga
      have HZM := Lib.hid hzm
      have HLE := Lib.hid (show (Vint.enc zs.length ++ zs.flatMap (fun x => encE x.e)).length ≤ 1000000 by
        rw [List.length_append]
        have := enc_len6 zs.length
        omega)
      have HML := Lib.hid hml
      have HPZ := Lib.hid hpz
      have HP := Lib.hid (eputAll_any A' m c' zs wr (by omega) hrz)
      rw [HPA.out] at HP
      obtain ⟨by1, hby⟩ : ∃ by1, by1 = Vint.enc zs.length ++ zs.flatMap (fun x => encE x.e) := ⟨_, rfl⟩
      rw [← hby] at HP HGA HLE
      clear hzs hpz hozs hrz hml hall hpa hga hlen hzm hby ho HPA
      go_wp2_with fail
      refine HP.out.mono ?_
      rintro e w3 ⟨A3, n3, c3, rfl, o3, b3⟩
      have hgl3 := egetAll_any A3 n3 c3 by1 w3 o3.rd (by rw [o3.1]; have := HLE.out; omega)
      unfold GetAllEv at hgl3
      rw [HGA.out] at hgl3
      have HG3 := Lib.hid hgl3
      clear hgl3 o3 HP
      go_wp2_with fail
      refine HG3.out.mono ?_
      rintro e w4 ⟨A4, n4, c4, ys, rfl, o4, hys, hmp, b4⟩
      have b34 := b3.trans (b4.mono b3.size)
      have gb4 := gb.trans (b34.mono gb.size)
      have hn4 : n4 = m := by
        rw [o4.1, HML.out]
        have := congrArg List.length hmp
        simpa using this
      subst hn4
      have hym : ∀ y ∈ ys, y.m ≤ 1000000 := fun y hy => by
        have h1 : y.e ∈ zs.map (·.e) := by rw [← hmp]; exact List.mem_map.2 ⟨y, hy, rfl⟩
        obtain ⟨z, hz, he⟩ := List.mem_map.1 h1
        have h2 := right_l (HPZ.out z hz).2
        rw [(hys y hy).2.1.1, ← he]
        omega
      have HAL := Lib.hid (rall07_eq A4 A' n4 c4 c' ys zs w4 (o4.row fun y hy => (hys y hy).ok) (HRZ.out w4 b34) hmp hym (by omega))
      clear o4 hys hmp hym b3 b4 b34 gb HG3
      go_wp2_with fail
      refine HAL.out.mono ?_
      rintro e w5 ⟨rfl, b5⟩
      have gb5 := gb4.trans (b5.mono gb4.size)
      have HGT := Lib.hid (eget_any A1 n1 c1 bs w5 ((HB.out w5 gb5).more gb5.size) (by have := H5.out; omega))
      clear gb4 b5 HAL hkd
      go_wp2_with fail
      refine HGT.out.mono ?_
      rintro e w6 ⟨A6, m6, c6, rfl, o6, b6⟩
      have gb6 := gb5.trans (b6.mono gb5.size)
      clear gb5 b6 HGT
      obtain ⟨E, hE⟩ : ∃ E, E = (getEv bs).2 := ⟨_, rfl⟩
      obtain ⟨y, hy⟩ : ∃ y, y = (getEv bs).1 := ⟨_, rfl⟩
      rw [← hy] at o6 ⊢
      rw [← hE]
      have hcase : (E = 0 ∧ y.p.length = 7 ∧ rightE y = true ∧ encE y = bs) ∨ (E ≠ 0 ∧ y = exZ) := by
        rw [hE, hy]
        unfold getEv
        cases hd : decE bs with
        | error x0 =>
          refine .inr ⟨?_, rfl⟩
          exact (rdE_eq.2 _ hd).2
        | ok p =>
          obtain ⟨x, r⟩ := p
          simp only
          by_cases h : r = [] ∧ rightE x = true
          · rw [if_pos h]
            have := decE_put hd
            rw [h.1, List.append_nil] at this
            exact .inl ⟨rfl, decE_p hd, h.2, this.symm⟩
          · rw [if_neg h]
            exact .inr ⟨by simp, rfl⟩
      clear hE hy
      rcases hcase with ⟨rfl, hp7, hry, hby⟩ | ⟨hE, rfl⟩
      · obtain ⟨cy, hcy⟩ : ∃ cy, cy = ec y (.slice A6 m6 c6) := ⟨_, rfl⟩
        have SY := Lib.hid (show cy.size = 14 by rw [hcy]; rfl)
        have OY := Lib.hid (show cy.all (·.oneCell') = true by rw [hcy]; exact ec_one _ _ _ _)
        have SZ0 := Lib.hid (show (cT 0).size = 14 from rfl)
        have hpt := fun (w' : World) (h : Below w6.heap.size w6 w') => eput_any y hp7 A6 m6 c6 w' (o6.rd.below h).size
        have hrt := fun (w' : World) (h : Below w6.heap.size w6 w') => eright_any y hp7 A6 m6 c6 w' (o6.rd.below h).size
        have hpe : putE y = (bs, 0) := by unfold putE; rw [if_pos hry, hby]
        rw [hpe, ← hcy] at hpt
        rw [hry, ← hcy] at hrt
        rw [← hcy]
        have HPT := Lib.hid hpt
        have HRT := Lib.hid hrt
        clear hpt hrt hpe hcy hp7 hry hby o6
        go_upto_region 17 with first
          | ((with_reducible refine wpList_st rowE (Blk.new _ _ _) SY.out SZ0.out OY.out ?_ ?_ ?_); rotate_left; (rfl); (rfl); intro w7 k7 g7 z7)
        have bA : Below w6.heap.size w6 w7 := (((Below.refl _ _).alloc (Nat.le_refl _) _).grown g7 (by simp) (fun q hq => by injection hq with hq; omega))
        have gb7 := gb6.trans (bA.mono gb6.size)
        obtain ⟨x0, hx0⟩ : ∃ x0, x0 = w6.heap.size := ⟨_, rfl⟩
        rw [← hx0] at k7 ⊢
        clear hx0 g7 z7 gb6
        go_wp2_with first
          | ((with_reducible refine wpList_ld rowE k7 SY.out ?_ ?_); rotate_left; (rfl))
        refine (HPT.out w7 bA).mono ?_
        rintro e w8 ⟨A8, n8, c8, rfl, o8, b8⟩
        have k8 := k7.below b8 k7.lt
        have gb8 := gb7.trans (b8.mono gb7.size)
        have bA8 := bA.trans (b8.mono bA.size)
        clear k7 gb7 b8 bA
        go_wp2_with first
          | ((with_reducible refine wpList_ld rowE k8 SY.out ?_ ?_); rotate_left; (rfl))
        refine (HRT.out w8 bA8).mono ?_
        rintro e w9 ⟨rfl, b9⟩
        have gb9 := gb8.trans (b9.mono gb8.size)
        have HSM := Lib.hid (same_eq A8 A1 n8 c8 n1 c1 bs w8.heap.size w.heap.size w9 (o8.rd.below b9) (HB.out w9 gb9) (by rw [o8.1, ← HNL.out]; have := H5.out; omega))
        clear k8 gb8 bA8 o8 b9
        go_wp2_with fail
        refine HSM.out.mono ?_
        rintro e w10 ⟨rfl, m10, rfl⟩
        go_wp2_with fail
        go_ret
        exact ⟨rfl, below_drewN gb9 m10⟩
      · have hm0 : m6 = 0 := by rw [o6.1]; rfl
        subst hm0
        have hq : ((E : Int) != 0) = true := by rw [bne_iff_ne]; omega
        obtain ⟨cy, hcy⟩ : ∃ cy, cy = ec exZ (.slice A6 0 c6) := ⟨_, rfl⟩
        have SY := Lib.hid (show cy.size = 14 by rw [hcy]; rfl)
        have OY := Lib.hid (show cy.all (·.oneCell') = true by rw [hcy]; exact ec_one _ _ _ _)
        have C3 := Lib.hid (show cy[3]? = some (.int .i64 0) by rw [hcy]; rfl)
        have C13 := Lib.hid (show cy[13]? = some (.slice A6 0 c6) by rw [hcy]; rfl)
        have SZ0 := Lib.hid (show (cT 0).size = 14 from rfl)
        rw [← hcy]
        clear hcy o6 hE
        go_upto_region 17 with first
          | ((with_reducible refine wpList_st rowE (Blk.new _ _ _) SY.out SZ0.out OY.out ?_ ?_ ?_); rotate_left; (rfl); (rfl); intro w7 k7 g7 z7)
        have bA : Below w6.heap.size w6 w7 := (((Below.refl _ _).alloc (Nat.le_refl _) _).grown g7 (by simp) (fun q hq => by injection hq with hq; omega))
        have gb7 := gb6.trans (bA.mono gb6.size)
        obtain ⟨x0, hx0⟩ : ∃ x0, x0 = w6.heap.size := ⟨_, rfl⟩
        rw [← hx0] at k7 ⊢
        have c3 : w7.cell? ⟨x0, 3, none⟩ = some (.int .i64 0) := (k7.cell 3).trans C3.out
        have c13 : w7.cell? ⟨x0, 13, none⟩ = some (.slice A6 0 c6) := (k7.cell 13).trans C13.out
        clear hx0 g7 z7 gb6 bA k7
        go_wp2_with fail
        go_ret
        exact ⟨rfl, gb7⟩
set_option maxRecDepth 100000 in
theorem lifted (os : Os) (started : os.Started) (H : Type) (enc : TypeId × Value → H) :
    ReturnsInHanded {} Try.checked os 8 .any (Rows.eventBackSpec.pre6 enc Try.prog Try.f8 Rows.eventBackRow.domain false) (Rows.eventBackSpec.post enc Try.prog Try.f8 false true false false) := by
  refine returnsInHanded_of_change_sized (C := Try.checked) own started (by kernel_rfl) Try.func8
    (ChangeSpec.witness6 (enc := enc) (C := Try.checked) false ⟨#[], #[.slice none 0 0, .slice none 0 0], []⟩ 8 (by kernel_rfl) (by kernel_rfl) (by kernel_rfl) (by kernel_rfl)) ?_
  intro W base args ds gs before hval0 hW hcnd hsz0 _
  have hsz : (DataW.weightsEach Try.prog (Try.f8.params.toList ++ []) (ds ++ gs)).all (· ≤ reachBytes) = true := hsz0
  have hval : ∀ (j : Nat) t v, Try.f8.params[j]? = some t → args[j]? = some v → Value.okWide Try.prog W .any base t v := hval0
  have hW' := hW
  obtain ⟨p, q, hA0, hV, rfl, hfz, hnd⟩ := hW
  have hA : DataW.TrodAll enc Try.prog W 0 (fun _ => true) true Try.f8.params.toList args.toList ds p := hA0
  rw [Try.params8] at hA hval hsz
  obtain ⟨v0, vs0, d0, ds0, p0, q0, hargs, rfl, rfl, h0, r0⟩ := trodAll_cons hA
  obtain ⟨v1, vs1, d1, ds1, p1, q1, rfl, rfl, rfl, h1, r1⟩ := trodAll_cons r0
  obtain ⟨rfl, rfl, rfl⟩ := trodAll_nil r1
  obtain rfl : args = #[v0, v1] := by cases args; simp_all
  obtain ⟨rfl, rfl⟩ := trodVars_none hV
  have lt0 : ∀ x ∈ p0, x.block < W.heap.size := by obtain ⟨m, hm⟩ := h0; exact DataW.trod_lt m _ _ _ hm
  have k0 := h0
  have lt1 : ∀ x ∈ p1, x.block < W.heap.size := by obtain ⟨m, hm⟩ := h1; exact DataW.trod_lt m _ _ _ hm
  have k1 := h1
  have sz0 : Sz 31 d0 := sz_arg (j := 0) hsz rfl rfl
  obtain ⟨a0, n0, c0, b0, rfl, w0, l0⟩ := open_evsz (hval 0 31 v0 rfl rfl) h0 sz0
  obtain ⟨a1, n1, c1, b1, rfl, w1, l1⟩ := open_bytes (hval 1 37 v1 rfl rfl) h1
  clear hA0 hval0
  refine (walk a0 n0 c0 b0 a1 n1 c1 b1 W w0 l0 w1 l1).mono fun e W' ⟨he, bel⟩ => ?_
  subst he
  exact ⟨_, rfl, _, _, _, [], _, [], hW', trodAll_mk1 (shut_bool Try.underlying4 _), (trodAll_cons_mk (Below.trod laidOut (by kernel_rfl) (of_decide_eq_true (by kernel_rfl)) k0 bel lt0) (trodAll_cons_mk (Below.trod laidOut (by kernel_rfl) (of_decide_eq_true (by kernel_rfl)) k1 bel lt1) trodAll_mk0)), rfl, bel.frame _, fun h => by cases h⟩

theorem proved : Rows.EventBackSaid :=
  OpenClaim.holds_of_wide 8 Try.f8 rfl rfl rfl rfl rfl rfl rfl ⟨rfl, rfl, rfl, rfl, rfl⟩ rfl rfl rfl rfl rfl (by kernel_rfl) Try.func8 (by kernel_rfl)
    (of_decide_eq_true (by kernel_rfl)) (by unfold Func.isWrapper; first | (rw [if_pos (by decide +kernel)]; kernel_rfl) | (rw [if_neg (by decide +kernel)]; exact ⟨rfl, rfl⟩))
    (fun os started H enc _ => lifted os started H enc)
#print axioms proved
end Go.Proofs.Ytiemlnomlfebkaa.EventBack

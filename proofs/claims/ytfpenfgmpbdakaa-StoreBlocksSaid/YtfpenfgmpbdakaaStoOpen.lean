/- The walk of store's Open, over a disk with no events. -/
import Derived.Test.YtfpenfgmpbdakaaStoRead
import Derived.Test.YtfpenfgmpbdakaaStoOps
namespace Go.Proofs.Ytfpenfgmpbdakaa
set_option linter.unusedVariables false
set_option linter.unusedSimpArgs false
set_option maxRecDepth 100000
open Go.RowKit
open Disk
namespace Sto
open _root_.Go.Proofs.Ytfpenfgmpbdakaa.Log (writeM LogEnd lwrite_any mendM MendEnd lmend_any lread_any ReadL)
open _root_.Go.Proofs.Ytfpenfgmpbdakaa.Frame (frm frms frms_nil frms_cons frms_snoc frms_append frm_length frm_pos Parts AllF)
/-- what records tell -/
def recsM : Nat × Nat → List (List UInt8) → Option (Nat × Nat)
  | s, [] => some s
  | s, r :: l => match recM s r with
    | none => none
    | some s' => recsM s' l
theorem recsM_snoc (l : List (List UInt8)) (r : List UInt8) : ∀ s, recsM s (l ++ [r]) = match recsM s l with | none => none | some s' => recM s' r := by
  induction l with
  | nil => intro s; show (match recM s r with | none => none | some s' => some s') = recM s r; cases recM s r <;> rfl
  | cons x l ih =>
    intro s
    show (match recM s x with | none => none | some s' => recsM s' (l ++ [r])) = match (match recM s x with | none => none | some s' => recsM s' l) with | none => none | some s' => recM s' r
    cases h : recM s x with
    | none => rfl
    | some s' => exact ih s'
theorem recsM_none (l m : List (List UInt8)) : ∀ s, recsM s l = none → recsM s (l ++ m) = none := by
  induction l with
  | nil => intro s h; cases h
  | cons x l ih =>
    intro s h
    have h : (match recM s x with | none => none | some s' => recsM s' l) = none := h
    show (match recM s x with | none => none | some s' => recsM s' (l ++ m)) = none
    cases e : recM s x with
    | none => rfl
    | some s' => rw [e] at h; exact ih s' h
theorem mend_parts {b : List UInt8} {l : List (List UInt8)} {r : List UInt8} (hp : Parts b l r) : mendM b [] l = (0, frms l, []) := by
  unfold mendM
  have e : readL b [] = b := rfl
  rw [e]
  by_cases h : (frms l).length < b.length
  · rw [if_pos h]
  · rw [if_neg h]
    have h1 := hp.1
    have h2 := congrArg List.length h1
    rw [List.length_append] at h2
    have hr : r = [] := List.eq_nil_of_length_eq_zero (by omega)
    rw [hr, List.append_nil] at h1
    rw [h1]
theorem parts_self {b : List UInt8} {l : List (List UInt8)} {r : List UInt8} (hp : Parts b l r) : Parts (frms l) l [] := ⟨by rw [List.append_nil], hp.2.1, 3, rfl⟩
theorem parts_le {b : List UInt8} {l : List (List UInt8)} {r : List UInt8} (hp : Parts b l r) : (frms l).length ≤ b.length ∧ l.length ≤ (frms l).length := by
  obtain ⟨h1, h2, _⟩ := hp
  have h3 := congrArg List.length h1
  rw [List.length_append] at h3
  refine ⟨by omega, ?_⟩
  clear h1 h2 h3
  induction l with
  | nil => simp
  | cons x l ih =>
    rw [frms_cons, List.length_append, List.length_cons, frm_length]
    omega
/-- what Open leaves -/
def OpenEnd (w : World) (F : Nat → Prop) (g size : Nat) (lasts : List UInt8) (e : Ending) (w' : World) : Prop :=
  ∃ l r F', Parts lasts l r ∧ Only F w w' ∧ Grows F F' w ∧ match recsM (0, 0) l with
    | some (u, i) => ∃ b, e = .returned (.tuple #[.pointer (some ⟨b, 0, none⟩), .int .i64 0]) ∧ StoAt w' F' b g size ⟨frms l, u, u, i⟩ (.slice none 0 0) ∧ w.heap.size ≤ b
    | none => e = .returned (.tuple #[.pointer none, .int .i64 4]) ∧ DiskAt w' F' g size (frms l) []
set_option maxHeartbeats 2000000 in
theorem open_any (F : Nat → Prop) (g size : Nat) (lasts : List UInt8) (w : World) (hD : DiskAt w F g size lasts []) (hm : lasts.length ≤ size) (hs : size ≤ 16384) (h3 : ∀ l r, Parts lasts l r → ∀ x ∈ l, x.head? ≠ some 3) :
    Calls Try.prog 6 #[.pointer (some ⟨g, 0, none⟩)] w (OpenEnd w F g size lasts) := by
  have k0 := Blk.new w 25 #[.int .i64 0]
  have hbw : Below w.heap.size w (w.alloc (.cells #[.int .i64 0] 25)) := (Below.refl _ _).alloc (Nat.le_refl _) _
  have hsz : w.heap.size < (w.alloc (.cells #[.int .i64 0] 25)).heap.size := by simp
  have hf : ∀ k, F k → k < w.heap.size := hD.lt
  have hnF : ¬ F w.heap.size := fun q => by have := hf _ q; omega
  have d0 := hD.below hbw
  go_enter_defers Try.func6, Try.ntmps6
  go_wp2_with fail
  generalize w.alloc (.cells #[.int .i64 0] 25) = w0 at *
  refine (lmend_any F g size lasts [] _ d0 (by simp [mass]; omega) (by simp) hs (by show lasts.length ≤ _; omega)).mono ?_
  rintro e w1 ⟨l, r, hp, q1⟩
  have hp : Parts lasts l r := hp
  have h3l := h3 l r hp
  have hpl := parts_le hp
  unfold LogEnd at q1
  rw [mend_parts hp] at q1
  obtain ⟨rfl, q1⟩ := q1
  have k1 := q1.kept k0 hnF
  obtain ⟨F1, d1, o1, g1⟩ := q1
  have HP := Lib.hid hp
  have H3 := Lib.hid h3l
  have hnF1 : ¬ F1 w.heap.size := fun q => by
    rcases g1 _ q with x | x
    · exact hnF x
    · omega
  clear hp h3l h3 d0 k0 hD
  go_upto_region 6 with fail
  -- the store's own block
  refine nameW ?_
  intro W hW
  obtain ⟨b, hb⟩ : ∃ b, b = w1.heap.size := ⟨_, rfl⟩
  have kb : Blk W b 44 (sc g 0 0 0 (.slice none 0 0)) := by rw [hW, hb]; exact Blk.new w1 _ _
  have bW : Below w1.heap.size w1 W := by rw [hW]; exact (Below.refl _ _).alloc (Nat.le_refl _) _
  have d2 := d1.below bW
  have k2 := k1.below bW k1.lt
  have hlb : b < W.heap.size := kb.lt
  have hbn : b ≠ w.heap.size := by have := k1.lt; omega
  have hbF : ¬ F1 b := fun q => by have := d1.lt _ q; omega
  rw [← hb]
  have HB := Lib.hid hb
  have k1' := k1
  clear hW hb d1 k1
  go_wp2_with fail
  refine (lread_any F1 g size (frms l) [] _ d2 (by simp [mass]; omega) (by simp)).mono ?_
  rintro e w3 ⟨l', r', A3, c3, hp3, rfl, bo3, b3⟩
  have hp3 : Parts (frms l) l' r' := hp3
  obtain ⟨rfl, rfl⟩ := (parts_self HP.out).same hp3
  have d3 := d2.below b3
  have k3 := k2.below b3 k2.lt
  have kb3 := kb.below b3 kb.lt
  have hl3 := bo3.len
  have hsmall : l.length ≤ 100000 := by have := hpl; omega
  have hpx := HP.out.2.1
  have oA : Only F w w3 := (((Only.of_below F hbw).trans o1 (Grows.refl _ _)).then_below (bW.mono (by have := k1'.lt; omega))).then_below (b3.mono (by have := k1'.lt; have := bW.size; omega))
  have hb4 : ∀ x ∈ l, x.length ≤ 4096 := hpx
  have HX := Lib.hid hb4
  have HOA := Lib.hid oA
  have hG1 : Grows F F1 w := fun k hk => (g1 k hk).imp id fun q => Nat.le_trans hbw.size q
  have HG1 := Lib.hid hG1
  clear hp3 d2 k2 kb hb4 oA g1 hG1 hl3 hpx o1 hp hpl
  obtain ⟨lb, hlb2⟩ : ∃ lb, lb = W.heap.size := ⟨_, rfl⟩
  rw [← hlb2] at bo3 hlb
  have hwb : w.heap.size ≤ b := by have := HB.out; have := k1'.lt; omega
  clear hlb2 bW b3 k1'
  go_wp2_with fail
  go_loopw [25] (fun i wr => ∃ (k u v : Nat), k ≤ l.length ∧ i = .int .i64 (k : Nat) ∧ recsM (0, 0) (l.take k) = some (u, v) ∧ Blk wr b 44 (sc g 0 u v (.slice none 0 0)) ∧ Only (fun k => k = b) w3 wr) (fun i _ => l.length - (intOf i).toNat)
  case atStart => exact ⟨0, 0, 0, by omega, rfl, rfl, kb3, Only.refl _ _⟩
  case round =>
    clear kb3
    obtain ⟨k, u, v, hk, rfl, hr, kb, o⟩ := hrel
    have kE := k3.only o (fun q => hbn q.symm)
    have dE := d3.keep (o.keeps (fun k hk q => hbF (by rw [← q]; exact hk)) d3.lt)
    have oE : Only F w wr := HOA.out.trans o (fun k hk => .inr (by omega))
    by_cases hlt : k < l.length
    · obtain ⟨a, D, m, c, hA, hab, hcell, hrd, hmc, hcm⟩ := (_root_.Go.Proofs.Ytfpenfgmpbdakaa.Log.Bods.only bo3 o (fun k hk => by omega)).rd.at_ hlt
      subst hA
      have hm4 : m ≤ 4096 := by have := HX.out _ (List.getElem_mem hlt); have := hrd.1; omega
      have hsn := take_snoc l hlt
      have hread := fun (w' : World) (h : Blk w' b 44 (sc g 0 u v (.slice none 0 0))) (h2 : RdB w' wr.heap.size D m l[k]) (h4 : wr.heap.size ≤ w'.heap.size) => read_any b g 0 u v (.slice none 0 0) D m c l[k] wr.heap.size w' h h2 h4 (by omega) hmc hcm (H3.out _ (List.getElem_mem hlt))
      have hr2 : recsM (0, 0) (l.take (k + 1)) = recM (u, v) l[k] := by rw [hsn, recsM_snoc, hr]
      have hcut : recsM (0, 0) (l.take (k + 1)) = none → recsM (0, 0) l = none := fun h => by
        have := recsM_none (l.take (k + 1)) (l.drop (k + 1)) (0, 0) h
        rwa [List.take_append_drop] at this
      rw [hr2] at hcut
      generalize l[k] = rk at *
      have HRD := Lib.hid hread
      have HR2 := Lib.hid hr2
      have HCU := Lib.hid hcut
      have HE := Lib.hid (And.intro kE (And.intro dE oE))
      have HO := Lib.hid o
      have HRB := Lib.hid hrd
      obtain ⟨kk, hkk⟩ : ∃ kk, kk = l.length := ⟨_, rfl⟩
      rw [← hkk] at hlt ⊢
      have HKK := Lib.hid hkk
      have HKB := Lib.hid kb
      have hk0 : (0 : Int) ≤ (k : Int) := by omega
      have hkm : (k : Int) < (kk : Int) := by omega
      have hkx : k ≤ 100000 := by omega
      clear hread hr hr2 hcut kE dE oE o hrd hkk kb hsn d3 k3 bo3
      go_wp2_with fail
      refine (HRD.out _ (by exact HKB.out) (by exact HRB.out) (by exact Nat.le_refl _)).mono ?_
      rintro e w4 ⟨g4, q4⟩
      have o4 : Only (fun k => k = b) w3 w4 := HO.out.trans (Only.of_grown (F := fun k => k = b) g4 rfl) (Grows.refl _ _)
      have o5 : Only (fun k => k = b) wr w4 := Only.of_grown g4 rfl
      rcases hrc : recM (u, v) rk with _ | ⟨u', v'⟩
      · rw [hrc] at q4
        simp only at q4
        subst q4
        have hno := HCU.out hrc
        have HNO := Lib.hid hno
        have kE := HE.out.1.only o5 (fun q => hbn q.symm)
        have dE := HE.out.2.1.keep (o5.keeps (fun k hk q => hbF (by rw [← q]; exact hk)) HE.out.2.1.lt)
        have oE : Only F w w4 := HE.out.2.2.trans o5 (fun k hk => .inr (by omega))
        clear hno hrc
        go_wp2_with fail
        refine leaves_cons (f := 10) (args := #[.pointer (some ⟨w.heap.size, 0, none⟩)]) (by simp) (by simp [go_sem]) ?_
        refine (caught_panic _ _ _ _ _ (kE.cell 0) (kE.free 0)).mono ?_
        rintro e u' w'' ⟨rfl, rfl, rfl⟩
        have k9 := (kE.alloc (.cells #[.int .i64 4] 52)).set_ 0 (.int .i64 4)
        have c9 : World.cell? _ _ = some (.int .i64 4) := k9.cell 0
        have o9 := (oE.alloc (.cells #[.int .i64 4] 52)).setCell (p := ⟨w.heap.size, 0, none⟩) (.inr (Nat.le_refl _)) (.int .i64 4)
        have d9 := (dE.below ((Below.refl _ _).alloc (Nat.le_refl _) (.cells #[.int .i64 4] 52))).keep ⟨by simp [World.setCell], fun k hk => Below.heap_setCell _ ⟨w.heap.size, 0, none⟩ (.int .i64 4) k (fun e => hnF1 (by have e : k = w.heap.size := e; rw [← e]; exact hk))⟩
        refine ⟨.tuple #[.pointer none, .int .i64 4], by simp [results, Try.results6, go_sem, c9], ?_⟩
        refine ⟨l, r, F1, HP.out, o9, HG1.out, ?_⟩
        rw [HNO.out]
        exact ⟨rfl, d9⟩
      · rw [hrc] at q4
        simp only at q4
        obtain ⟨rfl, kb4⟩ := q4
        have HRC := Lib.hid hrc
        clear hrc
        go_wp2_with fail
        go_roundw
        case rel => exact ⟨k + 1, u', v', by omega, by go_num, by rw [HR2.out, HRC.out], kb4, o4⟩
        case measure => simp [intOf]; omega
    · obtain rfl : k = l.length := by omega
      rw [List.take_length] at hr
      have HR := Lib.hid hr
      have hkd : decide ((l.length : Int) < (l.length : Int)) = false := decide_eq_false (by omega)
      have c2 : wr.cell? ⟨b, 2, none⟩ = some (.int .i64 (u : Nat)) := kb.cell 2
      have c1 : wr.cell? ⟨b, 1, none⟩ = some (.int .i64 0) := kb.cell 1
      have z0 : wr.cell? ⟨w.heap.size, 0, none⟩ = some (.int .i64 0) := kE.cell 0
      have z1 : wr.frozen? ⟨w.heap.size, 0, none⟩ = false := kE.free 0
      have k5 := kb.set_ 1 (.int .i64 (u : Nat))
      have kE5 := kE.far (p := ⟨b, 1, none⟩) (fun q => hbn q.symm) (.int .i64 (u : Nat))
      have f0 := kE5.free 0
      have f1 := kb.free 1
      have HE := Lib.hid (And.intro kE5 (And.intro dE (And.intro oE k5)))
      clear kE dE oE k5 kE5 hr kb bo3 d3 k3 o
      go_wp2_with fail
      have c4 : World.cell? _ _ = some (.int .i64 0) := (HE.out.1.set_ 0 (.int .i64 0)).cell 0
      refine leaves_cons (f := 10) (args := #[.pointer (some ⟨w.heap.size, 0, none⟩)]) (by simp) (by simp [go_sem]) ?_
      refine (caught_none _ _).mono ?_
      rintro e u' w'' ⟨rfl, rfl, rfl⟩
      refine ⟨.tuple #[.pointer (some ⟨b, 0, none⟩), .int .i64 0], by simp [results, Try.results6, go_sem, c4], ?_⟩
      have o9 := (HE.out.2.2.1.setCell (p := ⟨b, 1, none⟩) (.inr hwb) (.int .i64 (u : Nat))).setCell (p := ⟨w.heap.size, 0, none⟩) (.inr (Nat.le_refl _)) (.int .i64 0)
      have d8 := HE.out.2.1.keep ⟨by simp [World.setCell], fun k hk => Below.heap_setCell wr ⟨b, 1, none⟩ (.int .i64 (u : Nat)) k (fun e => hbF (by have e : k = b := e; rw [← e]; exact hk))⟩
      have d9 := d8.keep ⟨by simp [World.setCell], fun k hk => Below.heap_setCell _ ⟨w.heap.size, 0, none⟩ (.int .i64 0) k (fun e => hnF1 (by have e : k = w.heap.size := e; rw [← e]; exact hk))⟩
      have k9 := HE.out.2.2.2.far (p := ⟨w.heap.size, 0, none⟩) (by show b ≠ w.heap.size; exact hbn) (.int .i64 0)
      refine ⟨l, r, F1, HP.out, o9, HG1.out, ?_⟩
      rw [HR.out]
      exact ⟨b, rfl, ⟨d9, k9, hbF⟩, hwb⟩
end Sto
end Go.Proofs.Ytfpenfgmpbdakaa

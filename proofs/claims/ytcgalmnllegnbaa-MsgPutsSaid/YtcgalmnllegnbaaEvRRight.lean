/- The walk of the document's Right. -/
import Derived.Test.YtcgalmnllegnbaaFactsD
import Derived.Test.YtcgalmnllegnbaaDotMath
import Derived.Test.YtcgalmnllegnbaaChecked
import Derived.Test.YtcgalmnllegnbaaMem
import Derived.Lib.SliceRun
import Derived.Test.YtcgalmnllegnbaaVintPut
import Derived.Test.YtcgalmnllegnbaaFrameMath
import Derived.Test.YtcgalmnllegnbaaEvRow
import Derived.Test.YtcgalmnllegnbaaFramePut
import Derived.Test.YtcgalmnllegnbaaStop
import Derived.Test.YtcgalmnllegnbaaFrameMust
import Derived.Deep.DeepCutAuto
import Derived.Deep.RegionWith
import Derived.Test.YtcgalmnllegnbaaBytes
import Derived.Test.YtcgalmnllegnbaaDotHas
import Derived.Test.YtcgalmnllegnbaaEvMem
import Derived.Test.YtcgalmnllegnbaaEvRight
/- The walk of event's writer.put. -/
namespace Go.Proofs.Ytcgalmnllegnbaa
set_option linter.unusedVariables false
set_option linter.unusedSimpArgs false
set_option maxRecDepth 100000
open Go.RowKit
open Dot Evt
/-- an event's bytes -/
def encE (x : Ev) : List UInt8 := encN ((numsE x).map Int.toNat)
/-- a right event's numbers are small -/
theorem right_facts {x : Ev} (hp : x.p.length = 7) (h : rightE x = true) :
    ((0 ≤ x.d.1 ∧ x.d.1 ≤ 1099511627776) ∧ (0 ≤ x.d.2 ∧ x.d.2 ≤ 1099511627776) ∧ (0 ≤ x.t ∧ x.t ≤ 1099511627776) ∧ (1 ≤ x.k ∧ x.k ≤ 3) ∧ (0 ≤ x.w ∧ x.w ≤ 1099511627776) ∧ (0 ≤ x.v ∧ x.v ≤ 1099511627776)) ∧
    ((0 ≤ x.p.getD 0 0 ∧ x.p.getD 0 0 ≤ 1099511627776) ∧ (0 ≤ x.p.getD 1 0 ∧ x.p.getD 1 0 ≤ 1099511627776) ∧ (0 ≤ x.p.getD 2 0 ∧ x.p.getD 2 0 ≤ 1099511627776) ∧ (0 ≤ x.p.getD 3 0 ∧ x.p.getD 3 0 ≤ 1099511627776) ∧ (0 ≤ x.p.getD 4 0 ∧ x.p.getD 4 0 ≤ 1099511627776) ∧ (0 ≤ x.p.getD 5 0 ∧ x.p.getD 5 0 ≤ 1099511627776) ∧ (0 ≤ x.p.getD 6 0 ∧ x.p.getD 6 0 ≤ 1099511627776)) ∧
    x.l.length ≤ 96 ∧ ∀ d ∈ x.l, (0 ≤ d.1 ∧ d.1 ≤ 1099511627776) ∧ 0 ≤ d.2 ∧ d.2 ≤ 1099511627776 := by
  unfold rightE at h
  simp only [Bool.and_eq_true, decide_eq_true_eq, inB_iff] at h
  obtain ⟨⟨⟨⟨⟨h1, h2⟩, h3⟩, h4⟩, h5⟩, h6⟩ := h
  have g1 := (may_iff _).1 h1
  have hn := (named_iff _ _).1 h5
  have ht : top = 1099511627776 := rfl
  have hk : (1 ≤ x.k ∧ x.k ≤ 3) ∧ (0 ≤ x.v ∧ x.v ≤ 1099511627776) ∧ (x.p = p0 ∨ polB x.p = true) := by
    unfold kindB at h6
    by_cases k1 : x.k = 1
    · rw [if_pos k1] at h6
      simp only [Bool.and_eq_true, inB_iff, decide_eq_true_eq] at h6
      exact ⟨by omega, by omega, .inl h6.1.1⟩
    · rw [if_neg k1] at h6
      by_cases k2 : x.k = 2
      · rw [if_pos k2] at h6
        simp only [Bool.and_eq_true, decide_eq_true_eq] at h6
        exact ⟨by omega, by omega, .inr h6.1⟩
      · rw [if_neg k2] at h6
        by_cases k3 : x.k = 3
        · rw [if_pos k3] at h6
          simp only [Bool.and_eq_true, decide_eq_true_eq] at h6
          exact ⟨by omega, by omega, .inl h6.1⟩
        · rw [if_neg k3] at h6; cases h6
  refine ⟨⟨by omega, by omega, by omega, hk.1, by omega, hk.2.1⟩, ?_, h4, ?_⟩
  · rcases hk.2.2 with e | e
    · rw [e]; simp [p0]
    · have := polB_iff.1 e
      omega
  · intro d hd
    obtain ⟨i, hi, rfl⟩ := List.getElem_of_mem hd
    have g := hn i hi
    unfold nameAt at g
    rw [List.getD_eq_getElem?_getD, List.getElem?_eq_getElem hi] at g
    simp only [Option.getD_some, Bool.and_eq_true] at g
    have g5 := (may_iff _).1 g.1.1
    omega
theorem dotNums_nat (l : List Dt) : (dotNums l).map Int.toNat = dotN l := by
  induction l with
  | nil => rfl
  | cons a l ih => simp [dotNums, dotN] at ih ⊢; exact ih
theorem wput_no (x : Ev) (hp : x.p.length = 7) (A : Option Addr) (m c g : Nat) (w : World) (hl : RdD w w.heap.size A m x.l) (hx : rightE x = false) :
    Calls Try.prog 77 #[.pointer (some ⟨g, 0, none⟩), .agg (ec x (.slice A m c))] w fun e w' => e = .panicked [{ v := eflt 2, recovered := false }] ∧ Below w.heap.size w w' := by
  have hb0 : Below w.heap.size w (w.alloc (.cells (ec x (.slice A m c)) 50)) := (Below.refl _ _).alloc (Nat.le_refl _) _
  have hr := eright_any x hp A m c (w.alloc (.cells (ec x (.slice A m c)) 50)) (hl.below hb0).size
  rw [hx] at hr
  obtain ⟨⟨n, q⟩, t, k, wk, v, p, l⟩ := x
  unfold ec at hb0 hr ⊢
  simp only at hb0 hr ⊢
  clear hx hl hp
  generalize p.getD 0 0 = p0, p.getD 1 0 = p1, p.getD 2 0 = p2, p.getD 3 0 = p3, p.getD 4 0 = p4, p.getD 5 0 = p5, p.getD 6 0 = p6 at *
  have HR := Lib.hid hr
  clear hr
  go_enter Try.func77, Try.ntmps77
  go_wp2_with fail
  refine HR.out.mono ?_
  rintro e w1 ⟨rfl, b1⟩
  go_wp2_with fail
  refine (wfail_any g 2 w1).mono ?_
  rintro e w2 ⟨rfl, rfl⟩
  go_wp2_with fail
  exact ⟨rfl, rfl, hb0.trans (b1.mono hb0.size)⟩
theorem wput_yes (x : Ev) (hp : x.p.length = 7) (A : Option Addr) (m c g : Nat) (bs : List UInt8) (w : World) (h : WrS w g bs) (hl : RdD w g A m x.l) (hx : rightE x = true) (hbs : bs.length ≤ 140737488350000) :
    Calls Try.prog 77 #[.pointer (some ⟨g, 0, none⟩), .agg (ec x (.slice A m c))] w fun e w' => e = .returned (.tuple #[]) ∧ WrS w' g (bs ++ encE x) ∧ w.grownBy w' (some g) := by
  have hb0 : Below w.heap.size w (w.alloc (.cells (ec x (.slice A m c)) 50)) := (Below.refl _ _).alloc (Nat.le_refl _) _
  have kb : Blk (w.alloc (.cells (ec x (.slice A m c)) 50)) w.heap.size 50 (ec x (.slice A m c)) := Blk.new _ _ _
  have hr := eright_any x hp A m c (w.alloc (.cells (ec x (.slice A m c)) 50)) (hl.below (hb0.mono (by have := h.lt; omega))).size
  rw [hx] at hr
  obtain ⟨⟨⟨a0, a1⟩, ⟨a2, a3⟩, ⟨a4, a5⟩, ⟨a6, a7⟩, ⟨a8, a9⟩, ⟨a10, a11⟩⟩, ⟨⟨d0, e0⟩, ⟨d1, e1⟩, ⟨d2, e2⟩, ⟨d3, e3⟩, ⟨d4, e4⟩, ⟨d5, e5⟩, ⟨d6, e6⟩⟩, h96, hdd⟩ := right_facts hp hx
  obtain ⟨⟨n, q⟩, t, k, wk, v, p, l⟩ := x
  simp only at a0 a1 a2 a3 a4 a5 a6 a7 a8 a9 a10 a11 d0 d1 d2 d3 d4 d5 d6 e0 e1 e2 e3 e4 e5 e6 h96 hdd hl hp
  obtain ⟨n, rfl⟩ := Int.eq_ofNat_of_zero_le a0
  obtain ⟨q, rfl⟩ := Int.eq_ofNat_of_zero_le a2
  obtain ⟨t, rfl⟩ := Int.eq_ofNat_of_zero_le a4
  obtain ⟨k, rfl⟩ := Int.eq_ofNat_of_zero_le (show 0 ≤ k by omega)
  obtain ⟨wk, rfl⟩ := Int.eq_ofNat_of_zero_le a8
  obtain ⟨v, rfl⟩ := Int.eq_ofNat_of_zero_le a10
  have hE : encE ⟨((n : Int), (q : Int)), t, k, wk, v, p, l⟩ = encN ([n, q, t, k, wk] ++ (if k = 1 then [v] else (if k = 2 then [(p.getD 0 0).toNat, (p.getD 1 0).toNat, (p.getD 2 0).toNat, (p.getD 3 0).toNat, (p.getD 4 0).toNat, (p.getD 5 0).toNat, (p.getD 6 0).toNat] else []) ++ [m] ++ dotN l)) := by
    unfold encE numsE
    have hm : m = l.length := hl.1
    match p, hp with
    | [p0, p1, p2, p3, p4, p5, p6], _ =>
      simp only [List.map_append, dotNums_nat]
      by_cases k1 : k = 1
      · subst k1; simp
      · by_cases k2 : k = 2
        · subst k2; simp [dotNums_nat, hm]
        · have : ¬ (k : Int) = 1 := by omega
          have : ¬ (k : Int) = 2 := by omega
          simp [*, dotNums_nat]
  rw [hE]
  clear hE hx
  unfold ec at hb0 kb hr ⊢
  simp only at hb0 kb hr ⊢
  generalize p.getD 0 0 = p0, p.getD 1 0 = p1, p.getD 2 0 = p2, p.getD 3 0 = p3, p.getD 4 0 = p4, p.getD 5 0 = p5, p.getD 6 0 = p6 at *
  obtain ⟨p0, rfl⟩ := Int.eq_ofNat_of_zero_le d0
  obtain ⟨p1, rfl⟩ := Int.eq_ofNat_of_zero_le d1
  obtain ⟨p2, rfl⟩ := Int.eq_ofNat_of_zero_le d2
  obtain ⟨p3, rfl⟩ := Int.eq_ofNat_of_zero_le d3
  obtain ⟨p4, rfl⟩ := Int.eq_ofNat_of_zero_le d4
  obtain ⟨p5, rfl⟩ := Int.eq_ofNat_of_zero_le d5
  obtain ⟨p6, rfl⟩ := Int.eq_ofNat_of_zero_le d6
  simp only [Int.toNat_natCast]
  have HR := Lib.hid hr
  obtain ⟨Z, hZ⟩ : ∃ Z, Z = encN ([n, q, t, k, wk] ++ (if k = 1 then [v] else (if k = 2 then [p0, p1, p2, p3, p4, p5, p6] else []) ++ [m] ++ dotN l)) := ⟨_, rfl⟩
  rw [← hZ]
  have HZ := Lib.hid hZ
  clear hZ
  have hgl := h.lt
  have HT := Lib.hid fun (w1 : World) (h : WrS w1 g bs) (hb : Blk w1 w.heap.size 50 _) (hr : RdD w1 g A m l) => thrw_any w.heap.size g bs n q t k wk v p0 p1 p2 p3 p4 p5 p6 A m c l w1 h hb (by have := hgl; omega) (by omega) (by omega) (by omega) (by omega) (by omega) (by omega) (by omega) (by omega) (by omega) (by omega) (by omega) (by omega) (by omega) hr (by have := hl.1; omega) hdd hbs
  have HW := Lib.hid h
  have HL := Lib.hid hl
  have HGL := Lib.hid hgl
  have HKB := Lib.hid kb
  clear hr h hl hgl kb hp h96 hdd hbs a0 a1 a2 a3 a4 a5 a6 a7 a8 a9 a10 a11 d0 d1 d2 d3 d4 d5 d6 e0 e1 e2 e3 e4 e5 e6
  go_enter Try.func77, Try.ntmps77
  go_wp2_with fail
  refine HR.out.mono ?_
  rintro e w1 ⟨rfl, b1⟩
  have hb1 := hb0.trans (b1.mono hb0.size)
  have kb1 := HKB.out.below b1 HKB.out.lt
  have hw1 : WrS w1 g bs := HW.out.below hb1
  have hl1 := HL.out.below (hb1.mono (by have := HGL.out; omega))
  clear HR HKB HW HL b1 hb0
  go_wp2_with fail
  refine (HT.out _ hw1 kb1 hl1).mono ?_
  rintro e w2 ⟨rfl, hw2, gg⟩
  go_wp2_with fail
  go_end0
  exact ⟨rfl, by rw [HZ.out]; exact hw2, (only_below (grown_refl0 w _) hb1).trans gg⟩
end Go.Proofs.Ytcgalmnllegnbaa

/- The law's copies of a set: To, Ref, From. -/
namespace Go.Proofs.Ytcgalmnllegnbaa
set_option linter.unusedVariables false
set_option linter.unusedSimpArgs false
set_option maxRecDepth 100000
open Go.RowKit
open Dot
theorem step_appD {w : World} {ops : Array Oper} {o : Oper} {a : Act} {K : Act → World → Prop} {Q : Exit → Act → World → Prop} {E : Prop} (hgd : o.guard = none) (s x : Operand)
    (ho : o.op = .call { callee := .builtin .append, args := #[s, x], argTypes := #[23, 23] })
    {base : Nat} {A : Option Addr} {n c : Nat} {bs : List Dt} (hs : a.eval s = .slice A n c) (hown : OwnD w base A n c bs)
    {B : Nat} {D : Option Addr} {m d : Nat} {news : List Dt} (hx : a.eval x = .slice D m d) (hr : Rd w B D (dcs news)) (hm : m = news.length)
    (hbytes : n + m ≤ 1000000000000) (hbase : base ≤ w.heap.size)
    (h : ∀ A' c' w', OwnD w' base A' (n + m) c' (bs ++ news) → w.grownBy w' (A.map (·.block)) → Moved A' (A.map (·.block)) w.heap.size → Below base w w' →
      K (a.put o.dst (.slice A' (n + m) c')) w') :
    if Region.wanted o (yielded ops a.tmps) = true then Oper.wp Try.prog o a w K Q else E := by
  have hw : Region.wanted o (yielded ops a.tmps) = true := by simp [Region.wanted, hgd]
  rw [if_pos hw]
  obtain ⟨i0, hi, hz0, hz1, hz2⟩ := info_parts infoD
  have hob : (Value.slice A n c).ownBlock = A.map (·.block) := by cases A <;> rfl
  obtain ⟨v', w', hrun, h2, h3, h4⟩ := run_app (P := Try.prog) w base 23 o.type 46 i0 (.agg #[.int .i64 0, .int .i64 0]) 2 16 Try.underlying23 hi hz0 hz1 hz2 rfl (by decide) (.slice A n c) n _ hown.2 B D m d (dcs news) hr (by rw [dcs_len, hm]) (dcs_one _) (by unfold maxLen; omega) (by omega) hbase
  unfold Oper.wp execOp
  simp only [ho, resolve, invoke, builtin, Sem.run_bind, Sem.run_pure, Result.andThen_ok, List.map_toArray, List.map_cons, List.map_nil, hs, hx, hrun]
  have hv : ∃ A' c', v' = .slice A' (n + m) c' ∧ v'.ownBlock = A'.map (·.block) := by
    rcases h2.2 with ⟨rfl, h0⟩ | ⟨g, cap, cur, rfl, _⟩
    · exact ⟨none, 0, by rw [h0], rfl⟩
    · exact ⟨_, _, rfl, rfl⟩
  obtain ⟨A', c', rfl, hb⟩ := hv
  rw [hb] at h4
  rw [hob] at h3 h4
  exact h _ _ _ ⟨by rw [List.length_append, hown.1, hm], by rw [dcs_app]; exact h2⟩ h3 h4 ((Below.refl _ _).grown h3 hbase (fun g hg => (hown.lt g hg).1))
theorem own_empD {w : World} {g base : Nat} (h : Blk w g 46 #[]) (hb : base ≤ g) : OwnD w base (some ⟨g, 0, none⟩) 0 0 [] :=
  ⟨rfl, rfl, .inr ⟨g, 0, #[], rfl, hb, h, Nat.le_refl _, Nat.zero_le _, rfl, rfl⟩⟩
theorem step_bd {P : Program} {o : Oper} {a : Act} {w w' : World} {v : Value} {K : Act → World → Prop} {Q : Exit → Act → World → Prop} (t : TypeId) (parts : Array (Nat × Operand)) (ho : o.op = .build t parts)
    (hrun : (Instr.build t (parts.map fun (i, x) => (i, a.eval x))).run P w = .ok v w') (h : K (a.put o.dst v) w') : o.wp P a w K Q := by
  unfold Oper.wp execOp
  simp only [ho, Sem.run_bind, hrun, Result.andThen_ok]
  exact h
theorem buildS {U : List Int} (h : U.length = 8) (A : Option Addr) (n c' : Nat) (w : World) : (Instr.build 79 #[(0, .agg (uI U)), (1, .slice A n c')]).run Try.prog w = .ok (.agg (uc U (.slice A n c'))) w := by
  obtain ⟨a, b, c, d, e, f, g, i, rfl⟩ := eight h
  kernel_rfl
theorem buildR {U : List Int} (h : U.length = 8) (A : Option Addr) (n c' : Nat) (w : World) : (Instr.build 84 #[(0, .agg (uI U)), (1, .slice A n c')]).run Try.prog w = .ok (.agg (uc U (.slice A n c'))) w := by
  obtain ⟨a, b, c, d, e, f, g, i, rfl⟩ := eight h
  kernel_rfl
/-- a copy of a set -/
def CopyEnd (w : World) (U : List Int) (l : List Dt) (e : Ending) (w' : World) : Prop := ∃ A m c, e = .returned (.agg (uc U (.slice A m c))) ∧ OwnD w' w.heap.size A m c l ∧ Below w.heap.size w w'
end Go.Proofs.Ytcgalmnllegnbaa

/- Plain laws: the dots of what there is are what there is. -/
namespace Go.Proofs.Ytcgalmnllegnbaa.Dot
set_option linter.unusedVariables false
set_option linter.unusedSimpArgs false
set_option maxRecDepth 100000
/-- all that there is may be -/
def InG (G : Grid) : Prop := ∀ n q, G n q = true → n < 8 ∧ 1 ≤ q ∧ q ≤ 96
theorem hasG_in (U : List Int) (l : List Dt) : InG (hasG U l) := fun n q h => by
  unfold hasG at h
  simp only [Bool.and_eq_true, decide_eq_true_eq] at h
  exact ⟨h.1.1.1.2, h.1.1.2, h.1.2⟩
theorem noG_in : InG noG := fun n q h => by cases h
theorem putG_in {G : Grid} (h : InG G) {d : Dt} (hd : mayB d = true) : InG (putG G d) := fun n q h2 => by
  have := (may_iff d).1 hd
  unfold putG at h2
  simp only [Bool.or_eq_true, Bool.and_eq_true, decide_eq_true_eq] at h2
  rcases h2 with h2 | h2
  · exact h n q h2
  · omega
theorem orG_in {G H : Grid} (h : InG G) (h' : InG H) : InG (orG G H) := fun n q h2 => by
  unfold orG at h2
  simp only [Bool.or_eq_true] at h2
  rcases h2 with h2 | h2
  · exact h n q h2
  · exact h' n q h2
theorem mem_rowTo (g : Grid) (n : Nat) (d : Dt) : ∀ Q, d ∈ rowTo g n Q ↔ ∃ q, q < Q ∧ g n q = true ∧ d = ((n : Int), (q : Int)) := by
  intro Q
  induction Q with
  | zero => simp [rowTo]
  | succ Q ih =>
    rw [rowTo]
    by_cases h : g n Q = true
    · rw [if_pos h, List.mem_append, ih, List.mem_singleton]
      constructor
      · rintro (⟨q, h1, h2⟩ | h1)
        · exact ⟨q, by omega, h2⟩
        · exact ⟨Q, by omega, h, h1⟩
      · rintro ⟨q, h1, h2, h3⟩
        by_cases e : q = Q
        · subst e; exact .inr h3
        · exact .inl ⟨q, by omega, h2, h3⟩
    · rw [if_neg h, ih]
      constructor
      · rintro ⟨q, h1, h2⟩
        exact ⟨q, by omega, h2⟩
      · rintro ⟨q, h1, h2, h3⟩
        refine ⟨q, ?_, h2, h3⟩
        by_cases e : q = Q
        · subst e; exact absurd h2 h
        · omega
theorem mem_dotsTo (g : Grid) (d : Dt) : ∀ N, d ∈ dotsTo g N ↔ ∃ n q, n < N ∧ q < 98 ∧ g n q = true ∧ d = ((n : Int), (q : Int)) := by
  intro N
  induction N with
  | zero => simp [dotsTo]
  | succ N ih =>
    rw [dotsTo, List.mem_append, ih, mem_rowTo]
    constructor
    · rintro (⟨n, q, h1, h2⟩ | ⟨q, h1, h2, h3⟩)
      · exact ⟨n, q, by omega, h2⟩
      · exact ⟨N, q, by omega, h1, h2, h3⟩
    · rintro ⟨n, q, h1, h2, h3, h4⟩
      by_cases e : n = N
      · subst e; exact .inr ⟨q, h2, h3, h4⟩
      · exact .inl ⟨n, q, by omega, h2, h3, h4⟩
theorem listG_dots {G : Grid} (h : InG G) : listG (dotsS G) = G := by
  funext n q
  rw [Bool.eq_iff_iff]
  unfold listG dotsS
  rw [List.any_eq_true]
  simp only [Bool.and_eq_true, decide_eq_true_eq]
  constructor
  · rintro ⟨d, h1, ⟨h2, h3⟩, h4⟩
    obtain ⟨m, p, h5, h6, h7, rfl⟩ := (mem_dotsTo G d 8).1 h1
    simp only at h3 h4
    obtain rfl : m = n := by omega
    obtain rfl : p = q := by omega
    exact h7
  · intro h1
    obtain ⟨k1, k2, k3⟩ := h n q h1
    exact ⟨((n : Int), (q : Int)), (mem_dotsTo G _ 8).2 ⟨n, q, k1, by omega, h1, rfl⟩, ⟨(may_iff _).2 (by simp only; omega), rfl⟩, rfl⟩
theorem listG_app (l m : List Dt) : listG (l ++ m) = orG (listG l) (listG m) := by
  funext n q
  unfold listG orG
  rw [List.any_append]
end Go.Proofs.Ytcgalmnllegnbaa.Dot

/- The walk of the document's Add. -/
namespace Go.Proofs.Ytcgalmnllegnbaa
set_option linter.unusedVariables false
set_option linter.unusedSimpArgs false
set_option maxRecDepth 100000
open Go.RowKit
open Dot
end Go.Proofs.Ytcgalmnllegnbaa

/- The law's great. -/
namespace Go.Proofs.Ytcgalmnllegnbaa
set_option linter.unusedVariables false
set_option linter.unusedSimpArgs false
set_option maxRecDepth 100000
open Go.RowKit
open Dot
end Go.Proofs.Ytcgalmnllegnbaa

/- The walk of Join. -/
namespace Go.Proofs.Ytcgalmnllegnbaa
set_option linter.unusedVariables false
set_option linter.unusedSimpArgs false
set_option maxRecDepth 100000
open Go.RowKit
open Dot
theorem rowset_two {w : World} {B : Nat} (s u : SetV) (h : s.U.length = 8) (h' : u.U.length = 8) (hr : RdD w B s.A s.n s.l) (hr' : RdD w B u.A u.n u.l) (hB : B ≤ w.heap.size) (t : TypeId) (mk : Nat × Nat) :
    RowSet (w.alloc (.cells (uc s.U (.slice s.A s.n s.c) ++ uc u.U (.slice u.A u.n u.c)) t mk)) B w.heap.size [s, u] := by
  refine ⟨by simp, fun i x hi => ?_⟩
  have hb : Below w.heap.size w (w.alloc (.cells (uc s.U (.slice s.A s.n s.c) ++ uc u.U (.slice u.A u.n u.c)) t mk)) := (Below.refl _ _).alloc (Nat.le_refl _) _
  have hs := uc_size h (.slice s.A s.n s.c)
  match i, hi with
  | 0, hi =>
    simp at hi
    subst hi
    refine ⟨fun j v hv => ?_, h, hr.below (hb.mono hB)⟩
    have hj : j < 9 := by
      have := (List.getElem?_eq_some_iff.1 hv).1
      unfold SetV.cs at this
      rw [List.length_append, List.length_map, h] at this
      exact this
    rw [Nat.zero_mul, Nat.zero_add, World.cell?_alloc_mark, Array.getElem?_append_left (by omega)]
    unfold uc
    rw [List.getElem?_toArray]
    exact hv
  | 1, hi =>
    simp at hi
    subst hi
    refine ⟨fun j v hv => ?_, h', hr'.below (hb.mono hB)⟩
    rw [World.cell?_alloc_mark, Array.getElem?_append_right (by omega), hs, show 1 * 9 + j - 9 = j by omega]
    unfold uc
    rw [List.getElem?_toArray]
    exact hv
  | i + 2, hi => simp at hi
end Go.Proofs.Ytcgalmnllegnbaa

/- The walk of Less's closure. -/
namespace Go.Proofs.Ytcgalmnllegnbaa
set_option linter.unusedVariables false
set_option linter.unusedSimpArgs false
set_option maxRecDepth 100000
open Go.RowKit
open Dot
end Go.Proofs.Ytcgalmnllegnbaa

/- The walk of the document's Join. -/
namespace Go.Proofs.Ytcgalmnllegnbaa
set_option linter.unusedVariables false
set_option linter.unusedSimpArgs false
set_option maxRecDepth 100000
open Go.RowKit
open Dot
end Go.Proofs.Ytcgalmnllegnbaa

/- Ints of the call's own, and ints that are read: the words on bytes, said of int (made by wip/gen/ints.py). -/
namespace Go.Proofs.Ytcgalmnllegnbaa
set_option linter.unusedVariables false
set_option linter.unusedSimpArgs false
set_option maxRecDepth 100000
open Go.RowKit

/-- an int as a cell's value -/
abbrev iv (z : Int) : Value := .int .i64 z
/-- bytes: from A on there are n of them, bs -/
def RdI (w : World) (B : Nat) (A : Option Addr) (n : Nat) (bs : List Int) : Prop := n = bs.length ∧ Rd w B A (bs.map iv)
section
variable {w w' : World} {B B' n : Nat} {A : Option Addr} {bs : List Int}
theorem RdI.at_ (h : RdI w B A n bs) {k : Nat} (hk : k < bs.length) : ∃ a, A = some a ∧ a.block < B ∧ w.cell? (a.add k) = some (iv bs[k]) := by
  have := Rd.at_ h.2 (k := k) (by simpa using hk)
  simpa using this
theorem RdI.nil (w : World) (B : Nat) (A : Option Addr) : RdI w B A 0 [] := ⟨rfl, Rd.nil w B A⟩
theorem RdI.below (h : RdI w B A n bs) (hb : Below B w w') : RdI w' B A n bs := ⟨h.1, h.2.below hb⟩
theorem RdI.alloc (h : RdI w B A n bs) (hB : B ≤ w.heap.size) (o : Obj) : RdI (w.alloc o) B A n bs := ⟨h.1, h.2.alloc hB o⟩
theorem RdI.size (h : RdI w B A n bs) : RdI w w.heap.size A n bs := ⟨h.1, h.2.size⟩
theorem RdI.more (h : RdI w B A n bs) (hB : B ≤ B') : RdI w B' A n bs := ⟨h.1, h.2.more hB⟩
theorem RdI.drop (h : RdI w B A n bs) (k : Nat) : RdI w B (A.map (·.add k)) (n - k) (bs.drop k) := by
  have := h.2.drop k
  exact ⟨by rw [h.1, List.length_drop], by rwa [← List.map_drop] at this⟩
theorem RdI.take (h : RdI w B A n bs) {k : Nat} (hk : k ≤ n) : RdI w B A k (bs.take k) := by
  have := h.2.take k
  exact ⟨by rw [List.length_take]; have := h.1; omega, by rwa [← List.map_take] at this⟩
theorem RdI.made (w : World) (bs : List Int) (cs : Array Value) (t : TypeId) (m : Nat × Nat) (h : cs.toList = bs.map iv) : RdI (w.alloc (.cells cs t m)) (w.heap.size + 1) (some ⟨w.heap.size, 0, none⟩) bs.length bs :=
  ⟨rfl, by rw [← h]; exact Rd.made w cs t m⟩
theorem iv_one (bs : List Int) : ∀ u ∈ bs.map iv, u.oneCell' = true := by
  intro u hu
  obtain ⟨c, _, rfl⟩ := List.mem_map.1 hu
  rfl
end
theorem infoI : (Try.prog.info? 3).map (fun i => (i.zero, i.size, i.bytes)) = some (some (.int .i64 0), 1, 8) := by kernel_rfl

/-- The slice (A, n, c) owns the bytes bs; its block is not below base. -/
def OwnI (w : World) (base : Nat) (A : Option Addr) (n c : Nat) (bs : List Int) : Prop := n = bs.length ∧ w.ownsRow base 3 1 (.slice A n c) n (bs.map iv)

section
variable {w w' : World} {base n c : Nat} {A : Option Addr} {bs : List Int}
theorem OwnI.rd (h : OwnI w base A n c bs) : RdI w w.heap.size A n bs := ⟨h.1, Rd.of_own h.2⟩
theorem OwnI.alloc (h : OwnI w base A n c bs) (o : Obj) : OwnI (w.alloc o) base A n c bs := ⟨h.1, h.2.alloc o⟩
theorem OwnI.nil (w : World) (base : Nat) : OwnI w base none 0 0 [] := ⟨rfl, World.ownsRow_nil w base _ 1⟩
theorem OwnI.made (w : World) (base : Nat) (bs : List Int) (cs : Array Value) (n : Nat) (h : cs.toList = bs.map iv) (hn : n = bs.length) (hb : base ≤ w.heap.size) (hm : n ≤ maxLen) :
    OwnI (w.alloc (.cells cs 3)) base (some ⟨w.heap.size, 0, none⟩) n n bs := by
  have hs : cs.size = bs.length := by rw [← Array.length_toList, h, List.length_map]
  refine ⟨hn, ?_, .inr ⟨w.heap.size, n, cs, rfl, hb, heap_alloc_new w _, Nat.le_refl _, hm, by omega, ?_⟩⟩
  · simp [hn]
  · rw [h, List.take_of_length_le (by simp; omega)]
theorem OwnI.mono {base' : Nat} (h : OwnI w base A n c bs) (hb : base' ≤ base) : OwnI w base' A n c bs := by
  refine ⟨h.1, h.2.1, ?_⟩
  rcases h.2.2 with h | ⟨g, cap, cur, h1, h2, h3⟩
  · exact .inl h
  · exact .inr ⟨g, cap, cur, h1, by omega, h3⟩
theorem OwnI.lt (h : OwnI w base A n c bs) : ∀ g, A.map (·.block) = some g → base ≤ g ∧ g < w.heap.size := fun g hg => h.2.lt g (by
  rcases A with _ | a
  · simp at hg
  · simpa [Value.ownBlock] using hg)
theorem OwnI.form (h : OwnI w base A n c bs) (hn : 0 < n) : ∃ g, A = some ⟨g, 0, none⟩ ∧ base ≤ g ∧ g < w.heap.size := by
  rcases h.2.2 with ⟨_, h0⟩ | ⟨g, cap, cur, hv, hb, hh, _⟩
  · omega
  · injection hv with hA
    subst hA
    exact ⟨g, rfl, hb, lt_of_block hh⟩
theorem OwnI.cell {g : Nat} (h : OwnI w base (some ⟨g, 0, none⟩) n c bs) {j : Nat} (hj : j < bs.length) : w.cell? ⟨g, j, none⟩ = some (iv bs[j]) := by
  rw [h.2.cellAt j (by rw [h.1]; omega)]
  simp [hj]
theorem OwnI.free {g : Nat} (h : OwnI w base (some ⟨g, 0, none⟩) n c bs) (j : Nat) : w.frozen? ⟨g, j, none⟩ = false := h.2.frozenAt j
theorem OwnI.set_ {g : Nat} (h : OwnI w base (some ⟨g, 0, none⟩) n c bs) (j : Nat) (x : Int) : OwnI (w.setCell ⟨g, j, none⟩ (iv x)) base (some ⟨g, 0, none⟩) n c (bs.set j x) := by
  refine ⟨by rw [List.length_set]; exact h.1, ?_⟩
  have := (h.2.stored j (iv x)).1
  rwa [← List.map_set] at this
theorem OwnI.setFar {p : Addr} (h : OwnI w base A n c bs) (hp : A.map (·.block) ≠ some p.block) (u : Value) : OwnI (w.setCell p u) base A n c bs :=
  ⟨h.1, ownsRow_setCell_other h.2 (by
    rcases A with _ | a
    · simp [Value.ownBlock]
    · simpa [Value.ownBlock] using hp) u⟩
theorem OwnI.drew (h : OwnI w base A n c bs) : OwnI w.drew base A n c bs := h
theorem OwnI.grown {row : Option Nat} (h : OwnI w base A n c bs) (hg : w.grownBy w' row) (hne : A.map (·.block) = none ∨ A.map (·.block) ≠ row) : OwnI w' base A n c bs :=
  ⟨h.1, h.2.kept hg (by
    rcases A with _ | a
    · exact .inl rfl
    · rcases hne with h | h
      · simp at h
      · exact .inr h)⟩
theorem OwnI.below {B : Nat} (h : OwnI w base A n c bs) (hb : Below B w w') (hB : w.heap.size ≤ B) : OwnI w' base A n c bs :=
  ⟨h.1, h.2.kept (row := none) ⟨hb.os, hb.tape, hb.output, hb.size, fun k hk _ => hb.block k (by omega)⟩ (by
    rcases h.2.2 with ⟨e, _⟩ | ⟨g, cap, cur, e, _⟩
    · rw [e]; exact .inl rfl
    · rw [e]; exact .inr (by simp [Value.ownBlock]))⟩
end

theorem wpList_appI {w : World} {ops : Array Oper} {rest : List Oper} {o : Oper} {a : Act} {Q : Exit → Act → World → Prop} (hgd : o.guard = none) (s x : Operand)
    (ho : o.op = .call { callee := .builtin .append, args := #[s, x], argTypes := #[75, 75] })
    {base : Nat} {A : Option Addr} {n c : Nat} {bs : List Int} (hs : a.eval s = .slice A n c) (hown : OwnI w base A n c bs)
    {B : Nat} {D : Option Addr} {m d : Nat} {news : List Int} (hx : a.eval x = .slice D m d) (hr : RdI w B D m news)
    (hbytes : n + m ≤ 17592186044416) (hbase : base ≤ w.heap.size)
    (h : ∀ A' c' w', OwnI w' base A' (n + m) c' (bs ++ news) → w.grownBy w' (A.map (·.block)) → Moved A' (A.map (·.block)) w.heap.size → Below base w w' →
      wpList Try.prog ops Q rest (a.put o.dst (.slice A' (n + m) c')) w') : wpList Try.prog ops Q (o :: rest) a w := by
  obtain ⟨i0, hi, hz0, hz1, hz2⟩ := info_parts infoI
  have hob : (Value.slice A n c).ownBlock = A.map (·.block) := by cases A <;> rfl
  refine wpList_app w hgd s x 75 ho base 3 i0 (.int .i64 0) 1 8 Try.underlying75 hi hz0 hz1 hz2 rfl (by decide) _ _ _ hs hown.2 B D m d (news.map iv) hx hr.2 (by simp [hr.1]) (iv_one _) (by unfold maxLen; omega) (by omega) hbase ?_
  intro A' c' w' h1 h2 h3
  rw [hob] at h2 h3
  exact h A' c' w' ⟨by simp [hown.1, hr.1], by simpa using h1⟩ h2 h3 ((Below.refl _ _).grown h2 hbase (fun g hg => (hown.lt g hg).1))
end Go.Proofs.Ytcgalmnllegnbaa

/- The walk of Put's closure. -/
namespace Go.Proofs.Ytcgalmnllegnbaa
set_option linter.unusedVariables false
set_option linter.unusedSimpArgs false
set_option maxRecDepth 100000
open Go.RowKit
open Dot
set_option maxHeartbeats 1000000 in
theorem put1_app (gs m c base : Nat) (n q : Int) (A : Option Addr) (M : List Int) (w : World)
    (hB : Blk w gs 75 #[.slice A m c]) (hO : OwnI w base A m c M) (hne : A.map (·.block) ≠ some gs) (hbase : base ≤ gs) (hml : m ≤ 100000) :
    Calls Try.prog 74 #[.agg #[.int .i64 n, .int .i64 q], .pointer (some ⟨gs, 0, none⟩)] w fun e w' => e = .returned (.tuple #[]) ∧ ∃ A' c', Blk w' gs 75 #[.slice A' (m + 2) c'] ∧ OwnI w' base A' (m + 2) c' (M ++ [n, q]) ∧ A'.map (·.block) ≠ some gs ∧ Below base w w' := by
  go_enter Try.func74, Try.ntmps74
  go_upto_region 1 with fail
  refine nameW ?_
  intro wv hwv
  obtain ⟨b, hb⟩ : ∃ b, b = w.heap.size := ⟨_, rfl⟩
  rw [← hb]
  have kb : Blk wv b 46 #[.int .i64 n, .int .i64 q] := by rw [hwv, hb]; exact Blk.new w _ _
  have hbs := hB.lt
  have gb : Below base w wv := by rw [hwv]; exact (Below.refl _ _).alloc (by omega) _
  have kg : Blk wv gs 75 #[.slice A m c] := by rw [hwv]; exact hB.alloc _
  have oO : OwnI wv base A m c M := by rw [hwv]; exact hO.alloc _
  have t0 : wv.cell? ⟨b, 0, none⟩ = some (.int .i64 n) := kb.cell 0
  have t1 : wv.cell? ⟨b, 1, none⟩ = some (.int .i64 q) := kb.cell 1
  have c8 : wv.cell? ⟨gs, 0, none⟩ = some (.slice A m c) := kg.cell 0
  have hgb : gs ≠ b := by omega
  have hwb : b < wv.heap.size := kb.lt
  have hbv : base ≤ wv.heap.size := by have := kg.lt; omega
  clear hwv hb
  go_wp2_with (at_builtin; refine wpList_appI rfl (.tmp 3) (.tmp 8) rfl rfl (oO.alloc _) (news := [n, q]) rfl ⟨rfl, Rd.made _ _ _ _⟩ ?h2 ?h3 ?h4)
  case h2 => omega
  case h3 => simp; omega
  intro A' c' w2 o2 g2 m2 b2
  have kg2 : Blk w2 gs 75 #[.slice A m c] := (kg.alloc (.cells #[.int .i64 n, .int .i64 q] 3)).grown g2 hne
  have hne2 : A'.map (·.block) ≠ some gs := by
    rcases m2 with h | h
    · rw [h]; exact hne
    · rw [h]
      intro e
      injection e with e
      have := kg.lt
      omega
  have c82 : w2.cell? ⟨gs, 0, none⟩ = some (.slice A m c) := kg2.cell 0
  have f82 := kg2.free 0
  have bw := ((gb.alloc hbv (.cells #[.int .i64 n, .int .i64 q] 3)).trans b2).setCell (p := ⟨gs, 0, none⟩) hbase (.slice A' (m + 2) c')
  have o3 := o2.setFar (p := ⟨gs, 0, none⟩) hne2 (.slice A' (m + 2) c')
  have k3 := kg2.set_ 0 (.slice A' (m + 2) c')
  have HO3 := Lib.hid o3
  have HB3 := Lib.hid bw
  have HK3 := Lib.hid k3
  clear g2 m2 b2 o2 o3 bw k3
  go_wp2_with fail
  go_end0
  exact ⟨rfl, A', c', HK3.out, HO3.out, hne2, HB3.out⟩
end Go.Proofs.Ytcgalmnllegnbaa

/- The walk of slices.Clone of a set's numbers. -/
namespace Go.Proofs.Ytcgalmnllegnbaa
set_option linter.unusedVariables false
set_option linter.unusedSimpArgs false
set_option maxRecDepth 100000
open Go.RowKit
open Dot
theorem own_empI {w : World} {g base : Nat} (h : Blk w g 3 #[]) (hb : base ≤ g) : OwnI w base (some ⟨g, 0, none⟩) 0 0 [] :=
  ⟨rfl, rfl, .inr ⟨g, 0, #[], rfl, hb, h, Nat.le_refl _, Nat.zero_le _, rfl, rfl⟩⟩
set_option maxRecDepth 100000 in
theorem cloneI_any (g : Nat) (U : List Int) (hU : U.length = 8) (w : World) (hr : RdI w w.heap.size (some ⟨g, 0, none⟩) 8 U) :
    Calls Try.prog 72 #[.slice (some ⟨g, 0, none⟩) 8 8] w fun e w' => ∃ A c, e = .returned (.slice A 8 c) ∧ OwnI w' w.heap.size A 8 c U ∧ Below w.heap.size w w' := by
  have qn := fun (w : World) (a : Option Addr) (n c n' c' : Nat) => Lib.run_eql_slice_nil (P := Try.prog) w 75 _ a n c n' c' Try.underlying75
  go_enter Try.func72, Try.ntmps72
  go_wp2_with (at_builtin; refine wpList_appI rfl (.tmp 5) (.tmp 6) rfl rfl (own_empI (base := w.heap.size) (Blk.new w _ _) (Nat.le_refl _)) (news := U) rfl ⟨hr.1, hr.2.alloc (Nat.le_refl _) _⟩ (by omega) (by simp) ?_)
  intro A' c' w2 o2 g2 m2 b2
  have bw := ((Below.refl w.heap.size w).alloc (Nat.le_refl _) (.cells #[] 3)).trans b2
  clear g2 m2 b2
  go_wp2_with fail
  go_ret
  exact ⟨A', c', rfl, o2, bw⟩
end Go.Proofs.Ytcgalmnllegnbaa

/- The walk of each with Put's closure. -/
namespace Go.Proofs.Ytcgalmnllegnbaa
set_option linter.unusedVariables false
set_option linter.unusedSimpArgs false
set_option maxRecDepth 100000
open Go.RowKit
open Dot
/-- dots' numbers, as they are put -/
def nums (l : List Dt) : List Int := l.flatMap fun d => [d.1, d.2]
theorem nums_snoc (l : List Dt) (d : Dt) : nums (l ++ [d]) = nums l ++ [d.1, d.2] := by unfold nums; rw [List.flatMap_append]; rfl
set_option maxHeartbeats 1000000 in
theorem each_put1 (gs n c m0 base : Nat) (A : Option Addr) (l : List Dt) (M : List Int) (w : World) (hl : RdD w base A n l) (hn : n ≤ 768) (hm0 : m0 ≤ 100) (hbase : base ≤ gs) (hb0 : base ≤ w.heap.size)
    (A0 : Option Addr) (c0 : Nat) (hB : Blk w gs 75 #[.slice A0 m0 c0]) (hO : OwnI w base A0 m0 c0 M) (hne : A0.map (·.block) ≠ some gs) :
    Calls Try.prog 73 #[.slice A n c, .func (.func 74) #[] #[.pointer (some ⟨gs, 0, none⟩)]] w fun e w' => e = .returned (.tuple #[]) ∧ ∃ A' c', Blk w' gs 75 #[.slice A' (m0 + 2 * n) c'] ∧ OwnI w' base A' (m0 + 2 * n) c' (M ++ nums l) ∧ A'.map (·.block) ≠ some gs ∧ Below base w w' := by
  have hen : ∀ (args : Array Value) (w : World), (callFunc 74 args).run Try.prog w = .ok (.enter 74 args) w := fun _ _ => rfl
  have HN := Lib.hid hl.1
  go_enter Try.func73, Try.ntmps73
  go_wp2_with fail
  go_loopw [8] (fun i wr => ∃ (k : Nat) (A' : Option Addr) (c' : Nat), k ≤ n ∧ i = .int .i64 k ∧ Blk wr gs 75 #[.slice A' (m0 + 2 * k) c'] ∧ OwnI wr base A' (m0 + 2 * k) c' (M ++ nums (l.take k)) ∧ A'.map (·.block) ≠ some gs ∧ Below base w wr) (fun i _ => n - (intOf i).toNat)
  case atStart => exact ⟨0, A0, c0, by omega, rfl, hB, by simpa [nums] using hO, hne, Below.refl _ _⟩
  case round =>
    clear hB hO hne
    obtain ⟨k, A1, c1, hk, rfl, hB, hO, hne, hb⟩ := hrel
    by_cases hlt : k < n
    · have hkl : k < l.length := by rw [← HN.out]; exact hlt
      obtain ⟨ad, rfl, hdt⟩ := (hl.below hb).2 k _ (List.getElem?_eq_getElem hkl)
      have htk : l.take (k + 1) = l.take k ++ [l[k]] := take_snoc l hkl
      have hsn := nums_snoc (l.take k) l[k]
      rw [← htk] at hsn
      generalize l[k] = d at *
      obtain ⟨x, q⟩ := d
      obtain ⟨q5, q0, q1⟩ := hdt
      simp only at q0 q1 hsn
      have HSN := Lib.hid hsn
      clear hsn htk
      obtain ⟨wn, hwn⟩ : ∃ wn, wn = wr.alloc (.cells #[.int .i64 x, .int .i64 q] 46) := ⟨_, rfl⟩
      obtain ⟨gd, hgd⟩ : ∃ gd, gd = wr.heap.size := ⟨_, rfl⟩
      have kn : Blk wn gd 46 #[.int .i64 x, .int .i64 q] := by rw [hwn, hgd]; exact Blk.new wr _ _
      have hB1 : Blk wn gs 75 #[.slice A1 (m0 + 2 * k) c1] := by rw [hwn]; exact hB.alloc _
      have hO1 : OwnI wn base A1 (m0 + 2 * k) c1 (M ++ nums (l.take k)) := by rw [hwn]; exact hO.alloc _
      have hb1 : Below base w wn := by rw [hwn]; exact hb.alloc (by have := hb.size; omega) _
      have HW := Lib.hid hwn
      have HGD := Lib.hid hgd
      clear hwn hgd
      go_upto_region 3 with fail
      rw [← HW.out, ← HGD.out]
      have t0 : wn.cell? ⟨gd, 0, none⟩ = some (.int .i64 x) := kn.cell 0
      have t1 : wn.cell? ⟨gd, 1, none⟩ = some (.int .i64 q) := kn.cell 1
      clear q0 q1 hB hO hb
      go_wp2_with fail
      refine (put1_app gs (m0 + 2 * k) c1 base x q A1 _ wn hB1 hO1 hne hbase (by omega)).mono ?_
      rintro e w5 ⟨rfl, A2, c2, k2, o2, hne2, b2⟩
      rw [List.append_assoc, ← HSN.out] at o2
      have hb2 := hb1.trans b2
      clear t0 t1 kn hB1 hO1 hb1 b2 hne
      go_wp2_with fail
      go_roundw
      case rel => exact ⟨k + 1, A2, c2, by omega, by go_num, k2, o2, hne2, hb2⟩
      case measure => simp [intOf]; omega
    · have hkn : k = n := by omega
      have hkd : decide ((k : Int) < (n : Int)) = false := decide_eq_false (by omega)
      subst hkn
      rw [HN.out, List.take_length, ← HN.out] at hO
      go_wp2_with fail
      go_end0
      exact ⟨rfl, A1, c1, hB, hO, hne, hb⟩
end Go.Proofs.Ytcgalmnllegnbaa

/- The walk of dotset's Put (region 3 printed by wip/gen/dotput.py). -/
namespace Go.Proofs.Ytcgalmnllegnbaa
set_option linter.unusedVariables false
set_option linter.unusedSimpArgs false
set_option maxRecDepth 100000
open Go.RowKit
open Dot
/-- numbers as bytes -/
def encs (ns : List Int) : List UInt8 := ns.flatMap fun z => Vint.enc z.toNat
theorem encs_len (ns : List Int) : (encs ns).length ≤ 6 * ns.length := by
  induction ns with
  | nil => simp [encs]
  | cons z r ih =>
    have := Vint.enc_length z.toNat
    simp only [encs, List.flatMap_cons, List.length_append, List.length_cons] at *
    omega
theorem encs_snoc (ns : List Int) {k : Nat} (h : k < ns.length) : encs (ns.take (k + 1)) = encs (ns.take k) ++ Vint.enc ns[k].toNat := by
  unfold encs
  rw [take_snoc ns h, List.flatMap_append]
  simp only [List.flatMap_cons, List.flatMap_nil, List.append_nil]
def putL (U : List Int) (l : List Dt) : List Int := U ++ [(l.length : Int)] ++ nums l
theorem nums_len (l : List Dt) : (nums l).length = 2 * l.length := by
  induction l with
  | nil => rfl
  | cons d l ih => show (([d.1, d.2] : List Int) ++ nums l).length = _; rw [List.length_append, ih]; simp; omega
theorem putL_bd {U : List Int} {l : List Dt} (h : rightB U l = true) : ∀ x ∈ putL U l, 0 ≤ x ∧ x ≤ 1099511627776 := by
  obtain ⟨h1, h2, h3⟩ := (right_iff U l).1 h
  intro x hx
  unfold putL at hx
  rcases List.mem_append.1 hx with hx | hx
  · rcases List.mem_append.1 hx with hx | hx
    · have := (numOk_iff x).1 (List.all_eq_true.1 h1 x hx)
      omega
    · simp at hx
      omega
  · unfold nums at hx
    obtain ⟨d, hd, hx⟩ := List.mem_flatMap.1 hx
    obtain ⟨i, hi, rfl⟩ := List.getElem_of_mem hd
    have h4 := h3 i hi
    unfold goodAt at h4
    rw [List.getD_eq_getElem?_getD, List.getElem?_eq_getElem hi] at h4
    simp only [Option.getD_some, Bool.and_eq_true] at h4
    have h5 := (may_iff _).1 h4.1.1
    simp at hx
    omega
theorem meet7 {a1 a2 a3 a4 a5 a6 a7 : Type} {F : a1 → a2 → a3 → a4 → a5 → a6 → a7 → Prop} {M : a1 → a2 → a3 → a4 → a5 → a6 → a7 → Prop} {G : Prop} (hmain : (∀ x1 x2 x3 x4 x5 x6 x7, F x1 x2 x3 x4 x5 x6 x7 → M x1 x2 x3 x4 x5 x6 x7) → G) (hkey : ∀ x1 x2 x3 x4 x5 x6 x7, F x1 x2 x3 x4 x5 x6 x7 → M x1 x2 x3 x4 x5 x6 x7) : G := hmain hkey
theorem step_appI {w : World} {ops : Array Oper} {o : Oper} {a : Act} {K : Act → World → Prop} {Q : Exit → Act → World → Prop} {E : Prop} (hgd : o.guard = none) (s x : Operand)
    (ho : o.op = .call { callee := .builtin .append, args := #[s, x], argTypes := #[75, 75] })
    {base : Nat} {A : Option Addr} {n c : Nat} {bs : List Int} (hs : a.eval s = .slice A n c) (hown : OwnI w base A n c bs)
    {B : Nat} {D : Option Addr} {m d : Nat} {news : List Int} (hx : a.eval x = .slice D m d) (hr : RdI w B D m news)
    (hbytes : n + m ≤ 17592186044416) (hbase : base ≤ w.heap.size)
    (h : ∀ A' c' w', OwnI w' base A' (n + m) c' (bs ++ news) → w.grownBy w' (A.map (·.block)) → Moved A' (A.map (·.block)) w.heap.size → Below base w w' →
      K (a.put o.dst (.slice A' (n + m) c')) w') :
    if Region.wanted o (yielded ops a.tmps) = true then Oper.wp Try.prog o a w K Q else E := by
  have hw : Region.wanted o (yielded ops a.tmps) = true := by simp [Region.wanted, hgd]
  rw [if_pos hw]
  obtain ⟨i0, hi, hz0, hz1, hz2⟩ := info_parts infoI
  have hob : (Value.slice A n c).ownBlock = A.map (·.block) := by cases A <;> rfl
  obtain ⟨v', w', hrun, h2, h3, h4⟩ := run_app (P := Try.prog) w base 75 o.type 3 i0 (.int .i64 0) 1 8 Try.underlying75 hi hz0 hz1 hz2 rfl (by decide) (.slice A n c) n _ hown.2 B D m d (news.map iv) hr.2 (by simp [hr.1]) (iv_one _) (by unfold maxLen; omega) (by omega) hbase
  unfold Oper.wp execOp
  simp only [ho, resolve, invoke, builtin, Sem.run_bind, Sem.run_pure, Result.andThen_ok, List.map_toArray, List.map_cons, List.map_nil, hs, hx, hrun]
  have hv : ∃ A' c', v' = .slice A' (n + m) c' ∧ v'.ownBlock = A'.map (·.block) := by
    rcases h2.2 with ⟨rfl, h0⟩ | ⟨g, cap, cur, rfl, _⟩
    · exact ⟨none, 0, by rw [h0], rfl⟩
    · exact ⟨_, _, rfl, rfl⟩
  obtain ⟨A', c', rfl, hb⟩ := hv
  rw [hb] at h4
  rw [hob] at h3 h4
  exact h _ _ _ ⟨by rw [List.length_append, hown.1, hr.1], by rw [List.map_append]; exact h2⟩ h3 h4 ((Below.refl _ _).grown h3 hbase (fun g hg => (hown.lt g hg).1))
set_option maxRecDepth 100000 in
set_option maxHeartbeats 2000000 in
theorem dput_any (s : SetV) (w : World) (hU : s.U.length = 8) (hr : RdD w w.heap.size s.A s.n s.l) :
    Calls Try.prog 35 #[.agg (uc s.U (.slice s.A s.n s.c))] w (GiveBE w (if rightB s.U s.l = true then encs (putL s.U s.l) else []) (if rightB s.U s.l = true then 0 else 2)) := by
  have hmf : ∀ (fn : Fn) (first cap : Array Value) (w : World), (Instr.makeFunc fn first cap).run Try.prog w = .ok (.func fn first cap) w := fun _ _ _ _ => rfl
  have HU := Lib.hid hU
  have HS := Lib.hid (uc_size hU (.slice s.A s.n s.c))
  have hra := fun w' (hb : Below w.heap.size w w') => right_any s.U hU s.A s.n s.c s.l w' ((hr.below hb).more hb.size)
  have HRA := Lib.hid hra
  clear hra
  have HN := Lib.hid hr.1
  obtain ⟨sc, hsc⟩ : ∃ sc, sc = uc s.U (.slice s.A s.n s.c) := ⟨_, rfl⟩
  rw [← hsc] at HS HRA ⊢
  have HSC := Lib.hid hsc
  clear hsc
  obtain ⟨BS, hBS⟩ : ∃ BS, BS = if rightB s.U s.l = true then encs (putL s.U s.l) else [] := ⟨_, rfl⟩
  obtain ⟨E, hE⟩ : ∃ E, E = if rightB s.U s.l = true then 0 else 2 := ⟨_, rfl⟩
  rw [← hBS, ← hE]
  have HBS := Lib.hid hBS
  have HE := Lib.hid hE
  clear hBS hE
  go_enter Try.func35, Try.ntmps35
  go_upto_region 1 with fail
  refine nameW ?_
  intro wv hwv
  obtain ⟨b, hb⟩ : ∃ b, b = w.heap.size := ⟨_, rfl⟩
  rw [← hb]
  have kb : Blk wv b 79 sc := by rw [hwv, hb]; exact Blk.new w _ _
  have gb : Below w.heap.size w wv := by rw [hwv]; exact (Below.refl _ _).alloc (Nat.le_refl _) _
  have hbw : w.heap.size ≤ b := by omega
  clear hwv hb
  go_wp2_with ((with_reducible refine wpList_ld rowS kb HS.out ?_ ?_); rotate_left; (rfl))
  refine (HRA.out _ gb).mono ?_
  rintro e w1 ⟨rfl, h1⟩
  replace gb := gb.trans (h1.mono gb.size)
  replace kb := kb.below h1 kb.lt
  clear h1 wv
  rename World => wv
  cases hright : rightB s.U s.l
  case false =>
    have hBS2 : BS = [] := by rw [HBS.out, hright]; rfl
    have hE2 : E = 2 := by rw [HE.out, hright]; rfl
    clear HRA HBS HE
    subst hBS2 hE2
    go_wp2_with fail
    go_ret2
    exact ⟨none, 0, 0, rfl, OwnB.nil _ _, gb⟩
  case true =>
  have hBS2 : BS = encs (putL s.U s.l) := by rw [HBS.out, hright]; rfl
  have hE2 : E = 0 := by rw [HE.out, hright]; rfl
  clear HBS HE
  have HBS := Lib.hid hBS2
  clear hBS2
  subst hE2
  have hbd := putL_bd hright
  have hbe := (right_iff _ _).1 hright
  have hn7 : s.n ≤ 768 := by rw [HN.out]; exact hbe.2.1
  have HBD := Lib.hid hbd
  clear hbd hbe hright HRA
  have hrv := hr.below gb
  have hr8 : ∀ w', Below wv.heap.size wv w' → RdI w' w'.heap.size (some ⟨b, 0, none⟩) 8 s.U := fun w' h => by
    refine ⟨by rw [HU.out], ?_⟩
    have k := kb.below h kb.lt
    rw [HSC.out] at k
    intro j u hu
    have hj : j < 8 := by
      have := (List.getElem?_eq_some_iff.1 hu).1
      rwa [List.length_map, HU.out] at this
    refine ⟨_, rfl, k.lt, ?_⟩
    rw [add_mk, Nat.zero_add, k.cell, uc_at HU.out _ hj]
    rw [List.getElem?_map, List.getElem?_eq_getElem (by rw [HU.out]; exact hj)] at hu
    rw [List.getD_eq_getElem?_getD, List.getElem?_eq_getElem (by rw [HU.out]; exact hj)]
    simpa using hu
  have HR8 := Lib.hid hr8
  have t8 : wv.cell? ⟨b, 8, none⟩ = some (.slice s.A s.n s.c) := (kb.cell 8).trans (by rw [HSC.out]; exact uc_last HU.out _)
  have hbv := kb.lt
  clear hr8 hr kb
  go_upto_region 3 with fail
  refine wp_region_held_drew (S := fun w' => Below wv.heap.size wv w') (by kernel_rfl) (Below.refl _ _).drew (fun hS => ?_)
  have gY := gb.drew
  generalize wv.drew = wd at *
  refine wpAnyH_take (i := 0) (v := ?rv150) rfl (by kernel_rfl) (by kernel_rfl) (by kernel_rfl) (fun _ _ _ h => h) (Or.inl ⟨by rfl, ?ry150⟩) hS ?_
  case ry150 => (intro wS hSw; clear hSw; go_simp; (try with_reducible rfl))
  simp only [Act.put, List.getElem_toArray, List.getElem_cons_zero, List.getElem_cons_succ, List.setIfInBounds_toArray, List.set_cons_succ, List.set_cons_zero]
  refine wpAnyH_take (i := 1) (v := ?rv153) rfl (by kernel_rfl) (by kernel_rfl) (by kernel_rfl) (fun _ _ _ h => h) (Or.inl ⟨by rfl, ?ry153⟩) hS ?_
  case ry153 => (intro wS hSw; clear hSw; go_simp; (try with_reducible rfl))
  simp only [Act.put, List.getElem_toArray, List.getElem_cons_zero, List.getElem_cons_succ, List.setIfInBounds_toArray, List.set_cons_succ, List.set_cons_zero]
  refine wpAnyH_take (i := 3) (v := ?rv156) rfl (by kernel_rfl) (by kernel_rfl) (by kernel_rfl) (fun _ _ _ h => h) (Or.inl ⟨by rfl, ?ry156⟩) hS ?_
  case ry156 => (intro wS hSw; clear hSw; go_simp; (try with_reducible rfl))
  simp only [Act.put, List.getElem_toArray, List.getElem_cons_zero, List.getElem_cons_succ, List.setIfInBounds_toArray, List.set_cons_succ, List.set_cons_zero]
  refine wpAnyH_take (i := 4) (v := ?rv159) rfl (by kernel_rfl) (by kernel_rfl) (by kernel_rfl) (fun _ _ _ h => h) (Or.inl ⟨by rfl, ?ry159⟩) hS ?_
  case ry159 => (intro wS hSw; have c8 := (hSw.cell (p := ⟨b, 8, none⟩) hbv).trans t8; clear hSw; go_simp; (try with_reducible rfl))
  simp only [Act.put, List.getElem_toArray, List.getElem_cons_zero, List.getElem_cons_succ, List.setIfInBounds_toArray, List.set_cons_succ, List.set_cons_zero]
  refine wpAnyH_take (i := 5) (v := ?rv162) rfl (by kernel_rfl) (by kernel_rfl) (by kernel_rfl) (fun _ _ _ h => h) (Or.inl ⟨by rfl, ?ry162⟩) hS ?_
  case ry162 => (intro wS hSw; clear hSw; go_simp; (try with_reducible rfl))
  simp only [Act.put, List.getElem_toArray, List.getElem_cons_zero, List.getElem_cons_succ, List.setIfInBounds_toArray, List.set_cons_succ, List.set_cons_zero]
  apply meet7 (F := fun (w' : World) (A3 : Option Addr) (c3 gx g8 : Nat) (A7 : Option Addr) (c7 : Nat) => Below wv.heap.size wv w' ∧ Below w.heap.size w w' ∧ OwnI w' wv.heap.size A7 9 c7 (s.U ++ [((s.n : Nat) : Int)]) ∧ Blk w' g8 75 #[.slice none 0 0] ∧ wv.heap.size ≤ g8)
  case hmain =>
    intro key
    refine wpAnyH_ready (rs := [2, 6, 8]) (by kernel_rfl) (by simp) ?_
    refine AllReadyH.cons rfl (fun K hK => ?aqx1d0n1_2) (AllReadyH.cons rfl (fun K hK => ?aqx1d0n1_6) (AllReadyH.cons rfl (fun K hK => ?aqx1d0n1_8) .nil))
    case aqx1d0n1_2 =>
      go_simp
      refine (cloneI_any b s.U HU.out wd (HR8.out _ hS)).mono ?_
      rintro e w2 ⟨A3, c3, rfl, oc, h3⟩
      replace gY := gY.trans (h3.mono gY.size)
      replace oc := oc.mono hS.size
      refine hK.out _ _ (hS.trans (h3.mono hS.size)) (fun hS => ?_)
      clear hK K h3
      refine wpAnyH_ready (rs := [6, 8]) (by kernel_rfl) (by simp) ?_
      refine AllReadyH.cons rfl (fun K hK => ?aq2x1d1n2_6) (AllReadyH.cons rfl (fun K hK => ?aq2x1d1n2_8) .nil)
      case aq2x1d1n2_6 =>
        go_simp
        refine hK.out _ _ (hS.alloc hS.size _) (fun hS => ?_)
        clear hK K
        replace gY := gY.alloc gY.size (.cells #[.int .i64 (s.n : Nat)] 3)
        have rn := (RdI.made w2 [((s.n : Nat) : Int)] #[.int .i64 (s.n : Nat)] 3 (0, 0) rfl).size
        replace oc := oc.alloc (.cells #[.int .i64 (s.n : Nat)] 3)
        generalize w2.alloc (.cells #[.int .i64 (s.n : Nat)] 3) = w6 at *
        generalize w2.heap.size = gx at *
        refine wpAnyH_ready (rs := [7, 8]) (by kernel_rfl) (by simp) ?_
        refine AllReadyH.cons rfl (fun K hK => ?aq2_6x1d2n3_7) (AllReadyH.cons rfl (fun K hK => ?aq2_6x1d2n3_8) .nil)
        case aq2_6x1d2n3_7 =>
          refine step_appI rfl (.tmp 13) (.tmp 17) rfl (by rfl) oc (by rfl) rn (by simp) hS.size ?_
          intro A7 c7 w7 oM g7 m7 b7
          replace gY := gY.trans (b7.mono gb.size)
          refine hK.out _ _ (hS.trans b7) (fun hS => ?_)
          clear hK K g7 m7 b7 oc rn
          refine wpAnyH_ready (rs := [8]) (by kernel_rfl) (by simp) ?_
          refine AllReadyH.cons rfl (fun K hK => ?_) .nil
          go_simp
          have hg8 := hS.size
          refine hK.out _ _ (hS.alloc hS.size _) (fun hS => ?_)
          clear hK K
          replace gY := gY.alloc gY.size (.cells #[.slice none 0 0] 75)
          have k8 := Blk.new w7 75 #[.slice none 0 0]
          replace oM := oM.alloc (.cells #[.slice none 0 0] 75)
          generalize w7.alloc (.cells #[.slice none 0 0] 75) = w8 at *
          generalize w7.heap.size = g8 at *
          exact key w8 A3 c3 gx g8 A7 c7 ⟨hS, gY, oM, k8, hg8⟩
        case aq2_6x1d2n3_8 =>
          go_simp
          have hg8 := hS.size
          refine hK.out _ _ (hS.alloc hS.size _) (fun hS => ?_)
          clear hK K
          replace gY := gY.alloc gY.size (.cells #[.slice none 0 0] 75)
          have k8 := Blk.new w6 75 #[.slice none 0 0]
          replace oc := oc.alloc (.cells #[.slice none 0 0] 75)
          replace rn := (rn.alloc (Nat.le_refl _) (.cells #[.slice none 0 0] 75)).size
          generalize w6.alloc (.cells #[.slice none 0 0] 75) = w8 at *
          generalize w6.heap.size = g8 at *
          refine wpAnyH_ready (rs := [7]) (by kernel_rfl) (by simp) ?_
          refine AllReadyH.cons rfl (fun K hK => ?_) .nil
          refine step_appI rfl (.tmp 13) (.tmp 17) rfl (by rfl) oc (by rfl) rn (by simp) hS.size ?_
          intro A7 c7 w7 oM g7 m7 b7
          replace k8 := k8.grown g7 (own_ne oc.2 k8 (by decide))
          replace gY := gY.trans (b7.mono gb.size)
          refine hK.out _ _ (hS.trans b7) (fun hS => ?_)
          clear hK K g7 m7 b7 oc rn
          exact key w7 A3 c3 gx g8 A7 c7 ⟨hS, gY, oM, k8, hg8⟩
      case aq2x1d1n2_8 =>
        go_simp
        have hg8 := hS.size
        refine hK.out _ _ (hS.alloc hS.size _) (fun hS => ?_)
        clear hK K
        replace gY := gY.alloc gY.size (.cells #[.slice none 0 0] 75)
        have k8 := Blk.new w2 75 #[.slice none 0 0]
        replace oc := oc.alloc (.cells #[.slice none 0 0] 75)
        generalize w2.alloc (.cells #[.slice none 0 0] 75) = w8 at *
        generalize w2.heap.size = g8 at *
        refine wpAnyH_ready (rs := [6]) (by kernel_rfl) (by simp) ?_
        refine AllReadyH.cons rfl (fun K hK => ?_) .nil
        go_simp
        refine hK.out _ _ (hS.alloc hS.size _) (fun hS => ?_)
        clear hK K
        replace gY := gY.alloc gY.size (.cells #[.int .i64 (s.n : Nat)] 3)
        have rn := (RdI.made w8 [((s.n : Nat) : Int)] #[.int .i64 (s.n : Nat)] 3 (0, 0) rfl).size
        replace oc := oc.alloc (.cells #[.int .i64 (s.n : Nat)] 3)
        replace k8 := k8.alloc (.cells #[.int .i64 (s.n : Nat)] 3)
        generalize w8.alloc (.cells #[.int .i64 (s.n : Nat)] 3) = w6 at *
        generalize w8.heap.size = gx at *
        refine wpAnyH_ready (rs := [7]) (by kernel_rfl) (by simp) ?_
        refine AllReadyH.cons rfl (fun K hK => ?_) .nil
        refine step_appI rfl (.tmp 13) (.tmp 17) rfl (by rfl) oc (by rfl) rn (by simp) hS.size ?_
        intro A7 c7 w7 oM g7 m7 b7
        replace k8 := k8.grown g7 (own_ne oc.2 k8 (by decide))
        replace gY := gY.trans (b7.mono gb.size)
        refine hK.out _ _ (hS.trans b7) (fun hS => ?_)
        clear hK K g7 m7 b7 oc rn
        exact key w7 A3 c3 gx g8 A7 c7 ⟨hS, gY, oM, k8, hg8⟩
    case aqx1d0n1_6 =>
      go_simp
      refine hK.out _ _ (hS.alloc hS.size _) (fun hS => ?_)
      clear hK K
      replace gY := gY.alloc gY.size (.cells #[.int .i64 (s.n : Nat)] 3)
      have rn := (RdI.made wd [((s.n : Nat) : Int)] #[.int .i64 (s.n : Nat)] 3 (0, 0) rfl).size
      generalize wd.alloc (.cells #[.int .i64 (s.n : Nat)] 3) = w6 at *
      generalize wd.heap.size = gx at *
      refine wpAnyH_ready (rs := [2, 8]) (by kernel_rfl) (by simp) ?_
      refine AllReadyH.cons rfl (fun K hK => ?aq6x1d1n4_2) (AllReadyH.cons rfl (fun K hK => ?aq6x1d1n4_8) .nil)
      case aq6x1d1n4_2 =>
        go_simp
        refine (cloneI_any b s.U HU.out w6 (HR8.out _ hS)).mono ?_
        rintro e w2 ⟨A3, c3, rfl, oc, h3⟩
        replace gY := gY.trans (h3.mono gY.size)
        replace oc := oc.mono hS.size
        replace rn := (rn.below h3).size
        refine hK.out _ _ (hS.trans (h3.mono hS.size)) (fun hS => ?_)
        clear hK K h3
        refine wpAnyH_ready (rs := [7, 8]) (by kernel_rfl) (by simp) ?_
        refine AllReadyH.cons rfl (fun K hK => ?aq2_6x1d2n5_7) (AllReadyH.cons rfl (fun K hK => ?aq2_6x1d2n5_8) .nil)
        case aq2_6x1d2n5_7 =>
          refine step_appI rfl (.tmp 13) (.tmp 17) rfl (by rfl) oc (by rfl) rn (by simp) hS.size ?_
          intro A7 c7 w7 oM g7 m7 b7
          replace gY := gY.trans (b7.mono gb.size)
          refine hK.out _ _ (hS.trans b7) (fun hS => ?_)
          clear hK K g7 m7 b7 oc rn
          refine wpAnyH_ready (rs := [8]) (by kernel_rfl) (by simp) ?_
          refine AllReadyH.cons rfl (fun K hK => ?_) .nil
          go_simp
          have hg8 := hS.size
          refine hK.out _ _ (hS.alloc hS.size _) (fun hS => ?_)
          clear hK K
          replace gY := gY.alloc gY.size (.cells #[.slice none 0 0] 75)
          have k8 := Blk.new w7 75 #[.slice none 0 0]
          replace oM := oM.alloc (.cells #[.slice none 0 0] 75)
          generalize w7.alloc (.cells #[.slice none 0 0] 75) = w8 at *
          generalize w7.heap.size = g8 at *
          exact key w8 A3 c3 gx g8 A7 c7 ⟨hS, gY, oM, k8, hg8⟩
        case aq2_6x1d2n5_8 =>
          go_simp
          have hg8 := hS.size
          refine hK.out _ _ (hS.alloc hS.size _) (fun hS => ?_)
          clear hK K
          replace gY := gY.alloc gY.size (.cells #[.slice none 0 0] 75)
          have k8 := Blk.new w2 75 #[.slice none 0 0]
          replace oc := oc.alloc (.cells #[.slice none 0 0] 75)
          replace rn := (rn.alloc (Nat.le_refl _) (.cells #[.slice none 0 0] 75)).size
          generalize w2.alloc (.cells #[.slice none 0 0] 75) = w8 at *
          generalize w2.heap.size = g8 at *
          refine wpAnyH_ready (rs := [7]) (by kernel_rfl) (by simp) ?_
          refine AllReadyH.cons rfl (fun K hK => ?_) .nil
          refine step_appI rfl (.tmp 13) (.tmp 17) rfl (by rfl) oc (by rfl) rn (by simp) hS.size ?_
          intro A7 c7 w7 oM g7 m7 b7
          replace k8 := k8.grown g7 (own_ne oc.2 k8 (by decide))
          replace gY := gY.trans (b7.mono gb.size)
          refine hK.out _ _ (hS.trans b7) (fun hS => ?_)
          clear hK K g7 m7 b7 oc rn
          exact key w7 A3 c3 gx g8 A7 c7 ⟨hS, gY, oM, k8, hg8⟩
      case aq6x1d1n4_8 =>
        go_simp
        have hg8 := hS.size
        refine hK.out _ _ (hS.alloc hS.size _) (fun hS => ?_)
        clear hK K
        replace gY := gY.alloc gY.size (.cells #[.slice none 0 0] 75)
        have k8 := Blk.new w6 75 #[.slice none 0 0]
        replace rn := (rn.alloc (Nat.le_refl _) (.cells #[.slice none 0 0] 75)).size
        generalize w6.alloc (.cells #[.slice none 0 0] 75) = w8 at *
        generalize w6.heap.size = g8 at *
        refine wpAnyH_ready (rs := [2]) (by kernel_rfl) (by simp) ?_
        refine AllReadyH.cons rfl (fun K hK => ?_) .nil
        go_simp
        refine (cloneI_any b s.U HU.out w8 (HR8.out _ hS)).mono ?_
        rintro e w2 ⟨A3, c3, rfl, oc, h3⟩
        replace gY := gY.trans (h3.mono gY.size)
        replace oc := oc.mono hS.size
        replace rn := (rn.below h3).size
        replace k8 := k8.below h3 k8.lt
        refine hK.out _ _ (hS.trans (h3.mono hS.size)) (fun hS => ?_)
        clear hK K h3
        refine wpAnyH_ready (rs := [7]) (by kernel_rfl) (by simp) ?_
        refine AllReadyH.cons rfl (fun K hK => ?_) .nil
        refine step_appI rfl (.tmp 13) (.tmp 17) rfl (by rfl) oc (by rfl) rn (by simp) hS.size ?_
        intro A7 c7 w7 oM g7 m7 b7
        replace k8 := k8.grown g7 (own_ne oc.2 k8 (by decide))
        replace gY := gY.trans (b7.mono gb.size)
        refine hK.out _ _ (hS.trans b7) (fun hS => ?_)
        clear hK K g7 m7 b7 oc rn
        exact key w7 A3 c3 gx g8 A7 c7 ⟨hS, gY, oM, k8, hg8⟩
    case aqx1d0n1_8 =>
      go_simp
      have hg8 := hS.size
      refine hK.out _ _ (hS.alloc hS.size _) (fun hS => ?_)
      clear hK K
      replace gY := gY.alloc gY.size (.cells #[.slice none 0 0] 75)
      have k8 := Blk.new wd 75 #[.slice none 0 0]
      generalize wd.alloc (.cells #[.slice none 0 0] 75) = w8 at *
      generalize wd.heap.size = g8 at *
      refine wpAnyH_ready (rs := [2, 6]) (by kernel_rfl) (by simp) ?_
      refine AllReadyH.cons rfl (fun K hK => ?aq8x1d1n6_2) (AllReadyH.cons rfl (fun K hK => ?aq8x1d1n6_6) .nil)
      case aq8x1d1n6_2 =>
        go_simp
        refine (cloneI_any b s.U HU.out w8 (HR8.out _ hS)).mono ?_
        rintro e w2 ⟨A3, c3, rfl, oc, h3⟩
        replace gY := gY.trans (h3.mono gY.size)
        replace oc := oc.mono hS.size
        replace k8 := k8.below h3 k8.lt
        refine hK.out _ _ (hS.trans (h3.mono hS.size)) (fun hS => ?_)
        clear hK K h3
        refine wpAnyH_ready (rs := [6]) (by kernel_rfl) (by simp) ?_
        refine AllReadyH.cons rfl (fun K hK => ?_) .nil
        go_simp
        refine hK.out _ _ (hS.alloc hS.size _) (fun hS => ?_)
        clear hK K
        replace gY := gY.alloc gY.size (.cells #[.int .i64 (s.n : Nat)] 3)
        have rn := (RdI.made w2 [((s.n : Nat) : Int)] #[.int .i64 (s.n : Nat)] 3 (0, 0) rfl).size
        replace oc := oc.alloc (.cells #[.int .i64 (s.n : Nat)] 3)
        replace k8 := k8.alloc (.cells #[.int .i64 (s.n : Nat)] 3)
        generalize w2.alloc (.cells #[.int .i64 (s.n : Nat)] 3) = w6 at *
        generalize w2.heap.size = gx at *
        refine wpAnyH_ready (rs := [7]) (by kernel_rfl) (by simp) ?_
        refine AllReadyH.cons rfl (fun K hK => ?_) .nil
        refine step_appI rfl (.tmp 13) (.tmp 17) rfl (by rfl) oc (by rfl) rn (by simp) hS.size ?_
        intro A7 c7 w7 oM g7 m7 b7
        replace k8 := k8.grown g7 (own_ne oc.2 k8 (by decide))
        replace gY := gY.trans (b7.mono gb.size)
        refine hK.out _ _ (hS.trans b7) (fun hS => ?_)
        clear hK K g7 m7 b7 oc rn
        exact key w7 A3 c3 gx g8 A7 c7 ⟨hS, gY, oM, k8, hg8⟩
      case aq8x1d1n6_6 =>
        go_simp
        refine hK.out _ _ (hS.alloc hS.size _) (fun hS => ?_)
        clear hK K
        replace gY := gY.alloc gY.size (.cells #[.int .i64 (s.n : Nat)] 3)
        have rn := (RdI.made w8 [((s.n : Nat) : Int)] #[.int .i64 (s.n : Nat)] 3 (0, 0) rfl).size
        replace k8 := k8.alloc (.cells #[.int .i64 (s.n : Nat)] 3)
        generalize w8.alloc (.cells #[.int .i64 (s.n : Nat)] 3) = w6 at *
        generalize w8.heap.size = gx at *
        refine wpAnyH_ready (rs := [2]) (by kernel_rfl) (by simp) ?_
        refine AllReadyH.cons rfl (fun K hK => ?_) .nil
        go_simp
        refine (cloneI_any b s.U HU.out w6 (HR8.out _ hS)).mono ?_
        rintro e w2 ⟨A3, c3, rfl, oc, h3⟩
        replace gY := gY.trans (h3.mono gY.size)
        replace oc := oc.mono hS.size
        replace rn := (rn.below h3).size
        replace k8 := k8.below h3 k8.lt
        refine hK.out _ _ (hS.trans (h3.mono hS.size)) (fun hS => ?_)
        clear hK K h3
        refine wpAnyH_ready (rs := [7]) (by kernel_rfl) (by simp) ?_
        refine AllReadyH.cons rfl (fun K hK => ?_) .nil
        refine step_appI rfl (.tmp 13) (.tmp 17) rfl (by rfl) oc (by rfl) rn (by simp) hS.size ?_
        intro A7 c7 w7 oM g7 m7 b7
        replace k8 := k8.grown g7 (own_ne oc.2 k8 (by decide))
        replace gY := gY.trans (b7.mono gb.size)
        refine hK.out _ _ (hS.trans b7) (fun hS => ?_)
        clear hK K g7 m7 b7 oc rn
        exact key w7 A3 c3 gx g8 A7 c7 ⟨hS, gY, oM, k8, hg8⟩
  rintro w9 A3 c3 gx g8 A7 c7 ⟨hS, gY, oM, k8, hg8⟩
  refine wpAnyH_ready (rs := [9]) (by kernel_rfl) (by simp) ?_
  refine AllReadyH.cons rfl (fun K hK => ?_) .nil
  have c9 : w9.cell? ⟨g8, 0, none⟩ = some (.slice none 0 0) := k8.cell 0
  have f9 := k8.free 0
  go_simp
  have hne := own_ne oM.2 k8 (by decide)
  have o9 := oM.setFar (p := ⟨g8, 0, none⟩) hne (.slice A7 9 c7)
  have gY9 := gY.setCell (p := ⟨g8, 0, none⟩) (Nat.le_trans gb.size hg8) (.slice A7 9 c7)
  have hS9 := hS.setCell (p := ⟨g8, 0, none⟩) hg8 (.slice A7 9 c7)
  have k9 := k8.set_ 0 (.slice A7 9 c7)
  refine hK.out _ _ hS9 (fun hS => ?_)
  clear hK K c9 f9 oM k8 hS9
  rename Below wv.heap.size wv wd => hSd
  rename Below w.heap.size w wd => hYd
  clear hSd hYd gY
  generalize w9.setCell ⟨g8, 0, none⟩ (.slice A7 9 c7) = w10 at *
  refine wpAnyH_done (by kernel_rfl) ?_ _
  have c8 := (hS.cell (p := ⟨b, 8, none⟩) hbv).trans t8
  have hrl := hrv.below (hS.mono gb.size)
  have o10 := o9.mono gb.size
  have hgw := Nat.le_trans gb.size hg8
  clear t8 hrv o9 gb hS
  go_wp2_with fail
  refine (each_put1 g8 s.n s.c 9 w.heap.size s.A s.l _ w10 hrl hn7 (by decide) hgw gY9.size A7 c7 k9 o10 hne).mono ?_
  rintro e w11 ⟨rfl, A1, c1, k11, o11, hne11, b11⟩
  have g11 := gY9.trans b11
  rw [show s.U ++ [((s.n : Nat) : Int)] ++ nums s.l = putL s.U s.l by rw [HN.out]; rfl] at o11
  have hml : 9 + 2 * s.n ≤ 1545 := by omega
  have c11 : w11.cell? ⟨g8, 0, none⟩ = some (.slice A1 (9 + 2 * s.n) c1) := k11.cell 0
  generalize 9 + 2 * s.n = m at *
  generalize putL s.U s.l = ms at *
  clear c8 hrl o10 k9 hne gY9 b11 k11
  have hmle := ownsRow_le o11.2
  go_wp2_with fail
  clear c11
  obtain ⟨wo, rfl⟩ : ∃ wo, wo = w11 := ⟨_, rfl⟩
  go_loopw [5, 25] (fun s i wr => ∃ (j : Nat) (A : Option Addr) (nb cb : Nat), j ≤ m ∧ i = .int .i64 j ∧ s = .slice A nb cb ∧ OwnB wr w.heap.size A nb cb (encs (ms.take j)) ∧ Below wo.heap.size wo wr) (fun _ i _ => m - (intOf i).toNat)
  case atStart => exact ⟨0, none, 0, 0, by omega, rfl, rfl, OwnB.nil _ _, Below.refl _ _⟩
  case round =>
    obtain ⟨j, A, nb, cb, hj, rfl, rfl, ob, bl⟩ := hrel
    by_cases hjm : j < m
    · have hjl : j < ms.length := by rw [← o11.1]; exact hjm
      obtain ⟨ad, rfl, _, c1⟩ := (o11.rd.below bl).at_ hjl
      have hxb := HBD.out _ (List.getElem_mem hjl)
      have hes := encs_snoc ms hjl
      have HES := Lib.hid hes
      have hel := encs_len (ms.take j)
      have hnb : nb ≤ 15000 := by
        have h1 := ob.1
        have h2 : (ms.take j).length ≤ j := List.length_take_le _ _
        omega
      clear hes hel
      generalize ms[j] = x at *
      obtain ⟨x, rfl⟩ := Int.eq_ofNat_of_zero_le hxb.1
      rw [Int.toNat_natCast] at HES
      have hj0 : (0 : Int) ≤ (j : Int) := by omega
      have hj1 : (j : Int) < (m : Int) := by omega
      go_wp2_with fail
      refine (put_ok A nb cb _ x wr.heap.size wr ob.rd (Nat.le_refl _) (by omega) (by omega)).mono ?_
      rintro e w4 ⟨A4, n4, c4, rfl, o4, b4⟩
      have O4 : OwnB w4 w.heap.size A4 n4 c4 (encs (ms.take (j + 1))) := by rw [HES.out]; exact o4.mono (Nat.le_trans g11.size bl.size)
      have B4 := bl.trans (b4.mono bl.size)
      have HO := Lib.hid O4
      clear O4 o4 b4 ob bl
      go_wp2_with fail
      go_roundw
      case rel => exact ⟨j + 1, A4, n4, c4, by omega, by go_num, rfl, HO.out, B4⟩
      case measure => simp [intOf]; omega
    · have hfull : ms.take j = ms := List.take_of_length_le (by rw [← o11.1]; omega)
      have HFL := Lib.hid hfull
      clear hfull
      go_wp2_with fail
      go_ret2
      exact ⟨A, nb, cb, rfl, by rw [HBS.out]; rw [HFL.out] at ob; exact ob, g11.trans (bl.mono g11.size)⟩
end Go.Proofs.Ytcgalmnllegnbaa

/- A message's bytes: plain. -/
namespace Go.Proofs.Ytcgalmnllegnbaa.Ms
set_option linter.unusedVariables false
set_option linter.unusedSimpArgs false
set_option maxRecDepth 100000
open Dot
open Evt (Ev inB inB_iff)
/-- a kind's own bytes -/
def tailM (m : Msg) : List UInt8 := if m.kind = 4 then encs (putL m.u m.more) else if m.kind = 5 then Vint.enc m.ev.length ++ m.ev.flatMap encE else []
def bodyM (m : Msg) : List UInt8 := nb (headN m) ++ tailM m
/-- a message's frame; an error's number -/
def putM (m : Msg) : List UInt8 × Nat := if rightM m = true then (if (bodyM m).length ≤ 4096 then (Frame.frm (bodyM m), 0) else ([], 6)) else ([], 2)
theorem nb_encs (l : List Int) : nb l = encs l := rfl
theorem headN_eq (m : Msg) : headN m = [m.kind, m.frm, m.to, (m.mem.length : Int)] ++ (m.mem.flatMap fun x => [x.1, x.2.1, x.2.2]) ++ (if m.kind ≠ 5 then [m.seq] else []) ++ (if m.kind = 2 ∨ m.kind = 3 then [m.node] else []) := rfl
theorem trip_len (l : List Mem) : (l.flatMap fun x : Mem => [x.1, x.2.1, x.2.2]).length = 3 * l.length := by
  induction l with
  | nil => rfl
  | cons a l ih => rw [List.flatMap_cons, List.length_append, ih, List.length_cons]; simp; omega
theorem trip_snoc (l : List Mem) {k : Nat} (h : k < l.length) : ((l.take (k + 1)).flatMap fun x : Mem => [x.1, x.2.1, x.2.2]) = ((l.take k).flatMap fun x : Mem => [x.1, x.2.1, x.2.2]) ++ [(l[k]).1, (l[k]).2.1, (l[k]).2.2] := by
  rw [take_snoc l h, List.flatMap_append]
  simp
theorem headN_len {m : Msg} (h : rightM m = true) : (headN m).length ≤ 30 := by
  have h8 := members_len (right_head h).2.2.2.1
  rw [headN_eq]
  simp only [List.length_append, trip_len, List.length_cons, List.length_nil]
  split <;> split <;> simp <;> omega
theorem headN_bd {m : Msg} (h : rightM m = true) : ∀ z ∈ headN m, 0 ≤ z ∧ z ≤ 1099511627776 := by
  obtain ⟨h1, h2, h3, h4, h5, h6, _⟩ := right_head h
  have h8 := members_len h4
  have hs := members_small h4
  unfold top at h5
  intro z hz
  rw [headN_eq] at hz
  rcases List.mem_append.1 hz with hz | hz
  · rcases List.mem_append.1 hz with hz | hz
    · rcases List.mem_append.1 hz with hz | hz
      · simp at hz
        omega
      · obtain ⟨v, hv, hz⟩ := List.mem_flatMap.1 hz
        have := hs v hv
        unfold top at this
        simp at hz
        omega
    · split at hz
      · simp at hz; omega
      · simp at hz
  · split at hz
    · simp at hz; omega
    · simp at hz
end Go.Proofs.Ytcgalmnllegnbaa.Ms

/- The walk of event.Put. -/
namespace Go.Proofs.Ytcgalmnllegnbaa
set_option linter.unusedVariables false
set_option linter.unusedSimpArgs false
set_option maxRecDepth 100000
open Go.RowKit
open Dot Evt
/-- what Put gives: bytes, an error's number -/
def putE (x : Ev) : List UInt8 × Nat := if rightE x = true then (encE x, 0) else ([], 2)
end Go.Proofs.Ytcgalmnllegnbaa

/- The walk of event.PutAll. -/
namespace Go.Proofs.Ytcgalmnllegnbaa
set_option linter.unusedVariables false
set_option linter.unusedSimpArgs false
set_option maxRecDepth 100000
open Go.RowKit
open Dot Evt
/-- what PutAll gives: bytes, an error's number -/
def putAllE (xs : List EvV) : List UInt8 × Nat :=
  if 768 < xs.length then ([], 6) else if xs.all (fun x => rightE x.e) = true then (Vint.enc xs.length ++ xs.flatMap (fun x => encE x.e), 0) else ([], 2)
theorem numsE_len (x : Ev) (hp : x.p.length = 7) : (numsE x).length ≤ 13 + 2 * x.l.length := by
  have hd : (dotNums x.l).length = 2 * x.l.length := by rw [← dotN_len, ← dotNums_nat, List.length_map]
  unfold numsE
  rw [List.length_append]
  split
  · simp only [List.length_cons, List.length_nil]; omega
  · rw [List.length_append, List.length_append, hd]
    split
    · simp only [List.length_cons, List.length_nil, hp]; omega
    · simp only [List.length_cons, List.length_nil]; omega
theorem encE_len {x : Ev} (hp : x.p.length = 7) (hx : rightE x = true) : (encE x).length ≤ 1230 := by
  have h := encN_len ((numsE x).map Int.toNat)
  rw [List.length_map] at h
  have h2 := numsE_len x hp
  have h3 := (right_facts hp hx).2.2.1
  unfold encE
  omega
theorem encAll_len (xs : List EvV) (hp : ∀ x ∈ xs, x.e.p.length = 7 ∧ rightE x.e = true) : (xs.flatMap fun x => encE x.e).length ≤ 1230 * xs.length := by
  induction xs with
  | nil => simp
  | cons a l ih =>
    have h1 := encE_len (hp a (by simp)).1 (hp a (by simp)).2
    have h2 := ih fun x hx => hp x (by simp [hx])
    simp only [List.flatMap_cons, List.length_append, List.length_cons]
    omega
set_option maxRecDepth 100000 in
set_option maxHeartbeats 2000000 in
theorem eputAll_any (A : Option Addr) (n c : Nat) (xs : List EvV) (w : World) (hn : n ≤ 10000000000000) (hR : RowEv w w.heap.size A n xs) :
    Calls Try.prog 37 #[.slice A n c] w (GiveBE w (putAllE xs).1 (putAllE xs).2) := by
  have HN := Lib.hid hR.1
  have HRK := Lib.hid fun (w' : World) (hb : Below w.heap.size w w') => hR.below hb
  have HNB := Lib.hid hn
  have hZ : ∀ s : List UInt8 × Nat, putAllE xs = s → GiveBE w (putAllE xs).1 (putAllE xs).2 = GiveBE w s.1 s.2 := fun s h => by rw [h]
  clear hR
  have HPA := Lib.hid (show putAllE xs = putAllE xs from rfl)
  go_enter_defers Try.func37, Try.ntmps37
  go_upto_region 4 with fail
  refine nameW ?_
  intro W hW
  obtain ⟨B, hB⟩ : ∃ B, B = w.heap.size := ⟨_, rfl⟩
  rw [← hB]
  have kf : Blk W B 32 #[.int .i64 0] := by rw [hW, hB]; exact ((Blk.new w _ _).alloc _).alloc _
  have kw : WrS W (B + 1) [] := by
    have h := Blk.new (w.alloc (.cells #[.int .i64 0] 32)) 123 #[.slice none 0 0]
    rw [show (w.alloc (.cells #[.int .i64 0] 32)).heap.size = w.heap.size + 1 by simp] at h
    rw [hW, hB]
    exact ⟨none, 0, 0, h.alloc _, OwnB.nil _ _⟩
  have kn : Blk W (B + 1 + 1) 3 #[.int .i64 n] := by
    have h := Blk.new ((w.alloc (.cells #[.int .i64 0] 32)).alloc (.cells #[.slice none 0 0] 123)) 3 #[.int .i64 n]
    rw [show ((w.alloc (.cells #[.int .i64 0] 32)).alloc (.cells #[.slice none 0 0] 123)).heap.size = w.heap.size + 1 + 1 by simp] at h
    rw [hW, hB]
    exact h
  have hbb : Below B w W := by rw [hW, hB]; exact (((Below.refl _ _).alloc (Nat.le_refl _) _).alloc (by simp) _).alloc (by simp; omega) _
  have HB := Lib.hid hB
  rw [← hB] at HRK
  clear hW hB hZ
  have cn : W.cell? ⟨B + 1 + 1, 0, none⟩ = some (.int .i64 n) := kn.cell 0
  have cf : W.cell? ⟨B, 0, none⟩ = some (.int .i64 0) := kf.cell 0
  have ff := kf.free 0
  by_cases hbig : 768 < n
  · have hd : decide ((768 : Int) < (n : Int)) = true := decide_eq_true (by omega)
    have he : putAllE xs = ([], 6) := by unfold putAllE; rw [if_pos (by rw [← HN.out]; exact hbig)]
    have HE := Lib.hid he
    clear hbig he
    go_wp2_with fail
    refine leaves_cons (f := 75) (args := #[.pointer (some ⟨B, 0, none⟩)]) (by simp) (by simp [go_sem]) ?_
    refine (ecaught_none _ _).mono ?_
    rintro e u' w2 ⟨rfl, rfl, rfl⟩
    have k2 := kf.set_ 0 (.int .i64 6)
    have c2 := k2.cell 0
    have hb3 : Below B w (W.setCell ⟨B, 0, none⟩ (.int .i64 6)) := hbb.setCell (by show B ≤ B; omega) _
    refine ⟨.tuple #[.slice none 0 0, .int .i64 6], by simp [results, Try.results37, go_sem, c2], none, 0, 0, by rw [HE.out]; rfl, ?_, by rw [← HB.out]; exact hb3⟩
    rw [HE.out]
    exact OwnB.nil _ _
  have hd : decide ((768 : Int) < (n : Int)) = false := decide_eq_false (by omega)
  have H768 := Lib.hid (show n ≤ 768 by omega)
  clear hbig
  go_wp2_with fail
  refine (wnum_any (B + 1) ⟨B + 1 + 1, 0, none⟩ [] n W kw cn (by have := H768.out; omega) (by simp)).mono ?_
  rintro e w1 ⟨rfl, hw1, g1⟩
  have kf1 := kf.grown g1 (by simp)
  have hb1 := hbb.trans (only_Below g1 (B := B) (by omega) (by have := kf.lt; omega))
  clear cn cf ff kf kw kn hbb g1 hn hd
  go_wp2_with fail
  go_loopw [18] (fun i wr => ∃ k : Nat, k ≤ n ∧ i = .int .i64 k ∧ (∀ j x, j < k → xs[j]? = some x → rightE x.e = true) ∧ WrS wr (B + 1) (Vint.enc n ++ (xs.take k).flatMap fun x => encE x.e) ∧ Blk wr B 32 #[.int .i64 0] ∧ Below B w wr) (fun i _ => n - (intOf i).toNat)
  case atStart => exact ⟨0, by omega, rfl, fun j x hj => by omega, by simpa using hw1, kf1, hb1⟩
  case round =>
    clear hw1 kf1 hb1
    obtain ⟨k, hk, rfl, hall, hw, kf, gb⟩ := hrel
    have HA := Lib.hid hall
    clear hall
    by_cases hlt : k < n
    · have hkl : k < xs.length := by rw [← HN.out]; exact hlt
      obtain ⟨hok, ad, hA, hab, hcell⟩ := (HRK.out wr gb).2 k _ (List.getElem?_eq_getElem hkl)
      have hsn := take_snoc xs hkl
      have hkg := List.getElem?_eq_getElem hkl
      generalize xs[k] = x at *
      have hpr : ∀ y ∈ xs.take k, y.e.p.length = 7 ∧ rightE y.e = true := fun y hy => by
        obtain ⟨i, hi, rfl⟩ := List.getElem_of_mem hy
        rw [List.length_take] at hi
        have e1 : xs[i]? = some (xs.take k)[i] := by rw [List.getElem_take, List.getElem?_eq_getElem]
        exact ⟨((HRK.out wr gb).2 i _ e1).1.1, HA.out i _ (by omega) e1⟩
      have hlen := encAll_len _ hpr
      rw [List.length_take] at hlen
      have hl6 := enc_len6 n
      have HLL := Lib.hid (show (Vint.enc n ++ (xs.take k).flatMap fun x => encE x.e).length ≤ 140737488350000 by rw [List.length_append]; have := H768.out; omega)
      subst hA
      have hyes := fun (w' : World) (h : WrS w' (B + 1) (Vint.enc n ++ (xs.take k).flatMap fun x => encE x.e)) (h2 : RdD w' (B + 1) x.A x.m x.e.l) (hx : rightE x.e = true) => wput_yes x.e hok.1 x.A x.m x.c (B + 1) _ w' h h2 hx HLL.out
      have hno := fun (w' : World) (h2 : RdD w' w'.heap.size x.A x.m x.e.l) (hx : rightE x.e = false) => wput_no x.e hok.1 x.A x.m x.c (B + 1) w' h2 hx
      obtain ⟨cs, hcs⟩ : ∃ cs, cs = x.cs := ⟨_, rfl⟩
      have hec : ec x.e (.slice x.A x.m x.c) = cs := hcs.symm
      rw [hec] at hyes hno
      rw [← hcs] at hcell
      have HYES := Lib.hid hyes
      have HNO := Lib.hid hno
      have HSZ := Lib.hid (show cs.size = 14 by rw [hcs]; rfl)
      have H1C := Lib.hid (show cs.all (·.oneCell') = true by rw [hcs]; exact x.one)
      have HC := Lib.hid hcell
      have HOK := Lib.hid hok
      have HSN := Lib.hid hsn
      have HKG := Lib.hid hkg
      have HWR := Lib.hid hw
      have hk0 : (0 : Int) ≤ (k : Int) := by omega
      have hkm : (k : Int) < (n : Int) := by omega
      have hgs := hw.lt
      clear hcs hec hcell hok hsn hkg hlen hl6 hpr hyes hno hw
      go_upto_region 9 with fail
      go_upto_region 10 with first
        | ((with_reducible refine wpList_lda rowE HC.out HSZ.out ?_ ?_); rotate_left; (rfl))
        | ((with_reducible refine wpList_st rowE (Blk.new _ _ _) HSZ.out ?_ H1C.out ?_ ?_ ?_); (rfl); rotate_left; (rfl); (rfl); intro w6 k6 g6 z6)
      have bA : Below wr.heap.size wr w6 := (((Below.refl _ _).alloc (Nat.le_refl _) _).grown g6 (by simp) (fun q hq => by injection hq with hq; omega))
      have gb6 := gb.trans (bA.mono (by have := kf.lt; omega))
      have kf6 := kf.below bA kf.lt
      have hw6 := HWR.out.below bA
      have hrd6 := (HOK.out.2.1.below (bA.mono (by have := kf.lt; omega))).more (show B ≤ B + 1 by omega)
      obtain ⟨gr, hgr2⟩ : ∃ gr, gr = wr.heap.size := ⟨_, rfl⟩
      rw [← hgr2] at k6 ⊢
      clear hgr2 g6 z6 bA gb kf
      cases hx : rightE x.e
      case false =>
        have he : putAllE xs = ([], 2) := by
          unfold putAllE
          rw [if_neg (by rw [← HN.out]; have := H768.out; omega), if_neg]
          intro h
          have := List.all_eq_true.1 h x (List.mem_of_getElem? HKG.out)
          rw [hx] at this
          cases this
        have HE := Lib.hid he
        have hn2 := HNO.out w6 hrd6.size hx
        clear he hx
        go_wp2_with first
          | ((with_reducible refine wpList_ld rowE k6 HSZ.out ?_ ?_); rotate_left; (rfl))
        refine hn2.mono ?_
        rintro e w7 ⟨rfl, b7⟩
        have kf7 := kf6.below b7 kf6.lt
        go_wp2_with fail
        refine leaves_cons (f := 75) (args := #[.pointer (some ⟨B, 0, none⟩)]) (by simp) (by simp [go_sem]) ?_
        refine (ecaught_panic _ _ _ _ _ (kf7.cell 0) (kf7.free 0)).mono ?_
        rintro e u' w8 ⟨rfl, rfl, rfl⟩
        have k8 := (kf7.alloc (.cells #[.int .i64 2] 151)).set_ 0 (.int .i64 2)
        have c8 := k8.cell 0
        have hb8 : Below B w ((w7.alloc (.cells #[.int .i64 2] 151)).setCell ⟨B, 0, none⟩ (.int .i64 2)) := ((gb6.trans (b7.mono (by have := kf6.lt; omega))).alloc (by have := gb6.size; have := b7.size; have := HB.out; omega) _).setCell (by show B ≤ B; omega) _
        refine ⟨.tuple #[.slice none 0 0, .int .i64 2], by simp [results, Try.results37, go_sem, c8], none, 0, 0, by rw [HE.out]; rfl, ?_, by rw [← HB.out]; exact hb8⟩
        rw [HE.out]
        exact OwnB.nil _ _
      case true =>
        have hy2 := HYES.out w6 hw6 hrd6 hx
        have HX := Lib.hid hx
        clear hx
        go_wp2_with first
          | ((with_reducible refine wpList_ld rowE k6 HSZ.out ?_ ?_); rotate_left; (rfl))
        refine hy2.mono ?_
        rintro e w7 ⟨rfl, hw7, g7⟩
        have kf7 := kf6.grown g7 (by simp)
        have gb7 := gb6.trans (only_Below g7 (B := B) (by omega) (by have := kf6.lt; omega))
        go_wp2_with fail
        go_roundw
        case rel => exact ⟨k + 1, by omega, num_succ k (by have := H768.out; omega), fun j y hj hy => by
          by_cases e : j = k
          · subst e; rw [HKG.out] at hy; injection hy with hy; rw [← hy]; exact HX.out
          · exact HA.out j y (by omega) hy, by rw [HSN.out, List.flatMap_append]; simpa using hw7, kf7, gb7⟩
        case measure => exact meas_succ k n hlt (by have := H768.out; omega)
    · have he : putAllE xs = (Vint.enc n ++ xs.flatMap fun x => encE x.e, 0) := by
        unfold putAllE
        rw [if_neg (by rw [← HN.out]; have := H768.out; omega), if_pos, ← HN.out]
        rw [List.all_eq_true]
        intro x hx
        obtain ⟨i, hi, rfl⟩ := List.getElem_of_mem hx
        exact HA.out i _ (by have := HN.out; omega) (List.getElem?_eq_getElem hi)
      have HE := Lib.hid he
      rw [List.take_of_length_le (by rw [← HN.out]; omega)] at hw
      clear he
      obtain ⟨A1, n1, c1, kw1, ho1⟩ := hw
      have q1 : wr.cell? ⟨B + 1, 0, none⟩ = some (.slice A1 n1 c1) := kw1.cell 0
      have f1 : wr.cell? ⟨B, 0, none⟩ = some (.int .i64 0) := kf.cell 0
      have f2 := kf.free 0
      have hkd : decide ((k : Int) < (n : Int)) = false := decide_eq_false (by omega)
      go_wp2_with fail
      refine leaves_cons (f := 75) (args := #[.pointer (some ⟨B, 0, none⟩)]) (by simp) (by simp [go_sem]) ?_
      refine (ecaught_none _ _).mono ?_
      rintro e u' w2 ⟨rfl, rfl, rfl⟩
      have k2 := kf.set_ 0 (.int .i64 0)
      have c2 := k2.cell 0
      have hb3 : Below B w (wr.setCell ⟨B, 0, none⟩ (.int .i64 0)) := gb.setCell (by show B ≤ B; omega) _
      refine ⟨.tuple #[.slice A1 n1 c1, .int .i64 0], by simp [results, Try.results37, go_sem, c2], A1, n1, c1, by rw [HE.out]; rfl, ?_, by rw [← HB.out]; exact hb3⟩
      rw [HE.out]
      refine (ho1.setFar ?_ _).mono (by have := HB.out; omega)
      rcases A1 with _ | a
      · simp
      · have := (ho1.lt a.block rfl).1
        simp
        omega
end Go.Proofs.Ytcgalmnllegnbaa

/- The walk of msg.Put. -/
namespace Go.Proofs.Ytcgalmnllegnbaa
set_option linter.unusedVariables false
set_option linter.unusedSimpArgs false
set_option maxRecDepth 100000
open Go.RowKit
open Dot Evt
open Ms (Mem)
theorem th_sizeM (a b c : Int) : (#[Value.int .i64 a, .int .i64 b, .int .i64 c]).size = 3 := rfl
theorem th_oneM (a b c : Int) : (#[Value.int .i64 a, .int .i64 b, .int .i64 c]).all (·.oneCell') = true := by simp [Value.oneCell']
def ptc (k : Int) : Array Value := #[.bool (decide (k ≠ 5)), .bool (decide (k = 2 ∨ k = 3)), .bool (decide (k = 4)), .bool (decide (k = 5))]
theorem ptc_one (k : Int) : (ptc k).all (·.oneCell') = true := pt_one _ _ _ _
theorem tail_len {x : MgV} {w : World} {B : Nat} (h : RowEv w B x.A2 x.n2 x.xs) (hes : x.m.ev = x.xs.map (·.e)) (hu : x.m.u.length = 8) (hR : Ms.rightM x.m = true) : (Ms.tailM x.m).length ≤ 10000000 := by
  have ha := ((Ms.right_iff x.m).1 hR).2.2.2
  unfold Ms.tailM
  by_cases h4 : x.m.kind = 4
  · rw [if_pos h4]
    have h1 : Ms.askSeen x.m = rightB x.m.u x.m.more := by unfold Ms.askSeen; rw [if_pos h4]
    have h2 := ((right_iff x.m.u x.m.more).1 (by rw [← h1]; exact ha.1)).2.1
    have h3 := encs_len (putL x.m.u x.m.more)
    unfold putL at h3
    simp only [List.length_append, List.length_cons, List.length_nil, nums_len, hu] at h3
    unfold putL
    omega
  · rw [if_neg h4]
    by_cases h5 : x.m.kind = 5
    · rw [if_pos h5]
      have h1 : Ms.askEv x.m = (x.m.ev.all rightE && decide (x.m.ev.length ≤ 768)) := by unfold Ms.askEv; rw [if_pos h5]
      have h2 := ha.2
      rw [h1, Bool.and_eq_true] at h2
      have h3 := of_decide_eq_true h2.2
      have h4 := encAll_len x.xs (fun y hy => by
        obtain ⟨i, hi, rfl⟩ := List.getElem_of_mem hy
        refine ⟨(h.2 i _ (List.getElem?_eq_getElem hi)).1.1, ?_⟩
        refine List.all_eq_true.1 h2.1 _ ?_
        rw [hes]
        exact List.mem_map.2 ⟨_, List.getElem_mem hi, rfl⟩)
      have h5 := Vint.enc_length x.m.ev.length
      rw [List.length_append, hes, List.flatMap_map] at *
      rw [List.length_map] at h3
      rw [List.length_map] at h5
      rw [List.length_map]
      omega
    · rw [if_neg h5]; simp
/-- what stands while a message is put -/
structure PutS (w0 : World) (g P : Nat) (C PA : Array Value) (w : World) : Prop where
  kb : Blk w g 27 C
  ke : Blk w (g + 1) 32 #[.int .i64 0]
  kp : Blk w P 73 PA
  gb : Below w0.heap.size w0 w
  lt : g + 1 < P
  ge : w0.heap.size ≤ g
theorem PutS.below {w0 w w' : World} {g P : Nat} {C PA : Array Value} (h : PutS w0 g P C PA w) (hb : Below w.heap.size w w') : PutS w0 g P C PA w' := ⟨h.kb.below hb h.kb.lt, h.ke.below hb h.ke.lt, h.kp.below hb h.kp.lt, h.gb.trans (hb.mono h.gb.size), h.lt, h.ge⟩
theorem PutS.low {w0 w w' : World} {g P D : Nat} {C PA : Array Value} (h : PutS w0 g P C PA w) (hb : Below D w w') (hP : P < D) : PutS w0 g P C PA w' := ⟨h.kb.below hb (by have := h.lt; omega), h.ke.below hb (by have := h.lt; omega), h.kp.below hb hP, h.gb.trans (hb.mono (by have := h.lt; have := h.ge; omega)), h.lt, h.ge⟩
theorem PutS.err {w0 w : World} {g P : Nat} {C PA : Array Value} (h : PutS w0 g P C PA w) : PutS w0 g P C PA (w.setCell ⟨g + 1, 0, none⟩ (.int .i64 0)) :=
  ⟨h.kb.far (by show g ≠ g + 1; omega) _, h.ke.set_ 0 _, h.kp.far (by show P ≠ g + 1; have := h.lt; omega) _, h.gb.setCell (by show w0.heap.size ≤ g + 1; have := h.ge; omega) _, h.lt, h.ge⟩
set_option maxHeartbeats 4000000 in
theorem mput_any (x : MgV) (w : World) (h : MgIn w x) : Calls Try.prog 11 #[.agg x.cs] w (GiveBE w (Ms.putM x.m).1 (Ms.putM x.m).2) := by
  have HIN := Lib.hid h
  have HAT := Lib.hid (mgv_at x)
  have SZ := Lib.hid x.size
  have HRT := Lib.hid fun (w' : World) (hb : Below w.heap.size w w') => mright_any x w' (h.below hb)
  have HH := Lib.hid fun (hk : 1 ≤ x.m.kind ∧ x.m.kind ≤ 5) (w' : World) => (has17_any x.m.kind w' hk : Calls Try.prog _ _ w' fun e w'' => e = .returned (.agg (ptc x.m.kind)) ∧ Below w'.heap.size w' w'')
  have HSN := Lib.hid fun (w' : World) => seen_any x h.ok.u w'
  have HDP := Lib.hid fun (w' : World) (hb : Below w.heap.size w w') => dput_any ⟨x.m.u, x.A1, x.n1, x.c1, x.m.more⟩ w' h.ok.u (h.below hb).ok.more
  have HEP := Lib.hid fun (w' : World) (hb : Below w.heap.size w w') => eputAll_any x.A2 x.n2 x.c2 x.xs w' h.b2 (h.below hb).ok.ev
  have HMB := Lib.hid fun (w' : World) (hb : Below w.heap.size w w') => (h.below hb).ok.mem
  have HN3 := Lib.hid (h.ok.mem.1)
  have HTL := Lib.hid fun hr => tail_len h.ok.ev h.ok.es h.ok.u hr
  clear h
  generalize hC : x.cs = C at *
  clear hC
  obtain ⟨R, hR⟩ : ∃ R, R = Ms.rightM x.m := ⟨_, rfl⟩
  have HR := Lib.hid hR
  clear hR
  go_enter_defers Try.func11, Try.ntmps11
  go_upto_region 2 with fail
  refine nameW ?_
  intro W hW
  obtain ⟨g, hg⟩ : ∃ g, g = w.heap.size := ⟨_, rfl⟩
  rw [← hg]
  have kb : Blk W g 27 C := by rw [hW, hg]; exact (Blk.new w _ _).alloc _
  have ke : Blk W (g + 1) 32 #[.int .i64 0] := by
    have h := Blk.new (w.alloc (.cells C 27)) 32 #[.int .i64 0]
    rw [hW, hg]
    simpa using h
  have gb : Below w.heap.size w W := by rw [hW]; exact ((Below.refl _ _).alloc (Nat.le_refl _) _).alloc (by simp) _
  have hge : w.heap.size ≤ g := by omega
  clear hW hg
  go_wp2_with ((with_reducible refine wpList_ld rowMg kb SZ.out ?_ ?_); rotate_left; (rfl))
  refine (HRT.out W gb).mono ?_
  rintro e w1 ⟨rfl, b1⟩
  have kb := kb.below b1 kb.lt
  have ke := ke.below b1 ke.lt
  have gb := gb.trans (b1.mono gb.size)
  rw [← HR.out]
  clear b1
  cases R
  case false =>
    have hp : Ms.putM x.m = ([], 2) := by unfold Ms.putM; rw [← HR.out, if_neg (by decide)]
    have HP := Lib.hid hp
    clear hp
    go_wp2_with fail
    refine (mmust_bad _ _).mono ?_
    rintro e w2 ⟨rfl, rfl⟩
    go_wp2_with fail
    refine leaves_cons (f := 31) (args := #[.pointer (some ⟨g + 1, 0, none⟩)]) (by simp) (by simp [go_sem]) ?_
    refine (mcaught_panic _ _ _ _ _ (ke.cell 0) (ke.free 0)).mono ?_
    rintro e u' w3 ⟨rfl, rfl, rfl⟩
    have k3 := (ke.alloc (.cells #[.int .i64 2] 114)).set_ 0 (.int .i64 2)
    have c3 : World.cell? _ _ = some (.int .i64 2) := k3.cell 0
    have g3 := (gb.alloc gb.size (.cells #[.int .i64 2] 114)).setCell (p := ⟨g + 1, 0, none⟩) (by show w.heap.size ≤ g + 1; omega) (.int .i64 2)
    refine ⟨.tuple #[.slice none 0 0, .int .i64 2], by simp [results, Try.results11, go_sem, c3], none, 0, 0, by rw [HP.out]; rfl, by rw [HP.out]; exact OwnB.nil _ _, g3⟩
  case true =>
    have hR := HR.out.symm
    have hrh := Ms.right_head hR
    have hml := Ms.members_len hrh.2.2.2.1
    have HHK := Lib.hid (HH.out hrh.1)
    have HBD := Lib.hid (Ms.headN_bd hR)
    have HHL := Lib.hid (Ms.headN_len hR)
    have HRR := Lib.hid hR
    have HTN := Lib.hid (HTL.out hR)
    have hn38 : x.n3 ≤ 8 := by rw [HN3.out]; exact hml
    have HN8 := Lib.hid hn38
    clear hR hrh hml hn38 HH HR
    go_wp2_with fail
    refine (mmust_ok _ _).mono ?_
    rintro e w2 ⟨rfl, rfl⟩
    have t0 : w1.cell? ⟨g, 0, none⟩ = some (.int .i64 x.m.kind) := (kb.cell 0).trans HAT.out.1
    go_wp2_with fail
    refine (HHK.out _).mono ?_
    rintro e w2 ⟨he, b2⟩
    obtain rfl : e = .returned (.agg (ptc x.m.kind)) := he
    have kb := kb.below b2 kb.lt
    have ke := ke.below b2 ke.lt
    have gb := gb.trans (b2.mono gb.size)
    have hg2 : g + 1 < w2.heap.size := ke.lt
    obtain ⟨PA, hPA⟩ : ∃ PA, PA = ptc x.m.kind := ⟨_, rfl⟩
    rw [← hPA]
    have HPA := Lib.hid hPA
    have SZ4 := Lib.hid (show PA.size = 4 by rw [hPA]; rfl)
    have ONE4 := Lib.hid (show PA.all (·.oneCell') = true by rw [hPA]; exact ptc_one _)
    clear hPA t0 b2
    go_upto_region 4 with ((with_reducible refine wpList_st (cs := PA) rowPt (Blk.new _ _ _) SZ4.out ?_ ONE4.out ?_ ?_ ?_); (rfl); rotate_left; (rfl); (rfl); intro w3 kp g3 z3)
    have bn : Below w2.heap.size w2 w3 := new_below g3
    obtain ⟨P, hP⟩ : ∃ P, P = w2.heap.size := ⟨_, rfl⟩
    rw [← hP] at kp ⊢
    have S0 : PutS w g P C PA w3 := ⟨kb.below bn kb.lt, ke.below bn ke.lt, kp, gb.trans (bn.mono gb.size), by omega, hge⟩
    have S1 := Lib.hid S0
    have t0 : w3.cell? ⟨g, 0, none⟩ = some (.int .i64 x.m.kind) := (S0.kb.cell 0).trans HAT.out.1
    have t1 : w3.cell? ⟨g, 1, none⟩ = some (.int .i64 x.m.frm) := (S0.kb.cell 1).trans HAT.out.2.1
    have t2 : w3.cell? ⟨g, 2, none⟩ = some (.int .i64 x.m.to) := (S0.kb.cell 2).trans HAT.out.2.2.1
    have t15 : w3.cell? ⟨g, 15, none⟩ = some (.slice x.A3 x.n3 x.c3) := (S0.kb.cell 15).trans HAT.out.2.2.2.2.2.2.2
    clear hP S0 kb ke gb kp g3 z3 bn hg2
    go_upto_region 5 with fail
    have o0 := OwnI.made w3 w3.heap.size [x.m.kind, x.m.frm, x.m.to, (x.n3 : Int)] #[.int .i64 x.m.kind, .int .i64 x.m.frm, .int .i64 x.m.to, .int .i64 x.n3] 4 rfl rfl (Nat.le_refl _) (by unfold maxLen; omega)
    have bn : Below w3.heap.size w3 (w3.alloc (.cells #[.int .i64 x.m.kind, .int .i64 x.m.frm, .int .i64 x.m.to, .int .i64 x.n3] 3)) := (Below.refl _ _).alloc (Nat.le_refl _) _
    have S2 := S1.out.below bn
    obtain ⟨D, hD⟩ : ∃ D, D = w3.heap.size := ⟨_, rfl⟩
    rw [← hD] at o0 ⊢
    have hPD : P < D := by rw [hD]; exact S1.out.kp.lt
    have hDs : D ≤ (w3.alloc (.cells #[.int .i64 x.m.kind, .int .i64 x.m.frm, .int .i64 x.m.to, .int .i64 x.n3] 3)).heap.size := by rw [hD]; exact bn.size
    generalize w3.alloc (.cells #[.int .i64 x.m.kind, .int .i64 x.m.frm, .int .i64 x.m.to, .int .i64 x.n3] 3) = w4 at *
    have t15 : w4.cell? ⟨g, 15, none⟩ = some (.slice x.A3 x.n3 x.c3) := (S2.kb.cell 15).trans HAT.out.2.2.2.2.2.2.2
    have HS2 := Lib.hid S2
    have HO0 := Lib.hid o0
    have hwD : w.heap.size ≤ D := by have := S2.lt; have := S2.ge; omega
    clear bn hD o0 S2 S1 t0 t1 t2
    go_wp2_with fail
    go_loopw [5, 31] (fun s i wr => ∃ (k : Nat) (A : Option Addr) (nc cc : Nat), k ≤ x.n3 ∧ i = .int .i64 (k : Nat) ∧ s = .slice A nc cc ∧ OwnI wr D A nc cc ([x.m.kind, x.m.frm, x.m.to, (x.n3 : Int)] ++ (x.m.mem.take k).flatMap fun v => [v.1, v.2.1, v.2.2]) ∧ Below D w4 wr) (fun _ i _ => x.n3 - (intOf i).toNat)
    case atStart => exact ⟨0, _, 4, 4, by omega, rfl, rfl, by simpa using HO0.out, Below.refl _ _⟩
    case round =>
      obtain ⟨k, A5, n5, c5, hk, rfl, rfl, ho, bk⟩ := hrel
      have hm8 := HN8.out
      have hn5 : n5 ≤ 28 := by
        rw [ho.1, List.length_append, Ms.trip_len, List.length_take]
        simp only [List.length_cons, List.length_nil]
        omega
      by_cases hlt : k < x.n3
      · have hkl : k < x.m.mem.length := by rw [← HN3.out]; exact hlt
        obtain ⟨ad, hA, q5, q0, q1, q2⟩ := (HMB.out wr (HS2.out.gb.trans (bk.mono hwD))).2 k _ (List.getElem?_eq_getElem hkl)
        have hst := Ms.trip_snoc x.m.mem hkl
        have hk0 : (0 : Int) ≤ (k : Int) := by omega
        have hkn : (k : Int) < (x.n3 : Int) := by omega
        have HO5 := Lib.hid ho
        generalize x.m.mem[k] = d at *
        obtain ⟨a1, a2, a3⟩ := d
        simp only at q0 q1 q2 hst
        have HST := Lib.hid hst
        clear hst ho
        rw [hA]
        go_upto_region 8 with ((with_reducible refine wpList_st (cs := #[.int .i64 a1, .int .i64 a2, .int .i64 a3]) rowMb (Blk.new _ _ _) (th_sizeM _ _ _) ?_ (th_oneM _ _ _) ?_ ?_ ?_); (rfl); rotate_left; (rfl); (rfl); intro w7 kq g7 z7)
        have bq : Below wr.heap.size wr w7 := new_below g7
        have HO6 := Lib.hid (HO5.out.below bq (Nat.le_refl _))
        have hDr : D ≤ wr.heap.size := Nat.le_trans hDs bk.size
        have b7 := bk.trans (bq.mono hDr)
        have hD7 : D ≤ w7.heap.size := Nat.le_trans hDr bq.size
        have d0 := kq.cell 0
        have d1 := kq.cell 1
        have d2 := kq.cell 2
        clear g7 z7 bq bk HO5 q5 q0 q1 q2
        go_wp2_with (at_builtin; refine stop ?_)
        unfold Stop
        have ba := b7.alloc hD7 (.cells #[.int .i64 a1, .int .i64 a2, .int .i64 a3] 3)
        refine wpList_appI rfl (.tmp 35) (.tmp 42) rfl (by rfl) (HO6.out.alloc _) (by rfl) (RdI.made w7 [a1, a2, a3] _ _ _ rfl) (by simp; omega) (Nat.le_trans hD7 (by simp)) ?_
        intro A8 c8 w8 ho8 _ _ b8
        have HO8 := Lib.hid ho8
        have b9 := ba.trans b8
        clear ho8 b8 ba b7
        go_wp2_with fail
        go_roundw
        case rel => exact ⟨k + 1, A8, _, c8, by omega, by go_num, rfl, by rw [HST.out, ← List.append_assoc]; exact HO8.out, b9⟩
        case measure => simp [intOf]; omega
      · obtain rfl : k = x.n3 := by omega
        have hfull : x.m.mem.take x.n3 = x.m.mem := List.take_of_length_le (by rw [← HN3.out]; omega)
        rw [hfull] at ho
        have hkd : decide ((x.n3 : Int) < (x.n3 : Int)) = false := decide_eq_false (by omega)
        have S5 := HS2.out.low bk hPD
        have hDr : D ≤ wr.heap.size := Nat.le_trans hDs bk.size
        obtain ⟨L1, hL1⟩ : ∃ L1, L1 = [x.m.kind, x.m.frm, x.m.to, (x.n3 : Int)] ++ x.m.mem.flatMap fun v : Mem => [v.1, v.2.1, v.2.2] := ⟨_, rfl⟩
        rw [← hL1] at ho
        have hHN : Ms.headN x.m = L1 ++ (if x.m.kind ≠ 5 then [x.m.seq] else []) ++ (if x.m.kind = 2 ∨ x.m.kind = 3 then [x.m.node] else []) := by rw [Ms.headN_eq, hL1, HN3.out]
        have HHN := Lib.hid hHN
        have hpa := HPA.out
        have p0 : wr.cell? ⟨P, 0, none⟩ = some (.bool (decide (x.m.kind ≠ 5))) := (S5.kp.cell 0).trans (by rw [hpa]; rfl)
        have s3 : wr.cell? ⟨g, 3, none⟩ = some (.int .i64 x.m.seq) := (S5.kb.cell 3).trans HAT.out.2.2.2.1
        obtain ⟨bq, hbq⟩ : ∃ bq, bq = decide (x.m.kind ≠ 5) := ⟨_, rfl⟩
        rw [← hbq] at p0
        have HBQ := Lib.hid hbq
        clear hbq
        have HS5 := Lib.hid S5
        have HO := Lib.hid ho
        clear hfull hL1 hHN hpa S5 ho bk hlt hk HS2 HO0 HMB t15
        go_upto_if 46 with fail
        go_cut [5] from 47 to 51 (fun s wx => ∃ (A : Option Addr) (nc cc : Nat), s = .slice A nc cc ∧ nc ≤ 29 ∧ OwnI wx D A nc cc (L1 ++ (if x.m.kind ≠ 5 then [x.m.seq] else [])) ∧ Below D wr wx)
        case first =>
          cases bq
          · have h5 := of_decide_eq_false HBQ.out.symm
            have HX5 := Lib.hid h5
            clear h5
            go_wp2_with fail
            go_meet
            exact ⟨_, _, _, rfl, by omega, by rw [if_neg HX5.out, List.append_nil]; exact HO.out, Below.refl _ _⟩
          · have h5 := of_decide_eq_true HBQ.out.symm
            have HX5 := Lib.hid h5
            clear h5
            go_wp2_with (at_builtin; refine stop ?_)
            unfold Stop
            have ba := (Below.refl D wr).alloc hDr (.cells #[.int .i64 x.m.seq] 3)
            refine wpList_appI rfl (.tmp 47) (.tmp 50) rfl (by rfl) (HO.out.alloc _) (by rfl) (RdI.made wr [x.m.seq] _ _ _ rfl) (by simp; omega) (Nat.le_trans hDr (by simp)) ?_
            intro A8 c8 w8 ho8 _ _ b8
            go_wp2_with fail
            go_meet
            exact ⟨_, _, _, rfl, by simp; omega, by rw [if_pos HX5.out]; exact ho8, ba.trans b8⟩
        case rest =>
          obtain ⟨A6, n6, c6, rfl, hn6, o6, b6⟩ := hcut
          obtain ⟨w5, rfl⟩ : ∃ w5, w5 = wc := ⟨_, rfl⟩
          have S6 := HS5.out.low b6 hPD
          have hD6 : D ≤ w5.heap.size := Nat.le_trans hDr b6.size
          have hpa := HPA.out
          have p1 : w5.cell? ⟨P, 1, none⟩ = some (.bool (decide (x.m.kind = 2 ∨ x.m.kind = 3))) := (S6.kp.cell 1).trans (by rw [hpa]; rfl)
          have s4 : w5.cell? ⟨g, 4, none⟩ = some (.int .i64 x.m.node) := (S6.kb.cell 4).trans HAT.out.2.2.2.2.1
          obtain ⟨br, hbr⟩ : ∃ br, br = decide (x.m.kind = 2 ∨ x.m.kind = 3) := ⟨_, rfl⟩
          rw [← hbr] at p1
          have HBR := Lib.hid hbr
          clear hbr
          have HS6 := Lib.hid S6
          have HO6 := Lib.hid o6
          clear hpa S6 o6 b6 p0 s3 HS5 HO
          go_upto_if 53 with fail
          go_cut [5] from 54 to 58 (fun s wx => ∃ (A : Option Addr) (nc cc : Nat), s = .slice A nc cc ∧ nc ≤ 30 ∧ OwnI wx D A nc cc (Ms.headN x.m) ∧ Below D w5 wx)
          case first =>
            cases br
            rotate_left
            · have h5 := of_decide_eq_true HBR.out.symm
              have HX5 := Lib.hid h5
              clear h5
              go_wp2_with (at_builtin; refine stop ?_)
              unfold Stop
              have ba := (Below.refl D w5).alloc hD6 (.cells #[.int .i64 x.m.node] 3)
              refine wpList_appI rfl (.tmp 54) (.tmp 57) rfl (by rfl) (HO6.out.alloc _) (by rfl) (RdI.made w5 [x.m.node] _ _ _ rfl) (by simp; omega) (Nat.le_trans hD6 (by simp)) ?_
              intro A8 c8 w8 ho8 _ _ b8
              go_wp2_with fail
              go_meet
              exact ⟨_, _, _, rfl, by simp; omega, by rw [HHN.out, if_pos HX5.out]; exact ho8, ba.trans b8⟩
            · have h5 := of_decide_eq_false HBR.out.symm
              have HX5 := Lib.hid h5
              clear h5
              go_wp2_with fail
              go_meet
              exact ⟨_, _, _, rfl, by omega, by rw [HHN.out, if_neg HX5.out, List.append_nil]; exact HO6.out, Below.refl _ _⟩
          case rest =>
            obtain ⟨A7, n7, c7, rfl, hn7, o7, b7⟩ := hcut
            obtain ⟨w6, rfl⟩ : ∃ w6, w6 = wc := ⟨_, rfl⟩
            have S7 := HS6.out.low b7 hPD
            obtain ⟨ms, hms⟩ : ∃ ms, ms = Ms.headN x.m := ⟨_, rfl⟩
            rw [← hms] at o7
            have HMS := Lib.hid hms
            have HBD2 := Lib.hid (show ∀ z ∈ ms, 0 ≤ z ∧ z ≤ 1099511627776 by rw [hms]; exact HBD.out)
            have hP6 : P < w6.heap.size := S7.kp.lt
            have hDp : g + 1 < D := by have := S7.lt; omega
            have hg6 : g + 1 < w6.heap.size := S7.ke.lt
            clear hms p1 s4 HS6 HO6 b7 HBD HHN
            go_wp2_with fail
            go_loopw [8, 61] (fun s i wq => ∃ (j : Nat) (A' : Option Addr) (nc cc : Nat), j ≤ n7 ∧ i = .int .i64 (j : Nat) ∧ s = .slice A' nc cc ∧ OwnB wq w6.heap.size A' nc cc (encs (ms.take j)) ∧ OwnI wq D A7 n7 c7 ms ∧ PutS w g P C PA wq ∧ w6.heap.size ≤ wq.heap.size) (fun _ i _ => n7 - (intOf i).toNat)
            case atStart => exact ⟨0, none, 0, 0, by omega, rfl, rfl, OwnB.nil _ _, o7, S7, Nat.le_refl _⟩
            case round =>
              obtain ⟨j, A', nc, cc, hj, rfl, rfl, ob, oI, S, hz⟩ := hrel
              by_cases hjm : j < n7
              · have hjl : j < ms.length := by rw [← oI.1]; exact hjm
                obtain ⟨ad, hA7, _, c1⟩ := oI.rd.at_ hjl
                have hxb := HBD2.out _ (List.getElem_mem hjl)
                have hes := encs_snoc ms hjl
                have HES := Lib.hid hes
                have hel := encs_len (ms.take j)
                have hnb : nc ≤ 600 := by
                  have h1 := ob.1
                  have h2 : (ms.take j).length ≤ j := List.length_take_le _ _
                  omega
                clear hes hel
                generalize ms[j] = z at *
                obtain ⟨z, rfl⟩ := Int.eq_ofNat_of_zero_le hxb.1
                rw [Int.toNat_natCast] at HES
                have hj0 : (0 : Int) ≤ (j : Int) := by omega
                have hj1 : (j : Int) < (n7 : Int) := by omega
                have HS := Lib.hid S
                have HOI := Lib.hid oI
                have HOB := Lib.hid ob
                clear S oI ob o7 S7
                subst hA7
                go_wp2_with fail
                refine (put_ok A' nc cc _ z _ _ HOB.out.rd (Nat.le_refl _) (by omega) (by omega)).mono ?_
                rintro e w7 ⟨A8, n8, c8, rfl, o8, b8⟩
                have S8 := HS.out.below b8
                have e1 : w7.cell? ⟨g + 1, 0, none⟩ = some (.int .i64 0) := S8.ke.cell 0
                have f1 := S8.ke.free 0
                have S9 := S8.err
                have e2 : World.cell? _ ⟨g + 1, 0, none⟩ = some (.int .i64 0) := S9.ke.cell 0
                have oI9 := (HOI.out.below b8 (Nat.le_refl _)).setFar (p := ⟨g + 1, 0, none⟩) (by intro hq; have h9 : D ≤ g + 1 := (HOI.out.lt _ hq).1; omega) (.int .i64 0)
                have o9 : OwnB _ w6.heap.size A8 n8 c8 (encs (ms.take (j + 1))) := ((show OwnB w7 wr.heap.size A8 n8 c8 (encs (ms.take (j + 1))) by rw [HES.out]; exact o8).mono hz).setFar (p := ⟨g + 1, 0, none⟩) (by intro hq; have h9 : wr.heap.size ≤ g + 1 := (o8.lt _ hq).1; omega) (.int .i64 0)
                have hz9 : w6.heap.size ≤ (w7.setCell ⟨g + 1, 0, none⟩ (.int .i64 0)).heap.size := by have := b8.size; simp [World.setCell]; omega
                have H9 := Lib.hid (And.intro o9 (And.intro oI9 (And.intro S9 hz9)))
                clear S8 S9 oI9 o9 hz9 o8 b8 HS HOI HOB
                go_wp2_with fail
                refine (mmust_ok _ _).mono ?_
                rintro e wz ⟨rfl, rfl⟩
                go_wp2_with fail
                go_roundw
                case rel => exact ⟨j + 1, A8, n8, c8, by omega, by go_num, rfl, H9.out⟩
                case measure => simp [intOf]; omega
              · have hfull : ms.take j = ms := List.take_of_length_le (by rw [← oI.1]; omega)
                rw [hfull, HMS.out] at ob
                have hnb : nc ≤ 180 := by
                  have h1 := ob.1
                  have h2 := encs_len (Ms.headN x.m)
                  have h3 := HHL.out
                  omega
                have hkd : decide ((j : Int) < (n7 : Int)) = false := decide_eq_false (by omega)
                obtain ⟨w7, rfl⟩ : ∃ w7, w7 = wr := ⟨_, rfl⟩
                have hpa := HPA.out
                have p2 : w7.cell? ⟨P, 2, none⟩ = some (.bool (decide (x.m.kind = 4))) := (S.kp.cell 2).trans (by rw [hpa]; rfl)
                have p3 : w7.cell? ⟨P, 3, none⟩ = some (.bool (decide (x.m.kind = 5))) := (S.kp.cell 3).trans (by rw [hpa]; rfl)
                have s14 : w7.cell? ⟨g, 14, none⟩ = some (.slice x.A2 x.n2 x.c2) := (S.kb.cell 14).trans HAT.out.2.2.2.2.2.2.1
                have hasks := ((Ms.right_iff x.m).1 HRR.out).2.2.2
                clear hpa oI o7 S7 hfull
                by_cases h4 : x.m.kind = 4
                · have hrb : rightB x.m.u x.m.more = true := by have := hasks.1; unfold Ms.askSeen at this; rwa [if_pos h4] at this
                  have htm : Ms.tailM x.m = encs (putL x.m.u x.m.more) := by unfold Ms.tailM; rw [if_pos h4]
                  have hdp := HDP.out
                  simp only [hrb, if_true] at hdp
                  rw [← htm] at hdp
                  have HD2 := Lib.hid hdp
                  have HS := Lib.hid S
                  have HOB := Lib.hid ob
                  have kb := S.kb
                  have hd4 : decide (x.m.kind = 4) = true := decide_eq_true h4
                  rw [hd4] at p2
                  clear hrb htm hdp S ob hasks
                  go_wp2_with ((with_reducible refine wpList_ld rowMg kb SZ.out ?_ ?_); rotate_left; (rfl))
                  refine (HSN.out _).mono ?_
                  rintro e w8 ⟨rfl, b8⟩
                  have S8 := HS.out.below b8
                  have ob8 := HOB.out.below b8 (Nat.le_refl _)
                  have HS8 := Lib.hid S8
                  go_wp2_with fail
                  refine (HD2.out w8 S8.gb).mono ?_
                  rintro e wg ⟨At, nt, ct, rfl, ot, bt⟩
                  have S9 := S8.below bt
                  have ob9 := ob8.below bt (Nat.le_refl _)
                  have e0 : wg.cell? ⟨g + 1, 0, none⟩ = some (.int .i64 0) := S9.ke.cell 0
                  have f0 := S9.ke.free 0
                  have S9 := S9.err
                  have hg8 : g + 1 < w8.heap.size := S8.ke.lt
                  have ob9 := ob9.setFar (p := ⟨g + 1, 0, none⟩) (by intro hq; have h9 : w6.heap.size ≤ g + 1 := (ob9.lt _ hq).1; omega) (.int .i64 0)
                  have ot9 := ot.setFar (p := ⟨g + 1, 0, none⟩) (by intro hq; have h9 : w8.heap.size ≤ g + 1 := (ot.lt _ hq).1; omega) (.int .i64 0)
                  have hb9 : w6.heap.size ≤ (wg.setCell ⟨g + 1, 0, none⟩ (.int .i64 0)).heap.size := by have := b8.size; have := bt.size; simp [World.setCell]; omega
                  obtain ⟨w9, hw9⟩ : ∃ w9, w9 = wg.setCell ⟨g + 1, 0, none⟩ (.int .i64 0) := ⟨_, rfl⟩
                  rw [← hw9] at S9 ob9 ot9 hb9
                  clear S8 ob8 b8 bt ot kb HS HOB
                  have HW9 := Lib.hid hw9
                  go_upto_region 26 with fail
                  rw [← HW9.out]
                  clear hw9
                  have SZ9 := S9.gb.size
                  have e1 : w9.cell? ⟨g + 1, 0, none⟩ = some (.int .i64 0) := S9.ke.cell 0
                  have HS9 := Lib.hid S9
                  have HOb := Lib.hid ob9
                  have HOt := Lib.hid ot9
                  have hnb9 : nc ≤ 180 := hnb
                  have htl : nt ≤ 10000000 := by rw [ot9.1]; exact HTN.out
                  clear S9 ob9 ot9
                  go_wp2_with fail
                  refine (mmust_ok _ _).mono ?_
                  rintro e wz ⟨rfl, rfl⟩
                  go_wp2_with (at_builtin; refine stop ?_)
                  unfold Stop
                  refine wpList_appB rfl (.tmp 98) (.tmp 99) rfl (by rfl) HOb.out (by rfl) HOt.out.rd (by omega) hb9 ?_
                  intro Ac cc' wa oa _ _ ba
                  have Sa := HS9.out.low (ba.mono (show P + 1 ≤ _ by have := hP6; omega)) (Nat.lt_succ_self P)
                  have hbody : encs (Ms.headN x.m) ++ Ms.tailM x.m = Ms.bodyM x.m := rfl
                  rw [hbody] at oa
                  have HSa := Lib.hid Sa
                  have hla : nc + nt = (Ms.bodyM x.m).length := oa.1
                  rw [hla] at oa ⊢
                  have HOa := Lib.hid oa
                  clear Sa oa ba hla
                  by_cases hlong : (Ms.bodyM x.m).length ≤ 4096
                  · have hp : Ms.putM x.m = (Frame.frm (Ms.bodyM x.m), 0) := by unfold Ms.putM; rw [if_pos HRR.out, if_pos (by omega)]
                    have HP := Lib.hid hp
                    clear hp
                    go_wp2_with fail
                    refine (Frame.put_ok _ _ _ (Ms.bodyM x.m) wa.heap.size wa HOa.out.rd (Nat.le_refl _) hlong).mono ?_
                    rintro e wf ⟨Af, nf, cf, rfl, of, bf⟩
                    have Sf := HSa.out.below bf
                    have e2 : wf.cell? ⟨g + 1, 0, none⟩ = some (.int .i64 0) := Sf.ke.cell 0
                    have f2 := Sf.ke.free 0
                    have Se := Sf.err
                    have e3 : World.cell? _ ⟨g + 1, 0, none⟩ = some (.int .i64 0) := Se.ke.cell 0
                    have HSe := Lib.hid (And.intro Se of)
                    have hga : g + 1 < wa.heap.size := HSa.out.ke.lt
                    clear Sf Se of bf
                    go_wp2_with fail
                    refine leaves_cons (f := 31) (args := #[.pointer (some ⟨g + 1, 0, none⟩)]) (by simp) (by simp [go_sem]) ?_
                    refine (mcaught_none _ _).mono ?_
                    rintro e u' w'' ⟨rfl, rfl, rfl⟩
                    refine ⟨.tuple #[.slice Af nf cf, .int .i64 0], by simp [results, Try.results11, go_sem, e3], Af, nf, cf, by rw [HP.out]; rfl, ?_, HSe.out.1.gb⟩
                    rw [HP.out]
                    exact (HSe.out.2.setFar (p := ⟨g + 1, 0, none⟩) (by
                      intro hq
                      have h9 : wa.heap.size ≤ g + 1 := (HSe.out.2.lt _ hq).1
                      omega) _).mono (by have := HSa.out.gb.size; omega)
                  · have hp : Ms.putM x.m = ([], 6) := by unfold Ms.putM; rw [if_pos HRR.out, if_neg (by omega)]
                    have HP := Lib.hid hp
                    clear hp
                    go_wp2_with fail
                    refine (Frame.put_long _ _ _ wa (by omega)).mono ?_
                    rintro e wf ⟨rfl, rfl⟩
                    have e2 : wa.cell? ⟨g + 1, 0, none⟩ = some (.int .i64 0) := HSa.out.ke.cell 0
                    have f2 := HSa.out.ke.free 0
                    have k3 := HSa.out.ke.set_ 0 (.int .i64 6)
                    have e3 : World.cell? _ ⟨g + 1, 0, none⟩ = some (.int .i64 6) := k3.cell 0
                    have g3 := HSa.out.gb.setCell (p := ⟨g + 1, 0, none⟩) (by show w.heap.size ≤ g + 1; omega) (.int .i64 6)
                    have HG3 := Lib.hid g3
                    clear k3 g3
                    go_wp2_with fail
                    refine leaves_cons (f := 31) (args := #[.pointer (some ⟨g + 1, 0, none⟩)]) (by simp) (by simp [go_sem]) ?_
                    refine (mcaught_none _ _).mono ?_
                    rintro e u' w'' ⟨rfl, rfl, rfl⟩
                    refine ⟨.tuple #[.slice none 0 0, .int .i64 6], by simp [results, Try.results11, go_sem, e3], none, 0, 0, by rw [HP.out]; rfl, by rw [HP.out]; exact OwnB.nil _ _, HG3.out⟩
                have hd4 : decide (x.m.kind = 4) = false := decide_eq_false h4
                rw [hd4] at p2
                by_cases h5 : x.m.kind = 5
                · have hrb : putAllE x.xs = (Ms.tailM x.m, 0) := by
                    have h := hasks.2
                    unfold Ms.askEv at h
                    rw [if_pos h5, HIN.out.ok.es, Bool.and_eq_true] at h
                    have h2 := of_decide_eq_true h.2
                    rw [List.length_map] at h2
                    unfold putAllE Ms.tailM
                    rw [if_neg (by omega), if_pos, if_neg h4, if_pos h5, HIN.out.ok.es, List.length_map, List.flatMap_map]
                    rw [List.all_eq_true]
                    intro y hy
                    exact List.all_eq_true.1 h.1 _ (List.mem_map.2 ⟨y, hy, rfl⟩)
                  have hdp := HEP.out
                  simp only [hrb] at hdp
                  have HD2 := Lib.hid hdp
                  have HS := Lib.hid S
                  have HOB := Lib.hid ob
                  have hg8 : g + 1 < w7.heap.size := S.ke.lt
                  have hd5 : decide (x.m.kind = 5) = true := decide_eq_true h5
                  rw [hd5] at p3
                  clear hrb hdp S ob hasks
                  go_wp2_with fail
                  refine (HD2.out w7 HS.out.gb).mono ?_
                  rintro e wg ⟨At, nt, ct, rfl, ot, bt⟩
                  have S9 := HS.out.below bt
                  have ob9 := HOB.out.below bt (Nat.le_refl _)
                  have e0 : wg.cell? ⟨g + 1, 0, none⟩ = some (.int .i64 0) := S9.ke.cell 0
                  have f0 := S9.ke.free 0
                  have S9 := S9.err
                  have ob9 := ob9.setFar (p := ⟨g + 1, 0, none⟩) (by intro hq; have h9 : w6.heap.size ≤ g + 1 := (ob9.lt _ hq).1; omega) (.int .i64 0)
                  have ot9 := ot.setFar (p := ⟨g + 1, 0, none⟩) (by intro hq; have h9 : w7.heap.size ≤ g + 1 := (ot.lt _ hq).1; omega) (.int .i64 0)
                  have hb9 : w6.heap.size ≤ (wg.setCell ⟨g + 1, 0, none⟩ (.int .i64 0)).heap.size := by have := bt.size; simp [World.setCell]; omega
                  obtain ⟨w9, hw9⟩ : ∃ w9, w9 = wg.setCell ⟨g + 1, 0, none⟩ (.int .i64 0) := ⟨_, rfl⟩
                  rw [← hw9] at S9 ob9 ot9 hb9
                  clear bt ot HS HOB
                  have HW9 := Lib.hid hw9
                  go_upto_region 26 with fail
                  rw [← HW9.out]
                  clear hw9
                  have SZ9 := S9.gb.size
                  have e1 : w9.cell? ⟨g + 1, 0, none⟩ = some (.int .i64 0) := S9.ke.cell 0
                  have HS9 := Lib.hid S9
                  have HOb := Lib.hid ob9
                  have HOt := Lib.hid ot9
                  have hnb9 : nc ≤ 180 := hnb
                  have htl : nt ≤ 10000000 := by rw [ot9.1]; exact HTN.out
                  clear S9 ob9 ot9
                  go_wp2_with fail
                  refine (mmust_ok _ _).mono ?_
                  rintro e wz ⟨rfl, rfl⟩
                  go_wp2_with (at_builtin; refine stop ?_)
                  unfold Stop
                  refine wpList_appB rfl (.tmp 98) (.tmp 99) rfl (by rfl) HOb.out (by rfl) HOt.out.rd (by omega) hb9 ?_
                  intro Ac cc' wa oa _ _ ba
                  have Sa := HS9.out.low (ba.mono (show P + 1 ≤ _ by have := hP6; omega)) (Nat.lt_succ_self P)
                  have hbody : encs (Ms.headN x.m) ++ Ms.tailM x.m = Ms.bodyM x.m := rfl
                  rw [hbody] at oa
                  have HSa := Lib.hid Sa
                  have hla : nc + nt = (Ms.bodyM x.m).length := oa.1
                  rw [hla] at oa ⊢
                  have HOa := Lib.hid oa
                  clear Sa oa ba hla
                  by_cases hlong : (Ms.bodyM x.m).length ≤ 4096
                  · have hp : Ms.putM x.m = (Frame.frm (Ms.bodyM x.m), 0) := by unfold Ms.putM; rw [if_pos HRR.out, if_pos (by omega)]
                    have HP := Lib.hid hp
                    clear hp
                    go_wp2_with fail
                    refine (Frame.put_ok _ _ _ (Ms.bodyM x.m) wa.heap.size wa HOa.out.rd (Nat.le_refl _) hlong).mono ?_
                    rintro e wf ⟨Af, nf, cf, rfl, of, bf⟩
                    have Sf := HSa.out.below bf
                    have e2 : wf.cell? ⟨g + 1, 0, none⟩ = some (.int .i64 0) := Sf.ke.cell 0
                    have f2 := Sf.ke.free 0
                    have Se := Sf.err
                    have e3 : World.cell? _ ⟨g + 1, 0, none⟩ = some (.int .i64 0) := Se.ke.cell 0
                    have HSe := Lib.hid (And.intro Se of)
                    have hga : g + 1 < wa.heap.size := HSa.out.ke.lt
                    clear Sf Se of bf
                    go_wp2_with fail
                    refine leaves_cons (f := 31) (args := #[.pointer (some ⟨g + 1, 0, none⟩)]) (by simp) (by simp [go_sem]) ?_
                    refine (mcaught_none _ _).mono ?_
                    rintro e u' w'' ⟨rfl, rfl, rfl⟩
                    refine ⟨.tuple #[.slice Af nf cf, .int .i64 0], by simp [results, Try.results11, go_sem, e3], Af, nf, cf, by rw [HP.out]; rfl, ?_, HSe.out.1.gb⟩
                    rw [HP.out]
                    exact (HSe.out.2.setFar (p := ⟨g + 1, 0, none⟩) (by
                      intro hq
                      have h9 : wa.heap.size ≤ g + 1 := (HSe.out.2.lt _ hq).1
                      omega) _).mono (by have := HSa.out.gb.size; omega)
                  · have hp : Ms.putM x.m = ([], 6) := by unfold Ms.putM; rw [if_pos HRR.out, if_neg (by omega)]
                    have HP := Lib.hid hp
                    clear hp
                    go_wp2_with fail
                    refine (Frame.put_long _ _ _ wa (by omega)).mono ?_
                    rintro e wf ⟨rfl, rfl⟩
                    have e2 : wa.cell? ⟨g + 1, 0, none⟩ = some (.int .i64 0) := HSa.out.ke.cell 0
                    have f2 := HSa.out.ke.free 0
                    have k3 := HSa.out.ke.set_ 0 (.int .i64 6)
                    have e3 : World.cell? _ ⟨g + 1, 0, none⟩ = some (.int .i64 6) := k3.cell 0
                    have g3 := HSa.out.gb.setCell (p := ⟨g + 1, 0, none⟩) (by show w.heap.size ≤ g + 1; omega) (.int .i64 6)
                    have HG3 := Lib.hid g3
                    clear k3 g3
                    go_wp2_with fail
                    refine leaves_cons (f := 31) (args := #[.pointer (some ⟨g + 1, 0, none⟩)]) (by simp) (by simp [go_sem]) ?_
                    refine (mcaught_none _ _).mono ?_
                    rintro e u' w'' ⟨rfl, rfl, rfl⟩
                    refine ⟨.tuple #[.slice none 0 0, .int .i64 6], by simp [results, Try.results11, go_sem, e3], none, 0, 0, by rw [HP.out]; rfl, by rw [HP.out]; exact OwnB.nil _ _, HG3.out⟩
                · have htm : Ms.tailM x.m = [] := by unfold Ms.tailM; rw [if_neg h4, if_neg h5]
                  have hd5 : decide (x.m.kind = 5) = false := decide_eq_false h5
                  rw [hd5] at p3
                  have S9 := S
                  have ob9 := ob
                  obtain ⟨w9, rfl⟩ : ∃ w9, w9 = w7 := ⟨_, rfl⟩
                  have ot9 : OwnB w9 w9.heap.size none 0 0 (Ms.tailM x.m) := by rw [htm]; exact OwnB.nil _ _
                  have hb9 := hz
                  obtain ⟨nt, hnt⟩ : ∃ nt, nt = 0 := ⟨_, rfl⟩
                  clear S ob hasks htm
                  go_upto_region 26 with fail
                  subst hnt
                  have SZ9 := S9.gb.size
                  have e1 : w9.cell? ⟨g + 1, 0, none⟩ = some (.int .i64 0) := S9.ke.cell 0
                  have HS9 := Lib.hid S9
                  have HOb := Lib.hid ob9
                  have HOt := Lib.hid ot9
                  have hnb9 : nc ≤ 180 := hnb
                  have htl : 0 ≤ 10000000 := by rw [ot9.1]; exact HTN.out
                  clear S9 ob9 ot9
                  go_wp2_with fail
                  refine (mmust_ok _ _).mono ?_
                  rintro e wz ⟨rfl, rfl⟩
                  go_wp2_with (at_builtin; refine stop ?_)
                  unfold Stop
                  refine wpList_appB rfl (.tmp 98) (.tmp 99) rfl (by rfl) HOb.out (by rfl) HOt.out.rd (by omega) hb9 ?_
                  intro Ac cc' wa oa _ _ ba
                  have Sa := HS9.out.low (ba.mono (show P + 1 ≤ _ by have := hP6; omega)) (Nat.lt_succ_self P)
                  have hbody : encs (Ms.headN x.m) ++ Ms.tailM x.m = Ms.bodyM x.m := rfl
                  rw [hbody] at oa
                  have HSa := Lib.hid Sa
                  have hla : nc + 0 = (Ms.bodyM x.m).length := oa.1
                  rw [hla] at oa ⊢
                  have HOa := Lib.hid oa
                  clear Sa oa ba hla
                  by_cases hlong : (Ms.bodyM x.m).length ≤ 4096
                  · have hp : Ms.putM x.m = (Frame.frm (Ms.bodyM x.m), 0) := by unfold Ms.putM; rw [if_pos HRR.out, if_pos (by omega)]
                    have HP := Lib.hid hp
                    clear hp
                    go_wp2_with fail
                    refine (Frame.put_ok _ _ _ (Ms.bodyM x.m) wa.heap.size wa HOa.out.rd (Nat.le_refl _) hlong).mono ?_
                    rintro e wf ⟨Af, nf, cf, rfl, of, bf⟩
                    have Sf := HSa.out.below bf
                    have e2 : wf.cell? ⟨g + 1, 0, none⟩ = some (.int .i64 0) := Sf.ke.cell 0
                    have f2 := Sf.ke.free 0
                    have Se := Sf.err
                    have e3 : World.cell? _ ⟨g + 1, 0, none⟩ = some (.int .i64 0) := Se.ke.cell 0
                    have HSe := Lib.hid (And.intro Se of)
                    have hga : g + 1 < wa.heap.size := HSa.out.ke.lt
                    clear Sf Se of bf
                    go_wp2_with fail
                    refine leaves_cons (f := 31) (args := #[.pointer (some ⟨g + 1, 0, none⟩)]) (by simp) (by simp [go_sem]) ?_
                    refine (mcaught_none _ _).mono ?_
                    rintro e u' w'' ⟨rfl, rfl, rfl⟩
                    refine ⟨.tuple #[.slice Af nf cf, .int .i64 0], by simp [results, Try.results11, go_sem, e3], Af, nf, cf, by rw [HP.out]; rfl, ?_, HSe.out.1.gb⟩
                    rw [HP.out]
                    exact (HSe.out.2.setFar (p := ⟨g + 1, 0, none⟩) (by
                      intro hq
                      have h9 : wa.heap.size ≤ g + 1 := (HSe.out.2.lt _ hq).1
                      omega) _).mono (by have := HSa.out.gb.size; omega)
                  · have hp : Ms.putM x.m = ([], 6) := by unfold Ms.putM; rw [if_pos HRR.out, if_neg (by omega)]
                    have HP := Lib.hid hp
                    clear hp
                    go_wp2_with fail
                    refine (Frame.put_long _ _ _ wa (by omega)).mono ?_
                    rintro e wf ⟨rfl, rfl⟩
                    have e2 : wa.cell? ⟨g + 1, 0, none⟩ = some (.int .i64 0) := HSa.out.ke.cell 0
                    have f2 := HSa.out.ke.free 0
                    have k3 := HSa.out.ke.set_ 0 (.int .i64 6)
                    have e3 : World.cell? _ ⟨g + 1, 0, none⟩ = some (.int .i64 6) := k3.cell 0
                    have g3 := HSa.out.gb.setCell (p := ⟨g + 1, 0, none⟩) (by show w.heap.size ≤ g + 1; omega) (.int .i64 6)
                    have HG3 := Lib.hid g3
                    clear k3 g3
                    go_wp2_with fail
                    refine leaves_cons (f := 31) (args := #[.pointer (some ⟨g + 1, 0, none⟩)]) (by simp) (by simp [go_sem]) ?_
                    refine (mcaught_none _ _).mono ?_
                    rintro e u' w'' ⟨rfl, rfl, rfl⟩
                    refine ⟨.tuple #[.slice none 0 0, .int .i64 6], by simp [results, Try.results11, go_sem, e3], none, 0, 0, by rw [HP.out]; rfl, by rw [HP.out]; exact OwnB.nil _ _, HG3.out⟩
end Go.Proofs.Ytcgalmnllegnbaa

/- The walk of package frame's read. -/
namespace Go.Proofs.Ytcgalmnllegnbaa
set_option linter.unusedVariables false
set_option linter.unusedSimpArgs false
set_option maxRecDepth 100000
open Go.RowKit
namespace Frame
theorem dec_nil : dec [] = .error 3 := rfl
theorem dec_form {v : UInt8} {t : List UInt8} (hv : v ≠ 1) : dec (v :: t) = .error 4 := by
  unfold dec
  simp only [if_pos hv]
theorem dec_int {t : List UInt8} {x : Nat} (h : Vint.dec t = .error x) : dec (1 :: t) = .error x := by
  unfold dec
  simp only [h]
  exact if_neg (by simp)
theorem dec_size {t r : List UInt8} {k : Nat} (h : Vint.dec t = .ok (k, r)) (hk : 4096 < k) : dec (1 :: t) = .error 6 := by
  unfold dec
  simp only [h]
  rw [if_neg (by simp), if_pos hk]
theorem dec_short {t r : List UInt8} {k : Nat} (h : Vint.dec t = .ok (k, r)) (hk : k ≤ 4096) (hr : r.length < k + 4) : dec (1 :: t) = .error 3 := by
  unfold dec
  simp only [h]
  rw [if_neg (by simp), if_neg (by omega), if_pos hr]
theorem dec_sum {t r : List UInt8} {k : Nat} (h : Vint.dec t = .ok (k, r)) (hk : k ≤ 4096) (hr : k + 4 ≤ r.length) (hs : (r.drop k).take 4 ≠ be (Crc.sum ((1 :: t).take ((1 :: t).length - r.length + k)))) : dec (1 :: t) = .error 5 := by
  unfold dec
  simp only [h]
  rw [if_neg (by simp), if_neg (by omega), if_neg (by omega), if_neg hs]
theorem dec_good {t r : List UInt8} {k : Nat} (h : Vint.dec t = .ok (k, r)) (hk : k ≤ 4096) (hr : k + 4 ≤ r.length) (hs : (r.drop k).take 4 = be (Crc.sum ((1 :: t).take ((1 :: t).length - r.length + k)))) : dec (1 :: t) = .ok (r.take k, r.drop (k + 4)) := by
  unfold dec
  simp only [h]
  rw [if_neg (by simp), if_neg (by omega), if_neg (by omega), if_pos hs]
/-- What read leaves. -/
def ReadF (w : World) (B : Nat) (bs : List UInt8) (e : Ending) (w' : World) : Prop :=
  Below w.heap.size w w' ∧ match dec bs with
    | .ok (x, _) => ∃ A' c', e = .returned (.tuple #[.slice A' x.length c', .int .i64 ((frm x).length : Nat)]) ∧ RdB w' B A' x.length x
    | .error y => e = .panicked [{ v := flt y, recovered := false }]
theorem ReadF.bad {w w' : World} {B : Nat} {bs : List UInt8} {e : Ending} {y : Nat} (h : dec bs = .error y) (he : e = .panicked [{ v := flt y, recovered := false }]) (hb : Below w.heap.size w w') : ReadF w B bs e w' := by
  unfold ReadF
  rw [h]
  exact ⟨hb, he⟩
set_option maxRecDepth 100000 in
set_option maxHeartbeats 400000 in
theorem read_any (A : Option Addr) (n c : Nat) (bs : List UInt8) (B : Nat) (w : World) (hb : RdB w B A n bs) (hB : B ≤ w.heap.size) (hl : n ≤ 140737488355000) (hc : n ≤ c) (hm : c ≤ maxLen) :
    Calls Try.prog 69 #[.slice A n c] w (ReadF w B bs) := by
  obtain rfl := hb.1
  unfold maxLen at hm
  rcases bs with _ | ⟨v, t⟩
  · go_enter Try.func69, Try.ntmps69
    go_wp2_with fail
    refine (must_no (by first | rfl | (simp; done) | (simp; omega)) _ _).mono ?_
    rintro e w1 ⟨rfl, rfl⟩
    go_wp2_with fail
    exact ⟨rfl, ReadF.bad dec_nil rfl (Below.refl _ _)⟩
  have hd0 : decide ((0 : Int) < ((v :: t).length : Int)) = true := decide_eq_true (by simp)
  obtain ⟨a, rfl, hab, hv0⟩ := hb.at_ (k := 0) (by simp)
  have hv1 : w.cell? a = some (bv v) := by simpa [go_sem] using hv0
  clear hv0
  by_cases hv : v ≠ 1
  · have hq : ((v.toNat : Int) == 1) = false := by
      rw [beq_eq_false_iff_ne]
      intro e
      exact hv (UInt8.toNat_inj.1 (by show v.toNat = 1; omega))
    go_enter Try.func69, Try.ntmps69
    go_wp2_with fail
    refine (must_yes (by first | rfl | (simp; done) | (simp; omega)) _ _).mono ?_
    rintro e w1 ⟨rfl, rfl⟩
    go_wp2_with fail
    refine (must_no (by first | rfl | (simp; done) | (simp; omega)) _ _).mono ?_
    rintro e w1 ⟨rfl, rfl⟩
    go_wp2_with fail
    exact ⟨rfl, ReadF.bad (dec_form hv) rfl (Below.refl _ _)⟩
  have hv := Decidable.not_not.1 hv
  have hq : ((v.toNat : Int) == 1) = true := by rw [hv]; rfl
  have HV := Lib.hid hv
  clear hv
  obtain ⟨L, hL⟩ : ∃ L, L = (v :: t).length := ⟨_, rfl⟩
  rw [← hL] at hb hl hc hd0 ⊢
  have hLt : t.length + 1 = L := by rw [hL]; simp
  have hd1 : decide (0 < L) = true := decide_eq_true (by omega)
  clear hL
  go_enter Try.func69, Try.ntmps69
  go_wp2_with fail
  refine (must_yes (by first | rfl | (simp; done) | (simp; omega)) _ _).mono ?_
  rintro e w1 ⟨rfl, rfl⟩
  go_wp2_with fail
  refine (must_yes (by first | rfl | (simp; done) | (simp; omega)) _ _).mono ?_
  rintro e w1 ⟨rfl, rfl⟩
  have hbt := hb.drop 1
  rw [List.drop_one, List.tail_cons] at hbt
  have HBT := Lib.hid hbt
  clear hbt
  go_upto_region 3 with fail
  go_cut [4] (fun p wx => ∃ (g : Nat) (A1 : Option Addr) (c1 : Nat), p = .pointer (some ⟨g, 0, none⟩) ∧ w.heap.size ≤ g ∧ Rdr wx g A1 t.length c1 t 0 ∧ Below w.heap.size w wx)
  case first =>
    by_cases hc1 : c = 1
    · subst hc1
      obtain rfl : t = [] := List.eq_nil_of_length_eq_zero (by omega)
      obtain rfl : L = 1 := by omega
      go_wp2_with fail
      refine (new_any _ _ _ [] 0 _ (RdB.nil _ _ _) (by omega) (by omega)).mono ?_
      rintro e w1 ⟨A1, c1, g, rfl, hg, hR, hb1⟩
      go_wp2_with fail
      go_meet
      exact ⟨g, A1, c1, rfl, hg, hR, hb1⟩
    · go_wp2_with fail
      refine (new_any _ _ _ t B _ HBT.out hB (by omega)).mono ?_
      rintro e w1 ⟨A1, c1, g, rfl, hg, hR, hb1⟩
      go_wp2_with fail
      go_meet
      exact ⟨g, A1, c1, rfl, hg, hR, hb1⟩
  case rest =>
    obtain ⟨g, A1, c1, rfl, hg, hR, hb1⟩ := hcut
    go_wp2_with fail
    refine (int_any _ _ _ _ _ _ _ hR).mono ?_
    rintro e w2 ⟨rfl, hg2, A2, c2, hR2⟩
    have hb2 : Below w.heap.size w w2 := hb1.trans (only_Below hg2 hg hb1.size)
    rename_i w1
    have HR := Lib.hid hR
    clear hR hg2 hb1
    rcases hdt : Vint.dec t with x | ⟨k, r⟩
    · rw [Vint.intM_bad hdt] at hR2 ⊢
      simp only at hR2 ⊢
      have hx : x ≠ 0 := by have := Vint.dec_err hdt; omega
      have hq0 : ((x : Int) == 0) = false := by rw [beq_eq_false_iff_ne]; omega
      have HD := Lib.hid hdt
      clear hdt
      go_wp2_with fail
      refine (err_any _ _ _ _ _ _ _ hR2).mono ?_
      rintro e w3 ⟨rfl, rfl⟩
      go_wp2_with fail
      refine (err_any _ _ _ _ _ _ _ hR2).mono ?_
      rintro e w3 ⟨rfl, rfl⟩
      go_wp2_with fail
      refine (must_no (by first | rfl | (simp; done) | (simp; omega)) _ _).mono ?_
      rintro e w3 ⟨rfl, rfl⟩
      go_wp2_with fail
      refine ⟨rfl, ReadF.bad ?_ rfl hb2⟩
      rw [HV.out]
      exact dec_int HD.out
    · rw [Vint.intM_ok hdt] at hR2 ⊢
      simp only at hR2 ⊢
      have hkt := (Vint.dec_ok hdt).2
      have hrl := (Vint.dec_ok_lt hdt).1
      unfold Vint.top at hkt
      obtain ⟨q, hq9⟩ : ∃ q, q = r.length := ⟨_, rfl⟩
      rw [← hq9] at hR2 hrl
      have HQ := Lib.hid hq9
      have HD := Lib.hid hdt
      clear hdt hq9
      go_wp2_with fail
      refine (err_any _ _ _ _ _ _ _ hR2).mono ?_
      rintro e w3 ⟨rfl, rfl⟩
      go_wp2_with fail
      refine (err_any _ _ _ _ _ _ _ hR2).mono ?_
      rintro e w3 ⟨rfl, rfl⟩
      go_wp2_with fail
      refine (must_yes (by first | rfl | (simp; done) | (simp; omega)) _ _).mono ?_
      rintro e w3 ⟨rfl, rfl⟩
      by_cases hk : 4096 < k
      · have hdk : decide (k ≤ 4096) = false := decide_eq_false (by omega)
        go_wp2_with fail
        refine (must_no (by first | rfl | (simp; done) | (simp; omega)) _ _).mono ?_
        rintro e w3 ⟨rfl, rfl⟩
        go_wp2_with fail
        refine ⟨rfl, ReadF.bad ?_ rfl hb2⟩
        rw [HV.out]
        exact dec_size HD.out hk
      have hdk : decide (k ≤ 4096) = true := decide_eq_true (by omega)
      go_wp2_with fail
      refine (must_yes (by first | rfl | (simp; done) | (simp; omega)) _ _).mono ?_
      rintro e w3 ⟨rfl, rfl⟩
      go_wp2_with fail
      refine (left_any _ _ _ _ _ _ _ hR2).mono ?_
      rintro e w3 ⟨rfl, rfl⟩
      obtain ⟨H, hH⟩ : ∃ H, H + q = L := ⟨L - q, by omega⟩
      have ew : IntKind.i64.wrap ((L : Int) - (q : Int)) = (H : Int) := by rw [IntWalk.i64_in _ (by omega)]; omega
      go_wp2_with fail
      refine (left_any _ _ _ _ _ _ _ hR2).mono ?_
      rintro e w3 ⟨rfl, rfl⟩
      by_cases hs : q < k + 4
      · have hdk : decide ((k : Int) + 4 ≤ (q : Int)) = false := decide_eq_false (by omega)
        go_wp2_with fail
        refine (must_no (by first | rfl | (simp; done) | (simp; omega)) _ _).mono ?_
        rintro e w3 ⟨rfl, rfl⟩
        go_wp2_with fail
        refine ⟨rfl, ReadF.bad ?_ rfl hb2⟩
        rw [HV.out]
        exact dec_short HD.out (by omega) (by rw [← HQ.out]; omega)
      obtain ⟨E, hE⟩ : ∃ E, H + k = E := ⟨_, rfl⟩
      have eHk : (H : Int) + (k : Int) = (E : Int) := by omega
      have ew4 : IntKind.i64.wrap ((E : Int) + 4) = ((E + 4 : Nat) : Int) := by rw [IntWalk.i64_in _ (by omega)]; rfl
      have hcE : E + 4 ≤ c := by omega
      have hdk2 : decide ((k : Int) + 4 ≤ (q : Int)) = true := decide_eq_true (by omega)
      go_wp2_with fail
      refine (must_yes (by first | rfl | (simp; done) | (simp; omega)) _ _).mono ?_
      rintro e w3 ⟨rfl, rfl⟩
      have hEL : E + 4 ≤ L := by omega
      have hbw : RdB w2.drew B (some a) L (v :: t) := hb.below (hb2.mono hB).drew
      have rd52 : RdB w2.drew B (some a) E ((v :: t).take E) := hbw.take (by omega)
      have hdr : ((v :: t).drop E).take 4 = (r.drop k).take 4 := by
        have e1 := (Vint.dec_ok HD.out).1
        have l1 := congrArg List.length e1
        rw [List.length_append, ← HQ.out] at l1
        rw [← hE, ← List.drop_drop]
        congr 2
        have e2 : v :: t = (v :: Vint.enc k) ++ r := by rw [e1]; rfl
        rw [e2, show H = (v :: Vint.enc k).length by rw [List.length_cons]; omega, List.drop_left]
      have rd49 : RdB w2.drew B (some (a.add E)) 4 ((r.drop k).take 4) := by
        rw [← hdr]
        exact (hbw.drop E).take (by omega)
      have rdX : RdB w2.drew B (some (a.add H)) k (r.take k) := by
        have e1 := (Vint.dec_ok HD.out).1
        have l1 := congrArg List.length e1
        rw [List.length_append, ← HQ.out] at l1
        have e2 : (v :: t).drop H = r := by
          have e2 : v :: t = (v :: Vint.enc k) ++ r := by rw [e1]; rfl
          rw [e2, show H = (v :: Vint.enc k).length by rw [List.length_cons]; omega, List.drop_left]
        have := (hbw.drop H).take (k := k) (by omega)
        rw [e2] at this
        exact this
      have hsum : (v :: t).length - r.length + k = E := by
        rw [← HQ.out, List.length_cons, hLt]
        omega
      have HSU := Lib.hid hsum
      clear hdr hsum
      obtain ⟨X, hX⟩ : ∃ X, X = (r.drop k).take 4 := ⟨_, rfl⟩
      rw [← hX] at rd49
      obtain ⟨P, hP⟩ : ∃ P, P = (v :: t).take E := ⟨_, rfl⟩
      rw [← hP] at rd52
      have HX := Lib.hid hX
      have HP := Lib.hid hP
      clear hX hP
      have hBw : B ≤ w2.drew.heap.size := Nat.le_trans hB hb2.size
      go_upto_region 10 with fail
      obtain ⟨E4, hE4⟩ : ∃ E4, E4 = E + 4 := ⟨_, rfl⟩
      have ew5 : IntKind.i64.wrap (E4 : Int) = (E4 : Int) := IntWalk.i64_in _ (by omega)
      have eE5 : (E : Int) + 4 = (E4 : Int) := by omega
      have le5 : E4 ≤ c := by omega
      have le6 : E ≤ E4 := by omega
      have le7 : E4 - E = 4 := by omega
      have le8 : ¬ c = E := by omega
      have le9 : E ≤ c := by omega
      have leA : H ≤ E := by omega
      have leB : ¬ c = H := by omega
      have leC : E - H = k := by omega
      have HE4 := Lib.hid hE4
      clear ew4 hE4
      refine wp_region_any (by kernel_rfl) ?_
      try (change wpAny _ _ _ _ _ _ _ (World.drew _))
      refine wpAny_take (i := 0) (v := ?rv250) rfl (by kernel_rfl) (by kernel_rfl) (by kernel_rfl) (fun _ _ _ h => h) (Or.inl ⟨by rfl, ?ry250⟩) ?_
      case ry250 => ((intro w; go_simp); (try with_reducible rfl))
      simp only [Act.put, List.getElem_toArray, List.getElem_cons_zero, List.getElem_cons_succ, List.setIfInBounds_toArray, List.set_cons_succ, List.set_cons_zero]
      refine wpAny_take (i := 1) (v := ?rv253) rfl (by kernel_rfl) (by kernel_rfl) (by kernel_rfl) (fun _ _ _ h => h) (Or.inl ⟨by rfl, ?ry253⟩) ?_
      case ry253 => ((intro w; go_simp); (try with_reducible rfl))
      simp only [Act.put, List.getElem_toArray, List.getElem_cons_zero, List.getElem_cons_succ, List.setIfInBounds_toArray, List.set_cons_succ, List.set_cons_zero]
      refine wpAny_take (i := 2) (v := ?rv256) rfl (by kernel_rfl) (by kernel_rfl) (by kernel_rfl) (fun _ _ _ h => h) (Or.inl ⟨by rfl, ?ry256⟩) ?_
      case ry256 => ((intro w; go_simp); (try with_reducible rfl))
      simp only [Act.put, List.getElem_toArray, List.getElem_cons_zero, List.getElem_cons_succ, List.setIfInBounds_toArray, List.set_cons_succ, List.set_cons_zero]
      refine wpAny_take (i := 3) (v := ?rv259) rfl (by kernel_rfl) (by kernel_rfl) (by kernel_rfl) (fun _ _ _ h => h) (Or.inl ⟨by rfl, ?ry259⟩) ?_
      case ry259 => ((intro w; go_simp); (try with_reducible rfl))
      simp only [Act.put, List.getElem_toArray, List.getElem_cons_zero, List.getElem_cons_succ, List.setIfInBounds_toArray, List.set_cons_succ, List.set_cons_zero]
      refine wpAny_take (i := 4) (v := ?rv262) rfl (by kernel_rfl) (by kernel_rfl) (by kernel_rfl) (fun _ _ _ h => h) (Or.inl ⟨by rfl, ?ry262⟩) ?_
      case ry262 => ((intro w; go_simp); (try with_reducible rfl))
      simp only [Act.put, List.getElem_toArray, List.getElem_cons_zero, List.getElem_cons_succ, List.setIfInBounds_toArray, List.set_cons_succ, List.set_cons_zero]
      refine wpAny_take (i := 5) (v := ?rv265) rfl (by kernel_rfl) (by kernel_rfl) (by kernel_rfl) (fun _ _ _ h => h) (Or.inl ⟨by rfl, ?ry265⟩) ?_
      case ry265 => ((intro w; go_simp); (try with_reducible rfl))
      simp only [Act.put, List.getElem_toArray, List.getElem_cons_zero, List.getElem_cons_succ, List.setIfInBounds_toArray, List.set_cons_succ, List.set_cons_zero]
      refine wpAny_take (i := 6) (v := ?rv268) rfl (by kernel_rfl) (by kernel_rfl) (by kernel_rfl) (fun _ _ _ h => h) (Or.inl ⟨by rfl, ?ry268⟩) ?_
      case ry268 => ((intro w; go_simp); (try with_reducible rfl))
      simp only [Act.put, List.getElem_toArray, List.getElem_cons_zero, List.getElem_cons_succ, List.setIfInBounds_toArray, List.set_cons_succ, List.set_cons_zero]
      refine wpAny_take (i := 7) (v := ?rv271) rfl (by kernel_rfl) (by kernel_rfl) (by kernel_rfl) (fun _ _ _ h => h) (Or.inl ⟨by rfl, ?ry271⟩) ?_
      case ry271 => ((intro w; go_simp); (try with_reducible rfl))
      simp only [Act.put, List.getElem_toArray, List.getElem_cons_zero, List.getElem_cons_succ, List.setIfInBounds_toArray, List.set_cons_succ, List.set_cons_zero]
      refine wpAny_ready (rs := [8]) (by kernel_rfl) (by simp) ?_
      refine AllReady.cons rfl (fun K hK => ?_) AllReady.nil
      go_simp
      refine (sum_any _ _ _ _ _ _ rd52 hBw (by unfold maxLen; omega)).mono ?_
      rintro e w3 ⟨A3, n3, c3, rfl, o3, b3⟩
      have rd49b := rd49.below (b3.mono hBw)
      have rdXb := rdX.below (b3.mono hBw)
      have hb3 : Below w.heap.size w w3 := hb2.drew.trans (b3.mono hb2.size)
      obtain rfl := o3.1
      refine hK _ _ ?_
      clear hK K
      refine wpAny_ready (rs := [9]) (by kernel_rfl) (by simp) ?_
      refine AllReady.cons rfl (fun K hK => ?_) AllReady.nil
      go_simp
      refine (equal_any _ _ _ _ _ _ _ _ _ _ _ rd49b o3.rd (by omega) rfl).mono ?_
      rintro e w4 ⟨rfl, m4, rfl⟩
      have hb4 := below_drewN hb3 m4
      have rdXc : RdB (w3.drewN m4) B (some (a.add H)) k (r.take k) := rdXb
      generalize w3.drewN m4 = w4 at *
      refine hK _ _ ?_
      clear hK K
      refine wpAny_ready (rs := [10]) (by kernel_rfl) (by simp) ?_
      refine AllReady.cons rfl (fun K hK => ?_) AllReady.nil
      by_cases hxs : X = be (Crc.sum P)
      · have HXS := Lib.hid hxs
        clear hxs
        go_simp
        refine (must_yes (by exact decide_eq_true HXS.out) _ _).mono ?_
        rintro e w5 ⟨rfl, rfl⟩
        refine hK _ _ ?_
        clear hK K
        refine wpAny_done (by kernel_rfl) ?_ _
        go_wp2_with fail
        go_ret2
        have hdec : dec (v :: t) = .ok (r.take k, r.drop (k + 4)) := by
          rw [HV.out]
          refine dec_good HD.out (by omega) (by rw [← HQ.out]; omega) ?_
          rw [← HX.out, HXS.out, HP.out, ← HSU.out, HV.out]
        have hrk : (r.take k).length = k := by rw [List.length_take, ← HQ.out]; omega
        have hfl : (frm (r.take k)).length = E4 := by
          have := congrArg List.length (dec_ok hdec).1
          rw [List.length_append, List.length_drop, ← HQ.out, List.length_cons] at this
          have := HE4.out
          omega
        refine ⟨hb4, ?_⟩
        rw [hdec]
        refine ⟨some (a.add H), c - H, ?_, ?_⟩
        · rw [hrk, hfl]
          rfl
        · rw [hrk]
          exact rdXc
      · have HXS := Lib.hid hxs
        clear hxs
        go_simp
        refine (must_no (by exact decide_eq_false HXS.out) _ _).mono ?_
        rintro e w5 ⟨rfl, rfl⟩
        refine ⟨rfl, ReadF.bad ?_ rfl hb4⟩
        rw [HV.out]
        refine dec_sum HD.out (by omega) (by rw [← HQ.out]; omega) ?_
        rw [← HX.out]
        intro e
        apply HXS.out
        rw [e, HP.out, ← HSU.out, HV.out]
end Frame
end Go.Proofs.Ytcgalmnllegnbaa

/- A region that must not panic. -/
namespace Go.Proofs.Ytcgalmnllegnbaa
set_option linter.unusedVariables false
set_option linter.unusedSimpArgs false
set_option maxRecDepth 100000
open Go.RowKit
/-- A region that must not panic: what holds behind a panic is no matter. -/
def NoPanic (Q : Exit → Act → World → Prop) : Exit → Act → World → Prop
  | .panic _, _, _ => False
  | e, a, w => Q e a w
theorem NoPanic.ok {Q : Exit → Act → World → Prop} {a : Act} {w : World} (h : Q .normal a w) : NoPanic Q .normal a w := h
theorem wp_nopanic {P : Program} {c : Code} {Q : Exit → Act → World → Prop} {a : Act} {w : World} (h : c.wp P (NoPanic Q) a w) : c.wp P Q a w :=
  Code.wp_mono (fun e a w h => by cases e <;> first | exact h | exact False.elim h) h
end Go.Proofs.Ytcgalmnllegnbaa

/- The walk of package frame's Get. -/
namespace Go.Proofs.Ytcgalmnllegnbaa
set_option linter.unusedVariables false
set_option linter.unusedSimpArgs false
set_option maxRecDepth 100000
open Go.RowKit
namespace Frame
/-- What Get leaves. -/
def GetF (w : World) (bs : List UInt8) (e : Ending) (w' : World) : Prop :=
  Below w.heap.size w w' ∧ match dec bs with
    | .ok (x, r) => ∃ A1 c1 A2 c2, e = .returned (.tuple #[.slice A1 x.length c1, .slice A2 r.length c2, .int .i64 0]) ∧ OwnB w' w.heap.size A1 x.length c1 x ∧ OwnB w' w.heap.size A2 r.length c2 r ∧ ∀ g, A1.map (·.block) = some g → A2.map (·.block) ≠ some g
    | .error y => e = .returned (.tuple #[.slice none 0 0, .slice none 0 0, .int .i64 (y : Nat)])
set_option maxRecDepth 100000 in
set_option maxHeartbeats 400000 in
theorem get_any (A : Option Addr) (n c : Nat) (bs : List UInt8) (B : Nat) (w : World) (hb : RdB w B A n bs) (hB : B ≤ w.heap.size) (hl : n ≤ 140737488355000) (hc : n ≤ c) (hm : c ≤ maxLen) :
    Calls Try.prog 29 #[.slice A n c] w (GetF w bs) := by
  obtain rfl := hb.1
  have hb0 := hb.alloc hB (.cells #[.int .i64 0] 32)
  have k0 := Blk.new w 32 #[.int .i64 0]
  have hbw : Below w.heap.size w (w.alloc (.cells #[.int .i64 0] 32)) := (Below.refl _ _).alloc (Nat.le_refl _) _
  have hBw : B ≤ (w.alloc (.cells #[.int .i64 0] 32)).heap.size := by simp; omega
  rcases hd : dec bs with y | ⟨x, r⟩
  · have HD := Lib.hid hd
    clear hd
    go_enter_defers Try.func29, Try.ntmps29
    go_wp2_with fail
    refine (read_any _ _ _ bs B _ hb0 hBw hl hc hm).mono ?_
    rintro e w1 ⟨hb1, he⟩
    rw [HD.out] at he
    simp only at he
    subst he
    have k1 := k0.below hb1 k0.lt
    have hb2 := hbw.trans (hb1.mono hbw.size)
    go_wp2_with fail
    refine leaves_cons (f := 68) (args := #[.pointer (some ⟨w.heap.size, 0, none⟩)]) (by simp) (by simp [go_sem]) ?_
    refine (caught_panic _ _ _ _ _ (k1.cell 0) (k1.free 0)).mono ?_
    rintro e u' w'' ⟨rfl, rfl, rfl⟩
    have k2 := (k1.alloc (.cells #[.int .i64 (y : Nat)] 147)).set_ 0 (.int .i64 (y : Nat))
    have c2 := k2.cell 0
    have hb3 : Below w.heap.size w ((w1.alloc (.cells #[.int .i64 (y : Nat)] 147)).setCell ⟨w.heap.size, 0, none⟩ (.int .i64 (y : Nat))) := (hb2.alloc hb2.size _).setCell (Nat.le_refl _) _
    refine ⟨.tuple #[.slice none 0 0, .slice none 0 0, .int .i64 (y : Nat)], by simp [results, Try.results29, go_sem, c2], hb3, ?_⟩
    rw [HD.out]
  · have HD := Lib.hid hd
    obtain ⟨hfx, hxl⟩ := dec_ok hd
    have hfl : (frm x).length + r.length = bs.length := by rw [hfx, List.length_append]
    have hpos : 0 < (frm x).length := by rw [frm_length]; omega
    have hdr : bs.drop (frm x).length = r := by rw [hfx, List.drop_left]
    obtain ⟨a, rfl, hab, _⟩ := hb.at_ (k := 0) (by omega)
    obtain ⟨m, hmm⟩ : ∃ m, m = (frm x).length := ⟨_, rfl⟩
    rw [← hmm] at hfl hpos hdr
    have HM := Lib.hid hmm
    have HR := Lib.hid hdr
    clear hd hfx hmm hdr
    go_enter_defers Try.func29, Try.ntmps29
    go_wp2_with fail
    refine (read_any _ _ _ bs B _ hb0 hBw hl hc hm).mono ?_
    rintro e w1 ⟨hb1, he⟩
    rw [HD.out] at he
    simp only at he
    obtain ⟨A1, c1, rfl, hx1⟩ := he
    rw [← HM.out]
    have k1 := k0.below hb1 k0.lt
    have hb2 := hbw.trans (hb1.mono hbw.size)
    have hr1 := (hb0.below (hb1.mono hBw)).drop m
    rw [HR.out] at hr1
    have hrn : bs.length - m = r.length := by omega
    rw [hrn] at hr1
    have hr2 : RdB w1.drew B (if c = m then some a else some (a.add m)) r.length r := by
      split
      · rename_i h
        have : r = [] := List.eq_nil_of_length_eq_zero (by omega)
        rw [this]
        exact RdB.nil _ _ _
      · exact hr1
    have hx2 : RdB w1.drew B A1 x.length x := hx1
    obtain ⟨A2, hA2⟩ : ∃ A2, A2 = (if c = m then some a else some (a.add m)) := ⟨_, rfl⟩
    rw [← hA2] at hr2
    have hA3 := hA2.symm
    clear hA2 hr1 hx1
    have le1 : m ≤ bs.length := by omega
    have hB1 : B ≤ w1.drew.heap.size := Nat.le_trans hBw hb1.size
    go_upto_region 3 with fail
    refine wp_nopanic ?_
    go_region_with (first
      | (go_at_call_of 70 (Value.slice A1 x.length c1); refine (clone_any _ _ _ _ _ _ hx2 hB1 (by omega)).mono ?_; rintro e w3 ⟨A3, n3, c3, rfl, o3, b3⟩; have hr3 := hr2.below (b3.mono hB1); have hB3 := Nat.le_trans hB1 b3.size; have k3 := k1.drew.below b3 k1.lt; obtain rfl := o3.1)
      | (go_at_call 70; refine (clone_any _ _ _ _ _ _ hr3 hB3 (by omega)).mono ?_; rintro e w4 ⟨A4, n4, c4, rfl, o4, b4⟩; have k4 := k3.below b4 k3.lt; have f4 := k4.free 0; have q4 := k4.cell 0; have o3b := o3.below b4 (Nat.le_refl _); obtain rfl := o4.1))
    refine NoPanic.ok ?_
    go_wp2_with fail
    refine leaves_cons (f := 68) (args := #[.pointer (some ⟨w.heap.size, 0, none⟩)]) (by simp) (by simp [go_sem]) ?_
    refine (caught_none _ _).mono ?_
    rintro e u' w'' ⟨rfl, rfl, rfl⟩
    have k5 := k4.set_ 0 (.int .i64 0)
    have c5 := k5.cell 0
    have hs1 : w.heap.size < w1.heap.size := k1.lt
    have hs3 : w1.heap.size ≤ w3.heap.size := b3.size
    have ne3 : A3.map (·.block) ≠ some w.heap.size := fun e => by
      have := (o3b.lt _ e).1
      simp at this
      omega
    have ne4 : A4.map (·.block) ≠ some w.heap.size := fun e => by
      have := (o4.lt _ e).1
      omega
    have hb4 : Below w.heap.size w w4 := (hb2.drew.trans (b3.mono hb2.size)).trans (b4.mono (by have := hb2.size; omega))
    refine ⟨.tuple #[.slice A3 x.length c3, .slice A4 r.length c4, .int .i64 0], by simp [results, Try.results29, go_sem, c5], hb4.setCell (Nat.le_refl _) _, ?_⟩
    rw [HD.out]
    refine ⟨A3, c3, A4, c4, rfl, (o3b.setFar ne3 _).mono ?_, (o4.setFar ne4 _).mono ?_, fun g hg hg2 => ?_⟩
    · show w.heap.size ≤ w1.heap.size; omega
    · omega
    · have l1 := (o3.lt _ hg).2
      have l2 := (o4.lt _ hg2).1
      omega
end Frame
end Go.Proofs.Ytcgalmnllegnbaa

/- The walk of the reference's Same. -/
namespace Go.Proofs.Ytcgalmnllegnbaa
set_option linter.unusedVariables false
set_option linter.unusedSimpArgs false
set_option maxRecDepth 100000
open Go.RowKit

/-- Two lists of bytes that are the same. -/
theorem same_eq (A1 A2 : Option Addr) (n1 c1 n2 c2 : Nat) (bs : List UInt8) (B1 B2 : Nat) (w : World) (h1 : RdB w B1 A1 n1 bs) (h2 : RdB w B2 A2 n2 bs) (hl : n1 ≤ 9223372036854775807) :
    Calls Try.prog 16 #[.slice A1 n1 c1, .slice A2 n2 c2] w fun e w' => e = .returned (.bool true) ∧ ∃ m, w' = w.drewN m := by
  obtain rfl := h1.1
  obtain rfl := h2.1
  go_enter Try.func16, Try.ntmps16
  go_wp2_with fail
  go_loopw [13] (fun i wr => ∃ k m : Nat, k ≤ bs.length ∧ i = .int .i64 k ∧ wr = w.drewN m) (fun i _ => bs.length - (intOf i).toNat)
  case atStart => exact ⟨0, 0, by omega, rfl, rfl⟩
  case round =>
    obtain ⟨k, m, hk, rfl, rfl⟩ := hrel
    by_cases hlt : k < bs.length
    · obtain ⟨a1, rfl, _, hc1⟩ := h1.at_ hlt
      obtain ⟨a2, rfl, _, hc2⟩ := h2.at_ hlt
      obtain ⟨x, hx⟩ : ∃ x, x = bs[k] := ⟨_, rfl⟩
      rw [← hx] at hc1 hc2
      clear hx
      have hq : ((x.toNat : Int) != (x.toNat : Int)) = false := by simp
      go_wp2_with fail
      go_quiet (fail)
      go_wp2_with fail
      go_roundw
      case rel => exact ⟨k + 1, _, by omega, by go_num, rfl⟩
      case measure => simp [intOf]; omega
    · go_wp2_with fail
      go_ret
      exact ⟨rfl, _, rfl⟩

end Go.Proofs.Ytcgalmnllegnbaa

/- The document's example of layer 7. -/
namespace Go.Proofs.Ytcgalmnllegnbaa
set_option linter.unusedVariables false
set_option linter.unusedSimpArgs false
set_option maxRecDepth 100000
open Go.RowKit
open Dot Evt
def exE : Ev := ⟨(1, 2), 3, 1, 4, 5, Evt.p0, []⟩
def exZ : Ev := ⟨(0, 0), 0, 0, 0, 0, Evt.p0, []⟩
def exT (t : Int) : Ev := ⟨(0, 0), t, 0, 0, 0, Evt.p0, []⟩
abbrev cE : Array Value := #[.int .i64 1, .int .i64 2, .int .i64 3, .int .i64 1, .int .i64 4, .int .i64 5, .int .i64 0, .int .i64 0, .int .i64 0, .int .i64 0, .int .i64 0, .int .i64 0, .int .i64 0, .slice none 0 0]
abbrev cT (t : Int) : Array Value := #[.int .i64 0, .int .i64 0, .int .i64 t, .int .i64 0, .int .i64 0, .int .i64 0, .int .i64 0, .int .i64 0, .int .i64 0, .int .i64 0, .int .i64 0, .int .i64 0, .int .i64 0, .slice none 0 0]
theorem cE_eq : ec exE (.slice none 0 0) = cE := by kernel_rfl
theorem cT_eq (t : Int) : ec (exT t) (.slice none 0 0) = cT t := by kernel_rfl
theorem exE_put : putE exE = ([1, 2, 3, 1, 4, 5], 0) := by decide +kernel
theorem exE_right : rightE exE = true := by decide +kernel
theorem exZ_right : rightE (exT 0) = false := by decide +kernel
theorem exL : laterB (exT 2) (exT 1) = true := by decide +kernel
end Go.Proofs.Ytcgalmnllegnbaa

/- The walks of the document's Copy and Copies of events; rows of events of the call's own. -/
namespace Go.Proofs.Ytcgalmnllegnbaa
set_option linter.unusedVariables false
set_option linter.unusedSimpArgs false
set_option maxRecDepth 100000
open Go.RowKit
open Dot Evt
theorem own_emptyD {w : World} {g base : Nat} (h : Blk w g 46 #[]) (hb : base ≤ g) : OwnD w base (some ⟨g, 0, none⟩) 0 0 [] :=
  ⟨rfl, rfl, .inr ⟨g, 0, #[], rfl, hb, h, Nat.le_refl _, Nat.zero_le _, rfl, rfl⟩⟩
theorem infoEv : (Try.prog.info? 50).map (fun i => (i.zero, i.size, i.bytes)) = some (some (.agg (cT 0)), 14, 128) := by kernel_rfl
/-- events' cells -/
def ecsL (xs : List EvV) : List Value := xs.flatMap fun x => x.cs.toList
theorem ecsL_len (xs : List EvV) : (ecsL xs).length = xs.length * 14 := by
  induction xs with
  | nil => rfl
  | cons x l ih => show (x.cs.toList ++ ecsL l).length = _; rw [List.length_append, ih, Array.length_toList, x.size]; simp; omega
theorem ecsL_app (l m : List EvV) : ecsL (l ++ m) = ecsL l ++ ecsL m := by unfold ecsL; rw [List.flatMap_append]
theorem ecsL_one (l : List EvV) : ∀ u ∈ ecsL l, u.oneCell' = true := by
  intro u hu
  unfold ecsL at hu
  rw [List.mem_flatMap] at hu
  obtain ⟨d, _, hd⟩ := hu
  have := Array.all_eq_true_iff_forall_mem.1 d.one u (by simpa using hd)
  exact this
theorem ecsL_at (l : List EvV) : ∀ (i : Nat) (x : EvV), l[i]? = some x → ∀ (j : Nat) v, x.cs[j]? = some v → (ecsL l)[i * 14 + j]? = some v := by
  induction l with
  | nil => intro i d h; simp at h
  | cons y l ih =>
    intro i x h j v hv
    have e : ecsL (y :: l) = y.cs.toList ++ ecsL l := rfl
    have hj : j < 14 := by
      have := (Array.getElem?_eq_some_iff.1 hv).1
      rwa [x.size] at this
    rw [e]
    cases i with
    | zero =>
      simp at h
      subst h
      rw [Nat.zero_mul, Nat.zero_add, List.getElem?_append_left (by rw [Array.length_toList, y.size]; exact hj), Array.getElem?_toList]
      exact hv
    | succ i =>
      rw [List.getElem?_append_right (by rw [Array.length_toList, y.size]; omega), Array.length_toList, y.size, show (i + 1) * 14 + j - 14 = i * 14 + j by omega]
      exact ih i x (by simpa using h) j v hv
/-- a row of events of the call's own -/
def OwnEv (w : World) (base : Nat) (A : Option Addr) (n c : Nat) (xs : List EvV) : Prop := n = xs.length ∧ w.ownsRow base 50 14 (.slice A n c) n (ecsL xs)
section
variable {w w' : World} {base B n c : Nat} {A : Option Addr} {xs : List EvV}
theorem OwnEv.nil (w : World) (base : Nat) : OwnEv w base none 0 0 [] := ⟨rfl, World.ownsRow_nil w base _ 14⟩
theorem OwnEv.alloc (h : OwnEv w base A n c xs) (o : Obj) : OwnEv (w.alloc o) base A n c xs := ⟨h.1, h.2.alloc o⟩
theorem OwnEv.drew (h : OwnEv w base A n c xs) : OwnEv w.drew base A n c xs := h
theorem OwnEv.mono {base' : Nat} (h : OwnEv w base A n c xs) (hb : base' ≤ base) : OwnEv w base' A n c xs := ⟨h.1, ownsRow_base h.2 hb⟩
theorem OwnEv.raw (h : OwnEv w base A n c xs) : Rd w w.heap.size A (ecsL xs) := fun j u hu => by
  rcases h.2.2 with ⟨hv, h0⟩ | ⟨g, cap, cur, hv, hb, hh, hn, hm, hs, hc⟩
  · have := h.2.1; rw [h0] at this; simp at this; rw [this] at hu; simp at hu
  · injection hv with hA
    subst hA
    exact ⟨_, rfl, (h.2.lt g rfl).2, h.2.cells (g := g) rfl j u hu⟩
theorem OwnEv.lt (h : OwnEv w base A n c xs) : ∀ g, A.map (·.block) = some g → base ≤ g ∧ g < w.heap.size := fun g hg => h.2.lt g (by
  rcases A with _ | a
  · simp at hg
  · simpa [Value.ownBlock] using hg)
theorem OwnEv.below (h : OwnEv w base A n c xs) (hb : Below B w w') (hB : w.heap.size ≤ B) : OwnEv w' base A n c xs := ⟨h.1, ownsRow_keep h.2 fun k hk => hb.block k (by have := ownsRow_lt h.2 hk; omega)⟩
theorem OwnEv.row (h : OwnEv w base A n c xs) (hx : ∀ x ∈ xs, EvOk w w.heap.size x) : RowEv w w.heap.size A n xs := ⟨h.1, fun i x hi => by
  have hm := List.mem_of_getElem? hi
  have h0 : (ecsL xs)[i * 14 + 0]? = some (.int .i64 x.e.d.1) := ecsL_at xs i x hi 0 _ rfl
  obtain ⟨ad, hA, hb, _⟩ := h.raw _ _ h0
  refine ⟨hx x hm, ad, hA, hb, fun j v hv => ?_⟩
  obtain ⟨ad', hA', _, hc⟩ := h.raw _ _ (ecsL_at xs i x hi j v hv)
  obtain rfl : ad = ad' := by rw [hA] at hA'; injection hA'
  rw [add_add]
  exact hc⟩
end
/-- rows of two types never share a block -/
theorem own2_ne {w : World} {b1 b2 : Nat} {t1 t2 : TypeId} {s1 s2 : Nat} {A1 A2 : Option Addr} {n1 c1 n2 c2 : Nat} {x1 x2 : List Value} (h1 : w.ownsRow b1 t1 s1 (.slice A1 n1 c1) n1 x1) (h2 : w.ownsRow b2 t2 s2 (.slice A2 n2 c2) n2 x2) (hne : t1 ≠ t2) : A1.map (·.block) = none ∨ A1.map (·.block) ≠ A2.map (·.block) := by
  rcases h : A1.map (·.block) with _ | k
  · exact .inl h
  · refine .inr fun e => ?_
    obtain ⟨cur, hc⟩ := ownsRow_type h1 h
    obtain ⟨cur', hc'⟩ := ownsRow_type h2 (e.symm.trans h)
    rw [hc] at hc'
    injection hc' with hc'
    injection hc' with _ ht
    exact hne ht
/-- an event of the call's own: its dots too -/
def EvOwn (w : World) (base : Nat) (x : EvV) : Prop := x.e.p.length = 7 ∧ OwnD w base x.A x.m x.c x.e.l ∧ x.m ≤ 10000000000000
theorem EvOwn.ok {w : World} {base : Nat} {x : EvV} (h : EvOwn w base x) : EvOk w w.heap.size x := ⟨h.1, h.2.1.rd, h.2.2⟩
theorem wpList_appE {w : World} {ops : Array Oper} {rest : List Oper} {o : Oper} {a : Act} {Q : Exit → Act → World → Prop} (hgd : o.guard = none) (s x : Operand)
    (ho : o.op = .call { callee := .builtin .append, args := #[s, x], argTypes := #[24, 24] })
    {base : Nat} {A : Option Addr} {n c : Nat} {bs : List EvV} (hs : a.eval s = .slice A n c) (hown : OwnEv w base A n c bs)
    {B : Nat} {D : Option Addr} {m d : Nat} {news : List EvV} (hx : a.eval x = .slice D m d) (hr : Rd w B D (ecsL news)) (hm : m = news.length)
    (hbytes : n + m ≤ 1000000000000) (hbase : base ≤ w.heap.size)
    (h : ∀ A' c' w', OwnEv w' base A' (n + m) c' (bs ++ news) → w.grownBy w' (A.map (·.block)) → Moved A' (A.map (·.block)) w.heap.size → Below base w w' →
      wpList Try.prog ops Q rest (a.put o.dst (.slice A' (n + m) c')) w') : wpList Try.prog ops Q (o :: rest) a w := by
  obtain ⟨i0, hi, hz0, hz1, hz2⟩ := info_parts infoEv
  have hob : (Value.slice A n c).ownBlock = A.map (·.block) := by cases A <;> rfl
  refine wpList_app w hgd s x 24 ho base 50 i0 (.agg (cT 0)) 14 128 Try.underlying24 hi hz0 hz1 hz2 rfl (by decide) _ _ _ hs hown.2 B D m d (ecsL news) hx hr (by rw [ecsL_len, hm]) (ecsL_one _) (by unfold maxLen; omega) (by omega) hbase ?_
  intro A' c' w' h1 h2 h3
  rw [hob] at h2 h3
  exact h A' c' w' ⟨by rw [List.length_append, hown.1, hm], by rw [ecsL_app]; exact h1⟩ h2 h3 ((Below.refl _ _).grown h2 hbase (fun g hg => (hown.lt g hg).1))
theorem buildE1 (x : EvV) (w : World) : (Instr.buildSlice 24 1 #[(0, .agg x.cs)]).run Try.prog w = .ok (.slice (some ⟨w.heap.size, 0, none⟩) 1 1) (w.alloc (.cells x.cs 50)) := by
  obtain ⟨⟨⟨n, q⟩, t, k, wk, v, p, l⟩, A, m, c⟩ := x
  unfold EvV.cs ec
  simp only
  generalize p.getD 0 0 = p0, p.getD 1 0 = p1, p.getD 2 0 = p2, p.getD 3 0 = p3, p.getD 4 0 = p4, p.getD 5 0 = p5, p.getD 6 0 = p6
  kernel_rfl
set_option maxRecDepth 100000 in
theorem rcopy07_any (x : EvV) (w : World) (hx : EvOk w w.heap.size x) (hm : x.m ≤ 100000) :
    Calls Try.prog 66 #[.agg x.cs] w fun e w' => ∃ A' c', e = .returned (.agg (ec x.e (.slice A' x.m c'))) ∧ OwnD w' w.heap.size A' x.m c' x.e.l ∧ Below w.heap.size w w' := by
  obtain ⟨cs, hcs⟩ : ∃ cs, cs = x.cs := ⟨_, rfl⟩
  have HSZ := Lib.hid (show cs.size = 14 by rw [hcs]; rfl)
  have X13 := Lib.hid (show cs[13]? = some (.slice x.A x.m x.c) by rw [hcs]; rfl)
  have XS := Lib.hid (fun (A' : Option Addr) (c' : Nat) => (show cs.setIfInBounds 13 (.slice A' x.m c') = ec x.e (.slice A' x.m c') by rw [hcs]; rfl))
  rw [← hcs]
  obtain ⟨l, hl⟩ : ∃ l, l = x.e.l := ⟨_, rfl⟩
  have HRD := Lib.hid (show RdD w w.heap.size x.A x.m l by rw [hl]; exact hx.2.1)
  rw [← hl]
  have HM := Lib.hid (HRD.out.1)
  clear hx hcs hl
  go_enter Try.func66, Try.ntmps66
  go_upto_region 1 with fail
  refine nameW ?_
  intro wv hwv
  obtain ⟨b, hb⟩ : ∃ b, b = w.heap.size := ⟨_, rfl⟩
  rw [← hb]
  have kb : Blk wv b 50 cs := by rw [hwv, hb]; exact (Blk.new w _ _).alloc _
  have kz : Blk wv (b + 1) 50 (cT 0) := by
    have h := Blk.new (w.alloc (.cells cs 50)) 50 (cT 0)
    rw [show (w.alloc (.cells cs 50)).heap.size = w.heap.size + 1 by simp] at h
    rw [hwv, hb]
    exact h
  have gb : Below b w wv := by rw [hwv, hb]; exact ((Below.refl _ _).alloc (Nat.le_refl _) _).alloc (by simp) _
  have hrd : RdD wv b x.A x.m l := by
    rw [hb]
    exact HRD.out.below (by rw [← hb]; exact gb)
  have hsz := kz.lt
  have hsb := kb.lt
  have t13 : wv.cell? ⟨b, 13, none⟩ = some (.slice x.A x.m x.c) := (kb.cell 13).trans X13.out
  have HB := Lib.hid hb
  clear hwv hb HRD
  have hrd2 : Rd (wv.alloc (.cells #[] 46)) b x.A (dcs l) := (hrd.below ((Below.refl _ _).alloc (by omega) _)).rd
  have HR2 := Lib.hid hrd2
  clear hrd hrd2
  go_wp2_with (at_builtin; refine wpList_appD rfl (.tmp 3) (.tmp 5) rfl rfl (own_emptyD (base := b + 1 + 1) (Blk.new wv _ _) (by omega)) rfl (news := l) HR2.out HM.out ?hc1 ?hc2 ?_)
  case hc1 => omega
  case hc2 => simp; omega
  intro A' c' w3 o3 g3 m3 b3
  have bx : Below (b + 1 + 1) wv w3 := ((Below.refl _ _).alloc (by omega) (.cells #[] 46)).trans b3
  have kb3 := kb.below bx (by omega)
  have kz3 := kz.below bx (by omega)
  have gb3 := gb.trans (bx.mono (by omega))
  have c3 : w3.cell? ⟨b, 13, none⟩ = some (.slice x.A x.m x.c) := (kb3.cell 13).trans X13.out
  have f3 := kb3.free 13
  have kb4 := kb3.set_ 13 (.slice A' x.m c')
  rw [XS.out] at kb4
  have kz4 := kz3.far (p := ⟨b, 13, none⟩) (by simp) (.slice A' x.m c')
  have o4 := o3.setFar (p := ⟨b, 13, none⟩) (by
    intro h
    have := (o3.lt _ h).1
    simp at this
    omega) (.slice A' x.m c')
  have gb4 : Below b w (w3.setCell ⟨b, 13, none⟩ (.slice A' x.m c')) := gb3.setCell (by show b ≤ b; omega) _
  obtain ⟨ce, hce⟩ : ∃ ce, ce = ec x.e (.slice A' x.m c') := ⟨_, rfl⟩
  have HSE := Lib.hid (show ce.size = 14 by rw [hce]; rfl)
  have H1E := Lib.hid (show ce.all (·.oneCell') = true by rw [hce]; exact ec_one _ _ _ _)
  have HCE := Lib.hid hce
  have HZ0 := Lib.hid (show (cT 0).size = 14 from rfl)
  rw [← hce] at kb4
  clear hce kb3 kz3 gb3 kb kz gb g3 m3 b3 bx
  have hs3 : b < w3.heap.size := by have := kb4.lt; simpa [World.setCell] using this
  go_upto_region 2 with fail
  refine nameW ?_
  intro w4 hw4
  rw [← hw4] at kb4 kz4 o4 gb4
  clear hw4 c3 f3 o3 hs3
  go_wp2_with first
    | ((with_reducible refine wpList_ld rowE kb4 HSE.out ?_ ?_); rotate_left; (rfl))
    | ((with_reducible refine wpList_st rowE kz4 HSE.out HZ0.out H1E.out ?_ ?_ ?_); rotate_left; (rfl); (rfl); intro w5 k5 g5 z5)
  have o5 := o4.grown g5 (.inr (own_ne o4.2 kz4 (by decide)))
  exact bodyPost_ret (v := .agg ce) (results_blk rfl rowE k5 HSE.out rfl) rfl ⟨A', c', by rw [HCE.out], o5.mono (by have := HB.out; omega), by rw [← HB.out]; exact gb4.grown g5 (by have := gb4.size; have := HB.out; omega) (fun q hq => by injection hq; omega)⟩
/-- copies of events: all is of the call's own -/
def CopiesEnd (w : World) (n : Nat) (xs : List EvV) (e : Ending) (w' : World) : Prop := ∃ A' c' ys, e = .returned (.slice A' n c') ∧ OwnEv w' w.heap.size A' n c' ys ∧ (∀ y ∈ ys, EvOwn w' w.heap.size y) ∧ ys.map (·.e) = xs.map (·.e) ∧ Below w.heap.size w w'
set_option maxRecDepth 100000 in
set_option maxHeartbeats 1000000 in
theorem rcopies07_any (A : Option Addr) (n c : Nat) (xs : List EvV) (w : World) (hn : n ≤ 100000) (hR : RowEv w w.heap.size A n xs) (hm : ∀ x ∈ xs, x.m ≤ 100000) :
    Calls Try.prog 27 #[.slice A n c] w (CopiesEnd w n xs) := by
  have HN := Lib.hid hR.1
  have HRK := Lib.hid fun (w' : World) (hb : Below w.heap.size w w') => hR.below hb
  have HNB := Lib.hid hn
  have HM := Lib.hid hm
  clear hR hn hm
  obtain ⟨B, hB⟩ : ∃ B, B = w.heap.size := ⟨_, rfl⟩
  have HB := Lib.hid hB
  rw [← hB] at HRK
  clear hB
  go_enter Try.func27, Try.ntmps27
  go_wp2_with fail
  go_loopw [3, 8] (fun s i wr => ∃ (k : Nat) (A' : Option Addr) (c' : Nat) (ys : List EvV), k ≤ n ∧ i = .int .i64 k ∧ s = .slice A' k c' ∧ OwnEv wr B A' k c' ys ∧ (∀ y ∈ ys, EvOwn wr B y) ∧ ys.map (·.e) = (xs.take k).map (·.e) ∧ Below B w wr) (fun _ i _ => n - (intOf i).toNat)
  case atStart => exact ⟨0, none, 0, [], by omega, rfl, rfl, OwnEv.nil _ _, fun y hy => by simp at hy, rfl, by rw [HB.out]; exact Below.refl _ _⟩
  case round =>
    obtain ⟨k, A', c', ys, hk, rfl, rfl, ho, hys, hmp, gb⟩ := hrel
    have HYS := Lib.hid hys
    have HMP := Lib.hid hmp
    clear hys hmp
    by_cases hlt : k < n
    · have hkl : k < xs.length := by rw [← HN.out]; exact hlt
      have hgs : B ≤ wr.heap.size := by have := gb.size; have := HB.out; omega
      obtain ⟨hok, ad, hA, hab, hcell⟩ := (HRK.out wr gb).2 k _ (List.getElem?_eq_getElem hkl)
      have hsn := take_snoc xs hkl
      have hmm := HM.out _ (List.getElem_mem hkl)
      generalize xs[k] = x at *
      subst hA
      obtain ⟨cs, hcs⟩ : ∃ cs, cs = x.cs := ⟨_, rfl⟩
      rw [← hcs] at hcell
      have HCS := Lib.hid hcs
      have HSZ := Lib.hid (show cs.size = 14 by rw [hcs]; rfl)
      have H1C := Lib.hid (show cs.all (·.oneCell') = true by rw [hcs]; exact x.one)
      have HC := Lib.hid hcell
      have HSN := Lib.hid hsn
      have HOK := Lib.hid hok
      have HMM := Lib.hid hmm
      have hk0 : (0 : Int) ≤ (k : Int) := by omega
      have hkm : (k : Int) < (n : Int) := by omega
      clear hcell hok hsn hmm hcs
      go_upto_region 4 with fail
      go_upto_region 5 with first
        | ((with_reducible refine wpList_lda rowE HC.out HSZ.out ?_ ?_); rotate_left; (rfl))
        | ((with_reducible refine wpList_st rowE (Blk.new _ _ _) HSZ.out ?_ H1C.out ?_ ?_ ?_); (rfl); rotate_left; (rfl); (rfl); intro w6 k6 g6 z6)
      have bA : Below wr.heap.size wr w6 := (((Below.refl _ _).alloc (Nat.le_refl _) _).grown g6 (by simp) (fun q hq => by injection hq with hq; omega))
      have gb6 := gb.trans (bA.mono hgs)
      have ho6 := ho.below bA (Nat.le_refl _)
      have hys6 : ∀ y ∈ ys, EvOwn w6 B y := fun y hy => by
        obtain ⟨q1, q2, q3⟩ := HYS.out y hy
        exact ⟨q1, q2.below bA (Nat.le_refl _), q3⟩
      have hok6 := HOK.out.below (bA.mono hgs)
      obtain ⟨gr, hgr2⟩ : ∃ gr, gr = wr.heap.size := ⟨_, rfl⟩
      have hgr3 : B ≤ gr := by omega
      rw [← hgr2] at k6 ⊢
      have HYS6 := Lib.hid hys6
      have hs6 : B ≤ w6.heap.size := by have := gb6.size; have := HB.out; omega
      have hcp := rcopy07_any x w6 (hok6.more hs6) HMM.out
      rw [← HCS.out] at hcp
      have HCP := Lib.hid hcp
      clear hgr2 g6 z6 bA gb ho HYS hys6 hcp hok6
      go_wp2_with first
        | ((with_reducible refine wpList_ld rowE k6 HSZ.out ?_ ?_); rotate_left; (rfl))
      refine HCP.out.mono ?_
      rintro e w7 ⟨A2, c2, rfl, o7, b7⟩
      have ho7 := ho6.below b7 (Nat.le_refl _)
      have hys7 : ∀ y ∈ ys, EvOwn w7 B y := fun y hy => by
        obtain ⟨q1, q2, q3⟩ := HYS6.out y hy
        exact ⟨q1, q2.below b7 (Nat.le_refl _), q3⟩
      have gb7 := gb6.trans (b7.mono hs6)
      have hz : EvOwn w7 B ⟨x.e, A2, x.m, c2⟩ := ⟨HOK.out.1, o7.mono hs6, HOK.out.2.2⟩
      obtain ⟨z, hzz⟩ : ∃ z : EvV, z = ⟨x.e, A2, x.m, c2⟩ := ⟨_, rfl⟩
      have hze : z.e = x.e := by rw [hzz]
      rw [← hzz] at hz
      have hcz : ec x.e (.slice A2 x.m c2) = z.cs := by rw [hzz]; rfl
      rw [hcz]
      have HZ := Lib.hid hz
      have HZE := Lib.hid hze
      have HBS := Lib.hid (fun w => buildE1 z w)
      have HYS7 := Lib.hid hys7
      have hs7 : B ≤ w7.heap.size := by have := gb7.size; have := HB.out; omega
      obtain ⟨cz, hcz2⟩ : ∃ cz, cz = z.cs := ⟨_, rfl⟩
      have HCZ := Lib.hid hcz2
      rw [← hcz2] at HBS ⊢
      clear hz hze hzz hcz hcz2 hys7 HYS6 o7 b7 ho6 gb6
      go_wp2_with first
        | ((refine wpList_bs (v := .slice (some ⟨w7.heap.size, 0, none⟩) 1 1) (w' := w7.alloc (.cells cz 50)) rfl 24 1 #[(0, .tmp 14)] rfl ?_ ?_); (simp only [List.map_toArray, List.map_cons, List.map_nil]; exact HBS.out w7))
        | (at_builtin; refine wpList_appE rfl (.tmp 12) (.tmp 15) rfl rfl (ho7.alloc _) rfl (news := [z]) (B := w7.heap.size + 1) ?hd1 rfl ?hd2 ?hd3 ?_)
      case hd1 => 
        have h := Rd.made w7 cz 50 (0, 0)
        rw [show ecsL [z] = cz.toList by rw [HCZ.out]; simp [ecsL]]
        exact h
      case hd2 => have := HNB.out; omega
      case hd3 => simp; omega
      intro A3 c3 w8 o8 g8 m8 b8
      have gb8 := gb7.trans (((Below.refl _ _).alloc hs7 (.cells cz 50)).trans b8)
      have hys8 : ∀ y ∈ ys ++ [z], EvOwn w8 B y := fun y hy => by
        have hy2 : EvOwn w7 B y := by
          rcases List.mem_append.1 hy with h | h
          · exact HYS7.out y h
          · simp at h; rw [h]; exact HZ.out
        exact ⟨hy2.1, (hy2.2.1.alloc (.cells cz 50)).grown g8 (own2_ne hy2.2.1.2 ho7.2 (by decide)), hy2.2.2⟩
      have HYS8 := Lib.hid hys8
      clear hys8 g8 m8 b8 HYS7
      go_wp2_with fail
      go_roundw
      case rel => exact ⟨k + 1, A3, c3, ys ++ [z], by omega, num_succ k (by have := HNB.out; omega), rfl, o8, HYS8.out, by rw [HSN.out, List.map_append, List.map_append, HMP.out]; simp [HZE.out], gb8⟩
      case measure => exact meas_succ k n hlt (by have := HNB.out; omega)
    · have hkn : k = n := by omega
      have hkd : decide ((k : Int) < (n : Int)) = false := decide_eq_false (by omega)
      have hmp := HMP.out
      rw [List.take_of_length_le (by rw [← HN.out]; omega)] at hmp
      have HMP2 := Lib.hid hmp
      clear hmp HMP
      subst hkn
      go_wp2_with fail
      go_ret
      exact ⟨A', c', ys, rfl, by rw [← HB.out]; exact ho, by rw [← HB.out]; exact HYS.out, HMP2.out, by rw [← HB.out]; exact gb⟩
end Go.Proofs.Ytcgalmnllegnbaa

/- The walks of msg.Size, of the document's Great and Copy of a message. -/
namespace Go.Proofs.Ytcgalmnllegnbaa
set_option linter.unusedVariables false
set_option linter.unusedSimpArgs false
set_option maxRecDepth 100000
open Go.RowKit
open Dot Evt
open Ms (Mem)
theorem msize_any (x : MgV) (w : World) (h : MgIn w x) : Calls Try.prog 13 #[.agg x.cs] w fun e w' => e = .returned (.tuple #[.int .i64 ((Ms.putM x.m).1.length : Nat), .int .i64 ((Ms.putM x.m).2 : Nat)]) ∧ Below w.heap.size w w' := by
  have HP := Lib.hid fun (w' : World) (hb : Below w.heap.size w w') => mput_any x w' (h.below hb)
  have SZ := Lib.hid x.size
  clear h
  generalize hC : x.cs = C at *
  clear hC
  obtain ⟨bs, hbs⟩ : ∃ bs, bs = (Ms.putM x.m).1 := ⟨_, rfl⟩
  obtain ⟨er, her⟩ : ∃ er, er = (Ms.putM x.m).2 := ⟨_, rfl⟩
  rw [← hbs, ← her] at HP ⊢
  clear hbs her
  go_enter Try.func13, Try.ntmps13
  go_upto_region 1 with fail
  refine nameW ?_
  intro W hW
  obtain ⟨g, hg⟩ : ∃ g, g = w.heap.size := ⟨_, rfl⟩
  rw [← hg]
  have kb : Blk W g 27 C := by rw [hW, hg]; exact Blk.new w _ _
  have gb : Below w.heap.size w W := by rw [hW]; exact (Below.refl _ _).alloc (Nat.le_refl _) _
  clear hW hg
  go_wp2_with ((with_reducible refine wpList_ld rowMg kb SZ.out ?_ ?_); rotate_left; (rfl))
  refine (HP.out W gb).mono ?_
  rintro e w1 ⟨A, n, c, rfl, o, b1⟩
  obtain rfl := o.1
  have gb := gb.trans (b1.mono gb.size)
  clear o b1
  go_wp2_with fail
  go_ret2
  exact ⟨rfl, gb⟩
theorem rgreat17_any (x : MgV) (w : World) (h : MgIn w x) : Calls Try.prog 9 #[.agg x.cs] w fun e w' => (∃ G, e = .returned (.bool G) ∧ (G = false → x.n1 ≤ 1000 ∧ x.n3 ≤ 1000 ∧ evSum x.xs ≤ 3000)) ∧ Below w.heap.size w w' := by
  have HG := Lib.hid fun (w' : World) (hb : Below w.heap.size w w') => egreat_any x.A2 x.n2 x.c2 x.xs w'.heap.size w' (by have := h.b2; omega) (h.below hb).ok.ev (Nat.le_refl _)
  have HAT := Lib.hid (mgv_at x)
  have SZ := Lib.hid x.size
  clear h
  generalize hC : x.cs = C at *
  clear hC
  by_cases h1 : 1000 < x.n1
  · have hd : decide ((1000 : Int) < (x.n1 : Int)) = true := decide_eq_true (by omega)
    go_enter Try.func9, Try.ntmps9
    go_upto_region 1 with fail
    refine nameW ?_
    intro W hW
    obtain ⟨g, hg⟩ : ∃ g, g = w.heap.size := ⟨_, rfl⟩
    rw [← hg]
    have kb : Blk W g 27 C := by rw [hW, hg]; exact Blk.new w _ _
    have gb : Below w.heap.size w W := by rw [hW]; exact (Below.refl _ _).alloc (Nat.le_refl _) _
    have t13 : W.cell? ⟨g, 13, none⟩ = some (.slice x.A1 x.n1 x.c1) := (kb.cell 13).trans HAT.out.2.2.2.2.2.1
    clear hW hg kb
    go_wp2_with fail
    go_ret
    exact ⟨⟨true, rfl, fun h => by cases h⟩, gb⟩
  have hd : decide ((1000 : Int) < (x.n1 : Int)) = false := decide_eq_false (by omega)
  by_cases h3 : 1000 < x.n3
  · have hd3 : decide ((1000 : Int) < (x.n3 : Int)) = true := decide_eq_true (by omega)
    go_enter Try.func9, Try.ntmps9
    go_upto_region 1 with fail
    refine nameW ?_
    intro W hW
    obtain ⟨g, hg⟩ : ∃ g, g = w.heap.size := ⟨_, rfl⟩
    rw [← hg]
    have kb : Blk W g 27 C := by rw [hW, hg]; exact Blk.new w _ _
    have gb : Below w.heap.size w W := by rw [hW]; exact (Below.refl _ _).alloc (Nat.le_refl _) _
    have t13 : W.cell? ⟨g, 13, none⟩ = some (.slice x.A1 x.n1 x.c1) := (kb.cell 13).trans HAT.out.2.2.2.2.2.1
    have t15 : W.cell? ⟨g, 15, none⟩ = some (.slice x.A3 x.n3 x.c3) := (kb.cell 15).trans HAT.out.2.2.2.2.2.2.2
    clear hW hg kb
    go_wp2_with fail
    go_ret
    exact ⟨⟨true, rfl, fun h => by cases h⟩, gb⟩
  have hd3 : decide ((1000 : Int) < (x.n3 : Int)) = false := decide_eq_false (by omega)
  go_enter Try.func9, Try.ntmps9
  go_upto_region 1 with fail
  refine nameW ?_
  intro W hW
  obtain ⟨g, hg⟩ : ∃ g, g = w.heap.size := ⟨_, rfl⟩
  rw [← hg]
  have kb : Blk W g 27 C := by rw [hW, hg]; exact Blk.new w _ _
  have gb : Below w.heap.size w W := by rw [hW]; exact (Below.refl _ _).alloc (Nat.le_refl _) _
  have t13 : W.cell? ⟨g, 13, none⟩ = some (.slice x.A1 x.n1 x.c1) := (kb.cell 13).trans HAT.out.2.2.2.2.2.1
  have t14 : W.cell? ⟨g, 14, none⟩ = some (.slice x.A2 x.n2 x.c2) := (kb.cell 14).trans HAT.out.2.2.2.2.2.2.1
  have t15 : W.cell? ⟨g, 15, none⟩ = some (.slice x.A3 x.n3 x.c3) := (kb.cell 15).trans HAT.out.2.2.2.2.2.2.2
  have H := Lib.hid (HG.out W gb)
  clear hW hg kb HG
  go_wp2_with fail
  refine H.out.mono ?_
  rintro e w1 ⟨⟨G, rfl, hG⟩, b1⟩
  have gb := gb.trans (b1.mono gb.size)
  have HGG := Lib.hid hG
  clear hG b1
  have hfin : ∀ b : Bool, b = G → ∃ G', (Ending.returned (.bool b) : Ending) = .returned (.bool G') ∧ (G' = false → x.n1 ≤ 1000 ∧ x.n3 ≤ 1000 ∧ evSum x.xs ≤ 3000) := fun b e => ⟨b, rfl, fun h => ⟨by omega, by omega, HGG.out (by rw [← e]; exact h)⟩⟩
  have HF := Lib.hid hfin
  clear hfin
  cases G
  all_goals (
    go_wp2_with fail
    go_ret
    exact ⟨HF.out _ rfl, gb⟩)
theorem own_emptyMb {w : World} {g base : Nat} (h : Blk w g 62 #[]) (hb : base ≤ g) : OwnMb 62 w base (some ⟨g, 0, none⟩) 0 0 [] :=
  ⟨rfl, rfl, .inr ⟨g, 0, #[], rfl, hb, h, Nat.le_refl _, Nat.zero_le _, rfl, rfl⟩⟩
theorem OwnEv.far {w : World} {base n c : Nat} {A : Option Addr} {xs : List EvV} (h : OwnEv w base A n c xs) {p : Addr} (hp : p.block < base) (u : Value) : OwnEv (w.setCell p u) base A n c xs :=
  ⟨h.1, ownsRow_keep h.2 fun k hk => Below.heap_setCell w p u k (fun e => by
    have := (h.lt k (by cases A with
      | none => cases hk
      | some a => exact hk)).1
    omega)⟩
theorem EvOwn.far {w : World} {base : Nat} {y : EvV} (h : EvOwn w base y) {p : Addr} (hp : p.block < base) (u : Value) : EvOwn (w.setCell p u) base y :=
  ⟨h.1, h.2.1.setFar (fun e => by have := (h.2.1.lt _ e).1; omega) u, h.2.2⟩
theorem OwnEv.kept {w w' : World} {base n c q : Nat} {A : Option Addr} {xs : List EvV} (h : OwnEv w base A n c xs) (hg : w.grownBy w' (some q)) (hq : q < base) : OwnEv w' base A n c xs :=
  ⟨h.1, ownsRow_keep h.2 fun k hk => hg.block k (ownsRow_lt h.2 hk) (fun e => by
    injection e with e
    have := (h.lt k (by cases A with
      | none => cases hk
      | some a => exact hk)).1
    omega)⟩
theorem EvOwn.kept {w w' : World} {base q : Nat} {y : EvV} (h : EvOwn w base y) (hg : w.grownBy w' (some q)) (hq : q < base) : EvOwn w' base y :=
  ⟨h.1, h.2.1.grown hg (.inr (fun e => by have := (h.2.1.lt _ e).1; omega)), h.2.2⟩
theorem copy_cells (x : MgV) (A1 A2 A3 : Option Addr) (c1 c2 c3 : Nat) (ys : List EvV) : ((x.cs.setIfInBounds 13 (.slice A1 x.n1 c1)).setIfInBounds 14 (.slice A2 x.n2 c2)).setIfInBounds 15 (.slice A3 x.n3 c3) = (⟨x.m, A1, x.n1, c1, ys, A2, x.n2, c2, A3, x.n3, c3⟩ : MgV).cs := rfl
abbrev ZM : Array Value := #[.int .i64 0, .int .i64 0, .int .i64 0, .int .i64 0, .int .i64 0, .int .i64 0, .int .i64 0, .int .i64 0, .int .i64 0, .int .i64 0, .int .i64 0, .int .i64 0, .int .i64 0, .slice none 0 0, .slice none 0 0, .slice none 0 0]
theorem zm_size : ZM.size = 16 := rfl
set_option maxHeartbeats 1000000 in
theorem rcopy17_any (x : MgV) (w : World) (h : MgIn w x) (b1 : x.n1 ≤ 100000) (b2 : x.n2 ≤ 100000) (b3 : x.n3 ≤ 100000) (hm : ∀ y ∈ x.xs, y.m ≤ 100000) :
    Calls Try.prog 10 #[.agg x.cs] w fun e w' => ∃ y : MgV, e = .returned (.agg y.cs) ∧ y.m = x.m ∧ MgIn w' y ∧ y.n1 = x.n1 ∧ y.n2 = x.n2 ∧ y.n3 = x.n3 ∧ Below w.heap.size w w' := by
  have HIN := Lib.hid h
  have HAT := Lib.hid (mgv_at x)
  have SZ := Lib.hid x.size
  have HCC := Lib.hid (copy_cells x)
  have HCP := Lib.hid fun (w' : World) (hb : Below w.heap.size w w') => rcopies07_any x.A2 x.n2 x.c2 x.xs w' b2 (h.below hb).ok.ev hm
  have HM1 := Lib.hid h.ok.more.1
  have HM3 := Lib.hid h.ok.mem.1
  clear h hm
  generalize hC : x.cs = C at *
  clear hC
  go_enter Try.func10, Try.ntmps10
  go_upto_region 1 with fail
  refine nameW ?_
  intro W hW
  obtain ⟨g, hg⟩ : ∃ g, g = w.heap.size := ⟨_, rfl⟩
  rw [← hg]
  have kb : Blk W g 27 C := by rw [hW, hg]; exact (Blk.new w _ _).alloc _
  have kz : Blk W (g + 1) 27 ZM := by
    have h := Blk.new (w.alloc (.cells C 27)) 27 ZM
    rw [hW, hg]
    simpa using h
  have gb : Below w.heap.size w W := by rw [hW]; exact ((Below.refl _ _).alloc (Nat.le_refl _) _).alloc (by simp) _
  have hge : w.heap.size ≤ g := by omega
  clear hW hg
  have hkz := kz.lt
  have hkb := kb.lt
  have t13 : W.cell? ⟨g, 13, none⟩ = some (.slice x.A1 x.n1 x.c1) := (kb.cell 13).trans HAT.out.2.2.2.2.2.1
  have hrd := ((HIN.out.below gb).ok.more.below ((Below.refl _ _).alloc (Nat.le_refl _) (.cells #[] 46))).rd
  have HR1 := Lib.hid hrd
  clear hrd
  go_wp2_with (at_builtin; refine stop ?_)
  unfold Stop
  refine wpList_appD rfl (.tmp 3) (.tmp 5) rfl rfl (own_emptyD (base := g + 1 + 1) (Blk.new W _ _) (by omega)) rfl (news := x.m.more) HR1.out HM1.out ?hc1 ?hc2 ?_
  case hc1 => omega
  case hc2 => simp; omega
  intro A1 c1 w3 o3 _ _ b3'
  have bx : Below (g + 1 + 1) W w3 := ((Below.refl _ _).alloc (by omega) (.cells #[] 46)).trans b3'
  have kb3 := kb.below bx (by omega)
  have kz3 := kz.below bx (by omega)
  have gb3 := gb.trans (bx.mono (by omega))
  have c13 : w3.cell? ⟨g, 13, none⟩ = some (.slice x.A1 x.n1 x.c1) := (kb3.cell 13).trans HAT.out.2.2.2.2.2.1
  have f13 := kb3.free 13
  have kb4 := kb3.set_ 13 (.slice A1 x.n1 c1)
  have kz4 := kz3.far (p := ⟨g, 13, none⟩) (by simp) (.slice A1 x.n1 c1)
  have o4 := o3.setFar (p := ⟨g, 13, none⟩) (by intro h; have h9 : g + 1 + 1 ≤ g := (o3.lt _ h).1; omega) (.slice A1 x.n1 c1)
  have gb4 : Below w.heap.size w (w3.setCell ⟨g, 13, none⟩ (.slice A1 x.n1 c1)) := gb3.setCell (by show w.heap.size ≤ g; omega) _
  clear kb3 kz3 gb3 kb kz gb b3' bx o3 t13
  go_upto_region 2 with fail
  refine nameW ?_
  intro w4 hw4
  rw [show 0 + x.n1 = x.n1 from Nat.zero_add _] at *
  rw [← hw4] at kb4 kz4 o4 gb4
  clear hw4 c13 f13
  have t14 : w4.cell? ⟨g, 14, none⟩ = some (.slice x.A2 x.n2 x.c2) := by rw [kb4.cell, Array.getElem?_setIfInBounds_ne (by decide)]; exact HAT.out.2.2.2.2.2.2.1
  have HO4 := Lib.hid o4
  clear o4
  go_wp2_with fail
  refine (HCP.out w4 gb4).mono ?_
  rintro e w5 ⟨A2, c2, ys, rfl, oe, hys, hmp, b5⟩
  have kb5 := kb4.below b5 kb4.lt
  have kz5 := kz4.below b5 kz4.lt
  have gb5 := gb4.trans (b5.mono gb4.size)
  have o5 := HO4.out.below b5 (Nat.le_refl _)
  have hg4 : g + 1 < w4.heap.size := kz4.lt
  have c14 : w5.cell? ⟨g, 14, none⟩ = some (.slice x.A2 x.n2 x.c2) := (b5.cell (p := ⟨g, 14, none⟩) (by show g < _; omega)).trans t14
  have f14 := kb5.free 14
  have kb6 := kb5.set_ 14 (.slice A2 x.n2 c2)
  have kz6 := kz5.far (p := ⟨g, 14, none⟩) (by simp) (.slice A2 x.n2 c2)
  have o6 := o5.setFar (p := ⟨g, 14, none⟩) (by intro h; have h9 : g + 1 + 1 ≤ g := (o5.lt _ h).1; omega) (.slice A2 x.n2 c2)
  have oe6 := oe.far (p := ⟨g, 14, none⟩) (by show g < _; omega) (.slice A2 x.n2 c2)
  have hys6 : ∀ y ∈ ys, EvOwn (w5.setCell ⟨g, 14, none⟩ (.slice A2 x.n2 c2)) w4.heap.size y := fun y hy => (hys y hy).far (by show g < _; omega) _
  have gb6 : Below w.heap.size w (w5.setCell ⟨g, 14, none⟩ (.slice A2 x.n2 c2)) := gb5.setCell (by show w.heap.size ≤ g; omega) _
  have hs6 : w4.heap.size ≤ (w5.setCell ⟨g, 14, none⟩ (.slice A2 x.n2 c2)).heap.size := by have := b5.size; simpa [World.setCell] using this
  have HMP := Lib.hid hmp
  clear kb5 kz5 gb5 o5 oe hys hmp b5 HO4 kb4 kz4 gb4 t14
  go_upto_region 3 with fail
  refine nameW ?_
  intro w6 hw6
  rw [← hw6] at kb6 kz6 o6 oe6 hys6 gb6 hs6
  clear hw6 c14 f14
  have t15 : w6.cell? ⟨g, 15, none⟩ = some (.slice x.A3 x.n3 x.c3) := by rw [kb6.cell, Array.getElem?_setIfInBounds_ne (by decide), Array.getElem?_setIfInBounds_ne (by decide)]; exact HAT.out.2.2.2.2.2.2.2
  have hrd3 := ((HIN.out.below gb6).ok.mem.below ((Below.refl _ _).alloc (Nat.le_refl _) (.cells #[] 62))).rd
  have HR3 := Lib.hid hrd3
  have hkb6 : g < w6.heap.size := by have := kz6.lt; omega
  have HO6 := Lib.hid (And.intro o6 (And.intro oe6 hys6))
  clear hrd3 o6 oe6 hys6
  go_wp2_with (at_builtin; refine stop ?_)
  unfold Stop
  refine wpList_appMb rfl (.tmp 12) (.tmp 14) rfl rfl (own_emptyMb (base := w6.heap.size) (Blk.new w6 _ _) (by omega)) rfl (news := x.m.mem) HR3.out HM3.out ?hc3 ?hc4 ?_
  case hc3 => omega
  case hc4 => simp
  intro A3 c3 w7 o7 _ _ b7'
  have bx : Below w6.heap.size w6 w7 := ((Below.refl _ _).alloc (Nat.le_refl _) (.cells #[] 62)).trans b7'
  have kb7 := kb6.below bx kb6.lt
  have kz7 := kz6.below bx kz6.lt
  have gb7 := gb6.trans (bx.mono gb6.size)
  have o7d := HO6.out.1.below bx (Nat.le_refl _)
  have o7e := HO6.out.2.1.below bx (Nat.le_refl _)
  have hys7 : ∀ y ∈ ys, EvOwn w7 w4.heap.size y := fun y hy => by
    obtain ⟨q1, q2, q3⟩ := HO6.out.2.2 y hy
    exact ⟨q1, q2.below bx (Nat.le_refl _), q3⟩
  have hg6 : g + 1 < w6.heap.size := kz6.lt
  have c15 : w7.cell? ⟨g, 15, none⟩ = some (.slice x.A3 x.n3 x.c3) := (bx.cell (p := ⟨g, 15, none⟩) (by show g < _; omega)).trans t15
  have f15 := kb7.free 15
  have kb8 := kb7.set_ 15 (.slice A3 x.n3 c3)
  have kz8 := kz7.far (p := ⟨g, 15, none⟩) (by simp) (.slice A3 x.n3 c3)
  have o8d := o7d.setFar (p := ⟨g, 15, none⟩) (by intro h; have h9 : g + 1 + 1 ≤ g := (o7d.lt _ h).1; omega) (.slice A3 x.n3 c3)
  have o8e := o7e.far (p := ⟨g, 15, none⟩) (by show g < _; omega) (.slice A3 x.n3 c3)
  have hys8 : ∀ y ∈ ys, EvOwn (w7.setCell ⟨g, 15, none⟩ (.slice A3 x.n3 c3)) w4.heap.size y := fun y hy => (hys7 y hy).far (by show g < _; omega) _
  have o8m := o7.setFar (p := ⟨g, 15, none⟩) (by intro h; have h9 : w6.heap.size ≤ g := (o7.lt _ h).1; omega) (.slice A3 x.n3 c3)
  have gb8 : Below w.heap.size w (w7.setCell ⟨g, 15, none⟩ (.slice A3 x.n3 c3)) := gb7.setCell (by show w.heap.size ≤ g; omega) _
  clear kb7 kz7 gb7 o7d o7e hys7 bx b7' HO6 kb6 kz6 gb6 t15 o7
  go_upto_region 4 with fail
  refine nameW ?_
  intro w8 hw8
  rw [show 0 + x.n3 = x.n3 from Nat.zero_add _] at *
  rw [← hw8] at kb8 kz8 o8d o8e hys8 o8m gb8
  clear hw8 c15 f15
  rw [HCC.out A1 A2 A3 c1 c2 c3 ys] at kb8
  obtain ⟨y, hy⟩ : ∃ y : MgV, y = ⟨x.m, A1, x.n1, c1, ys, A2, x.n2, c2, A3, x.n3, c3⟩ := ⟨_, rfl⟩
  rw [← hy] at kb8
  have SZY := Lib.hid y.size
  have ONY := Lib.hid y.one
  have HY := Lib.hid hy
  have HOO := Lib.hid (And.intro o8d (And.intro o8e (And.intro hys8 o8m)))
  clear hy o8d o8e hys8 o8m
  go_wp2_with first
    | ((with_reducible refine wpList_ld rowMg kb8 SZY.out ?_ ?_); rotate_left; (rfl))
    | ((with_reducible refine wpList_st rowMg kz8 SZY.out zm_size ONY.out ?_ ?_ ?_); rotate_left; (rfl); (rfl); intro w9 k9 g9 z9)
  have ⟨o1, o2, o3', o4'⟩ := HOO.out
  have n1 := own_ne o1.2 kz8 (by decide)
  have n3 := own_ne o4'.2 kz8 (by decide)
  have gb9 : Below w.heap.size w w9 := gb8.grown g9 gb8.size (fun q hq => by injection hq with hq; omega)
  refine bodyPost_ret (v := .agg y.cs) (results_blk rfl rowMg k9 SZY.out rfl) rfl ⟨y, rfl, by rw [HY.out], ?_, by rw [HY.out], by rw [HY.out], by rw [HY.out], gb9⟩
  rw [HY.out]
  have hq4 : g + 1 < w4.heap.size := hg4
  have e9 := o2.kept g9 hq4
  exact ⟨⟨HIN.out.ok.u, (o1.grown g9 (.inr n1)).rd, e9.row (fun z hz => ((o3' z hz).kept g9 hq4).ok), HIN.out.ok.es.trans HMP.out.symm, (o4'.grown g9 (.inr n3)).rd⟩, HIN.out.wu, HIN.out.b2, HIN.out.b3⟩
end Go.Proofs.Ytcgalmnllegnbaa

/- The walks of the document's RightPolicy and Later. -/
namespace Go.Proofs.Ytcgalmnllegnbaa
set_option linter.unusedVariables false
set_option linter.unusedSimpArgs false
set_option maxRecDepth 100000
open Go.RowKit
open Dot Evt
set_option maxRecDepth 100000 in
set_option maxHeartbeats 4000000 in
theorem rpol_any (p : List Int) (w : World) : Calls Try.prog 83 #[.agg (pc p)] w fun e w' => e = .returned (.bool (polB p)) ∧ Below w.heap.size w w' := by
  have hbb : Below w.heap.size w (w.alloc (.cells (pc p) 48)) := (Below.refl _ _).alloc (Nat.le_refl _) _
  obtain ⟨R, hR⟩ : ∃ R, R = polB p := ⟨_, rfl⟩
  rw [← hR]
  have hR2 := @polB_iff p
  rw [← hR] at hR2
  clear hR
  unfold pc at hbb ⊢
  generalize p.getD 0 0 = p0, p.getD 1 0 = p1, p.getD 2 0 = p2, p.getD 3 0 = p3, p.getD 4 0 = p4, p.getD 5 0 = p5, p.getD 6 0 = p6 at *
  have HR := Lib.hid hR2
  clear hR2
  by_cases h0 : 0 ≤ p0
  rotate_left
  · have hf : R = false := by
      rw [← Bool.not_eq_true, HR.out]
      omega
    have d0 : decide (0 ≤ p0) = false := decide_eq_false h0
    subst hf
    clear h0
    go_enter Try.func83, Try.ntmps83
    go_wp2_with fail
    go_ret
    exact ⟨rfl, hbb⟩
  have d0 : decide (0 ≤ p0) = true := decide_eq_true h0
  by_cases h1 : p0 ≤ p1
  rotate_left
  · have hf : R = false := by
      rw [← Bool.not_eq_true, HR.out]
      omega
    have d1 : decide (p0 ≤ p1) = false := decide_eq_false h1
    subst hf
    clear h0 h1
    go_enter Try.func83, Try.ntmps83
    go_wp2_with fail
    go_ret
    exact ⟨rfl, hbb⟩
  have d1 : decide (p0 ≤ p1) = true := decide_eq_true h1
  by_cases h2 : p1 ≤ 1000
  rotate_left
  · have hf : R = false := by
      rw [← Bool.not_eq_true, HR.out]
      omega
    have d2 : decide (p1 ≤ 1000) = false := decide_eq_false h2
    subst hf
    clear h0 h1 h2
    go_enter Try.func83, Try.ntmps83
    go_wp2_with fail
    go_ret
    exact ⟨rfl, hbb⟩
  have d2 : decide (p1 ≤ 1000) = true := decide_eq_true h2
  by_cases h3 : 1 ≤ p2
  rotate_left
  · have hf : R = false := by
      rw [← Bool.not_eq_true, HR.out]
      omega
    have d3 : decide (1 ≤ p2) = false := decide_eq_false h3
    subst hf
    clear h0 h1 h2 h3
    go_enter Try.func83, Try.ntmps83
    go_wp2_with fail
    go_ret
    exact ⟨rfl, hbb⟩
  have d3 : decide (1 ≤ p2) = true := decide_eq_true h3
  by_cases h4 : p2 ≤ 1073741824
  rotate_left
  · have hf : R = false := by
      rw [← Bool.not_eq_true, HR.out]
      omega
    have d4 : decide (p2 ≤ 1073741824) = false := decide_eq_false h4
    subst hf
    clear h0 h1 h2 h3 h4
    go_enter Try.func83, Try.ntmps83
    go_wp2_with fail
    go_ret
    exact ⟨rfl, hbb⟩
  have d4 : decide (p2 ≤ 1073741824) = true := decide_eq_true h4
  by_cases h5 : 0 ≤ p3
  rotate_left
  · have hf : R = false := by
      rw [← Bool.not_eq_true, HR.out]
      omega
    have d5 : decide (0 ≤ p3) = false := decide_eq_false h5
    subst hf
    clear h0 h1 h2 h3 h4 h5
    go_enter Try.func83, Try.ntmps83
    go_wp2_with fail
    go_ret
    exact ⟨rfl, hbb⟩
  have d5 : decide (0 ≤ p3) = true := decide_eq_true h5
  by_cases h6 : p3 ≤ 100
  rotate_left
  · have hf : R = false := by
      rw [← Bool.not_eq_true, HR.out]
      omega
    have d6 : decide (p3 ≤ 100) = false := decide_eq_false h6
    subst hf
    clear h0 h1 h2 h3 h4 h5 h6
    go_enter Try.func83, Try.ntmps83
    go_wp2_with fail
    go_ret
    exact ⟨rfl, hbb⟩
  have d6 : decide (p3 ≤ 100) = true := decide_eq_true h6
  by_cases h7 : 1 ≤ p4
  rotate_left
  · have hf : R = false := by
      rw [← Bool.not_eq_true, HR.out]
      omega
    have d7 : decide (1 ≤ p4) = false := decide_eq_false h7
    subst hf
    clear h0 h1 h2 h3 h4 h5 h6 h7
    go_enter Try.func83, Try.ntmps83
    go_wp2_with fail
    go_ret
    exact ⟨rfl, hbb⟩
  have d7 : decide (1 ≤ p4) = true := decide_eq_true h7
  by_cases h8 : p4 ≤ 1000
  rotate_left
  · have hf : R = false := by
      rw [← Bool.not_eq_true, HR.out]
      omega
    have d8 : decide (p4 ≤ 1000) = false := decide_eq_false h8
    subst hf
    clear h0 h1 h2 h3 h4 h5 h6 h7 h8
    go_enter Try.func83, Try.ntmps83
    go_wp2_with fail
    go_ret
    exact ⟨rfl, hbb⟩
  have d8 : decide (p4 ≤ 1000) = true := decide_eq_true h8
  by_cases h9 : 1 ≤ p5
  rotate_left
  · have hf : R = false := by
      rw [← Bool.not_eq_true, HR.out]
      omega
    have d9 : decide (1 ≤ p5) = false := decide_eq_false h9
    subst hf
    clear h0 h1 h2 h3 h4 h5 h6 h7 h8 h9
    go_enter Try.func83, Try.ntmps83
    go_wp2_with fail
    go_ret
    exact ⟨rfl, hbb⟩
  have d9 : decide (1 ≤ p5) = true := decide_eq_true h9
  by_cases h10 : p5 ≤ 1000
  rotate_left
  · have hf : R = false := by
      rw [← Bool.not_eq_true, HR.out]
      omega
    have d10 : decide (p5 ≤ 1000) = false := decide_eq_false h10
    subst hf
    clear h0 h1 h2 h3 h4 h5 h6 h7 h8 h9 h10
    go_enter Try.func83, Try.ntmps83
    go_wp2_with fail
    go_ret
    exact ⟨rfl, hbb⟩
  have d10 : decide (p5 ≤ 1000) = true := decide_eq_true h10
  by_cases h11 : 0 ≤ p6
  rotate_left
  · have hf : R = false := by
      rw [← Bool.not_eq_true, HR.out]
      omega
    have d11 : decide (0 ≤ p6) = false := decide_eq_false h11
    subst hf
    clear h0 h1 h2 h3 h4 h5 h6 h7 h8 h9 h10 h11
    go_enter Try.func83, Try.ntmps83
    go_wp2_with fail
    go_ret
    exact ⟨rfl, hbb⟩
  have d11 : decide (0 ≤ p6) = true := decide_eq_true h11
  by_cases h12 : p6 ≤ 1000
  rotate_left
  · have hf : R = false := by
      rw [← Bool.not_eq_true, HR.out]
      omega
    have d12 : decide (p6 ≤ 1000) = false := decide_eq_false h12
    subst hf
    clear h0 h1 h2 h3 h4 h5 h6 h7 h8 h9 h10 h11 h12
    go_enter Try.func83, Try.ntmps83
    go_wp2_with fail
    go_ret
    exact ⟨rfl, hbb⟩
  have d12 : decide (p6 ≤ 1000) = true := decide_eq_true h12
  have hf : R = true := by
    rw [HR.out]
    omega
  subst hf
  clear h0 h1 h2 h3 h4 h5 h6 h7 h8 h9 h10 h11 h12
  go_enter Try.func83, Try.ntmps83
  go_wp2_with fail
  go_ret
  exact ⟨rfl, hbb⟩
end Go.Proofs.Ytcgalmnllegnbaa

namespace Go.Proofs.Ytcgalmnllegnbaa
set_option linter.unusedVariables false
set_option linter.unusedSimpArgs false
set_option maxRecDepth 100000
open Go.RowKit
open Dot Evt
set_option maxRecDepth 100000 in
set_option maxHeartbeats 4000000 in
theorem eright07_any (x : Ev) (hp : x.p.length = 7) (A : Option Addr) (m c : Nat) (w : World) (hl : RdD w w.heap.size A m x.l) (hmb : m ≤ 4611686018427387904) :
    Calls Try.prog 53 #[.agg (ec x (.slice A m c))] w fun e w' => e = .returned (.bool (rightE x)) ∧ Below w.heap.size w w' := by
  obtain ⟨R, hR⟩ : ∃ R, R = rightE x := ⟨_, rfl⟩
  rw [← hR]
  obtain ⟨⟨n, q⟩, t, k, wk, v, p, l⟩ := x
  have hpol := rpol_any p
  obtain ⟨K, hK⟩ : ∃ K, K = kindB ⟨(n, q), t, k, wk, v, p, l⟩ := ⟨_, rfl⟩
  have hR2 : R = (mayB (n, q) && inB t 1 top && inB wk 0 7 && decide (l.length ≤ 96) && namedB (n, q) l && K) := by rw [hR, hK]; rfl
  clear hR
  simp only at hl hp
  have HM := Lib.hid hl.1
  have hbb : Below w.heap.size w (w.alloc (.cells (ec ⟨(n, q), t, k, wk, v, p, l⟩ (.slice A m c)) 50)) := (Below.refl _ _).alloc (Nat.le_refl _) _
  have kb : Blk (w.alloc (.cells (ec ⟨(n, q), t, k, wk, v, p, l⟩ (.slice A m c)) 50)) w.heap.size 50 (ec ⟨(n, q), t, k, wk, v, p, l⟩ (.slice A m c)) := Blk.new _ _ _
  unfold ec at hbb kb ⊢
  unfold pc at hpol
  simp only at hbb kb ⊢
  have hpz : p = p0 ↔ (p.getD 0 0 = 0 ∧ p.getD 1 0 = 0 ∧ p.getD 2 0 = 0 ∧ p.getD 3 0 = 0 ∧ p.getD 4 0 = 0 ∧ p.getD 5 0 = 0 ∧ p.getD 6 0 = 0) := by
    match p, hp with
    | [a, b, c, d, e, f, g], _ => simp [p0]
  have hKp : K = if k = 1 then decide (p = p0) && inB v 0 top && decide (l = []) else if k = 2 then polB p && decide (v = 0) else if k = 3 then decide (p = p0) && decide (v = 0) else false := by rw [hK]; rfl
  clear hK hp
  generalize hpp : decide (p = p0) = PZ at hKp
  have hpz2 : PZ = decide (p.getD 0 0 = 0 ∧ p.getD 1 0 = 0 ∧ p.getD 2 0 = 0 ∧ p.getD 3 0 = 0 ∧ p.getD 4 0 = 0 ∧ p.getD 5 0 = 0 ∧ p.getD 6 0 = 0) := by
    rw [← hpp]; exact decide_eq_decide.2 hpz
  clear hpp hpz
  generalize polB p = PB at hKp hpol
  generalize p.getD 0 0 = p0, p.getD 1 0 = p1, p.getD 2 0 = p2, p.getD 3 0 = p3, p.getD 4 0 = p4, p.getD 5 0 = p5, p.getD 6 0 = p6 at *
  have HR := Lib.hid hR2
  have HK := Lib.hid hKp
  have HZ := Lib.hid hpz2
  have HP := Lib.hid hpol
  have HL := Lib.hid hl
  have HMB := Lib.hid hmb
  clear hR2 hKp hpz2 hpol hl hmb
  go_enter Try.func53, Try.ntmps53
  go_upto_region 1 with fail
  refine nameW ?_
  intro wv hwv
  obtain ⟨b, hb⟩ : ∃ b, b = w.heap.size := ⟨_, rfl⟩
  rw [← hb]
  rw [← hwv, ← hb] at kb hbb
  have hlv := HL.out.below (B := w.heap.size) (by rw [← hb]; exact hbb)
  rw [← hb] at hlv
  obtain ⟨c0, c1, _⟩ := ecells kb
  have HBE := Lib.hid hb
  clear hwv hb HL
  go_wp2_with fail
  refine (rmay_any n q wv).mono ?_
  rintro e w2 ⟨rfl, b2⟩
  have hb2 := hbb.trans (b2.mono (by have := kb.lt; omega))
  have kb2 := kb.below b2 kb.lt
  have hl2 := hlv.below (b2.mono (by have := kb.lt; omega))
  have hs2 := kb2.lt
  clear kb hlv c0 c1 hbb b2
  obtain ⟨c0, c1, c2, c3, c4, c5, c6, c7, c8, c9, c10, c11, c12, c13⟩ := ecells kb2
  rcases hm : mayB (n, q) with _ | _
  · skip
    go_wp2_with fail
    go_ret
    refine ⟨?_, by rw [← HBE.out]; exact hb2⟩
    rw [HR.out, hm]
    try rfl
  have HMY := Lib.hid hm
  clear hm
  have hn1 : ¬ t < 1 → ¬ (1099511627776 : Int) < t → inB t 1 top = true := fun h1 h2 => (inB_iff _ _ _).2 ⟨by omega, by unfold top; omega⟩
  have hn2 : ¬ wk < 0 → ¬ (7 : Int) < wk → inB wk 0 7 = true := fun h1 h2 => (inB_iff _ _ _).2 ⟨by omega, by omega⟩
  have HN1 := Lib.hid hn1
  have HN2 := Lib.hid hn2
  clear hn1 hn2
  by_cases hc : t < 1
  · have hcd : decide (t < 1) = true := decide_eq_true hc
    have hcx : inB t 1 top = false := by rw [← Bool.not_eq_true, inB_iff]; unfold top; omega
    clear hc
    have HCX := Lib.hid hcx
    clear hcx
    go_wp2_with fail
    go_ret
    refine ⟨?_, by rw [← HBE.out]; exact hb2⟩
    rw [HR.out, HMY.out, HCX.out]
    try rfl
  have e1 : decide (t < 1) = false := decide_eq_false hc
  have E1 := Lib.hid hc
  clear hc
  by_cases hc : (1099511627776 : Int) < t
  · have hcd : decide ((1099511627776 : Int) < t) = true := decide_eq_true hc
    have hcx : inB t 1 top = false := by rw [← Bool.not_eq_true, inB_iff]; unfold top; omega
    clear hc
    have HCX := Lib.hid hcx
    clear hcx
    go_wp2_with fail
    go_ret
    refine ⟨?_, by rw [← HBE.out]; exact hb2⟩
    rw [HR.out, HMY.out, HCX.out]
    try rfl
  have e2 : decide ((1099511627776 : Int) < t) = false := decide_eq_false hc
  have HT := Lib.hid (HN1.out E1.out hc)
  clear hc
  by_cases hc : wk < 0
  · have hcd : decide (wk < 0) = true := decide_eq_true hc
    have hcx : inB wk 0 7 = false := by rw [← Bool.not_eq_true, inB_iff]; omega
    clear hc
    have HCX := Lib.hid hcx
    clear hcx
    go_wp2_with fail
    go_ret
    refine ⟨?_, by rw [← HBE.out]; exact hb2⟩
    rw [HR.out, HMY.out, HT.out, HCX.out]
    try rfl
  have e3 : decide (wk < 0) = false := decide_eq_false hc
  have E3 := Lib.hid hc
  clear hc
  by_cases hc : (7 : Int) < wk
  · have hcd : decide ((7 : Int) < wk) = true := decide_eq_true hc
    have hcx : inB wk 0 7 = false := by rw [← Bool.not_eq_true, inB_iff]; omega
    clear hc
    have HCX := Lib.hid hcx
    clear hcx
    go_wp2_with fail
    go_ret
    refine ⟨?_, by rw [← HBE.out]; exact hb2⟩
    rw [HR.out, HMY.out, HT.out, HCX.out]
    try rfl
  have e4 : decide ((7 : Int) < wk) = false := decide_eq_false hc
  have HW := Lib.hid (HN2.out E3.out hc)
  clear hc
  by_cases hc : (96 : Int) < (m : Int)
  · have hcd : decide ((96 : Int) < (m : Int)) = true := decide_eq_true hc
    have hcx : decide (l.length ≤ 96) = false := by rw [decide_eq_false_iff_not]; have := HM.out; omega
    clear hc
    have HCX := Lib.hid hcx
    clear hcx
    go_wp2_with fail
    go_ret
    refine ⟨?_, by rw [← HBE.out]; exact hb2⟩
    rw [HR.out, HMY.out, HT.out, HW.out, HCX.out]
    try rfl
  have e5 : decide ((96 : Int) < (m : Int)) = false := decide_eq_false hc
  have HLE := Lib.hid (show decide (l.length ≤ 96) = true by rw [decide_eq_true_eq]; have := HM.out; omega)
  have H96 := Lib.hid (show m ≤ 96 by omega)
  clear hc
  have HRN := Lib.hid (show R = (namedB (n, q) l && K) by rw [HR.out, HMY.out, HT.out, HW.out, HLE.out]; cases namedB (n, q) l <;> rfl)
  clear HR HMY HT HW HLE HN1 HN2 E1 E3
  go_wp2_with fail
  go_loopw [38] (fun i wr => ∃ j : Nat, j ≤ m ∧ i = .int .i64 j ∧ (∀ i, i < j → nameAt (n, q) l i = true) ∧ Blk wr b 50 #[.int .i64 n, .int .i64 q, .int .i64 t, .int .i64 k, .int .i64 wk, .int .i64 v, .int .i64 p0, .int .i64 p1, .int .i64 p2, .int .i64 p3, .int .i64 p4, .int .i64 p5, .int .i64 p6, .slice A m c] ∧ RdD wr b A m l ∧ Below b w wr) (fun i _ => m - (intOf i).toNat)
  case atStart => exact ⟨0, by omega, rfl, fun i hi => by omega, kb2, hl2, hb2⟩
  case round =>
    clear kb2 hl2 hb2 c0 c1 c2 c3 c4 c5 c6 c7 c8 c9 c10 c11 c12 c13 e1 e2 e3 e4 e5 hs2
    obtain ⟨j, hj, rfl, hall, kb, hl, hbel⟩ := hrel
    have HA := Lib.hid hall
    clear hall
    by_cases hlt : j < m
    · have hjl : j < l.length := by rw [← HM.out]; exact hlt
      obtain ⟨ad, hA, hdt⟩ := hl.2 j _ (List.getElem?_eq_getElem hjl)
      have hgd : nameAt (n, q) l j = (mayB l[j] && !decide (l[j] = (n, q)) && (decide (j = 0) || befB (l.getD (j - 1) (0, 0)) l[j])) := by
        unfold nameAt
        rw [show l.getD j (0, 0) = l[j] by rw [List.getD_eq_getElem?_getD, List.getElem?_eq_getElem hjl]; rfl]
      generalize l[j] = d at *
      subst hA
      obtain ⟨x, y⟩ := d
      obtain ⟨q5, q0, q1⟩ := hdt
      simp only at q0 q1 hgd
      have HG := Lib.hid hgd
      clear hgd
      have hsz := kb.lt
      obtain ⟨wn, hwn⟩ : ∃ wn, wn = wr.alloc (.cells #[.int .i64 x, .int .i64 y] 46) := ⟨_, rfl⟩
      obtain ⟨gd, hgd⟩ : ∃ gd, gd = wr.heap.size := ⟨_, rfl⟩
      have kx : Blk wn gd 46 #[.int .i64 x, .int .i64 y] := by rw [hwn, hgd]; exact Blk.new wr _ _
      have bn : Below wr.heap.size wr wn := by rw [hwn]; exact (Below.refl _ _).alloc (Nat.le_refl _) _
      have kb1 := kb.below bn kb.lt
      have hb1 := hbel.trans (bn.mono (by omega))
      have hl1 := hl.below (bn.mono (by omega))
      have HW := Lib.hid hwn
      have HGD := Lib.hid hgd
      have hgl : b < gd := by omega
      have hj0 : (0 : Int) ≤ (j : Int) := by omega
      have hjm : (j : Int) < (m : Int) := by omega
      clear hwn hgd bn hl
      have cs : wr.cell? ⟨b, 13, none⟩ = some (.slice (some ad) m c) := kb.cell 13
      go_upto_region 6 with fail
      rw [← HW.out, ← HGD.out]
      clear cs q0 q1 kb hbel
      have t0 : wn.cell? ⟨gd, 0, none⟩ = some (.int .i64 x) := kx.cell 0
      have t1 : wn.cell? ⟨gd, 1, none⟩ = some (.int .i64 y) := kx.cell 1
      have o0 : wn.cell? ⟨b, 0, none⟩ = some (.int .i64 n) := kb1.cell 0
      have o1 : wn.cell? ⟨b, 1, none⟩ = some (.int .i64 q) := kb1.cell 1
      have o13 : wn.cell? ⟨b, 13, none⟩ = some (.slice (some ad) m c) := kb1.cell 13
      have hmc : ∀ w', Calls Try.prog 81 #[.agg #[.int .i64 x, .int .i64 y]] w' fun e w'' => e = .returned (.bool (mayB (x, y))) ∧ Below w'.heap.size w' w'' := fun w' => rmay_any x y w'
      cases hmm : mayB (x, y)
      case false =>
        have hgk : nameAt (n, q) l j = false := by rw [HG.out, hmm]; rfl
        have HGK := Lib.hid hgk
        rw [hmm] at hmc
        have HMC := Lib.hid hmc
        clear hgk hmm hmc
        refine wp_region_below (by kernel_rfl) (by kernel_rfl) ?_
        intro T iT F hF hT
        have S0 : ∀ xf, (F xf).cell? ⟨gd, 0, none⟩ = some (.int .i64 x) := fun xf => ((hF xf).cell (p := ⟨gd, 0, none⟩) kx.lt).trans t0
        have S1 : ∀ xf, (F xf).cell? ⟨gd, 1, none⟩ = some (.int .i64 y) := fun xf => ((hF xf).cell (p := ⟨gd, 1, none⟩) kx.lt).trans t1
        have S2 : ∀ xf, (F xf).cell? ⟨b, 0, none⟩ = some (.int .i64 n) := fun xf => ((hF xf).cell (p := ⟨b, 0, none⟩) kb1.lt).trans o0
        have S3 : ∀ xf, (F xf).cell? ⟨b, 1, none⟩ = some (.int .i64 q) := fun xf => ((hF xf).cell (p := ⟨b, 1, none⟩) kb1.lt).trans o1
        have S4 : ∀ xf, (F xf).cell? ⟨b, 13, none⟩ = some (.slice (some ad) m c) := fun xf => ((hF xf).cell (p := ⟨b, 13, none⟩) kb1.lt).trans o13
        have HF := Lib.hid hF
        have HT := Lib.hid hT
        clear hF hT
        repeat (first
          | go_big_quiet_step (((go_at_call 81; exact calls_below HF.out HT.out (HMC.out _)))))
        refine wpQuiet_nil ?_
        intro w' hw'
        obtain ⟨qf, rfl⟩ := hw'
        have bF := HF.out qf
        have kF := kb1.below bF kb1.lt
        have hbF := hb1.trans (bF.mono (by have := kb1.lt; omega))
        have hlF := hl1.below (bF.mono (by have := kb1.lt; omega))
        clear HF HT S0 S1 S2 S3 S4 t0 t1 o0 o1 o13
        go_wp2_with fail
        go_ret
        refine ⟨?_, by rw [← HBE.out]; exact hbF⟩
        rw [HRN.out, name_at hjl HGK.out]
        rfl
      case true =>
        have HMM := Lib.hid hmm
        rw [hmm] at hmc
        have HMC := Lib.hid hmc
        clear hmm hmc
        by_cases hx : x = n
        · subst hx
          by_cases hy : y = q
          · subst hy
            have hgk : nameAt (x, y) l j = false := by rw [HG.out, HMM.out]; simp
            have HGK := Lib.hid hgk
            clear hgk
            refine wp_region_below (by kernel_rfl) (by kernel_rfl) ?_
            intro T iT F hF hT
            have S0 : ∀ xf, (F xf).cell? ⟨gd, 0, none⟩ = some (.int .i64 x) := fun xf => ((hF xf).cell (p := ⟨gd, 0, none⟩) kx.lt).trans t0
            have S1 : ∀ xf, (F xf).cell? ⟨gd, 1, none⟩ = some (.int .i64 y) := fun xf => ((hF xf).cell (p := ⟨gd, 1, none⟩) kx.lt).trans t1
            have S2 : ∀ xf, (F xf).cell? ⟨b, 0, none⟩ = some (.int .i64 x) := fun xf => ((hF xf).cell (p := ⟨b, 0, none⟩) kb1.lt).trans o0
            have S3 : ∀ xf, (F xf).cell? ⟨b, 1, none⟩ = some (.int .i64 y) := fun xf => ((hF xf).cell (p := ⟨b, 1, none⟩) kb1.lt).trans o1
            have S4 : ∀ xf, (F xf).cell? ⟨b, 13, none⟩ = some (.slice (some ad) m c) := fun xf => ((hF xf).cell (p := ⟨b, 13, none⟩) kb1.lt).trans o13
            have HF := Lib.hid hF
            have HT := Lib.hid hT
            clear hF hT
            repeat (first
              | go_big_quiet_step (((go_at_call 81; exact calls_below HF.out HT.out (HMC.out _)))))
            refine wpQuiet_nil ?_
            intro w' hw'
            obtain ⟨qf, rfl⟩ := hw'
            have bF := HF.out qf
            have kF := kb1.below bF kb1.lt
            have hbF := hb1.trans (bF.mono (by have := kb1.lt; omega))
            have hlF := hl1.below (bF.mono (by have := kb1.lt; omega))
            clear HF HT S0 S1 S2 S3 S4 t0 t1 o0 o1 o13
            go_wp2_with fail
            go_ret
            refine ⟨?_, by rw [← HBE.out]; exact hbF⟩
            rw [HRN.out, name_at hjl HGK.out]
            rfl
          · skip
            have HNO := Lib.hid (show decide ((x, y) = (x, q)) = false by rw [decide_eq_false_iff_not]; intro h; exact hy (congrArg Prod.snd h))
            by_cases hk0 : j = 0
            · subst hk0
              have hgk : nameAt (x, q) l 0 = true := by rw [HG.out, HMM.out, HNO.out]; rfl
              have HGK := Lib.hid hgk
              clear hgk
              refine wp_region_below (by kernel_rfl) (by kernel_rfl) ?_
              intro T iT F hF hT
              have S0 : ∀ xf, (F xf).cell? ⟨gd, 0, none⟩ = some (.int .i64 x) := fun xf => ((hF xf).cell (p := ⟨gd, 0, none⟩) kx.lt).trans t0
              have S1 : ∀ xf, (F xf).cell? ⟨gd, 1, none⟩ = some (.int .i64 y) := fun xf => ((hF xf).cell (p := ⟨gd, 1, none⟩) kx.lt).trans t1
              have S2 : ∀ xf, (F xf).cell? ⟨b, 0, none⟩ = some (.int .i64 x) := fun xf => ((hF xf).cell (p := ⟨b, 0, none⟩) kb1.lt).trans o0
              have S3 : ∀ xf, (F xf).cell? ⟨b, 1, none⟩ = some (.int .i64 q) := fun xf => ((hF xf).cell (p := ⟨b, 1, none⟩) kb1.lt).trans o1
              have S4 : ∀ xf, (F xf).cell? ⟨b, 13, none⟩ = some (.slice (some ad) m c) := fun xf => ((hF xf).cell (p := ⟨b, 13, none⟩) kb1.lt).trans o13
              have HF := Lib.hid hF
              have HT := Lib.hid hT
              clear hF hT
              repeat (first
                | go_big_quiet_step (((go_at_call 81; exact calls_below HF.out HT.out (HMC.out _)))))
              refine wpQuiet_nil ?_
              intro w' hw'
              obtain ⟨qf, rfl⟩ := hw'
              have bF := HF.out qf
              have kF := kb1.below bF kb1.lt
              have hbF := hb1.trans (bF.mono (by have := kb1.lt; omega))
              have hlF := hl1.below (bF.mono (by have := kb1.lt; omega))
              clear HF HT S0 S1 S2 S3 S4 t0 t1 o0 o1 o13
              go_wp2_with fail
              go_roundw
              case rel => exact ⟨1, by omega, rfl, fun i hi => by
                by_cases e : i = 0
                · subst e; exact HGK.out
                · exact HA.out i (by omega), kF, hlF, hbF⟩
              case measure => simp only [intOf]; omega
            · obtain ⟨i, hmk⟩ : ∃ i, j = i + 1 := ⟨j - 1, by omega⟩
              have hml : i < l.length := by omega
              have hkp : 0 < j := by omega
              have hkq : (0 : Int) < (j : Int) := by omega
              have hwk : IntKind.i64.wrap ((j : Int) - 1) = (i : Int) := by rw [IntKind.wrap_i64]; have := H96.out; omega
              have hm0 : (0 : Int) ≤ (i : Int) := by omega
              have hmn : (i : Int) < (m : Int) := by omega
              obtain ⟨ad2, hae, hdt2⟩ := hl1.2 i _ (List.getElem?_eq_getElem hml)
              injection hae with hae
              subst hae
              have hpe : l.getD i (0, 0) = l[i] := by rw [List.getD_eq_getElem?_getD, List.getElem?_eq_getElem hml]; rfl
              have hg3 : nameAt (x, q) l j = befB l[i] (x, y) := by
                rw [HG.out, HMM.out, HNO.out, decide_eq_false hk0, show j - 1 = i by omega, hpe]
                cases befB l[i] (x, y) <;> rfl
              clear hpe
              generalize l[i] = d at *
              obtain ⟨x2, y2⟩ := d
              obtain ⟨p5, p0, p1⟩ := hdt2
              simp only at p0 p1
              have p6 : (ad.add (i * 2)).block < wn.heap.size := Nat.lt_of_lt_of_le p5 (by have := kb1.lt; omega)
              clear HG
              have HG := Lib.hid hg3
              clear hg3 hmk
              have hcc : ∀ w', Calls Try.prog 82 #[.agg #[.int .i64 x2, .int .i64 y2], .agg #[.int .i64 x, .int .i64 y]] w' fun e w'' => e = .returned (.bool (befB (x2, y2) (x, y))) ∧ Below w'.heap.size w' w'' := fun w' => before_any x2 y2 x y w'
              cases hbf : befB (x2, y2) (x, y)
              case false =>
                have hgk : nameAt (x, q) l j = false := by rw [HG.out, hbf]
                have HGK := Lib.hid hgk
                rw [hbf] at hcc
                have HCC := Lib.hid hcc
                clear hgk hbf hcc
                refine wp_region_below (by kernel_rfl) (by kernel_rfl) ?_
                intro T iT F hF hT
                have S0 : ∀ xf, (F xf).cell? ⟨gd, 0, none⟩ = some (.int .i64 x) := fun xf => ((hF xf).cell (p := ⟨gd, 0, none⟩) kx.lt).trans t0
                have S1 : ∀ xf, (F xf).cell? ⟨gd, 1, none⟩ = some (.int .i64 y) := fun xf => ((hF xf).cell (p := ⟨gd, 1, none⟩) kx.lt).trans t1
                have S2 : ∀ xf, (F xf).cell? ⟨b, 0, none⟩ = some (.int .i64 x) := fun xf => ((hF xf).cell (p := ⟨b, 0, none⟩) kb1.lt).trans o0
                have S3 : ∀ xf, (F xf).cell? ⟨b, 1, none⟩ = some (.int .i64 q) := fun xf => ((hF xf).cell (p := ⟨b, 1, none⟩) kb1.lt).trans o1
                have S4 : ∀ xf, (F xf).cell? ⟨b, 13, none⟩ = some (.slice (some ad) m c) := fun xf => ((hF xf).cell (p := ⟨b, 13, none⟩) kb1.lt).trans o13
                have SP : ∀ xf, (F xf).cell? (ad.add (i * 2)) = some (.int .i64 x2) := fun xf => ((hF xf).cell p6).trans p0
                have SQ : ∀ xf, (F xf).cell? ⟨(ad.add (i * 2)).block, (ad.add (i * 2)).off + 1, none⟩ = some (.int .i64 y2) := fun xf => ((hF xf).cell (p := ⟨(ad.add (i * 2)).block, (ad.add (i * 2)).off + 1, none⟩) p6).trans p1
                have HF := Lib.hid hF
                have HT := Lib.hid hT
                clear hF hT
                repeat (first
                  | go_big_quiet_step ((first | (go_at_call 81; exact calls_below HF.out HT.out (HMC.out _)) | (go_at_call 82; exact calls_below HF.out HT.out (HCC.out _)))))
                refine wpQuiet_nil ?_
                intro w' hw'
                obtain ⟨qf, rfl⟩ := hw'
                have bF := HF.out qf
                have kF := kb1.below bF kb1.lt
                have hbF := hb1.trans (bF.mono (by have := kb1.lt; omega))
                have hlF := hl1.below (bF.mono (by have := kb1.lt; omega))
                clear HF HT S0 S1 S2 S3 S4 t0 t1 o0 o1 o13
                go_wp2_with fail
                go_ret
                refine ⟨?_, by rw [← HBE.out]; exact hbF⟩
                rw [HRN.out, name_at hjl HGK.out]
                rfl
              case true =>
                have hgk : nameAt (x, q) l j = true := by rw [HG.out, hbf]
                have HGK := Lib.hid hgk
                rw [hbf] at hcc
                have HCC := Lib.hid hcc
                clear hgk hbf hcc
                refine wp_region_below (by kernel_rfl) (by kernel_rfl) ?_
                intro T iT F hF hT
                have S0 : ∀ xf, (F xf).cell? ⟨gd, 0, none⟩ = some (.int .i64 x) := fun xf => ((hF xf).cell (p := ⟨gd, 0, none⟩) kx.lt).trans t0
                have S1 : ∀ xf, (F xf).cell? ⟨gd, 1, none⟩ = some (.int .i64 y) := fun xf => ((hF xf).cell (p := ⟨gd, 1, none⟩) kx.lt).trans t1
                have S2 : ∀ xf, (F xf).cell? ⟨b, 0, none⟩ = some (.int .i64 x) := fun xf => ((hF xf).cell (p := ⟨b, 0, none⟩) kb1.lt).trans o0
                have S3 : ∀ xf, (F xf).cell? ⟨b, 1, none⟩ = some (.int .i64 q) := fun xf => ((hF xf).cell (p := ⟨b, 1, none⟩) kb1.lt).trans o1
                have S4 : ∀ xf, (F xf).cell? ⟨b, 13, none⟩ = some (.slice (some ad) m c) := fun xf => ((hF xf).cell (p := ⟨b, 13, none⟩) kb1.lt).trans o13
                have SP : ∀ xf, (F xf).cell? (ad.add (i * 2)) = some (.int .i64 x2) := fun xf => ((hF xf).cell p6).trans p0
                have SQ : ∀ xf, (F xf).cell? ⟨(ad.add (i * 2)).block, (ad.add (i * 2)).off + 1, none⟩ = some (.int .i64 y2) := fun xf => ((hF xf).cell (p := ⟨(ad.add (i * 2)).block, (ad.add (i * 2)).off + 1, none⟩) p6).trans p1
                have HF := Lib.hid hF
                have HT := Lib.hid hT
                clear hF hT
                repeat (first
                  | go_big_quiet_step ((first | (go_at_call 81; exact calls_below HF.out HT.out (HMC.out _)) | (go_at_call 82; exact calls_below HF.out HT.out (HCC.out _)))))
                refine wpQuiet_nil ?_
                intro w' hw'
                obtain ⟨qf, rfl⟩ := hw'
                have bF := HF.out qf
                have kF := kb1.below bF kb1.lt
                have hbF := hb1.trans (bF.mono (by have := kb1.lt; omega))
                have hlF := hl1.below (bF.mono (by have := kb1.lt; omega))
                clear HF HT S0 S1 S2 S3 S4 t0 t1 o0 o1 o13
                go_wp2_with fail
                go_roundw
                case rel => exact ⟨j + 1, by omega, num_succ j (by have := H96.out; omega), fun i hi => by
                  by_cases e : i = j
                  · subst e; exact HGK.out
                  · exact HA.out i (by omega), kF, hlF, hbF⟩
                case measure => exact meas_succ j m hlt (by have := H96.out; omega)
        · skip
          have HNO := Lib.hid (show decide ((x, y) = (n, q)) = false by rw [decide_eq_false_iff_not]; intro h; exact hx (congrArg Prod.fst h))
          by_cases hk0 : j = 0
          · subst hk0
            have hgk : nameAt (n, q) l 0 = true := by rw [HG.out, HMM.out, HNO.out]; rfl
            have HGK := Lib.hid hgk
            clear hgk
            refine wp_region_below (by kernel_rfl) (by kernel_rfl) ?_
            intro T iT F hF hT
            have S0 : ∀ xf, (F xf).cell? ⟨gd, 0, none⟩ = some (.int .i64 x) := fun xf => ((hF xf).cell (p := ⟨gd, 0, none⟩) kx.lt).trans t0
            have S1 : ∀ xf, (F xf).cell? ⟨gd, 1, none⟩ = some (.int .i64 y) := fun xf => ((hF xf).cell (p := ⟨gd, 1, none⟩) kx.lt).trans t1
            have S2 : ∀ xf, (F xf).cell? ⟨b, 0, none⟩ = some (.int .i64 n) := fun xf => ((hF xf).cell (p := ⟨b, 0, none⟩) kb1.lt).trans o0
            have S3 : ∀ xf, (F xf).cell? ⟨b, 1, none⟩ = some (.int .i64 q) := fun xf => ((hF xf).cell (p := ⟨b, 1, none⟩) kb1.lt).trans o1
            have S4 : ∀ xf, (F xf).cell? ⟨b, 13, none⟩ = some (.slice (some ad) m c) := fun xf => ((hF xf).cell (p := ⟨b, 13, none⟩) kb1.lt).trans o13
            have HF := Lib.hid hF
            have HT := Lib.hid hT
            clear hF hT
            repeat (first
              | go_big_quiet_step (((go_at_call 81; exact calls_below HF.out HT.out (HMC.out _)))))
            refine wpQuiet_nil ?_
            intro w' hw'
            obtain ⟨qf, rfl⟩ := hw'
            have bF := HF.out qf
            have kF := kb1.below bF kb1.lt
            have hbF := hb1.trans (bF.mono (by have := kb1.lt; omega))
            have hlF := hl1.below (bF.mono (by have := kb1.lt; omega))
            clear HF HT S0 S1 S2 S3 S4 t0 t1 o0 o1 o13
            go_wp2_with fail
            go_roundw
            case rel => exact ⟨1, by omega, rfl, fun i hi => by
              by_cases e : i = 0
              · subst e; exact HGK.out
              · exact HA.out i (by omega), kF, hlF, hbF⟩
            case measure => simp only [intOf]; omega
          · obtain ⟨i, hmk⟩ : ∃ i, j = i + 1 := ⟨j - 1, by omega⟩
            have hml : i < l.length := by omega
            have hkp : 0 < j := by omega
            have hkq : (0 : Int) < (j : Int) := by omega
            have hwk : IntKind.i64.wrap ((j : Int) - 1) = (i : Int) := by rw [IntKind.wrap_i64]; have := H96.out; omega
            have hm0 : (0 : Int) ≤ (i : Int) := by omega
            have hmn : (i : Int) < (m : Int) := by omega
            obtain ⟨ad2, hae, hdt2⟩ := hl1.2 i _ (List.getElem?_eq_getElem hml)
            injection hae with hae
            subst hae
            have hpe : l.getD i (0, 0) = l[i] := by rw [List.getD_eq_getElem?_getD, List.getElem?_eq_getElem hml]; rfl
            have hg3 : nameAt (n, q) l j = befB l[i] (x, y) := by
              rw [HG.out, HMM.out, HNO.out, decide_eq_false hk0, show j - 1 = i by omega, hpe]
              cases befB l[i] (x, y) <;> rfl
            clear hpe
            generalize l[i] = d at *
            obtain ⟨x2, y2⟩ := d
            obtain ⟨p5, p0, p1⟩ := hdt2
            simp only at p0 p1
            have p6 : (ad.add (i * 2)).block < wn.heap.size := Nat.lt_of_lt_of_le p5 (by have := kb1.lt; omega)
            clear HG
            have HG := Lib.hid hg3
            clear hg3 hmk
            have hcc : ∀ w', Calls Try.prog 82 #[.agg #[.int .i64 x2, .int .i64 y2], .agg #[.int .i64 x, .int .i64 y]] w' fun e w'' => e = .returned (.bool (befB (x2, y2) (x, y))) ∧ Below w'.heap.size w' w'' := fun w' => before_any x2 y2 x y w'
            cases hbf : befB (x2, y2) (x, y)
            case false =>
              have hgk : nameAt (n, q) l j = false := by rw [HG.out, hbf]
              have HGK := Lib.hid hgk
              rw [hbf] at hcc
              have HCC := Lib.hid hcc
              clear hgk hbf hcc
              refine wp_region_below (by kernel_rfl) (by kernel_rfl) ?_
              intro T iT F hF hT
              have S0 : ∀ xf, (F xf).cell? ⟨gd, 0, none⟩ = some (.int .i64 x) := fun xf => ((hF xf).cell (p := ⟨gd, 0, none⟩) kx.lt).trans t0
              have S1 : ∀ xf, (F xf).cell? ⟨gd, 1, none⟩ = some (.int .i64 y) := fun xf => ((hF xf).cell (p := ⟨gd, 1, none⟩) kx.lt).trans t1
              have S2 : ∀ xf, (F xf).cell? ⟨b, 0, none⟩ = some (.int .i64 n) := fun xf => ((hF xf).cell (p := ⟨b, 0, none⟩) kb1.lt).trans o0
              have S3 : ∀ xf, (F xf).cell? ⟨b, 1, none⟩ = some (.int .i64 q) := fun xf => ((hF xf).cell (p := ⟨b, 1, none⟩) kb1.lt).trans o1
              have S4 : ∀ xf, (F xf).cell? ⟨b, 13, none⟩ = some (.slice (some ad) m c) := fun xf => ((hF xf).cell (p := ⟨b, 13, none⟩) kb1.lt).trans o13
              have SP : ∀ xf, (F xf).cell? (ad.add (i * 2)) = some (.int .i64 x2) := fun xf => ((hF xf).cell p6).trans p0
              have SQ : ∀ xf, (F xf).cell? ⟨(ad.add (i * 2)).block, (ad.add (i * 2)).off + 1, none⟩ = some (.int .i64 y2) := fun xf => ((hF xf).cell (p := ⟨(ad.add (i * 2)).block, (ad.add (i * 2)).off + 1, none⟩) p6).trans p1
              have HF := Lib.hid hF
              have HT := Lib.hid hT
              clear hF hT
              repeat (first
                | go_big_quiet_step ((first | (go_at_call 81; exact calls_below HF.out HT.out (HMC.out _)) | (go_at_call 82; exact calls_below HF.out HT.out (HCC.out _)))))
              refine wpQuiet_nil ?_
              intro w' hw'
              obtain ⟨qf, rfl⟩ := hw'
              have bF := HF.out qf
              have kF := kb1.below bF kb1.lt
              have hbF := hb1.trans (bF.mono (by have := kb1.lt; omega))
              have hlF := hl1.below (bF.mono (by have := kb1.lt; omega))
              clear HF HT S0 S1 S2 S3 S4 t0 t1 o0 o1 o13
              go_wp2_with fail
              go_ret
              refine ⟨?_, by rw [← HBE.out]; exact hbF⟩
              rw [HRN.out, name_at hjl HGK.out]
              rfl
            case true =>
              have hgk : nameAt (n, q) l j = true := by rw [HG.out, hbf]
              have HGK := Lib.hid hgk
              rw [hbf] at hcc
              have HCC := Lib.hid hcc
              clear hgk hbf hcc
              refine wp_region_below (by kernel_rfl) (by kernel_rfl) ?_
              intro T iT F hF hT
              have S0 : ∀ xf, (F xf).cell? ⟨gd, 0, none⟩ = some (.int .i64 x) := fun xf => ((hF xf).cell (p := ⟨gd, 0, none⟩) kx.lt).trans t0
              have S1 : ∀ xf, (F xf).cell? ⟨gd, 1, none⟩ = some (.int .i64 y) := fun xf => ((hF xf).cell (p := ⟨gd, 1, none⟩) kx.lt).trans t1
              have S2 : ∀ xf, (F xf).cell? ⟨b, 0, none⟩ = some (.int .i64 n) := fun xf => ((hF xf).cell (p := ⟨b, 0, none⟩) kb1.lt).trans o0
              have S3 : ∀ xf, (F xf).cell? ⟨b, 1, none⟩ = some (.int .i64 q) := fun xf => ((hF xf).cell (p := ⟨b, 1, none⟩) kb1.lt).trans o1
              have S4 : ∀ xf, (F xf).cell? ⟨b, 13, none⟩ = some (.slice (some ad) m c) := fun xf => ((hF xf).cell (p := ⟨b, 13, none⟩) kb1.lt).trans o13
              have SP : ∀ xf, (F xf).cell? (ad.add (i * 2)) = some (.int .i64 x2) := fun xf => ((hF xf).cell p6).trans p0
              have SQ : ∀ xf, (F xf).cell? ⟨(ad.add (i * 2)).block, (ad.add (i * 2)).off + 1, none⟩ = some (.int .i64 y2) := fun xf => ((hF xf).cell (p := ⟨(ad.add (i * 2)).block, (ad.add (i * 2)).off + 1, none⟩) p6).trans p1
              have HF := Lib.hid hF
              have HT := Lib.hid hT
              clear hF hT
              repeat (first
                | go_big_quiet_step ((first | (go_at_call 81; exact calls_below HF.out HT.out (HMC.out _)) | (go_at_call 82; exact calls_below HF.out HT.out (HCC.out _)))))
              refine wpQuiet_nil ?_
              intro w' hw'
              obtain ⟨qf, rfl⟩ := hw'
              have bF := HF.out qf
              have kF := kb1.below bF kb1.lt
              have hbF := hb1.trans (bF.mono (by have := kb1.lt; omega))
              have hlF := hl1.below (bF.mono (by have := kb1.lt; omega))
              clear HF HT S0 S1 S2 S3 S4 t0 t1 o0 o1 o13
              go_wp2_with fail
              go_roundw
              case rel => exact ⟨j + 1, by omega, num_succ j (by have := H96.out; omega), fun i hi => by
                by_cases e : i = j
                · subst e; exact HGK.out
                · exact HA.out i (by omega), kF, hlF, hbF⟩
              case measure => exact meas_succ j m hlt (by have := H96.out; omega)
    · have hne : namedB (n, q) l = true := by
        rw [named_iff]
        exact fun i hi => HA.out i (by have := HM.out; omega)
      have HRK := Lib.hid (show R = K by rw [HRN.out, hne]; rfl)
      have hjd : decide ((j : Int) < (m : Int)) = false := decide_eq_false (by omega)
      have HB4 := Lib.hid hbel
      have hs4 := kb.lt
      obtain ⟨c0, c1, c2, c3, c4, c5, c6, c7, c8, c9, c10, c11, c12, c13⟩ := ecells kb
      clear HRN HA hne kb hl hbel
      by_cases hp0 : p0 = 0
      rotate_left
      · have hz : PZ = false := by rw [HZ.out, decide_eq_false_iff_not]; omega
        by_cases k1 : k = 1
        · have hKv := HK.out
          rw [if_pos k1] at hKv
          clear HK
          have HK := Lib.hid hKv
          clear hKv
          subst k1
          by_cases hv0 : 0 ≤ v
          rotate_left
          · have hvx := Lib.hid (show inB v 0 top = false by rw [← Bool.not_eq_true, inB_iff]; omega)
            have hvd : decide (0 ≤ v) = false := decide_eq_false hv0
            clear hv0
            go_wp2_with fail
            go_ret
            refine ⟨?_, by rw [← HBE.out]; exact HB4.out⟩
            rw [HRK.out, HK.out, hz, hvx.out]
            try rfl
          have hvd : decide (0 ≤ v) = true := decide_eq_true hv0
          by_cases hvt : v ≤ 1099511627776
          rotate_left
          · have hvx := Lib.hid (show inB v 0 top = false by rw [← Bool.not_eq_true, inB_iff]; unfold top; omega)
            have hvd2 : decide (v ≤ 1099511627776) = false := decide_eq_false hvt
            clear hv0 hvt
            go_wp2_with fail
            go_ret
            refine ⟨?_, by rw [← HBE.out]; exact HB4.out⟩
            rw [HRK.out, HK.out, hz, hvx.out]
            try rfl
          have hvd2 : decide (v ≤ 1099511627776) = true := decide_eq_true hvt
          have hvx := Lib.hid (show inB v 0 top = true by rw [inB_iff]; unfold top; omega)
          clear hv0 hvt
          go_wp2_with fail
          go_ret
          refine ⟨?_, by rw [← HBE.out]; exact HB4.out⟩
          rw [HRK.out, HK.out, hz, hvx.out]
          try rfl
        by_cases k2 : k = 2
        · have hKv := HK.out
          rw [if_neg k1, if_pos k2] at hKv
          clear HK
          have HK := Lib.hid hKv
          clear hKv
          subst k2
          clear k1
          by_cases hv : v = 0
          · have hKv := HK.out
            rw [decide_eq_true hv] at hKv
            clear HK
            have HK := Lib.hid hKv
            clear hKv
            subst hv
            go_wp2_with fail
            refine (HP.out _).mono ?_
            rintro e w5 ⟨rfl, b5⟩
            have hb5 := HB4.out.trans (b5.mono (by have := HB4.out.size; omega))
            go_wp2_with fail
            go_ret
            refine ⟨?_, by rw [← HBE.out]; exact hb5⟩
            rw [HRK.out, HK.out]
            cases PB <;> rfl
          have hv2 : (v == (0 : Int)) = false := by rw [beq_eq_false_iff_ne]; exact hv
          go_wp2_with fail
          go_ret
          refine ⟨?_, by rw [← HBE.out]; exact HB4.out⟩
          rw [HRK.out, HK.out, decide_eq_false hv]
          cases PB <;> rfl
        by_cases k3 : k = 3
        · have hKv := HK.out
          rw [if_neg k1, if_neg k2, if_pos k3] at hKv
          clear HK
          have HK := Lib.hid hKv
          clear hKv
          subst k3
          clear k1 k2
          by_cases hv : v = 0
          · have hKv := HK.out
            rw [decide_eq_true hv] at hKv
            clear HK
            have HK := Lib.hid hKv
            clear hKv
            subst hv
            go_wp2_with fail
            go_ret
            refine ⟨?_, by rw [← HBE.out]; exact HB4.out⟩
            rw [HRK.out, HK.out, hz]
            try rfl
          have hv2 : (v == (0 : Int)) = false := by rw [beq_eq_false_iff_ne]; exact hv
          go_wp2_with fail
          go_ret
          refine ⟨?_, by rw [← HBE.out]; exact HB4.out⟩
          rw [HRK.out, HK.out, hz, decide_eq_false hv]
          try rfl
        go_wp2_with fail
        go_ret
        refine ⟨?_, by rw [← HBE.out]; exact HB4.out⟩
        rw [HRK.out, HK.out, if_neg k1, if_neg k2, if_neg k3]
        try rfl
      subst hp0
      by_cases hp1 : p1 = 0
      rotate_left
      · have hz : PZ = false := by rw [HZ.out, decide_eq_false_iff_not]; omega
        by_cases k1 : k = 1
        · have hKv := HK.out
          rw [if_pos k1] at hKv
          clear HK
          have HK := Lib.hid hKv
          clear hKv
          subst k1
          by_cases hv0 : 0 ≤ v
          rotate_left
          · have hvx := Lib.hid (show inB v 0 top = false by rw [← Bool.not_eq_true, inB_iff]; omega)
            have hvd : decide (0 ≤ v) = false := decide_eq_false hv0
            clear hv0
            go_wp2_with fail
            go_ret
            refine ⟨?_, by rw [← HBE.out]; exact HB4.out⟩
            rw [HRK.out, HK.out, hz, hvx.out]
            try rfl
          have hvd : decide (0 ≤ v) = true := decide_eq_true hv0
          by_cases hvt : v ≤ 1099511627776
          rotate_left
          · have hvx := Lib.hid (show inB v 0 top = false by rw [← Bool.not_eq_true, inB_iff]; unfold top; omega)
            have hvd2 : decide (v ≤ 1099511627776) = false := decide_eq_false hvt
            clear hv0 hvt
            go_wp2_with fail
            go_ret
            refine ⟨?_, by rw [← HBE.out]; exact HB4.out⟩
            rw [HRK.out, HK.out, hz, hvx.out]
            try rfl
          have hvd2 : decide (v ≤ 1099511627776) = true := decide_eq_true hvt
          have hvx := Lib.hid (show inB v 0 top = true by rw [inB_iff]; unfold top; omega)
          clear hv0 hvt
          go_wp2_with fail
          go_ret
          refine ⟨?_, by rw [← HBE.out]; exact HB4.out⟩
          rw [HRK.out, HK.out, hz, hvx.out]
          try rfl
        by_cases k2 : k = 2
        · have hKv := HK.out
          rw [if_neg k1, if_pos k2] at hKv
          clear HK
          have HK := Lib.hid hKv
          clear hKv
          subst k2
          clear k1
          by_cases hv : v = 0
          · have hKv := HK.out
            rw [decide_eq_true hv] at hKv
            clear HK
            have HK := Lib.hid hKv
            clear hKv
            subst hv
            go_wp2_with fail
            refine (HP.out _).mono ?_
            rintro e w5 ⟨rfl, b5⟩
            have hb5 := HB4.out.trans (b5.mono (by have := HB4.out.size; omega))
            go_wp2_with fail
            go_ret
            refine ⟨?_, by rw [← HBE.out]; exact hb5⟩
            rw [HRK.out, HK.out]
            cases PB <;> rfl
          have hv2 : (v == (0 : Int)) = false := by rw [beq_eq_false_iff_ne]; exact hv
          go_wp2_with fail
          go_ret
          refine ⟨?_, by rw [← HBE.out]; exact HB4.out⟩
          rw [HRK.out, HK.out, decide_eq_false hv]
          cases PB <;> rfl
        by_cases k3 : k = 3
        · have hKv := HK.out
          rw [if_neg k1, if_neg k2, if_pos k3] at hKv
          clear HK
          have HK := Lib.hid hKv
          clear hKv
          subst k3
          clear k1 k2
          by_cases hv : v = 0
          · have hKv := HK.out
            rw [decide_eq_true hv] at hKv
            clear HK
            have HK := Lib.hid hKv
            clear hKv
            subst hv
            go_wp2_with fail
            go_ret
            refine ⟨?_, by rw [← HBE.out]; exact HB4.out⟩
            rw [HRK.out, HK.out, hz]
            try rfl
          have hv2 : (v == (0 : Int)) = false := by rw [beq_eq_false_iff_ne]; exact hv
          go_wp2_with fail
          go_ret
          refine ⟨?_, by rw [← HBE.out]; exact HB4.out⟩
          rw [HRK.out, HK.out, hz, decide_eq_false hv]
          try rfl
        go_wp2_with fail
        go_ret
        refine ⟨?_, by rw [← HBE.out]; exact HB4.out⟩
        rw [HRK.out, HK.out, if_neg k1, if_neg k2, if_neg k3]
        try rfl
      subst hp1
      by_cases hp2 : p2 = 0
      rotate_left
      · have hz : PZ = false := by rw [HZ.out, decide_eq_false_iff_not]; omega
        by_cases k1 : k = 1
        · have hKv := HK.out
          rw [if_pos k1] at hKv
          clear HK
          have HK := Lib.hid hKv
          clear hKv
          subst k1
          by_cases hv0 : 0 ≤ v
          rotate_left
          · have hvx := Lib.hid (show inB v 0 top = false by rw [← Bool.not_eq_true, inB_iff]; omega)
            have hvd : decide (0 ≤ v) = false := decide_eq_false hv0
            clear hv0
            go_wp2_with fail
            go_ret
            refine ⟨?_, by rw [← HBE.out]; exact HB4.out⟩
            rw [HRK.out, HK.out, hz, hvx.out]
            try rfl
          have hvd : decide (0 ≤ v) = true := decide_eq_true hv0
          by_cases hvt : v ≤ 1099511627776
          rotate_left
          · have hvx := Lib.hid (show inB v 0 top = false by rw [← Bool.not_eq_true, inB_iff]; unfold top; omega)
            have hvd2 : decide (v ≤ 1099511627776) = false := decide_eq_false hvt
            clear hv0 hvt
            go_wp2_with fail
            go_ret
            refine ⟨?_, by rw [← HBE.out]; exact HB4.out⟩
            rw [HRK.out, HK.out, hz, hvx.out]
            try rfl
          have hvd2 : decide (v ≤ 1099511627776) = true := decide_eq_true hvt
          have hvx := Lib.hid (show inB v 0 top = true by rw [inB_iff]; unfold top; omega)
          clear hv0 hvt
          go_wp2_with fail
          go_ret
          refine ⟨?_, by rw [← HBE.out]; exact HB4.out⟩
          rw [HRK.out, HK.out, hz, hvx.out]
          try rfl
        by_cases k2 : k = 2
        · have hKv := HK.out
          rw [if_neg k1, if_pos k2] at hKv
          clear HK
          have HK := Lib.hid hKv
          clear hKv
          subst k2
          clear k1
          by_cases hv : v = 0
          · have hKv := HK.out
            rw [decide_eq_true hv] at hKv
            clear HK
            have HK := Lib.hid hKv
            clear hKv
            subst hv
            go_wp2_with fail
            refine (HP.out _).mono ?_
            rintro e w5 ⟨rfl, b5⟩
            have hb5 := HB4.out.trans (b5.mono (by have := HB4.out.size; omega))
            go_wp2_with fail
            go_ret
            refine ⟨?_, by rw [← HBE.out]; exact hb5⟩
            rw [HRK.out, HK.out]
            cases PB <;> rfl
          have hv2 : (v == (0 : Int)) = false := by rw [beq_eq_false_iff_ne]; exact hv
          go_wp2_with fail
          go_ret
          refine ⟨?_, by rw [← HBE.out]; exact HB4.out⟩
          rw [HRK.out, HK.out, decide_eq_false hv]
          cases PB <;> rfl
        by_cases k3 : k = 3
        · have hKv := HK.out
          rw [if_neg k1, if_neg k2, if_pos k3] at hKv
          clear HK
          have HK := Lib.hid hKv
          clear hKv
          subst k3
          clear k1 k2
          by_cases hv : v = 0
          · have hKv := HK.out
            rw [decide_eq_true hv] at hKv
            clear HK
            have HK := Lib.hid hKv
            clear hKv
            subst hv
            go_wp2_with fail
            go_ret
            refine ⟨?_, by rw [← HBE.out]; exact HB4.out⟩
            rw [HRK.out, HK.out, hz]
            try rfl
          have hv2 : (v == (0 : Int)) = false := by rw [beq_eq_false_iff_ne]; exact hv
          go_wp2_with fail
          go_ret
          refine ⟨?_, by rw [← HBE.out]; exact HB4.out⟩
          rw [HRK.out, HK.out, hz, decide_eq_false hv]
          try rfl
        go_wp2_with fail
        go_ret
        refine ⟨?_, by rw [← HBE.out]; exact HB4.out⟩
        rw [HRK.out, HK.out, if_neg k1, if_neg k2, if_neg k3]
        try rfl
      subst hp2
      by_cases hp3 : p3 = 0
      rotate_left
      · have hz : PZ = false := by rw [HZ.out, decide_eq_false_iff_not]; omega
        by_cases k1 : k = 1
        · have hKv := HK.out
          rw [if_pos k1] at hKv
          clear HK
          have HK := Lib.hid hKv
          clear hKv
          subst k1
          by_cases hv0 : 0 ≤ v
          rotate_left
          · have hvx := Lib.hid (show inB v 0 top = false by rw [← Bool.not_eq_true, inB_iff]; omega)
            have hvd : decide (0 ≤ v) = false := decide_eq_false hv0
            clear hv0
            go_wp2_with fail
            go_ret
            refine ⟨?_, by rw [← HBE.out]; exact HB4.out⟩
            rw [HRK.out, HK.out, hz, hvx.out]
            try rfl
          have hvd : decide (0 ≤ v) = true := decide_eq_true hv0
          by_cases hvt : v ≤ 1099511627776
          rotate_left
          · have hvx := Lib.hid (show inB v 0 top = false by rw [← Bool.not_eq_true, inB_iff]; unfold top; omega)
            have hvd2 : decide (v ≤ 1099511627776) = false := decide_eq_false hvt
            clear hv0 hvt
            go_wp2_with fail
            go_ret
            refine ⟨?_, by rw [← HBE.out]; exact HB4.out⟩
            rw [HRK.out, HK.out, hz, hvx.out]
            try rfl
          have hvd2 : decide (v ≤ 1099511627776) = true := decide_eq_true hvt
          have hvx := Lib.hid (show inB v 0 top = true by rw [inB_iff]; unfold top; omega)
          clear hv0 hvt
          go_wp2_with fail
          go_ret
          refine ⟨?_, by rw [← HBE.out]; exact HB4.out⟩
          rw [HRK.out, HK.out, hz, hvx.out]
          try rfl
        by_cases k2 : k = 2
        · have hKv := HK.out
          rw [if_neg k1, if_pos k2] at hKv
          clear HK
          have HK := Lib.hid hKv
          clear hKv
          subst k2
          clear k1
          by_cases hv : v = 0
          · have hKv := HK.out
            rw [decide_eq_true hv] at hKv
            clear HK
            have HK := Lib.hid hKv
            clear hKv
            subst hv
            go_wp2_with fail
            refine (HP.out _).mono ?_
            rintro e w5 ⟨rfl, b5⟩
            have hb5 := HB4.out.trans (b5.mono (by have := HB4.out.size; omega))
            go_wp2_with fail
            go_ret
            refine ⟨?_, by rw [← HBE.out]; exact hb5⟩
            rw [HRK.out, HK.out]
            cases PB <;> rfl
          have hv2 : (v == (0 : Int)) = false := by rw [beq_eq_false_iff_ne]; exact hv
          go_wp2_with fail
          go_ret
          refine ⟨?_, by rw [← HBE.out]; exact HB4.out⟩
          rw [HRK.out, HK.out, decide_eq_false hv]
          cases PB <;> rfl
        by_cases k3 : k = 3
        · have hKv := HK.out
          rw [if_neg k1, if_neg k2, if_pos k3] at hKv
          clear HK
          have HK := Lib.hid hKv
          clear hKv
          subst k3
          clear k1 k2
          by_cases hv : v = 0
          · have hKv := HK.out
            rw [decide_eq_true hv] at hKv
            clear HK
            have HK := Lib.hid hKv
            clear hKv
            subst hv
            go_wp2_with fail
            go_ret
            refine ⟨?_, by rw [← HBE.out]; exact HB4.out⟩
            rw [HRK.out, HK.out, hz]
            try rfl
          have hv2 : (v == (0 : Int)) = false := by rw [beq_eq_false_iff_ne]; exact hv
          go_wp2_with fail
          go_ret
          refine ⟨?_, by rw [← HBE.out]; exact HB4.out⟩
          rw [HRK.out, HK.out, hz, decide_eq_false hv]
          try rfl
        go_wp2_with fail
        go_ret
        refine ⟨?_, by rw [← HBE.out]; exact HB4.out⟩
        rw [HRK.out, HK.out, if_neg k1, if_neg k2, if_neg k3]
        try rfl
      subst hp3
      by_cases hp4 : p4 = 0
      rotate_left
      · have hz : PZ = false := by rw [HZ.out, decide_eq_false_iff_not]; omega
        by_cases k1 : k = 1
        · have hKv := HK.out
          rw [if_pos k1] at hKv
          clear HK
          have HK := Lib.hid hKv
          clear hKv
          subst k1
          by_cases hv0 : 0 ≤ v
          rotate_left
          · have hvx := Lib.hid (show inB v 0 top = false by rw [← Bool.not_eq_true, inB_iff]; omega)
            have hvd : decide (0 ≤ v) = false := decide_eq_false hv0
            clear hv0
            go_wp2_with fail
            go_ret
            refine ⟨?_, by rw [← HBE.out]; exact HB4.out⟩
            rw [HRK.out, HK.out, hz, hvx.out]
            try rfl
          have hvd : decide (0 ≤ v) = true := decide_eq_true hv0
          by_cases hvt : v ≤ 1099511627776
          rotate_left
          · have hvx := Lib.hid (show inB v 0 top = false by rw [← Bool.not_eq_true, inB_iff]; unfold top; omega)
            have hvd2 : decide (v ≤ 1099511627776) = false := decide_eq_false hvt
            clear hv0 hvt
            go_wp2_with fail
            go_ret
            refine ⟨?_, by rw [← HBE.out]; exact HB4.out⟩
            rw [HRK.out, HK.out, hz, hvx.out]
            try rfl
          have hvd2 : decide (v ≤ 1099511627776) = true := decide_eq_true hvt
          have hvx := Lib.hid (show inB v 0 top = true by rw [inB_iff]; unfold top; omega)
          clear hv0 hvt
          go_wp2_with fail
          go_ret
          refine ⟨?_, by rw [← HBE.out]; exact HB4.out⟩
          rw [HRK.out, HK.out, hz, hvx.out]
          try rfl
        by_cases k2 : k = 2
        · have hKv := HK.out
          rw [if_neg k1, if_pos k2] at hKv
          clear HK
          have HK := Lib.hid hKv
          clear hKv
          subst k2
          clear k1
          by_cases hv : v = 0
          · have hKv := HK.out
            rw [decide_eq_true hv] at hKv
            clear HK
            have HK := Lib.hid hKv
            clear hKv
            subst hv
            go_wp2_with fail
            refine (HP.out _).mono ?_
            rintro e w5 ⟨rfl, b5⟩
            have hb5 := HB4.out.trans (b5.mono (by have := HB4.out.size; omega))
            go_wp2_with fail
            go_ret
            refine ⟨?_, by rw [← HBE.out]; exact hb5⟩
            rw [HRK.out, HK.out]
            cases PB <;> rfl
          have hv2 : (v == (0 : Int)) = false := by rw [beq_eq_false_iff_ne]; exact hv
          go_wp2_with fail
          go_ret
          refine ⟨?_, by rw [← HBE.out]; exact HB4.out⟩
          rw [HRK.out, HK.out, decide_eq_false hv]
          cases PB <;> rfl
        by_cases k3 : k = 3
        · have hKv := HK.out
          rw [if_neg k1, if_neg k2, if_pos k3] at hKv
          clear HK
          have HK := Lib.hid hKv
          clear hKv
          subst k3
          clear k1 k2
          by_cases hv : v = 0
          · have hKv := HK.out
            rw [decide_eq_true hv] at hKv
            clear HK
            have HK := Lib.hid hKv
            clear hKv
            subst hv
            go_wp2_with fail
            go_ret
            refine ⟨?_, by rw [← HBE.out]; exact HB4.out⟩
            rw [HRK.out, HK.out, hz]
            try rfl
          have hv2 : (v == (0 : Int)) = false := by rw [beq_eq_false_iff_ne]; exact hv
          go_wp2_with fail
          go_ret
          refine ⟨?_, by rw [← HBE.out]; exact HB4.out⟩
          rw [HRK.out, HK.out, hz, decide_eq_false hv]
          try rfl
        go_wp2_with fail
        go_ret
        refine ⟨?_, by rw [← HBE.out]; exact HB4.out⟩
        rw [HRK.out, HK.out, if_neg k1, if_neg k2, if_neg k3]
        try rfl
      subst hp4
      by_cases hp5 : p5 = 0
      rotate_left
      · have hz : PZ = false := by rw [HZ.out, decide_eq_false_iff_not]; omega
        by_cases k1 : k = 1
        · have hKv := HK.out
          rw [if_pos k1] at hKv
          clear HK
          have HK := Lib.hid hKv
          clear hKv
          subst k1
          by_cases hv0 : 0 ≤ v
          rotate_left
          · have hvx := Lib.hid (show inB v 0 top = false by rw [← Bool.not_eq_true, inB_iff]; omega)
            have hvd : decide (0 ≤ v) = false := decide_eq_false hv0
            clear hv0
            go_wp2_with fail
            go_ret
            refine ⟨?_, by rw [← HBE.out]; exact HB4.out⟩
            rw [HRK.out, HK.out, hz, hvx.out]
            try rfl
          have hvd : decide (0 ≤ v) = true := decide_eq_true hv0
          by_cases hvt : v ≤ 1099511627776
          rotate_left
          · have hvx := Lib.hid (show inB v 0 top = false by rw [← Bool.not_eq_true, inB_iff]; unfold top; omega)
            have hvd2 : decide (v ≤ 1099511627776) = false := decide_eq_false hvt
            clear hv0 hvt
            go_wp2_with fail
            go_ret
            refine ⟨?_, by rw [← HBE.out]; exact HB4.out⟩
            rw [HRK.out, HK.out, hz, hvx.out]
            try rfl
          have hvd2 : decide (v ≤ 1099511627776) = true := decide_eq_true hvt
          have hvx := Lib.hid (show inB v 0 top = true by rw [inB_iff]; unfold top; omega)
          clear hv0 hvt
          go_wp2_with fail
          go_ret
          refine ⟨?_, by rw [← HBE.out]; exact HB4.out⟩
          rw [HRK.out, HK.out, hz, hvx.out]
          try rfl
        by_cases k2 : k = 2
        · have hKv := HK.out
          rw [if_neg k1, if_pos k2] at hKv
          clear HK
          have HK := Lib.hid hKv
          clear hKv
          subst k2
          clear k1
          by_cases hv : v = 0
          · have hKv := HK.out
            rw [decide_eq_true hv] at hKv
            clear HK
            have HK := Lib.hid hKv
            clear hKv
            subst hv
            go_wp2_with fail
            refine (HP.out _).mono ?_
            rintro e w5 ⟨rfl, b5⟩
            have hb5 := HB4.out.trans (b5.mono (by have := HB4.out.size; omega))
            go_wp2_with fail
            go_ret
            refine ⟨?_, by rw [← HBE.out]; exact hb5⟩
            rw [HRK.out, HK.out]
            cases PB <;> rfl
          have hv2 : (v == (0 : Int)) = false := by rw [beq_eq_false_iff_ne]; exact hv
          go_wp2_with fail
          go_ret
          refine ⟨?_, by rw [← HBE.out]; exact HB4.out⟩
          rw [HRK.out, HK.out, decide_eq_false hv]
          cases PB <;> rfl
        by_cases k3 : k = 3
        · have hKv := HK.out
          rw [if_neg k1, if_neg k2, if_pos k3] at hKv
          clear HK
          have HK := Lib.hid hKv
          clear hKv
          subst k3
          clear k1 k2
          by_cases hv : v = 0
          · have hKv := HK.out
            rw [decide_eq_true hv] at hKv
            clear HK
            have HK := Lib.hid hKv
            clear hKv
            subst hv
            go_wp2_with fail
            go_ret
            refine ⟨?_, by rw [← HBE.out]; exact HB4.out⟩
            rw [HRK.out, HK.out, hz]
            try rfl
          have hv2 : (v == (0 : Int)) = false := by rw [beq_eq_false_iff_ne]; exact hv
          go_wp2_with fail
          go_ret
          refine ⟨?_, by rw [← HBE.out]; exact HB4.out⟩
          rw [HRK.out, HK.out, hz, decide_eq_false hv]
          try rfl
        go_wp2_with fail
        go_ret
        refine ⟨?_, by rw [← HBE.out]; exact HB4.out⟩
        rw [HRK.out, HK.out, if_neg k1, if_neg k2, if_neg k3]
        try rfl
      subst hp5
      by_cases hp6 : p6 = 0
      rotate_left
      · have hz : PZ = false := by rw [HZ.out, decide_eq_false_iff_not]; omega
        by_cases k1 : k = 1
        · have hKv := HK.out
          rw [if_pos k1] at hKv
          clear HK
          have HK := Lib.hid hKv
          clear hKv
          subst k1
          by_cases hv0 : 0 ≤ v
          rotate_left
          · have hvx := Lib.hid (show inB v 0 top = false by rw [← Bool.not_eq_true, inB_iff]; omega)
            have hvd : decide (0 ≤ v) = false := decide_eq_false hv0
            clear hv0
            go_wp2_with fail
            go_ret
            refine ⟨?_, by rw [← HBE.out]; exact HB4.out⟩
            rw [HRK.out, HK.out, hz, hvx.out]
            try rfl
          have hvd : decide (0 ≤ v) = true := decide_eq_true hv0
          by_cases hvt : v ≤ 1099511627776
          rotate_left
          · have hvx := Lib.hid (show inB v 0 top = false by rw [← Bool.not_eq_true, inB_iff]; unfold top; omega)
            have hvd2 : decide (v ≤ 1099511627776) = false := decide_eq_false hvt
            clear hv0 hvt
            go_wp2_with fail
            go_ret
            refine ⟨?_, by rw [← HBE.out]; exact HB4.out⟩
            rw [HRK.out, HK.out, hz, hvx.out]
            try rfl
          have hvd2 : decide (v ≤ 1099511627776) = true := decide_eq_true hvt
          have hvx := Lib.hid (show inB v 0 top = true by rw [inB_iff]; unfold top; omega)
          clear hv0 hvt
          go_wp2_with fail
          go_ret
          refine ⟨?_, by rw [← HBE.out]; exact HB4.out⟩
          rw [HRK.out, HK.out, hz, hvx.out]
          try rfl
        by_cases k2 : k = 2
        · have hKv := HK.out
          rw [if_neg k1, if_pos k2] at hKv
          clear HK
          have HK := Lib.hid hKv
          clear hKv
          subst k2
          clear k1
          by_cases hv : v = 0
          · have hKv := HK.out
            rw [decide_eq_true hv] at hKv
            clear HK
            have HK := Lib.hid hKv
            clear hKv
            subst hv
            go_wp2_with fail
            refine (HP.out _).mono ?_
            rintro e w5 ⟨rfl, b5⟩
            have hb5 := HB4.out.trans (b5.mono (by have := HB4.out.size; omega))
            go_wp2_with fail
            go_ret
            refine ⟨?_, by rw [← HBE.out]; exact hb5⟩
            rw [HRK.out, HK.out]
            cases PB <;> rfl
          have hv2 : (v == (0 : Int)) = false := by rw [beq_eq_false_iff_ne]; exact hv
          go_wp2_with fail
          go_ret
          refine ⟨?_, by rw [← HBE.out]; exact HB4.out⟩
          rw [HRK.out, HK.out, decide_eq_false hv]
          cases PB <;> rfl
        by_cases k3 : k = 3
        · have hKv := HK.out
          rw [if_neg k1, if_neg k2, if_pos k3] at hKv
          clear HK
          have HK := Lib.hid hKv
          clear hKv
          subst k3
          clear k1 k2
          by_cases hv : v = 0
          · have hKv := HK.out
            rw [decide_eq_true hv] at hKv
            clear HK
            have HK := Lib.hid hKv
            clear hKv
            subst hv
            go_wp2_with fail
            go_ret
            refine ⟨?_, by rw [← HBE.out]; exact HB4.out⟩
            rw [HRK.out, HK.out, hz]
            try rfl
          have hv2 : (v == (0 : Int)) = false := by rw [beq_eq_false_iff_ne]; exact hv
          go_wp2_with fail
          go_ret
          refine ⟨?_, by rw [← HBE.out]; exact HB4.out⟩
          rw [HRK.out, HK.out, hz, decide_eq_false hv]
          try rfl
        go_wp2_with fail
        go_ret
        refine ⟨?_, by rw [← HBE.out]; exact HB4.out⟩
        rw [HRK.out, HK.out, if_neg k1, if_neg k2, if_neg k3]
        try rfl
      subst hp6
      have hz : PZ = true := by rw [HZ.out]; simp
      by_cases k1 : k = 1
      · have hKv := HK.out
        rw [if_pos k1] at hKv
        clear HK
        have HK := Lib.hid hKv
        clear hKv
        subst k1
        by_cases hv0 : 0 ≤ v
        rotate_left
        · have hvx := Lib.hid (show inB v 0 top = false by rw [← Bool.not_eq_true, inB_iff]; omega)
          have hvd : decide (0 ≤ v) = false := decide_eq_false hv0
          clear hv0
          go_wp2_with fail
          go_ret
          refine ⟨?_, by rw [← HBE.out]; exact HB4.out⟩
          rw [HRK.out, HK.out, hz, hvx.out]
          try rfl
        have hvd : decide (0 ≤ v) = true := decide_eq_true hv0
        by_cases hvt : v ≤ 1099511627776
        rotate_left
        · have hvx := Lib.hid (show inB v 0 top = false by rw [← Bool.not_eq_true, inB_iff]; unfold top; omega)
          have hvd2 : decide (v ≤ 1099511627776) = false := decide_eq_false hvt
          clear hv0 hvt
          go_wp2_with fail
          go_ret
          refine ⟨?_, by rw [← HBE.out]; exact HB4.out⟩
          rw [HRK.out, HK.out, hz, hvx.out]
          try rfl
        have hvd2 : decide (v ≤ 1099511627776) = true := decide_eq_true hvt
        have hvx := Lib.hid (show inB v 0 top = true by rw [inB_iff]; unfold top; omega)
        clear hv0 hvt
        by_cases hm0 : m = 0
        · subst hm0
          have hl0 : l = [] := List.length_eq_zero_iff.1 HM.out.symm
          go_wp2_with fail
          go_ret
          refine ⟨?_, by rw [← HBE.out]; exact HB4.out⟩
          rw [HRK.out, HK.out, hz, hvx.out, decide_eq_true hl0]
          try rfl
        have hl0 : ¬ l = [] := fun h => hm0 (by rw [HM.out, h]; rfl)
        have hm1 : ((m : Int) == (0 : Int)) = false := by rw [beq_eq_false_iff_ne]; omega
        go_wp2_with fail
        go_ret
        refine ⟨?_, by rw [← HBE.out]; exact HB4.out⟩
        rw [HRK.out, HK.out, hz, hvx.out, decide_eq_false hl0]
        try rfl
      by_cases k2 : k = 2
      · have hKv := HK.out
        rw [if_neg k1, if_pos k2] at hKv
        clear HK
        have HK := Lib.hid hKv
        clear hKv
        subst k2
        clear k1
        by_cases hv : v = 0
        · have hKv := HK.out
          rw [decide_eq_true hv] at hKv
          clear HK
          have HK := Lib.hid hKv
          clear hKv
          subst hv
          go_wp2_with fail
          refine (HP.out _).mono ?_
          rintro e w5 ⟨rfl, b5⟩
          have hb5 := HB4.out.trans (b5.mono (by have := HB4.out.size; omega))
          go_wp2_with fail
          go_ret
          refine ⟨?_, by rw [← HBE.out]; exact hb5⟩
          rw [HRK.out, HK.out]
          cases PB <;> rfl
        have hv2 : (v == (0 : Int)) = false := by rw [beq_eq_false_iff_ne]; exact hv
        go_wp2_with fail
        go_ret
        refine ⟨?_, by rw [← HBE.out]; exact HB4.out⟩
        rw [HRK.out, HK.out, decide_eq_false hv]
        cases PB <;> rfl
      by_cases k3 : k = 3
      · have hKv := HK.out
        rw [if_neg k1, if_neg k2, if_pos k3] at hKv
        clear HK
        have HK := Lib.hid hKv
        clear hKv
        subst k3
        clear k1 k2
        by_cases hv : v = 0
        · have hKv := HK.out
          rw [decide_eq_true hv] at hKv
          clear HK
          have HK := Lib.hid hKv
          clear hKv
          subst hv
          go_wp2_with fail
          go_ret
          refine ⟨?_, by rw [← HBE.out]; exact HB4.out⟩
          rw [HRK.out, HK.out, hz]
          try rfl
        have hv2 : (v == (0 : Int)) = false := by rw [beq_eq_false_iff_ne]; exact hv
        go_wp2_with fail
        go_ret
        refine ⟨?_, by rw [← HBE.out]; exact HB4.out⟩
        rw [HRK.out, HK.out, hz, decide_eq_false hv]
        try rfl
      go_wp2_with fail
      go_ret
      refine ⟨?_, by rw [← HBE.out]; exact HB4.out⟩
      rw [HRK.out, HK.out, if_neg k1, if_neg k2, if_neg k3]
      try rfl
end Go.Proofs.Ytcgalmnllegnbaa

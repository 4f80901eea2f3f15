/- The walks of store's write, Next, Bump, Upto. -/
import Derived.Test.YtfpenfgmpbdakaaStoWalks
import Derived.Test.YtfpenfgmpbdakaaDiskWords
namespace Go.Proofs.Ytfpenfgmpbdakaa
set_option linter.unusedVariables false
set_option linter.unusedSimpArgs false
set_option maxRecDepth 100000
open Go.RowKit
open Disk
namespace Sto
open _root_.Go.Proofs.Ytfpenfgmpbdakaa.Log (writeM LogEnd lwrite_any)
open _root_.Go.Proofs.Ytfpenfgmpbdakaa.Frame (frm frms frms_nil frms_cons frms_snoc frms_append frm_length frm_pos Parts AllF)
/-- what a store has: the bytes on its disk, what is used, up to where it goes, the incarnation -/
structure Sd where
  b : List UInt8
  used : Nat
  upto : Nat
  inc : Nat
def StoAt (w : World) (F : Nat → Prop) (b g size : Nat) (S : Sd) (E : Value) : Prop := DiskAt w F g size S.b [] ∧ Blk w b 44 (sc g S.used S.upto S.inc E) ∧ ¬ F b
/-- an operation's end -/
def StoOp (w : World) (F : Nat → Prop) (b g size : Nat) (S : Sd) (E : Value) (w' : World) : Prop := ∃ F', StoAt w' F' b g size S E ∧ Only (fun k => F k ∨ k = b) w w' ∧ Grows F F' w
/-- in the midst of an operation -/
structure SW (w : World) (F : Nat → Prop) (b g size : Nat) (S : Sd) (E : Value) (F1 : Nat → Prop) (w1 : World) : Prop where
  disk : DiskAt w1 F1 g size S.b []
  blk : Blk w1 b 44 (sc g S.used S.upto S.inc E)
  only : Only (fun k => F k ∨ k = b) w w1
  grows : Grows F F1 w
  nf : ¬ F b
  lt : b < w.heap.size
  fl : ∀ k, F k → k < w.heap.size
section
variable {w w0 w1 w2 : World} {F F1 : Nat → Prop} {b g size : Nat} {S : Sd} {E : Value} {l : List UInt8}
theorem StoAt.sw (h : StoAt w F b g size S E) : SW w F b g size S E F w := ⟨h.1, h.2.1, Only.refl _ _, Grows.refl _ _, h.2.2, h.2.1.lt, h.1.lt⟩
theorem StoAt.below (h : StoAt w F b g size S E) (hb : Below w.heap.size w w1) : StoAt w1 F b g size S E := ⟨h.1.below hb, h.2.1.below hb h.2.1.lt, h.2.2⟩
theorem SW.nb (h : SW w F b g size S E F1 w1) : ¬ F1 b := fun hk => by
  rcases h.grows _ hk with q | q
  · exact h.nf q
  · have := h.lt; omega
theorem SW.below (h : SW w F b g size S E F1 w1) (hb : Below w1.heap.size w1 w2) : SW w F b g size S E F1 w2 :=
  ⟨h.disk.below hb, h.blk.below hb h.blk.lt, h.only.then_below (hb.mono h.only.size), h.grows, h.nf, h.lt, h.fl⟩
theorem SW.op (h : SW w F b g size S E F1 w1) (ho : DiskOp w1 F1 g size l [] w2) : ∃ F2, SW w F b g size { S with b := l } E F2 w2 := by
  obtain ⟨F2, o1, o2, o3⟩ := ho
  refine ⟨F2, o1, h.blk.only o2 h.nb, ?_, ?_, h.nf, h.lt, h.fl⟩
  · refine h.only.trans (o2.mono (G := fun k => F1 k ∨ k = b) fun k hk => .inl (.inl hk)) fun k hk => ?_
    rcases hk with hk | hk
    · rcases h.grows k hk with q | q
      · exact .inl (.inl q)
      · exact .inr q
    · exact .inl (.inr hk)
  · exact h.grows.trans o3 h.only.size
theorem SW.set_ {u' v' i' : Nat} (h : SW w F b g size S E F1 w1) {i : Nat} {x : Value} (hk : Blk (w1.setCell ⟨b, i, none⟩ x) b 44 (sc g u' v' i' E)) : SW w F b g size ⟨S.b, u', v', i'⟩ E F1 (w1.setCell ⟨b, i, none⟩ x) :=
  ⟨h.disk.keep ⟨by simp [World.setCell], fun k hk => Below.heap_setCell w1 _ _ k (fun e => h.nb (by have e : k = b := e; rw [← e]; exact hk))⟩, hk, h.only.setCell (.inl (.inr rfl)) x, h.grows, h.nf, h.lt, h.fl⟩
theorem SW.drew (h : SW w F b g size S E F1 w1) : SW w F b g size S E F1 w1.drew := h.below (Below.refl _ _).drew
theorem SW.drewN (h : SW w F b g size S E F1 w1) (n : Nat) : SW w F b g size S E F1 (w1.drewN n) := h.below (below_drewN (Below.refl _ _) n)
theorem SW.nk (h : SW w F b g size S E F1 w1) {k : Nat} (hk : k < w.heap.size) (hF : ¬ F k) : ¬ F1 k := fun q => by
  rcases h.grows _ q with x | x
  · exact hF x
  · omega
theorem SW.fin (h : SW w0 F b g size S E F1 w1) (hb : Below w.heap.size w w0) (hl : b < w.heap.size) (hf : ∀ k, F k → k < w.heap.size) : StoOp w F b g size S E w1 :=
  ⟨F1, ⟨h.disk, h.blk, h.nb⟩, (Only.of_below _ hb).trans h.only (Grows.refl _ _), fun k hk => (h.grows k hk).imp id fun q => by have := hb.size; omega⟩
/-- the error's variable, of the call's own, is stored to last -/
theorem SW.err (h : SW w0 F b g size S E F1 w1) (hb : Below w.heap.size w w0) (hs : w.heap.size < w0.heap.size) (hl : b < w.heap.size) (hf : ∀ k, F k → k < w.heap.size) (i : Nat) (x : Value) : StoOp w F b g size S E (w1.setCell ⟨w.heap.size, i, none⟩ x) := by
  have hn : ¬ F1 w.heap.size := fun hk => by
    rcases h.grows _ hk with q | q
    · have := hf _ q; omega
    · omega
  refine ⟨F1, ⟨h.disk.keep ⟨by simp [World.setCell], fun k hk => Below.heap_setCell w1 _ _ k (fun e => hn (by have e : k = w.heap.size := e; rw [← e]; exact hk))⟩, h.blk.far (by show b ≠ w.heap.size; omega) x, h.nb⟩,
    ((Only.of_below _ hb).trans h.only (Grows.refl _ _)).setCell (.inr (Nat.le_refl _)) x, fun k hk => (h.grows k hk).imp id fun q => by have := hb.size; omega⟩
theorem SW.keeps {t : TypeId} {cs : Array Value} (h : SW w0 F b g size S E F1 w1) {k : Nat} (kb : Blk w0 k t cs) (hk : k ≠ b) (hf : ¬ F k) : Blk w1 k t cs := kb.only h.only (by rintro (q | q); exact hf q; exact hk q)
end
theorem write_any (A : Option Addr) (n c B : Nat) (bs : List UInt8) (F : Nat → Prop) (b g size u v i : Nat) (lasts : List UInt8) (E : Value) (w : World) (h0 : Blk w b 44 (sc g u v i E)) (hD : DiskAt w F g size lasts []) (hm : lasts.length ≤ 16384) (hs : size ≤ 16384)
    (hb : RdB w B A n bs) (hB : B ≤ w.heap.size) (hc : n ≤ c) (hcm : c ≤ maxLen) :
    Calls Try.prog 15 #[.pointer (some ⟨b, 0, none⟩), .slice A n c] w fun e w' => (e = if (writeM size lasts [] bs).1 = 0 then .returned (.tuple #[]) else .panicked [{ v := flt ((writeM size lasts [] bs).1 : Nat), recovered := false }]) ∧ DiskOp w F g size (writeM size lasts [] bs).2.1 (writeM size lasts [] bs).2.2 w' := by
  have c0 : w.cell? ⟨b, 0, none⟩ = some (.pointer (some ⟨g, 0, none⟩)) := h0.cell 0
  have hw := lwrite_any A n c B bs F g size lasts [] w hD (by simp [mass]; omega) (by simp) hs hb hB hc hcm
  unfold LogEnd at hw
  generalize writeM size lasts [] bs = r at *
  obtain ⟨k, l1, l2⟩ := r
  simp only at hw ⊢
  have HW := Lib.hid hw
  clear hw hD hb hc hm h0
  by_cases h : k = 0
  · subst h
    rw [if_pos rfl]
    go_enter Try.func15, Try.ntmps15
    go_wp2_with fail
    refine HW.out.mono ?_
    rintro e w1 ⟨rfl, h1⟩
    have H1 := Lib.hid h1
    clear h1
    go_wp2_with fail
    refine (must_yes (by first | with_reducible rfl | assumption | (simp; done) | (simp; omega)) _ _).mono ?_
    rintro e w2 ⟨rfl, rfl⟩
    go_wp2_with fail
    go_end0
    exact ⟨rfl, H1.out⟩
  · rw [if_neg h]
    have hq : ((k : Int) == 0) = false := by rw [beq_eq_false_iff_ne]; omega
    go_enter Try.func15, Try.ntmps15
    go_wp2_with fail
    refine HW.out.mono ?_
    rintro e w1 ⟨rfl, h1⟩
    have H1 := Lib.hid h1
    clear h1
    go_wp2_with fail
    refine (must_no (by first | with_reducible rfl | assumption | (simp; done) | (simp; omega)) _ _).mono ?_
    rintro e w2 ⟨rfl, rfl⟩
    go_wp2_with fail
    exact ⟨rfl, rfl, H1.out⟩
theorem told_lit (kd : UInt8) (z m : Int) (n : Nat) (hz : (kd.toNat : Int) = z) (hm : m = (n : Nat)) (hn : n ≤ 1099511627776) (w : World) :
    Calls Try.prog 16 #[.int .u8 z, .int .i64 m] w (GiveB w (told kd n)) := by
  subst hz hm
  exact told_any kd n hn w
/-- a number's record written: what becomes of the disk's bytes -/
theorem told_write {size : Nat} {b : List UInt8} {kd : UInt8} {n : Nat} : writeM size b [] (told kd n) = if b.length + (frm (told kd n)).length ≤ size then (0, b ++ frm (told kd n), []) else (7, b, []) := by
  unfold writeM
  have := told_len kd n
  rw [if_neg (by omega)]
  rfl
def nextD (size : Nat) (S : Sd) : Nat × Nat × Sd :=
  if S.used < S.upto then (S.used + 1, 0, ⟨S.b, S.used + 1, S.upto, S.inc⟩)
  else if 96 ≤ S.upto then (0, 7, S)
  else if S.b.length + (frm (told 1 (min (S.upto + 8) 96))).length ≤ size then (S.used + 1, 0, ⟨S.b ++ frm (told 1 (min (S.upto + 8) 96)), S.used + 1, min (S.upto + 8) 96, S.inc⟩)
  else (0, 7, S)
def bumpD (size : Nat) (S : Sd) : Nat × Nat × Sd :=
  if 1099511627776 ≤ S.inc then (0, 7, S)
  else if S.b.length + (frm (told 2 (S.inc + 1))).length ≤ size then (S.inc + 1, 0, ⟨S.b ++ frm (told 2 (S.inc + 1)), S.used, S.upto, S.inc + 1⟩)
  else (0, 7, S)
def NumOp (w : World) (F : Nat → Prop) (b g size : Nat) (E : Value) (r : Nat × Nat × Sd) (e : Ending) (w' : World) : Prop := e = .returned (.tuple #[.int .i64 (r.1 : Nat), .int .i64 (r.2.1 : Nat)]) ∧ StoOp w F b g size r.2.2 E w'
theorem next_nil (w : World) :
    Calls Try.prog 7 #[.pointer none] w fun e w' => e = .returned (.tuple #[.int .i64 0, .int .i64 1]) ∧ Below w.heap.size w w' := by
  have k0 := (Blk.new w 25 #[.int .i64 0]).set_ 0 (.int .i64 1)
  have c0 : World.cell? _ _ = some (.int .i64 1) := k0.cell 0
  have f0 := (Blk.new w 25 #[.int .i64 0]).free 0
  have hbw : Below w.heap.size w (w.alloc (.cells #[.int .i64 1] 25)) := (Below.refl _ _).alloc (Nat.le_refl _) _
  have HB := Lib.hid hbw
  clear hbw k0
  go_enter_defers Try.func7, Try.ntmps7
  go_wp2_with fail
  refine ⟨.tuple #[.int .i64 0, .int .i64 1], by simp [results, Try.results7, go_sem, c0], rfl, HB.out⟩
theorem upto_any (b g used u i : Nat) (E : Value) (w : World) (h0 : Blk w b 44 (sc g used u i E)) :
    Calls Try.prog 8 #[.pointer (some ⟨b, 0, none⟩)] w fun e w' => e = .returned (.int .i64 (u : Nat)) ∧ w = w' := by
  have c0 := h0.cell 2
  go_enter Try.func8, Try.ntmps8
  go_wp2_with fail
  go_ret
  exact ⟨rfl, rfl⟩
end Sto
end Go.Proofs.Ytfpenfgmpbdakaa

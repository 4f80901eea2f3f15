/- The reference's disk in memory: New, after, Read. -/
import Derived.Test.YtbkcdnjpakicmaaDiskRefMath
import Derived.Test.YtbkcdnjpakicmaaDisk2
namespace Go.Proofs.Ytbkcdnjpakicmaa
open Go.RowKit
open Disk

/-- A unit's cells; (A, c): where a swap's bytes lie. -/
def ucell : U × (Option Addr × Nat) → List Value
  | (.byte c, _) => [.int .u8 (c.toNat : Int), .bool false, .slice none 0 0]
  | (.swap b, (A, c)) => [.int .u8 0, .bool true, .slice A b.length c]
def ucells (es : List (U × (Option Addr × Nat))) : List Value := es.flatMap ucell
theorem ucell_len (e : U × (Option Addr × Nat)) : (ucell e).length = 3 := by
  obtain ⟨x, A, c⟩ := e
  cases x <;> rfl
theorem ucells_len (es : List (U × (Option Addr × Nat))) : (ucells es).length = es.length * 3 := by
  induction es with
  | nil => rfl
  | cons e r ih =>
    have := ucell_len e
    simp [ucells] at *
    omega
theorem ucells_append (a b : List (U × (Option Addr × Nat))) : ucells (a ++ b) = ucells a ++ ucells b := by simp [ucells]
theorem ucells_at (es : List (U × (Option Addr × Nat))) (i : Nat) (e : U × (Option Addr × Nat)) (h : es[i]? = some e) (j : Nat) (hj : j < 3) : (ucells es)[i * 3 + j]? = (ucell e)[j]? := by
  induction es generalizing i with
  | nil => simp at h
  | cons e0 r ih =>
    have hl := ucell_len e0
    cases i with
    | zero =>
      simp at h; subst h
      simp only [ucells, List.flatMap_cons]
      rw [List.getElem?_append_left (by omega)]
      simp
    | succ i =>
      have := ih i (by simpa using h)
      simp only [ucells, List.flatMap_cons] at this ⊢
      rw [List.getElem?_append_right (by omega), hl, show (i + 1) * 3 + j - 3 = i * 3 + j by omega]
      exact this
/-- The unit's bytes. -/
def UAt (w : World) (F : Nat → Prop) : U × (Option Addr × Nat) → Prop
  | (.byte _, _) => True
  | (.swap b, (A, c)) => FB w F A b.length c b
structure RefE (w : World) (F : Nat → Prop) (g size : Nat) (lasts : List UInt8) (es : List (U × (Option Addr × Nat))) (AL : Option Addr) (cL : Nat) (AW : Option Addr) (cW : Nat) : Prop where
  mine : F g
  blk : Blk w g 95 #[.int .i64 (size : Nat), .slice AL lasts.length cL, .slice AW es.length cW]
  lasts : FB w F AL lasts.length cL lasts
  row : w.ownsRow 0 97 3 (.slice AW es.length cW) es.length (ucells es)
  rowF : ∀ k, AW.map (·.block) = some k → F k
  ents : ∀ e ∈ es, UAt w F e
  lt : ∀ k, F k → k < w.heap.size
def RefAt (w : World) (F : Nat → Prop) (g size : Nat) (lasts : List UInt8) (us : List U) : Prop := ∃ es AL cL AW cW, es.map (·.1) = us ∧ RefE w F g size lasts es AL cL AW cW
section
variable {w w' : World} {F F' : Nat → Prop} {g size n c cL cW : Nat} {A AL AW : Option Addr} {lasts bs : List UInt8} {es : List (U × (Option Addr × Nat))} {us : List U}
theorem UAt.keep {e : U × (Option Addr × Nat)} (h : UAt w F e) (hk : Keeps F w w') : UAt w' F e := by
  obtain ⟨x, A, c⟩ := e
  cases x with
  | byte c => trivial
  | swap b => exact FB.keep h hk
theorem UAt.mono {e : U × (Option Addr × Nat)} (h : UAt w F e) (hF : ∀ k, F k → F' k) : UAt w F' e := by
  obtain ⟨x, A, c⟩ := e
  cases x with
  | byte c => trivial
  | swap b => exact FB.mono h hF
theorem RefE.keep (h : RefE w F g size lasts es AL cL AW cW) (hk : Keeps F w w') : RefE w' F g size lasts es AL cL AW cW :=
  ⟨h.mine, (hk.block _ h.mine).trans h.blk, h.lasts.keep hk, ownsRow_keep h.row fun k hA => hk.block k (h.rowF k hA), h.rowF, fun e he => (h.ents e he).keep hk, fun k hF => Nat.lt_of_lt_of_le (h.lt k hF) hk.size⟩
theorem RefAt.keep (h : RefAt w F g size lasts us) (hk : Keeps F w w') : RefAt w' F g size lasts us := by
  obtain ⟨es, AL, cL, AW, cW, h1, h2⟩ := h
  exact ⟨es, AL, cL, AW, cW, h1, h2.keep hk⟩
theorem RefAt.lt (h : RefAt w F g size lasts us) : ∀ k, F k → k < w.heap.size := by
  obtain ⟨es, AL, cL, AW, cW, h1, h2⟩ := h
  exact h2.lt
theorem RefAt.below (h : RefAt w F g size lasts us) (hb : Below w.heap.size w w') : RefAt w' F g size lasts us := h.keep (Keeps.of_below hb h.lt)
theorem RefE.cell (h : RefE w F g size lasts es AL cL AW cW) {i : Nat} {e : U × (Option Addr × Nat)} (hi : es[i]? = some e) :
    ∃ q, AW = some ⟨q, 0, none⟩ ∧ q < w.heap.size ∧ w.cell? ⟨q, i * 3, none⟩ = (ucell e)[0]? ∧ w.cell? ⟨q, i * 3 + 1, none⟩ = (ucell e)[1]? ∧ w.cell? ⟨q, i * 3 + 2, none⟩ = (ucell e)[2]? := by
  have hlt : i < es.length := by
    false_or_by_contra
    rw [List.getElem?_eq_none (by omega)] at hi; cases hi
  rcases h.row.2 with ⟨hv, h0⟩ | ⟨q, cap, cur, hv, hb, hh, _⟩
  · omega
  · injection hv with hA
    subst hA
    refine ⟨q, rfl, lt_of_block hh, ?_, ?_, ?_⟩
    · have hl := ucell_len e
      have c := ucells_at es i e hi 0 (by omega)
      rw [List.getElem?_eq_getElem (by omega : 0 < (ucell e).length)] at c ⊢
      have r := h.row.cells (g := q) rfl _ _ c
      rw [add_mk, Nat.zero_add] at r
      exact r
    · have hl := ucell_len e
      have c := ucells_at es i e hi 1 (by omega)
      rw [List.getElem?_eq_getElem (by omega : 1 < (ucell e).length)] at c ⊢
      have r := h.row.cells (g := q) rfl _ _ c
      rw [add_mk, Nat.zero_add] at r
      exact r
    · have hl := ucell_len e
      have c := ucells_at es i e hi 2 (by omega)
      rw [List.getElem?_eq_getElem (by omega : 2 < (ucell e).length)] at c ⊢
      have r := h.row.cells (g := q) rfl _ _ c
      rw [add_mk, Nat.zero_add] at r
      exact r
end
theorem RdB.made_at (w : World) (bs : List UInt8) (cs : Array Value) (t : TypeId) (H n : Nat) (h : cs.toList = bs.map bv) (hH : w.heap.size = H) (hn : n = bs.length) : RdB (w.alloc (.cells cs t)) (H + 1) (some ⟨H, 0, none⟩) n bs := by
  subst hH hn
  exact RdB.made w bs cs t (0, 0) h
theorem OwnB.made_at (w : World) (base : Nat) (cs : Array Value) (H : Nat) (h : cs = #[]) (hH : w.heap.size = H) (hb : base ≤ w.heap.size) : OwnB (w.alloc (.cells cs 5)) base (some ⟨H, 0, none⟩) 0 0 [] := by
  subst hH h
  exact OwnB.made w base [] #[] 0 rfl rfl hb (by decide)
/-- A new one. -/
def RefNew (w : World) (size : Nat) (e : Ending) (w' : World) : Prop := ∃ g F, e = .returned (.tuple #[.pointer (some ⟨g, 0, none⟩), .int .i64 0]) ∧ RefAt w' F g size [] [] ∧ (∀ k, F k → w.heap.size ≤ k) ∧ Below w.heap.size w w'
theorem rnew_any (size : Nat) (w : World) (h1 : 1 ≤ size) (h2 : size ≤ 16384) :
    Calls Try.prog 32 #[.int .i64 size] w (RefNew w size) := by
  have d1 : decide ((size : Int) < 1) = false := decide_eq_false (by omega)
  have d2 : decide ((16384 : Int) < (size : Int)) = false := decide_eq_false (by omega)
  go_enter Try.func32, Try.ntmps32
  go_wp2_with fail
  go_ret2
  refine ⟨w.heap.size, fun k => k = w.heap.size, rfl, ⟨[], none, 0, none, 0, rfl, ⟨rfl, Blk.new w _ _, ⟨OwnB.nil _ _, (fun k hk => by cases hk)⟩, World.ownsRow_nil _ _ _ _, (fun k hk => by cases hk), fun e he => absurd he (by simp), fun k hk => by subst hk; simp⟩⟩, fun k hk => by omega, (Below.refl _ _).alloc (Nat.le_refl _) _⟩
theorem rnew_bad (size : Int) (w : World) (h : size < 1 ∨ 16384 < size) :
    Calls Try.prog 32 #[.int .i64 size] w fun e w' => e = .returned (.tuple #[.pointer none, .int .i64 2]) ∧ w = w' := by
  rcases h with h | h
  · have d1 : decide (size < 1) = true := decide_eq_true (by omega)
    go_enter Try.func32, Try.ntmps32
    go_wp2_with fail
    go_ret2
    exact ⟨rfl, rfl⟩
  · have d1 : decide (size < 1) = false := decide_eq_false (by omega)
    have d2 : decide ((16384 : Int) < size) = true := decide_eq_true (by omega)
    go_enter Try.func32, Try.ntmps32
    go_wp2_with fail
    go_ret2
    exact ⟨rfl, rfl⟩
set_option maxRecDepth 100000 in
set_option maxHeartbeats 1000000 in
theorem rafter_any (n : Nat) (F : Nat → Prop) (g size : Nat) (lasts : List UInt8) (us : List U) (w : World) (hD : RefAt w F g size lasts us) (hn : n ≤ us.length) (hm : lasts.length + massU us ≤ 1099511627776) :
    Calls Try.prog 62 #[.pointer (some ⟨g, 0, none⟩), .int .i64 n] w (GiveB w (afterU lasts (us.take n))) := by
  obtain ⟨es, AL, cL, AW, cW, rfl, hE⟩ := hD
  have c1 := hE.blk.cell 1
  have c2 := hE.blk.cell 2
  have hlt := hE.blk.lt
  have hcw := ownsRow_le hE.row
  rw [List.length_map] at hn
  have hncw : n ≤ cW := by omega
  unfold maxLen at hcw
  go_enter Try.func62, Try.ntmps62
  go_wp2_with (at_builtin; refine wpList_appB rfl (.tmp 8) (.tmp 12) rfl (by rfl) (OwnB.made w w.heap.size [] #[] 0 rfl rfl (Nat.le_refl _) (by decide)) (by rfl) (hE.lasts.1.rd.alloc (Nat.le_refl _) _) (by omega) (by simp) ?_)
  intro A1 c1' w1 ho1 _ _ h1
  have hE1 := hE.keep (Keeps.of_below (((Below.refl w.heap.size w).alloc (Nat.le_refl _) _).trans h1) hE.lt)
  have c2' := hE1.blk.cell 2
  have h1' := ((Below.refl w.heap.size w).alloc (Nat.le_refl _) (.cells #[] 5)).trans h1
  clear h1
  go_wp2_with fail
  go_loopw [5, 21] (fun b i wr => ∃ (k : Nat) (A : Option Addr) (nb cb : Nat), k ≤ n ∧ i = .int .i64 k ∧ b = .slice A nb cb ∧ OwnB wr w.heap.size A nb cb (afterU lasts ((es.map (·.1)).take k)) ∧ Below w.heap.size w wr) (fun _ i _ => n - (intOf i).toNat)
  case atStart => exact ⟨0, A1, _, c1', by omega, rfl, rfl, ho1, h1'⟩
  case round =>
    obtain ⟨k, A, nb, cb, hk, rfl, rfl, hO, hbel⟩ := hrel
    by_cases hlt2 : k < n
    · have hEr := hE.keep (Keeps.of_below hbel hE.lt)
      obtain ⟨x, hx⟩ : ∃ x, es[k] = x := ⟨_, rfl⟩
      have hxe : es[k]? = some x := by rw [List.getElem?_eq_getElem (by omega), hx]
      obtain ⟨a, rfl, hab, q0, q1, q2⟩ := hEr.cell hxe
      have hu := hEr.ents _ (List.mem_of_getElem? hxe)
      have hwx : (es.map (·.1))[k]? = some x.1 := by rw [List.getElem?_map, hxe]; rfl
      have htk : afterU lasts ((es.map (·.1)).take (k + 1)) = doU (afterU lasts ((es.map (·.1)).take k)) x.1 := by
        rw [take_snoc _ (by simp; omega), afterU_append]
        rw [List.getElem?_eq_getElem (by simp; omega)] at hwx
        injection hwx with hwx
        rw [hwx]; rfl
      have hml := afterU_len lasts ((es.map (·.1)).take k)
      have hml2 := massU_take (es.map (·.1)) k
      have hml3 := massU_take (es.map (·.1)) (k + 1)
      have hml4 : massU ((es.map (·.1)).take (k + 1)) = massU ((es.map (·.1)).take k) + massU [x.1] := by
        rw [take_snoc _ (by simp; omega), massU_append]
        rw [List.getElem?_eq_getElem (by simp; omega)] at hwx
        injection hwx with hwx
        rw [hwx]
      have HT := Lib.hid htk
      have hnb : nb ≤ 1099511627776 := by rw [hO.1]; omega
      clear htk hwx
      obtain ⟨x, Ax, cx⟩ := x
      cases x with
      | byte c =>
        simp only [ucell] at q0 q1 q2
        have hm1 : massU [U.byte c] = 1 := rfl
        have hs0 : (wr.alloc (.cells #[.int .u8 (c.toNat : Int), .bool false, .slice none 0 0] 97)).heap.size = wr.heap.size + 1 := by simp
        have hrd := RdB.made_at (wr.alloc (.cells #[.int .u8 (c.toNat : Int), .bool false, .slice none 0 0] 97)) [c] #[.int .u8 (c.toNat : Int)] 5 _ 1 rfl hs0 rfl
        have hO2 := (hO.alloc (.cells #[.int .u8 (c.toNat : Int), .bool false, .slice none 0 0] 97)).alloc (.cells #[.int .u8 (c.toNat : Int)] 5)
        have hbel2 := (hbel.alloc hbel.size (.cells #[.int .u8 (c.toNat : Int), .bool false, .slice none 0 0] 97)).alloc (by have := hbel.size; simp; omega) (.cells #[.int .u8 (c.toNat : Int)] 5)
        go_wp2_with (at_builtin; refine wpList_appB rfl (.tmp 31) (.tmp 34) rfl (by rfl) hO2 (by rfl) hrd (by omega) hbel2.size ?_)
        intro A3 c3 w3 ho3 _ _ h3
        go_wp2_with fail
        go_roundw
        case rel => exact ⟨k + 1, A3, _, c3, by omega, by go_num, rfl, by rw [HT.out]; exact ho3, hbel2.trans h3⟩
        case measure => simp [intOf]; omega
      | swap b =>
        simp only [ucell] at q0 q1 q2
        have hm1 : massU [U.swap b] = b.length := by simp [massU]
        have hs0 : (wr.alloc (.cells #[.int .u8 0, .bool true, .slice Ax b.length cx] 97)).heap.size = wr.heap.size + 1 := by simp
        have hown := OwnB.made_at (wr.alloc (.cells #[.int .u8 0, .bool true, .slice Ax b.length cx] 97)) w.heap.size #[] _ rfl hs0 (by have := hbel.size; omega)
        have hrd := (hu.1.rd.alloc (Nat.le_refl _) (.cells #[.int .u8 0, .bool true, .slice Ax b.length cx] 97)).alloc (by simp) (.cells #[] 5)
        have hbel2 := (hbel.alloc hbel.size (.cells #[.int .u8 0, .bool true, .slice Ax b.length cx] 97)).alloc (by have := hbel.size; simp; omega) (.cells #[] 5)
        have hbb : 0 + b.length ≤ 140737488355328 := by simp only [massU] at hml4; omega
        go_wp2_with (at_builtin; refine wpList_appB rfl (.tmp 27) (.tmp 29) rfl (by rfl) hown (by rfl) hrd hbb hbel2.size ?_)
        intro A3 c3 w3 ho3 _ _ h3
        go_wp2_with fail
        go_roundw
        case rel => exact ⟨k + 1, A3, _, c3, by omega, by go_num, rfl, by rw [HT.out]; exact ho3, hbel2.trans h3⟩
        case measure => simp [intOf]; omega
    · go_wp2_with fail
      go_ret
      obtain rfl : k = n := by omega
      exact ⟨_, _, _, rfl, hO, hbel⟩
end Go.Proofs.Ytbkcdnjpakicmaa

/- The walk of the document's Of. -/
import Derived.Test.YtacmdkjodnaohaaDotRList
namespace Go.Proofs.Ytacmdkjodnaohaa
open Go.RowKit
open Dot
theorem listG_no : listG [] = noG := rfl
theorem listG_snoc (l : List Dt) (d : Dt) : listG (l ++ [d]) = if mayB d = true then putG (listG l) d else listG l := by
  funext n q
  unfold listG
  rw [List.any_append]
  by_cases h : mayB d = true
  · rw [if_pos h]
    unfold putG
    simp only [List.any_cons, List.any_nil, h, Bool.true_and, Bool.or_false]
    congr 1
    rw [show decide ((n : Int) = d.1) = decide (d.1 = (n : Int)) by simp [eq_comm], show decide ((q : Int) = d.2) = decide (d.2 = (q : Int)) by simp [eq_comm]]
  · rw [if_neg h]
    simp [h]
theorem listG_zero (l : List Dt) (n : Nat) : listG l n 0 = false := by
  rw [← Bool.not_eq_true]
  intro h
  unfold listG at h
  rw [List.any_eq_true] at h
  obtain ⟨d, _, h⟩ := h
  simp only [Bool.and_eq_true, decide_eq_true_eq] at h
  have := (may_iff d).1 h.1.1
  omega
theorem listG_top (l : List Dt) (n : Nat) : listG l n 97 = false := by
  rw [← Bool.not_eq_true]
  intro h
  unfold listG at h
  rw [List.any_eq_true] at h
  obtain ⟨d, _, h⟩ := h
  simp only [Bool.and_eq_true, decide_eq_true_eq] at h
  have := (may_iff d).1 h.1.1
  omega
theorem upT_fill (G : Grid) (n q : Nat) (hn : n < 8) : (upT G n q).set n (lead (G n) 98 : Int) = upT G n 98 := upT_ext (by rw [List.length_set, upT_len]) fun j hj => by
  by_cases e : n = j
  · subst e
    rw [List.getElem?_set_self (by rw [upT_len]; omega), if_neg (by omega), if_pos rfl]
  · rw [List.getElem?_set_ne e, upT_get G n q hj]
    by_cases h1 : j < n
    · rw [if_pos h1, if_pos h1]
    · rw [if_neg h1, if_neg h1, if_neg (fun h => e h.symm), if_neg (fun h => e h.symm)]
/-- Of, under way, behind the grid -/
def RofI (w0 : World) (base b gs : Nat) (G : Grid) (U : List Int) (M : List Dt) (w : World) : Prop := Blk w (b + 1) 97 (gc G) ∧ Blk w b 35 (uc (uptoS noG) (.slice none 0 0)) ∧ Below base w0 w ∧ ∃ A m c, Blk w gs 35 (uc U (.slice A m c)) ∧ OwnD w base A m c M
theorem zvalG97 (w : World) : (zeroValue 97).run Try.prog w = .ok (.agg (gc noG)) w := by kernel_rfl
set_option maxRecDepth 100000 in
set_option maxHeartbeats 2000000 in
theorem rof_any (A : Option Addr) (n c : Nat) (l : List Dt) (w : World) (hl : RdD w w.heap.size A n l) (hn : n ≤ 2000) :
    Calls Try.prog 39 #[.slice A n c] w fun e w' => ∃ A m c, e = .returned (.agg (uc (uptoS (listG l)) (.slice A m c))) ∧ OwnD w' w.heap.size A m c (moreS (listG l)) ∧ Below w.heap.size w w' := by
  have HN := Lib.hid hl.1
  have hz := zvalG97
  go_enter Try.func39, Try.ntmps39
  go_wp2_with fail
  refine nameW ?_
  intro wv hwv
  obtain ⟨b, hb⟩ : ∃ b, b = w.heap.size := ⟨_, rfl⟩
  rw [← hb]
  have kz : Blk wv b 35 (uc (uptoS noG) (.slice none 0 0)) := by
    rw [hwv, hb]
    exact (Blk.new w _ _).alloc _
  have kg : Blk wv (b + 1) 97 (gc (listG [])) := by
    rw [listG_no]
    have h := Blk.new (w.alloc (.cells #[.int .i64 0, .int .i64 0, .int .i64 0, .int .i64 0, .int .i64 0, .int .i64 0, .int .i64 0, .int .i64 0, .slice none 0 0] 35)) 97 (gc noG)
    rw [hwv, hb]
    simpa using h
  have gb : Below w.heap.size w wv := by rw [hwv]; exact ((Below.refl _ _).alloc (Nat.le_refl _) _).alloc (by simp) _
  have hbw : w.heap.size ≤ b := by omega
  clear hwv hz
  have HB := Lib.hid hb
  clear hb
  go_loopw [12] (fun i wr => ∃ k : Nat, k ≤ n ∧ i = .int .i64 k ∧ Blk wr (b + 1) 97 (gc (listG (l.take k))) ∧ Blk wr b 35 (uc (uptoS noG) (.slice none 0 0)) ∧ Below w.heap.size w wr) (fun i _ => n - (intOf i).toNat)
  case atStart => exact ⟨0, by omega, rfl, kg, kz, gb⟩
  case round =>
    clear kg kz gb
    obtain ⟨k, hk, rfl, kg, kz, gb⟩ := hrel
    by_cases hlt : k < n
    · have hkl : k < l.length := by rw [← HN.out]; exact hlt
      obtain ⟨ad, rfl, hdt⟩ := (hl.below gb).2 k _ (List.getElem?_eq_getElem hkl)
      have htk : l.take (k + 1) = l.take k ++ [l[k]] := take_snoc l hkl
      have hsn := listG_snoc (l.take k) l[k]
      rw [← htk] at hsn
      generalize l[k] = d at *
      obtain ⟨x, q⟩ := d
      obtain ⟨q5, q0, q1⟩ := hdt
      simp only at q0 q1
      have HSN := Lib.hid hsn
      clear htk hsn
      obtain ⟨wn, hwn⟩ : ∃ wn, wn = wr.alloc (.cells #[.int .i64 x, .int .i64 q] 27) := ⟨_, rfl⟩
      obtain ⟨gd, hgd⟩ : ∃ gd, gd = wr.heap.size := ⟨_, rfl⟩
      have kn : Blk wn gd 27 #[.int .i64 x, .int .i64 q] := by rw [hwn, hgd]; exact Blk.new wr _ _
      have bn : Below wr.heap.size wr wn := by rw [hwn]; exact (Below.refl _ _).alloc (Nat.le_refl _) _
      have kg1 := kg.below bn kg.lt
      have kz1 := kz.below bn kz.lt
      have gb1 := gb.trans (bn.mono gb.size)
      have HW := Lib.hid hwn
      have HGD := Lib.hid hgd
      have hgg : b + 1 < gd := by rw [hgd]; exact kg.lt
      clear hwn hgd bn kg kz gb
      go_upto_region 5 with fail
      rw [← HW.out, ← HGD.out]
      clear q0 q1
      have t0 : wn.cell? ⟨gd, 0, none⟩ = some (.int .i64 x) := kn.cell 0
      have t1 : wn.cell? ⟨gd, 1, none⟩ = some (.int .i64 q) := kn.cell 1
      go_wp2_with fail
      refine (rmay_any x q wn).mono ?_
      rintro e w3 ⟨rfl, h3⟩
      have kn3 := kn.below h3 kn.lt
      have kg3 := kg1.below h3 kg1.lt
      have kz3 := kz1.below h3 kz1.lt
      have gb3 := gb1.trans (h3.mono gb1.size)
      clear t0 t1 kn kg1 kz1 gb1 h3
      by_cases hm : mayB (x, q) = true
      · have hmi := (may_iff _).1 hm
        simp only at hmi
        obtain ⟨y, rfl⟩ := Int.eq_ofNat_of_zero_le hmi.1
        obtain ⟨p, rfl⟩ := Int.eq_ofNat_of_zero_le (show 0 ≤ q by omega)
        have hy : y < 8 := by omega
        have hp : p < 98 := by omega
        have hy0 : (0 : Int) ≤ (y : Int) := by omega
        have hy8 : (y : Int) < 8 := by omega
        have hp0 : (0 : Int) ≤ (p : Int) := by omega
        have hp8 : (p : Int) < 98 := by omega
        have hsn := HSN.out
        rw [if_pos hm] at hsn
        have HS2 := Lib.hid hsn
        rw [hm]
        have t0 : w3.cell? ⟨gd, 0, none⟩ = some (.int .i64 (y : Nat)) := kn3.cell 0
        have t1 : w3.cell? ⟨gd, 1, none⟩ = some (.int .i64 (p : Nat)) := kn3.cell 1
        have c0 : w3.cell? ⟨b + 1, y * 98 + p, none⟩ = some (.bool (listG (l.take k) y p)) := (kg3.cell _).trans (gc_at _ hy hp)
        have f0 := kg3.free (y * 98 + p)
        have hne : b + 1 ≠ gd := by omega
        have hset := gc_set (listG (l.take k)) hy hp
        rw [← hsn] at hset
        have HSET := Lib.hid hset
        clear hsn hset hm hmi HSN
        go_upto_region 6 with fail
        go_region_held3 (fun w' => w'.cell? ⟨gd, 0, none⟩ = some (.int .i64 (y : Nat)) ∧ w'.cell? ⟨gd, 1, none⟩ = some (.int .i64 (p : Nat)))
          (first | go_keep)
          (first | fail)
        have kg4 := kg3.drew.set_ (y * 98 + p) (.bool true)
        rw [HSET.out] at kg4
        have kz4 := kz3.drew.far (p := ⟨b + 1, y * 98 + p, none⟩) (by simp) (.bool true)
        have gb4 := gb3.drew.setCell (p := ⟨b + 1, y * 98 + p, none⟩) (by simp; omega) (.bool true)
        clear t0 t1 c0 f0 kn3 kg3 kz3 gb3
        go_wp2_with fail
        go_roundw
        case rel => exact ⟨k + 1, by omega, by go_num, kg4, kz4, gb4⟩
        case measure => simp [intOf]; omega
      · have hm2 : mayB (x, q) = false := by simpa using hm
        have hsn := HSN.out
        rw [if_neg hm] at hsn
        rw [← hsn] at kg3
        rw [hm2]
        clear hsn hm
        go_wp2_with fail
        go_roundw
        case rel => exact ⟨k + 1, by omega, by go_num, kg3, kz3, gb3⟩
        case measure => simp [intOf]; omega
    · have hkn : k = l.length := by have := HN.out; omega
      rw [hkn, List.take_length] at kg
      have hkd : decide ((k : Int) < (n : Int)) = false := decide_eq_false (by omega)
      have hG0 := listG_zero l
      have hG97 := listG_top l
      obtain ⟨G, hG⟩ : ∃ G, G = listG l := ⟨_, rfl⟩
      rw [← hG] at kg hG0 hG97
      have HG := Lib.hid hG
      have HG0 := Lib.hid hG0
      have HG97 := Lib.hid hG97
      clear hkn hG hG0 hG97
      go_upto_region 9 with fail
      have hI : RofI w w.heap.size b wr.heap.size G (upT G 0 0) (moreTo G 0) (wr.alloc (.cells (uc (uptoS noG) (.slice none 0 0)) 35)) := by
        refine ⟨kg.alloc _, kz.alloc _, gb.alloc gb.size _, none, 0, 0, ?_, OwnD.nil _ _⟩
        rw [← upT_start, ← upto_no]
        exact Blk.new wr _ _
      obtain ⟨wn, hwn⟩ : ∃ wn, wn = wr.alloc (.cells (uc (uptoS noG) (.slice none 0 0)) 35) := ⟨_, rfl⟩
      obtain ⟨gs, hgs⟩ : ∃ gs, gs = wr.heap.size := ⟨_, rfl⟩
      have hbg : b + 1 < gs := by rw [hgs]; exact kg.lt
      rw [← hwn, ← hgs] at hI
      have hwn2 : wr.alloc (.cells #[.int .i64 0, .int .i64 0, .int .i64 0, .int .i64 0, .int .i64 0, .int .i64 0, .int .i64 0, .int .i64 0, .slice none 0 0] 35) = wn := by rw [hwn]; rfl
      rw [hwn2, ← hgs]
      clear hwn hwn2 hgs kg kz gb
      go_upto_region 10 with fail
      go_loopw [7] (fun i wr => ∃ k : Nat, k ≤ 8 ∧ i = .int .i64 k ∧ RofI w w.heap.size b gs G (upT G k 0) (moreTo G k) wr) (fun i _ => 8 - (intOf i).toNat)
      case atStart => exact ⟨0, by omega, rfl, hI⟩
      case round =>
        clear hI
        obtain ⟨k, hk, rfl, hI⟩ := hrel
        by_cases hlt : k < 8
        · have hkd : decide ((k : Int) < 8) = true := decide_eq_true (by omega)
          have hk0 : (0 : Int) ≤ (k : Int) := by omega
          have hk8 : (k : Int) < 8 := by omega
          have kg := hI.1
          go_upto_region 13 with fail
          refine nameW ?_
          intro wq hwq
          obtain rfl := hwq
          have HI := Lib.hid hI
          go_loopw [8] (fun i wr' => ∃ v : Nat, v ≤ 96 ∧ i = .int .i64 v ∧ (∀ q, 1 ≤ q → q ≤ v → G k q = true) ∧ wq = wr') (fun i _ => 97 - (intOf i).toNat)
          case atStart => exact ⟨0, by omega, rfl, fun q h1 h2 => by omega, rfl⟩
          case round =>
            obtain ⟨v, hv, rfl, hall, rfl⟩ := hrel
            have hc : wq.cell? ⟨b + 1, k * 98 + (v + 1), none⟩ = some (.bool (G k (v + 1))) := (kg.cell _).trans (gc_at G hlt (show v + 1 < 98 by omega))
            have hv0 : (0 : Int) ≤ (v : Int) + 1 := by omega
            have hv8 : (v : Int) + 1 < 98 := by omega
            have hw1 : IntKind.i64.wrap ((v : Int) + 1) = ((v + 1 : Nat) : Int) := by rw [IntKind.wrap_i64]; omega
            have HA := Lib.hid hall
            clear hall
            cases hgv : G k (v + 1)
            case true =>
              have hv96 : v < 96 := by
                rcases Nat.lt_or_ge v 96 with h | h
                · exact h
                · have : v = 96 := by omega
                  subst this
                  rw [HG97.out] at hgv
                  cases hgv
              have HGV := Lib.hid hgv
              rw [hgv] at hc
              clear hgv
              go_wp2_with fail
              go_roundw
              case rel => exact ⟨v + 1, by omega, by go_num, fun q h1 h2 => by
                by_cases e : q = v + 1
                · subst e; exact HGV.out
                · exact HA.out q h1 (by omega), (by first | rfl | trivial)⟩
              case measure => simp [intOf]; omega
            case false =>
              have HGV := Lib.hid hgv
              rw [hgv] at hc
              clear hgv
              obtain ⟨kg1, kz1, gb1, A5, m5, c5, ks1, oD1⟩ := hI
              have hlead := lead_gap (HG0.out k) HA.out HGV.out 98 (by omega)
              have hfill := upT_fill G k 0 hlt
              rw [hlead] at hfill
              have hset := uc_set (upT_len G k 0) (.slice A5 m5 c5) hlt (v : Int)
              rw [hfill] at hset
              have HSET := Lib.hid hset
              have cs0 := (ks1.cell k).trans (uc_at (upT_len G k 0) (.slice A5 m5 c5) hlt)
              have fs0 := ks1.free k
              have hbs : w.heap.size ≤ gs := by omega
              have hneb : b ≠ gs := by omega
              have hneb1 : b + 1 ≠ gs := by omega
              have hnA := own_ne oD1.2 ks1 (by decide)
              have ks2 := ks1.set_ k (.int .i64 (v : Nat))
              rw [HSET.out] at ks2
              have kg2 := kg1.far (p := ⟨gs, k, none⟩) hneb1 (.int .i64 (v : Nat))
              have kz2 := kz1.far (p := ⟨gs, k, none⟩) hneb (.int .i64 (v : Nat))
              have oD2 := oD1.setFar (p := ⟨gs, k, none⟩) hnA (.int .i64 (v : Nat))
              have gb2 := gb1.setCell (p := ⟨gs, k, none⟩) hbs (.int .i64 (v : Nat))
              have hI2 : RofI w w.heap.size b gs G (upT G k 98) (moreTo G k ++ numb k (rest (G k) (v + 1))) (wq.setCell ⟨gs, k, none⟩ (.int .i64 (v : Nat))) := by
                refine ⟨kg2, kz2, gb2, A5, m5, c5, ks2, ?_⟩
                rw [rest_run (HG0.out k) HA.out v (Nat.le_refl _), show numb k [] = [] from rfl, List.append_nil]
                exact oD2
              have HI2 := Lib.hid hI2
              clear hlead hfill hset ks2 kg2 kz2 oD2 gb2 hI2 oD1 kz1 gb1 kg1 kg
              go_upto_region 17 with fail
              have hI3 := HI2.out
              generalize wq.setCell ⟨gs, k, none⟩ (.int .i64 (v : Nat)) = w7 at *
              clear HI2 cs0 fs0 ks1 hc
              go_loopw [9] (fun i w_ => ∃ s : Nat, v + 1 ≤ s ∧ s ≤ 97 ∧ i = .int .i64 s ∧ RofI w w.heap.size b gs G (upT G k 98) (moreTo G k ++ numb k (rest (G k) s)) w_) (fun i _ => 97 - (intOf i).toNat)
              case atStart => exact ⟨v + 1, by omega, by omega, rfl, hI3⟩
              case round =>
                clear hI3
                obtain ⟨s, hs1, hs2, rfl, hI4⟩ := hrel
                have hrg := rest_gap (HG0.out k) HA.out HGV.out (Q := s) (by omega)
                by_cases hst : s ≤ 96
                · have hsd : decide ((s : Int) ≤ 96) = true := decide_eq_true (by omega)
                  have hs0 : (0 : Int) ≤ (s : Int) := by omega
                  have hs8 : (s : Int) < 98 := by omega
                  obtain ⟨kg4, kz4, gb4, A6, m6, c6, ks4, oD4⟩ := hI4
                  have hc : wr.cell? ⟨b + 1, k * 98 + s, none⟩ = some (.bool (G k s)) := (kg4.cell _).trans (gc_at G hlt (show s < 98 by omega))
                  have HRG := Lib.hid hrg
                  clear hrg
                  cases hgs : G k s
                  case false =>
                    have hr2 : rest (G k) (s + 1) = rest (G k) s := by rw [HRG.out, if_neg (by rw [hgs]; simp)]
                    have hI5 : RofI w w.heap.size b gs G (upT G k 98) (moreTo G k ++ numb k (rest (G k) (s + 1))) wr := ⟨kg4, kz4, gb4, A6, m6, c6, ks4, by rw [hr2]; exact oD4⟩
                    rw [hgs] at hc
                    clear kg4 kz4 gb4 ks4 oD4 hgs hr2
                    go_wp2_with fail
                    go_roundw
                    case rel => exact ⟨s + 1, by omega, by omega, by go_num, hI5⟩
                    case measure => simp [intOf]; omega
                  case true =>
                    have hr2 : moreTo G k ++ numb k (rest (G k) (s + 1)) = (moreTo G k ++ numb k (rest (G k) s)) ++ [((k : Int), (s : Int))] := by rw [HRG.out, if_pos hgs, numb_snoc, List.append_assoc]
                    have HR2 := Lib.hid hr2
                    have hm6 : m6 ≤ 2000 := by
                      have h1 := oD4.1
                      have h2 := moreTo_len G k
                      have h3 := rest_len (G k) s
                      rw [List.length_append, numb_len] at h1
                      omega
                    have c8 : wr.cell? ⟨gs, 8, none⟩ = some (.slice A6 m6 c6) := (ks4.cell _).trans (uc_last (upT_len G k 98) _)
                    rw [hgs] at hc
                    clear hgs hr2
                    go_wp2_with (at_builtin; refine wpList_appD rfl (.tmp 53) (.tmp 57) rfl rfl (oD4.alloc _) (news := [((k : Int), (s : Int))]) rfl (Rd.made _ _ _ _) rfl ?h1 ?h2 ?h3)
                    case h1 => omega
                    case h2 => have := gb4.size; simp; omega
                    intro A' c' w8 o8 g8 m8 b8
                    have hX : Below w.heap.size w (wr.alloc (.cells #[.int .i64 (k : Nat), .int .i64 (s : Nat)] 27)) := gb4.alloc gb4.size _
                    have kg8 : Blk w8 (b + 1) 97 (gc G) := (kg4.alloc (.cells #[.int .i64 (k : Nat), .int .i64 (s : Nat)] 27)).grown g8 (own_ne oD4.2 kg4 (by decide))
                    have kz8 : Blk w8 b 35 (uc (uptoS noG) (.slice none 0 0)) := (kz4.alloc (.cells #[.int .i64 (k : Nat), .int .i64 (s : Nat)] 27)).grown g8 (own_ne oD4.2 kz4 (by decide))
                    have ks8 : Blk w8 gs 35 (uc (upT G k 98) (.slice A6 m6 c6)) := (ks4.alloc (.cells #[.int .i64 (k : Nat), .int .i64 (s : Nat)] 27)).grown g8 (own_ne oD4.2 ks4 (by decide))
                    have gb8 := hX.trans b8
                    have hnA8 := own_ne o8.2 ks8 (by decide)
                    have cs8 : w8.cell? ⟨gs, 8, none⟩ = some (.slice A6 m6 c6) := (ks8.cell _).trans (uc_last (upT_len G k 98) _)
                    have fs8 := ks8.free 8
                    have ks9 := ks8.set_ 8 (.slice A' (m6 + 1) c')
                    rw [uc_setS (upT_len G k 98)] at ks9
                    have hI9 : RofI w w.heap.size b gs G (upT G k 98) (moreTo G k ++ numb k (rest (G k) (s + 1))) (w8.setCell ⟨gs, 8, none⟩ (.slice A' (m6 + 1) c')) := by
                      refine ⟨kg8.far (p := ⟨gs, 8, none⟩) hneb1 _, kz8.far (p := ⟨gs, 8, none⟩) hneb _, gb8.setCell (p := ⟨gs, 8, none⟩) hbs _, A', m6 + 1, c', ks9, ?_⟩
                      rw [HR2.out, List.append_assoc]
                      exact o8.setFar (p := ⟨gs, 8, none⟩) hnA8 _
                    have HI9 := Lib.hid hI9
                    clear hI9 ks9 g8 m8 b8 o8 kg8 kz8 hX gb8 kg4 kz4 gb4 ks4 oD4 hc c8
                    go_wp2_with fail
                    go_roundw
                    case rel => exact ⟨s + 1, by omega, by omega, by go_num, HI9.out⟩
                    case measure => simp [intOf]; omega
                · have hs97 : s = 97 := by omega
                  subst hs97
                  rw [HG97.out, if_neg (by simp)] at hrg
                  rw [← hrg, show moreTo G k ++ numb k (rest (G k) (97 + 1)) = moreTo G (k + 1) from rfl, upT_next] at hI4
                  have hsd : decide ((97 : Int) ≤ 96) = false := by decide
                  clear hrg
                  go_wp2_with fail
                  go_roundw
                  case rel => exact ⟨k + 1, by omega, by go_num, hI4⟩
                  case measure => simp [intOf]; omega
        · have hk8 : k = 8 := by omega
          subst hk8
          rw [upT_all] at hI
          obtain ⟨kg9, kz9, gb9, A9, m9, c9, ks9, oD9⟩ := hI
          have hU8 : (uptoS G).length = 8 := by simp [uptoS]
          have HS9 := Lib.hid (uc_size hU8 (.slice A9 m9 c9))
          have H19 := Lib.hid (uc_one (U := uptoS G) (s := .slice A9 m9 c9) rfl)
          have HZ9 := Lib.hid (uc_size (show (uptoS noG).length = 8 by simp [uptoS]) (.slice none 0 0))
          have hnb := own_ne oD9.2 kz9 (by decide)
          have hgE := HG.out
          obtain rfl := HG.out
          go_wp2_with first
            | ((with_reducible refine wpList_ld rowRS ks9 HS9.out ?_ ?_); rotate_left; (rfl))
            | ((with_reducible refine wpList_st rowRS kz9 HS9.out HZ9.out H19.out ?_ ?_ ?_); rotate_left; (rfl); (rfl); intro wz kz gz zz)
          have oz := oD9.grown gz (.inr hnb)
          have bz := gb9.grown gz gb9.size (fun q hq => by injection hq; omega)
          exact bodyPost_ret (v := .agg (uc (uptoS (listG l)) (.slice A9 m9 c9))) (results_blk rfl rowRS kz HS9.out rfl) rfl ⟨A9, m9, c9, rfl, oz, bz⟩
end Go.Proofs.Ytacmdkjodnaohaa

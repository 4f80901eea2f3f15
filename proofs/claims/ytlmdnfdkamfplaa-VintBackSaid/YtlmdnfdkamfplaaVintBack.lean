/- VintBack: numbers put one behind the other are read as they were, whatever stands behind; what is read is put back as it was: the whole statement, without a condition. -/
import Derived.Test.YtlmdnfdkamfplaaVintAlive
import Derived.Test.YtlmdnfdkamfplaaShellInts
namespace Go.Proofs.Ytlmdnfdkamfplaa.VintBack
open Go.ChangeShapes Go.WideShapes Go.ChangeAt Go.RowKit
set_option linter.unusedVariables false

def flat (l : List Nat) : List UInt8 := l.flatMap Vint.enc
theorem flat_snoc (l : List Nat) (n : Nat) : flat (l ++ [n]) = flat l ++ Vint.enc n := by simp [flat]
theorem flat_len (l : List Nat) : (flat l).length ≤ 6 * l.length := by
  induction l with
  | nil => simp [flat]
  | cons n l ih =>
    have := Vint.enc_length n
    have e : flat (n :: l) = Vint.enc n ++ flat l := rfl
    rw [e, List.length_append, List.length_cons]; omega
theorem flat_drop (l : List Nat) (k : Nat) (hk : k < l.length) : flat (l.drop k) = Vint.enc l[k] ++ flat (l.drop (k + 1)) := by
  rw [List.drop_eq_getElem_cons hk]; rfl
theorem bnd_snoc {l : List Nat} {y T : Nat} (h : ∀ o ∈ l, o ≤ T) (hy : y ≤ T) : ∀ o ∈ l ++ [y], o ≤ T := by
  intro o ho
  rcases List.mem_append.1 ho with h1 | h1
  · exact h o h1
  · simp at h1; omega
def lenOf : Value → Nat | .slice _ n _ => n | _ => 0
theorem tail_rd {w : World} {B n k : Nat} {A : Option Addr} {bs again rest : List UInt8} (h : RdB w B A n bs) (e : bs = again ++ rest) (hk : k = again.length) : RdB w B A k again := by
  have h2 := h.take (k := k) (by rw [h.1, e, List.length_append]; omega)
  rw [e, hk, List.take_left] at h2
  rw [hk]
  exact h2
def ints (l : List Nat) : List Int := l.map fun (n : Nat) => (n : Int)

set_option maxRecDepth 100000 in
set_option maxHeartbeats 2000000 in
theorem walk (a0 : Option Addr) (n0 c0 : Nat) (z0 : List Int) (a1 : Option Addr) (n1 c1 : Nat) (b1 : List UInt8) (w : World) (hz0 : RdI w w.heap.size a0 n0 z0) (hl0 : n0 ≤ c0) (hc0 : c0 ≤ maxLen) (hzb : ∀ z ∈ z0, -9223372036854775808 ≤ z ∧ z ≤ 9223372036854775807)
    (hb1 : RdB w w.heap.size a1 n1 b1) (hl1 : n1 ≤ c1) (hc1 : c1 ≤ maxLen) :
    Calls Try.prog 8 #[.slice a0 n0 c0, .slice a1 n1 c1] w fun e w' => e = .returned (.bool true) ∧ Below w.heap.size w w' := by
  unfold maxLen at hc0 hc1
  by_cases hg : n0 ≤ 200 ∧ n1 ≤ 500
  · obtain ⟨hg0, hg1⟩ := hg
    have hd0 : decide ((200 : Int) < (n0 : Int)) = false := decide_eq_false (by omega)
    have hd1 : decide ((500 : Int) < (n1 : Int)) = false := decide_eq_false (by omega)
    have HZ := Lib.hid hz0.1
    have HB := Lib.hid hb1.1
    go_enter Try.func8, Try.ntmps8
    go_wp2_with fail
    refine (alive02 _).mono ?_
    rintro e w1 ⟨rfl, h1⟩
    go_wp2_with fail
    go_loopw [5, 6, 31] (fun b own i wr => ∃ (k : Nat) (os : List Nat) (Ab Ao : Option Addr) (nb cb no co : Nat), k ≤ n0 ∧ i = .int .i64 k ∧ b = .slice Ab nb cb ∧ own = .slice Ao no co ∧ os.length ≤ k ∧ (∀ o ∈ os, o ≤ 1099511627776) ∧
        OwnB wr w1.heap.size Ab nb cb (flat os) ∧ OwnI wr w1.heap.size Ao no co (ints os) ∧ Below w1.heap.size w1 wr) (fun _ _ i _ => n0 - (intOf i).toNat)
    case atStart => exact ⟨0, [], none, none, 0, 0, 0, 0, by omega, rfl, rfl, rfl, by simp, by simp, OwnB.nil _ _, OwnI.nil _ _, Below.refl _ _⟩
    case round =>
      obtain ⟨k, os, Ab, Ao, nb, cb, no, co, hk, rfl, rfl, rfl, hos, hob, hB, hI, hbel⟩ := hrel
      have h1k := h1.trans (hbel.mono h1.size)
      by_cases hlt : k < n0
      · have hkz : k < z0.length := by rw [← HZ.out]; exact hlt
        obtain ⟨az, rfl, _, hcz⟩ := (hz0.below h1k).at_ hkz
        have hz := hzb _ (List.getElem_mem hkz)
        obtain ⟨z, hze⟩ : ∃ z, z = z0[k] := ⟨_, rfl⟩
        rw [← hze] at hcz hz
        clear hze
        have hnb : nb ≤ 1200 := by rw [hB.1]; have := flat_len os; omega
        by_cases hbad : z < 0 ∨ 1099511627776 < z
        · go_wp2_with fail
          refine (put_bad _ _ _ _ _ hbad).mono ?_
          rintro e w2 ⟨rfl, rfl⟩
          rcases hbad with hb | hb
          · have hq : decide ((0 : Int) ≤ z) = false := decide_eq_false (by omega)
            go_wp2_with fail
            go_roundw
            case rel => exact ⟨k + 1, os, _, _, _, _, _, _, by omega, by go_num, rfl, rfl, by omega, hob, hB, hI, hbel⟩
            case measure => simp [intOf]; omega
          · have hq : decide ((0 : Int) ≤ z) = true := decide_eq_true (by omega)
            have hq1 : decide (z ≤ 1099511627776) = false := decide_eq_false (by omega)
            go_wp2_with fail
            go_roundw
            case rel => exact ⟨k + 1, os, _, _, _, _, _, _, by omega, by go_num, rfl, rfl, by omega, hob, hB, hI, hbel⟩
            case measure => simp [intOf]; omega
        · obtain ⟨y, rfl⟩ := Int.eq_ofNat_of_zero_le (show 0 ≤ z by omega)
          have hy : y ≤ 1099511627776 := by omega
          clear hbad hz
          go_wp2_with fail
          refine (put_ok _ _ _ _ _ _ _ hB.rd (Nat.le_refl _) (by omega) hy).mono ?_
          rintro e w2 ⟨A2, n2, c2, rfl, ho2, h2⟩
          have hI2 := (hI.below h2 (Nat.le_refl _)).alloc (.cells #[.int .i64 (y : Int)] 3)
          have hno : no ≤ 200 := by rw [hI.1]; simp [ints]; omega
          have hq : decide ((0 : Int) ≤ (y : Int)) = true := decide_eq_true (by omega)
          have hq1 : decide ((y : Int) ≤ 1099511627776) = true := decide_eq_true (by omega)
          have hbel2 := hbel.trans (h2.mono hbel.size)
          go_wp2_with (at_builtin; refine wpList_appI rfl (.tmp 53) (.tmp 55) rfl rfl hI2 rfl (RdI.made _ [(y : Int)] _ _ _ rfl) ?hx0 ?hx2 ?_)
          case hx0 => show no + 1 ≤ _; omega
          case hx2 => have := hbel2.size; simp; omega
          intro A3 c3 w3 ho3 hg3 _ hbl3
          have hbel3 := (hbel2.alloc hbel2.size (.cells #[.int .i64 (y : Int)] 3)).trans hbl3
          have ho23 : OwnB w3 w1.heap.size A2 n2 c2 (flat (os ++ [y])) := by
            rw [flat_snoc]
            refine ((ho2.alloc _).grown hg3 ?_).mono hbel.size
            rcases hA : A2 with _ | a2
            · exact .inl rfl
            · right
              intro e
              rcases hAo : Ao with _ | ao
              · rw [hAo] at e; cases e
              · have q1 := (ho2.lt a2.block (by rw [hA]; rfl)).1
                have q2 := (hI.lt ao.block (by rw [hAo]; rfl)).2
                rw [hAo] at e
                injection e with e
                simp only at e
                omega
          have ho33 : OwnI w3 w1.heap.size A3 (no + 1) c3 (ints (os ++ [y])) := by simpa [ints] using ho3
          go_wp2_with fail
          go_roundw
          case rel => exact ⟨k + 1, os ++ [y], _, _, _, _, _, _, by omega, by go_num, rfl, rfl, by simp; omega, bnd_snoc hob hy, ho23, ho33, hbel3⟩
          case measure => simp [intOf]; omega
      · have hol : os.length ≤ 200 := by omega
        have hnb : nb ≤ 1200 := by rw [hB.1]; have := flat_len os; omega
        have hno := Lib.hid hI.1
        clear hz0 hzb
        go_wp2_with (first | (at_builtin; refine wpList_appB rfl (.tmp 58) (.tmp 59) rfl rfl (OwnB.made wr wr.heap.size [] #[] 0 rfl rfl (Nat.le_refl _) (Nat.zero_le _)) rfl ((hB.rd).alloc (Nat.le_refl _) _) (by omega) (by simp) ?_))
        intro A2 c2 w2 ho2 _ _ hbl2
        have h2 : Below wr.heap.size wr w2 := ((Below.refl _ _).alloc (Nat.le_refl _) _).trans hbl2
        go_wp2_with (first | (at_builtin; refine wpList_appB rfl (.tmp 60) (.tmp 61) rfl rfl ho2 rfl (hb1.below (h1k.trans (h2.mono h1k.size))) (by omega) h2.size ?_))
        intro A3 c3 w3 ho3 _ _ hbl3
        have h3 : Below wr.heap.size wr w3 := h2.trans hbl3
        go_wp2_with fail
        refine (new_any _ _ _ _ _ _ ho3.rd (Nat.le_refl _) (by omega)).mono ?_
        rintro e w4 ⟨A4, c4, g, rfl, hg4, hR4, h4⟩
        have hI4 := hI.below (h3.trans (h4.mono h3.size)) (Nat.le_refl _)
        have h14 := h1k.trans ((h3.trans (h4.mono h3.size)).mono h1k.size)
        have hgw : wr.heap.size ≤ g := Nat.le_trans h3.size hg4
        have hI0 := hI
        clear h4 h3 h2 hbl3 hbl2 ho3 ho2 hB hI
        have hnos : no = os.length := by rw [hno.out]; simp [ints]
        have HNO := Lib.hid hnos
        have hno2 : no ≤ 200 := by omega
        have hwg : w1.heap.size ≤ g := Nat.le_trans hbel.size hgw
        have hlb : ∀ q, Ao.map (·.block) = some q → q < g := fun q hq => Nat.lt_of_lt_of_le (hI0.lt q hq).2 hgw
        have HLB := Lib.hid hlb
        clear hnos hno hbel hgw h1k hg4 hlb hI0
        obtain ⟨wo, rfl⟩ : ∃ wo : World, wo = wr := ⟨_, rfl⟩
        go_wp2_with fail
        go_loopw [66] (fun i wr => ∃ (j : Nat) (A : Option Addr) (c : Nat), j ≤ no ∧ i = .int .i64 j ∧ Rdr wr g A (flat (os.drop j) ++ b1).length c (flat (os.drop j) ++ b1) 0 ∧ w4.grownBy wr (some g)) (fun i _ => no - (intOf i).toNat)
        case atStart => exact ⟨0, A4, c4, by omega, rfl, hR4, World.grownBy.refl _ _⟩
        case round =>
          obtain ⟨j, A, c, hj, rfl, hR, hgr⟩ := hrel
          have hIr := hI4.grown hgr (by
            rcases hA : Ao with _ | ao
            · exact .inl rfl
            · right; intro e; injection e with e
              have h2 := HLB.out ao.block (by rw [hA]; rfl)
              have e : ao.block = g := e
              omega)
          have hB1 : Below w.heap.size w wr := h14.trans (only_Below hgr (by have := h1.size; omega) h14.size)
          by_cases hlj : j < no
          · have hjo : j < os.length := by rw [← HNO.out]; exact hlj
            obtain ⟨go, rfl, _, _⟩ := hIr.form (by omega)
            have hci := hIr.cell (j := j) (by simp [ints]; exact hjo)
            obtain ⟨o, ho⟩ : ∃ o, o = os[j] := ⟨_, rfl⟩
            have hci2 : wr.cell? ⟨go, j, none⟩ = some (.int .i64 (o : Int)) := by rw [hci]; simp [ints, ho]
            have hof : Vint.dec (flat (os.drop j) ++ b1) = .ok (o, flat (os.drop (j + 1)) ++ b1) := by
              rw [flat_drop os j hjo, ← ho, List.append_assoc]
              exact Vint.dec_enc (by rw [ho]; exact hob _ (List.getElem_mem hjo)) _
            have HI := Lib.hid (Vint.intM_ok hof)
            clear hci ho hof
            have hqq : ((o : Int) != (o : Int)) = false := by simp
            go_wp2_with fail
            refine (int_any _ _ _ _ _ _ _ hR).mono ?_
            rintro e w5 ⟨rfl, hg5, A5, c5, hR5⟩
            rw [HI.out] at hR5 ⊢
            simp only at hR5 ⊢
            go_wp2_with fail
            refine (err_any _ _ _ _ _ _ _ hR5).mono ?_
            rintro e w6 ⟨rfl, rfl⟩
            go_wp2_with fail
            go_roundw
            case rel => exact ⟨j + 1, _, _, by omega, by go_num, hR5, hgr.trans hg5⟩
            case measure => simp [intOf]; omega
          · have hje : os.drop j = [] := List.drop_eq_nil_of_le (by rw [← HNO.out]; omega)
            rw [hje] at hR
            rw [show flat [] ++ b1 = b1 from rfl] at hR
            have HJ := Lib.hid hje
            clear hje
            go_wp2_with fail
            refine (left_any _ _ _ _ _ _ _ hR).mono ?_
            rintro e w6 ⟨rfl, rfl⟩
            rw [← HB.out]
            obtain ⟨wq, rfl⟩ : ∃ wq : World, wq = wr := ⟨_, rfl⟩
            have hgq := hR.lt
            have hn1 : b1.length ≤ 500 := by rw [← HB.out]; exact hg1
            clear hgr hIr hI4 hlj
            go_wp2_with fail
            go_loopw [14] (fun v wr => ∃ (again rest : List UInt8) (A Ag : Option Addr) (c ng cg : Nat), v = .slice Ag ng cg ∧ b1 = again ++ rest ∧ OwnB wr wq.heap.size Ag ng cg again ∧ Rdr wr g A rest.length c rest 0 ∧ Below w.heap.size w wr ∧ wq.heap.size ≤ wr.heap.size)
              (fun v _ => 600 - (lenOf v))
            case atStart => exact ⟨[], b1, _, none, _, 0, 0, rfl, rfl, OwnB.nil _ _, hR, hB1, Nat.le_refl _⟩
            case round =>
              obtain ⟨again, rest, A', Ag, c', ng, cg, rfl, hsplit, hag, hRr, hBr, hsr⟩ := hrel
              have hlen : again.length + rest.length ≤ 500 := by rw [hsplit, List.length_append] at hn1; exact hn1
              have hng : ng ≤ n1 := by rw [hag.1, HB.out, hsplit, List.length_append]; omega
              have HE := Lib.hid hsplit
              have HG := Lib.hid hag.1
              clear hsplit
              go_wp2_with fail
              refine (err_any _ _ _ _ _ _ _ hRr).mono ?_
              rintro e w6 ⟨rfl, rfl⟩
              go_wp2_with fail
              refine (left_any _ _ _ _ _ _ _ hRr).mono ?_
              rintro e w6 ⟨rfl, rfl⟩
              rcases rest with _ | ⟨x, rest⟩
              · go_wp2_with fail
                refine (same_eq _ _ _ _ _ _ _ _ _ _ hag.rd (tail_rd (hb1.below hBr) HE.out hag.1) (by omega)).mono ?_
                rintro e w7 ⟨rfl, m7, rfl⟩
                go_wp2_with fail
                go_ret
                exact ⟨rfl, below_drewN hBr _⟩
              · obtain ⟨rs, hrs⟩ : ∃ rs, rs = x :: rest := ⟨_, rfl⟩
                have hpos : decide (0 < rs.length) = true := decide_eq_true (by rw [hrs]; simp)
                rw [← hrs] at hRr HE hlen ⊢
                clear hrs
                go_wp2_with fail
                refine (left_any _ _ _ _ _ _ _ hRr).mono ?_
                rintro e w6 ⟨rfl, rfl⟩
                go_wp2_with fail
                refine (int_any _ _ _ _ _ _ _ hRr).mono ?_
                rintro e w6 ⟨rfl, hg6, A6, c6, hR6⟩
                have hgb : g < wq.heap.size := hgq
                have hB6 : Below w.heap.size w w6 := hBr.trans (only_Below hg6 (by have := h14.size; have := hR4.lt; have := h1.size; omega) hBr.size)
                have hag6 : OwnB w6 wq.heap.size Ag ng cg again := hag.grown hg6 (by
                  rcases hA : Ag with _ | ag
                  · exact .inl rfl
                  · right; intro e; injection e with e
                    have h2 := (hag.lt ag.block (by rw [hA]; rfl)).1
                    have e : ag.block = g := e
                    omega)
                have hs6 : wq.heap.size ≤ w6.heap.size := Nat.le_trans hsr hg6.size
                rcases hd : Vint.dec rs with q | ⟨o, rest2⟩
                · rw [Vint.intM_bad hd] at hR6 ⊢
                  have hq0 : ((q : Int) != 0) = true := by rw [bne_iff_ne]; have := Vint.dec_err hd; omega
                  have HDD := Lib.hid hd
                  clear hd
                  simp only at hR6 ⊢
                  go_wp2_with fail
                  refine (err_any _ _ _ _ _ _ _ hR6).mono ?_
                  rintro e w7 ⟨rfl, rfl⟩
                  go_wp2_with fail
                  refine (same_eq _ _ _ _ _ _ _ _ _ _ hag6.rd (tail_rd (hb1.below hB6) HE.out hag6.1) (by omega)).mono ?_
                  rintro e w7 ⟨rfl, m7, rfl⟩
                  go_wp2_with fail
                  go_ret
                  exact ⟨rfl, below_drewN hB6 _⟩
                · have hok := Vint.dec_ok hd
                  have hll := Vint.dec_ok_lt hd
                  rw [Vint.intM_ok hd] at hR6 ⊢
                  clear hd
                  have ho := hok.2
                  have HOK := Lib.hid hok.1
                  obtain ⟨hl1', hl2'⟩ := hll
                  have HLL := Lib.hid hl2'
                  clear hok hl2'
                  simp only at hR6 ⊢
                  go_wp2_with fail
                  refine (err_any _ _ _ _ _ _ _ hR6).mono ?_
                  rintro e w7 ⟨rfl, rfl⟩
                  go_wp2_with fail
                  refine (put_ok none 0 0 [] o 0 w6 (RdB.nil _ _ _) (Nat.zero_le _) (by omega) ho).mono ?_
                  rintro e w7 ⟨A7, n7, c7, rfl, ho7, h7⟩
                  rw [List.nil_append] at ho7
                  have hR7 := hR6.below (h7.mono hR6.lt)
                  have hag7 := hag6.below h7 (Nat.le_refl _)
                  have hB7 := hB6.trans (h7.mono hB6.size)
                  have hs7 : wq.heap.size ≤ w7.heap.size := Nat.le_trans hs6 h7.size
                  have HN7 := Lib.hid ho7.1
                  go_wp2_with fail
                  refine (left_any _ _ _ _ _ _ _ hR7).mono ?_
                  rintro e w8 ⟨rfl, rfl⟩
                  have e7 : ((n7 : Int) != (rs.length : Int) - (rest2.length : Int)) = false := by
                    have h1' := HN7.out
                    have h2' := HLL.out
                    have : (n7 : Int) = (rs.length : Int) - (rest2.length : Int) := by omega
                    rw [this]; simp
                  go_wp2_with (at_builtin; refine wpList_appB rfl (.tmp 116) (.tmp 117) rfl rfl hag7 rfl ho7.rd ?hx0 hs7 ?_)
                  case hx0 => have := HN7.out; have := Vint.enc_length o; omega
                  intro A9 c9 w9 ho9 hg9 _ hb9
                  have hR9 := hR7.below (hb9.mono hgb)
                  have hB9 : Below w.heap.size w w9 := hB7.trans (hb9.mono (by have := h1.size; have := h14.size; have := hR4.lt; omega))
                  go_wp2_with fail
                  go_roundw
                  case rel =>
                    refine ⟨again ++ Vint.enc o, rest2, _, _, _, _, _, rfl, ?_, ho9, hR9, hB9, Nat.le_trans hs7 hb9.size⟩
                    rw [HE.out, HOK.out, List.append_assoc]
                  case measure =>
                    have h1' := HN7.out
                    have h2' := HLL.out
                    have h3' := HG.out
                    have := Vint.enc_pos o
                    simp [lenOf]; omega
  · by_cases hg0 : n0 ≤ 200
    · have hd0 : decide ((200 : Int) < (n0 : Int)) = false := decide_eq_false (by omega)
      have hd1 : decide ((500 : Int) < (n1 : Int)) = true := decide_eq_true (by omega)
      go_enter Try.func8, Try.ntmps8
      go_wp2_with fail
      refine (alive02 _).mono ?_
      rintro e w1 ⟨rfl, h1⟩
      go_wp2_with fail
      go_ret
      exact ⟨rfl, h1⟩
    · have hd0 : decide ((200 : Int) < (n0 : Int)) = true := decide_eq_true (by omega)
      go_enter Try.func8, Try.ntmps8
      go_wp2_with fail
      refine (alive02 _).mono ?_
      rintro e w1 ⟨rfl, h1⟩
      go_wp2_with fail
      go_ret
      exact ⟨rfl, h1⟩
set_option maxRecDepth 100000 in
theorem lifted (os : Os) (started : os.Started) (H : Type) (enc : TypeId × Value → H) :
    ReturnsInHanded {} Try.checked os 8 .any (Rows.vintBackSpec.pre6 enc Try.prog Try.f8 Rows.vintBackRow.domain false) (Rows.vintBackSpec.post enc Try.prog Try.f8 false true false false) := by
  refine returnsInHanded_of_change (C := Try.checked) own started (by kernel_rfl) Try.func8
    (ChangeSpec.witness6 (enc := enc) (C := Try.checked) false ⟨#[], #[.slice none 0 0, .slice none 0 0], []⟩ 8 (by kernel_rfl) (by kernel_rfl) (by kernel_rfl) (by kernel_rfl)) ?_
  intro W base args ds gs before hval0 hW hcnd _
  have hval : ∀ (j : Nat) t v, Try.f8.params[j]? = some t → args[j]? = some v → Value.okWide Try.prog W .any base t v := hval0
  have hW' := hW
  obtain ⟨p, q, hA0, hV, rfl, hfz, hnd⟩ := hW
  have hA : DataW.TrodAll enc Try.prog W 0 (fun _ => true) true Try.f8.params.toList args.toList ds p := hA0
  rw [Try.params8] at hA hval
  obtain ⟨v0, vs0, d0, ds0, p0, q0, hargs, rfl, rfl, h0, r0⟩ := trodAll_cons hA
  obtain ⟨v1, vs1, d1, ds1, p1, q1, rfl, rfl, rfl, h1, r1⟩ := trodAll_cons r0
  obtain ⟨rfl, rfl, rfl⟩ := trodAll_nil r1
  obtain rfl : args = #[v0, v1] := by cases args; simp_all
  obtain ⟨rfl, rfl⟩ := trodVars_none hV
  have lt0 : ∀ x ∈ p0, x.block < W.heap.size := by obtain ⟨m, hm⟩ := h0; exact DataW.trod_lt m _ _ _ hm
  have k0 := h0
  have lt1 : ∀ x ∈ p1, x.block < W.heap.size := by obtain ⟨m, hm⟩ := h1; exact DataW.trod_lt m _ _ _ hm
  have k1 := h1
  obtain ⟨a0, n0, c0, b0, rfl, w0, l0, m0, z0⟩ := open_intsL (hval 0 39 v0 rfl rfl) h0
  obtain ⟨a1, n1, c1, b1, rfl, w1, l1, m1⟩ := open_bytesC (hval 1 22 v1 rfl rfl) h1
  clear hA0 hval0
  refine (walk a0 n0 c0 b0 a1 n1 c1 b1 W w0 l0 m0 z0 w1 l1 m1).mono fun e W' ⟨he, bel⟩ => ?_
  subst he
  exact ⟨_, rfl, _, _, _, [], _, [], hW', trodAll_mk1 (shut_bool Try.underlying4 _), (trodAll_cons_mk (Below.trod laidOut (by kernel_rfl) (of_decide_eq_true (by kernel_rfl)) k0 bel lt0) (trodAll_cons_mk (Below.trod laidOut (by kernel_rfl) (of_decide_eq_true (by kernel_rfl)) k1 bel lt1) trodAll_mk0)), rfl, bel.frame _, fun h => by cases h⟩

theorem proved : Rows.VintBackSaid :=
  OpenClaim.holds_of_wide 8 Try.f8 rfl rfl rfl rfl rfl rfl rfl ⟨rfl, rfl, rfl, rfl, rfl⟩ rfl rfl rfl rfl rfl (by kernel_rfl) Try.func8 (by kernel_rfl)
    (of_decide_eq_true (by kernel_rfl)) (by unfold Func.isWrapper; first | (rw [if_pos (by decide +kernel)]; kernel_rfl) | (rw [if_neg (by decide +kernel)]; exact ⟨rfl, rfl⟩))
    (fun os started H enc _ => lifted os started H enc)
#print axioms proved
end Go.Proofs.Ytlmdnfdkamfplaa.VintBack

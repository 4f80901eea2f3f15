import Derived.Test.YtcgalmnllegnbaaDotAdd
namespace Go.Proofs.Ytcgalmnllegnbaa
set_option linter.unusedVariables false
set_option linter.unusedSimpArgs false
set_option maxRecDepth 100000
open Go.RowKit
open Dot
set_option maxHeartbeats 1000000 in
theorem dots_any (A1 A2 : Option Addr) (n1 c1 n2 c2 B1 B2 : Nat) (l1 l2 : List Dt) (w : World) (h1 : RdD w B1 A1 n1 l1) (h2 : RdD w B2 A2 n2 l2) (hm : n1≤1000000) :
    Calls Try.prog 54 #[.slice A1 n1 c1,.slice A2 n2 c2] w fun e w'=>e = .returned (.bool (decide (l1 = l2)))∧∃ m,w' = w.drewN m:=by
  have H1:=Lib.hid h1.1;have H2:=Lib.hid h2.1;obtain ⟨R,hR⟩ : ∃ R,R = decide (l1 = l2):=⟨_,rfl⟩;rw [← hR];have HR:=Lib.hid hR;clear hR
  by_cases hn : n1 = n2
  case neg =>
    have hf : R = false:=by
      rw [HR.out];exact decide_eq_false (fun e=>hn (by rw [H1.out,H2.out,e]))
    subst hf
    have hnd : ¬ (n1 : Int) = (n2 : Int):=by omega
    go_enter Try.func54,Try.ntmps54
    go_wp2_with fail;go_ret;exact ⟨rfl,0,rfl⟩
  subst hn
  go_enter Try.func54,Try.ntmps54
  go_wp2_with fail
  go_loopw [13] (fun i wr=>∃ k m : Nat,k≤n1∧i = .int .i64 k∧(∀ j,j < k→l1[j]? = l2[j]?)∧wr = w.drewN m) (fun i _=>n1 - (intOf i).toNat)
  case atStart=>exact ⟨0,0,by omega,rfl,fun j hj=>by omega,rfl⟩
  case round =>
    obtain ⟨k,m,hk,rfl,hall,rfl⟩:=hrel;have HA:=Lib.hid hall;clear hall
    by_cases hlt : k < n1
    · have hkl1 : k < l1.length:=by rw [← H1.out];exact hlt
      have hkl2 : k < l2.length:=by rw [← H2.out];exact hlt
      obtain ⟨ad1,rfl,q5,q0,q1⟩:=h1.2 k _ (List.getElem?_eq_getElem hkl1);obtain ⟨ad2,rfl,p5,p0,p1⟩:=h2.2 k _ (List.getElem?_eq_getElem hkl2);have e1 : l1[k]? = some l1[k]:=List.getElem?_eq_getElem hkl1;have e2 : l2[k]? = some l2[k]:=List.getElem?_eq_getElem hkl2
      generalize l1[k] = d1 at *
      generalize l2[k] = d2 at *
      obtain ⟨x1,y1⟩:=d1;obtain ⟨x2,y2⟩:=d2
      simp only at q0 q1 p0 p1
      have E1:=Lib.hid e1;have E2:=Lib.hid e2
      have hk0 : (0 : Int)≤(k : Int):=by omega
      have hkn : (k : Int) < (n1 : Int):=by omega
      have q0' : (w.drewN m).cell? (ad1.add (k * 2)) = some (.int .i64 x1):=q0;have q1' : (w.drewN m).cell? ⟨(ad1.add (k * 2)).block,(ad1.add (k * 2)).off + 1,none⟩ = some (.int .i64 y1):=q1;have p0' : (w.drewN m).cell? (ad2.add (k * 2)) = some (.int .i64 x2):=p0;have p1' : (w.drewN m).cell? ⟨(ad2.add (k * 2)).block,(ad2.add (k * 2)).off + 1,none⟩ = some (.int .i64 y2):=p1;clear e1 e2
      by_cases ex : x1 = x2
      · by_cases ey : y1 = y2
        · subst ex ey
          go_upto_region 6 with fail
          go_quiet (fail)
          go_wp2_with fail
          go_roundw
          case rel=>exact ⟨k + 1,m + nq,by omega,by go_num,fun j hj=>by
            by_cases e : j = k
            · subst e;rw [E1.out,E2.out]
            · exact HA.out j (by omega),rfl⟩
          case measure=>simp [intOf];omega
        · have hf : R = false:=by
            rw [HR.out];refine decide_eq_false (fun e=>?_);have h3:=E1.out;rw [e,E2.out] at h3
            injection h3 with h3
            injection h3 with h3 h4
            exact ey h4.symm
          subst hf;subst ex
          go_upto_region 6 with fail
          go_quiet (fail)
          go_wp2_with fail;go_ret;exact ⟨rfl,m + nq,by simp⟩
      · have hf : R = false:=by
          rw [HR.out];refine decide_eq_false (fun e=>?_);have h3:=E1.out;rw [e,E2.out] at h3
          injection h3 with h3
          injection h3 with h3 h4
          exact ex h3.symm
        subst hf
        go_upto_region 6 with fail
        go_quiet (fail)
        go_wp2_with fail;go_ret;exact ⟨rfl,m + nq,by simp⟩
    · have hf : R = true:=by
        rw [HR.out];refine decide_eq_true (List.ext_getElem? fun i=>?_)
        by_cases hi : i < n1
        · exact HA.out i (by omega)
        · rw [List.getElem?_eq_none (by have:=H1.out;omega),List.getElem?_eq_none (by have:=H2.out;omega)]
      subst hf;go_wp2_with fail;go_ret;exact ⟨rfl,m,rfl⟩
end Go.Proofs.Ytcgalmnllegnbaa

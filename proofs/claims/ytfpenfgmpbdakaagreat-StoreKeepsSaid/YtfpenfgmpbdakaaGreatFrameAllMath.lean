import Derived.Test.YtfpenfgmpbdakaaGreatFrameMath
namespace Go.Proofs.YtfpenfgmpbdakaaGreat.Frame
set_option linter.unusedVariables false
set_option linter.unusedSimpArgs false
set_option maxRecDepth 100000
def frms (l : List (List UInt8)) : List UInt8:=(l.map frm).flatten
theorem frms_nil : frms [] = []:=rfl
theorem frms_cons (x : List UInt8) (l : List (List UInt8)) : frms (x :: l) = frm x ++ frms l:=by simp [frms]
theorem frms_append (l m : List (List UInt8)) : frms (l ++ m) = frms l ++ frms m:=by simp [frms]
theorem frms_snoc (l : List (List UInt8)) (x : List UInt8) : frms (l ++ [x]) = frms l ++ frm x:=by simp [frms]
def Parts (b : List UInt8) (l : List (List UInt8)) (r : List UInt8) : Prop:=b = frms l ++ r∧(∀ x ∈ l,x.length≤4096)∧∃ y,dec r = .error y
theorem frm_pos (x : List UInt8) : 0 < (frm x).length:=by rw [frm_length];omega
theorem Parts.same {b : List UInt8} {l m : List (List UInt8)} {r z : List UInt8} (h1 : Parts b l r) (h2 : Parts b m z) : l = m∧r = z:=by
  obtain ⟨e1,s1,y1,d1⟩:=h1;obtain ⟨e2,s2,y2,d2⟩:=h2
  have e : frms l ++ r = frms m ++ z:=by rw [← e1,e2]
  clear e1 e2
  induction l generalizing m with
  | nil =>
    cases m with
    | nil=>exact ⟨rfl,e⟩
    | cons x m =>
      exfalso
      rw [frms_nil,List.nil_append,frms_cons,List.append_assoc] at e;rw [e,dec_frm (s2 x (by simp))] at d1
      cases d1
  | cons x l ih =>
    cases m with
    | nil =>
      exfalso
      rw [frms_nil,List.nil_append,frms_cons,List.append_assoc] at e;rw [← e,dec_frm (s1 x (by simp))] at d2
      cases d2
    | cons y m =>
      rw [frms_cons,frms_cons,List.append_assoc,List.append_assoc] at e;have t:=dec_frm (s1 x (by simp)) (frms l ++ r);rw [e,dec_frm (s2 y (by simp))] at t
      simp only [Except.ok.injEq,Prod.mk.injEq] at t
      obtain ⟨t1,t2⟩:=t;obtain ⟨i1,i2⟩:=ih (fun q hq=>s1 q (by simp [hq])) (fun q hq=>s2 q (by simp [hq])) t2.symm;exact ⟨by rw [t1,i1],i2⟩
theorem torn {x r z : List UInt8} (hx : x.length≤4096) {m : List UInt8} (h : frm x ++ m = r ++ z) (hr : r.length < (frm x).length) : ∃ y,dec r = .error y:=by
  rcases hd : dec r with y | ⟨q,s⟩
  · exact ⟨y,rfl⟩
  exfalso
  obtain ⟨e1,e2⟩:=dec_ok hd;have t:=dec_frm hx m;rw [h,e1,List.append_assoc,dec_frm e2] at t
  simp only [Except.ok.injEq,Prod.mk.injEq] at t
  rw [e1,t.1,List.length_append] at hr
  omega
end Go.Proofs.YtfpenfgmpbdakaaGreat.Frame

import Derived.Test.YtfpenfgmpbdakaaGreatCrcMath
import Derived.Test.YtfpenfgmpbdakaaGreatVintMath
namespace Go.Proofs.YtfpenfgmpbdakaaGreat.Frame
set_option linter.unusedVariables false
set_option linter.unusedSimpArgs false
set_option maxRecDepth 100000
def be (s : Nat) : List UInt8:=[UInt8.ofNat (s / 16777216),UInt8.ofNat (s / 65536),UInt8.ofNat (s / 256),UInt8.ofNat s]
def head (b : List UInt8) : List UInt8:=[1] ++ Vint.enc b.length ++ b
def frm (b : List UInt8) : List UInt8:=head b ++ be (Crc.sum (head b))
theorem be_length (s : Nat) : (be s).length = 4:=rfl
theorem head_length (b : List UInt8) : (head b).length = 1 + (Vint.enc b.length).length + b.length:=by simp [head];omega
theorem frm_length (b : List UInt8) : (frm b).length = 1 + (Vint.enc b.length).length + b.length + 4:=by simp [frm,head_length,be_length]
def dec (b : List UInt8) : Except Nat (List UInt8 × List UInt8) :=
  match b with
  | []=>.error 3
  | v :: t=>if v ≠ 1 then .error 4 else
    match Vint.dec t with
    | .error x=>.error x
    | .ok (n,r) =>
      if 4096 < n then .error 6
      else if r.length < n + 4 then .error 3
      else if (r.drop n).take 4 = be (Crc.sum (b.take (b.length - r.length + n))) then .ok (r.take n,r.drop (n + 4))
      else .error 5
theorem dec_frm {b : List UInt8} (hb : b.length≤4096) (r : List UInt8) : dec (frm b ++ r) = .ok (b,r):=by
  have e : frm b ++ r = 1 :: (Vint.enc b.length ++ (b ++ (be (Crc.sum (head b)) ++ r))):=by simp [frm,head]
  have hd:=Vint.dec_enc (n:=b.length) (by unfold Vint.top;omega) (b ++ (be (Crc.sum (head b)) ++ r));rw [e]
  unfold dec
  simp only [hd]
  rw [if_neg (by simp),if_neg (by omega),if_neg (by simp [be_length])]
  have e2 : List.take ((1 :: (Vint.enc b.length ++ (b ++ (be (Crc.sum (head b)) ++ r)))).length - (b ++ (be (Crc.sum (head b)) ++ r)).length + b.length) (1 :: (Vint.enc b.length ++ (b ++ (be (Crc.sum (head b)) ++ r)))) = head b:=by
    rw [show (1 :: (Vint.enc b.length ++ (b ++ (be (Crc.sum (head b)) ++ r)))) = head b ++ (be (Crc.sum (head b)) ++ r) by simp [head]];rw [show (head b ++ (be (Crc.sum (head b)) ++ r)).length - (b ++ (be (Crc.sum (head b)) ++ r)).length + b.length = (head b).length by rw [List.length_append,List.length_append,List.length_append,List.length_append,head_length];omega]
    simp
  rw [e2,List.drop_left,if_pos (by rw [List.take_append_of_le_length (by rw [be_length];omega)];exact List.take_of_length_le (by rw [be_length];omega))];rw [List.take_left,← List.drop_drop,List.drop_left,show (4 : Nat) = (be (Crc.sum (head b))).length from rfl,List.drop_left]
theorem dec_err {b : List UInt8} {x : Nat} (h : dec b = .error x) : x = 3∨x = 4∨x = 5∨x = 6:=by
  unfold dec at h
  split at h
  · injection h;omega
  · split at h
    · injection h;omega
    · split at h
      · rename_i hd
        injection h with h
        have:=Vint.dec_err hd
        omega
      · split at h
        · injection h;omega
        · split at h
          · injection h;omega
          · split at h
            · cases h
            · injection h;omega
theorem dec_ok {b x r : List UInt8} (h : dec b = .ok (x,r)) : b = frm x ++ r∧x.length≤4096:=by
  unfold dec at h
  split at h
  · cases h
  · rename_i v t
    split at h
    · cases h
    · rename_i hv
      split at h
      · cases h
      · rename_i n r' hd
        split at h
        · cases h
        · split at h
          · cases h
          · rename_i hn hl
            split at h
            · rename_i hs
              simp only [Except.ok.injEq,Prod.mk.injEq] at h
              obtain ⟨hx,hr⟩:=h;have ht:=(Vint.dec_ok hd).1
              have hxl : x.length = n:=by rw [← hx,List.length_take];omega
              have hv1 : v = 1:=by simpa using hv
              have e1 : r' = x ++ (be (Crc.sum ((v :: t).take ((v :: t).length - r'.length + n))) ++ r):=by
                rw [← hs,← hx,← hr,← List.drop_drop,List.take_append_drop,List.take_append_drop]
              have e2 : v :: t = head x ++ (be (Crc.sum ((v :: t).take ((v :: t).length - r'.length + n))) ++ r):=by
                conv=>lhs;rw [ht,e1]
                simp [head,hv1,hxl]
              have e3 : (v :: t).take ((v :: t).length - r'.length + n) = head x:=by
                have el : (v :: t).length - r'.length + n = (head x).length:=by
                  have l1:=congrArg List.length ht
                  simp only [List.length_append] at l1
                  rw [head_length,hxl,List.length_cons]
                  omega
                rw [el]
                conv=>lhs;rw [e2]
                exact List.take_left
              rw [e3] at e2;exact ⟨by rw [e2];simp [frm],by omega⟩
            · cases h
end Go.Proofs.YtfpenfgmpbdakaaGreat.Frame

import Derived.KernelRfl
namespace Go.Proofs.YtfpenfgmpbdakaaGreat.Vint
set_option linter.unusedVariables false
set_option linter.unusedSimpArgs false
set_option maxRecDepth 100000
def top : Nat:=1099511627776
def encF : Nat→Nat→List UInt8
  | 0,n=>[UInt8.ofNat n]
  | f + 1,n=>if n < 128 then [UInt8.ofNat n] else UInt8.ofNat (n % 128 + 128) :: encF f (n / 128)
def enc (n : Nat) : List UInt8:=encF 5 n
def decF : Nat→Nat→Nat→List UInt8→Except Nat (Nat × List UInt8)
  | 0,_,_,_=>.error 4
  | _ + 1,_,_,[]=>.error 3
  | k + 1,i,n,c :: r =>
    if 128≤c.toNat then decF k (i + 1) (n + (c.toNat % 128) * 128 ^ i) r
    else if top < n + c.toNat * 128 ^ i∨(c.toNat = 0∧0 < i) then .error 4 else .ok (n + c.toNat * 128 ^ i,r)
def dec (l : List UInt8) : Except Nat (Nat × List UInt8):=decF 6 0 0 l
theorem toNat_ofNat (n : Nat) : (UInt8.ofNat n).toNat = n % 256:=rfl
theorem encF_length (f n : Nat) : (encF f n).length≤f + 1:=by
  induction f generalizing n with
  | zero=>simp [encF]
  | succ f ih =>
    unfold encF
    split
    · simp
    · have:=ih (n / 128);simp;omega
theorem enc_length (n : Nat) : (enc n).length≤6:=encF_length 5 n
theorem encF_pos (f n : Nat) : 1≤(encF f n).length:=by
  cases f with
  | zero=>simp [encF]
  | succ f=>unfold encF;split <;> simp
theorem enc_pos (n : Nat) : 1≤(enc n).length:=encF_pos 5 n
theorem no_form {a b i : Nat} (ht : a≤top) (h0 : b = 0→i = 0) : ¬ (top < a∨(b = 0∧0 < i)):=by
  rintro (h | ⟨h,h'⟩)
  · omega
  · have:=h0 h;omega
theorem decF_encF (f : Nat) : ∀ (i n m : Nat) (r : List UInt8),m < 128 ^ (f + 1)→n + m * 128 ^ i≤top→(m = 0→i = 0)→decF (f + 1) i n (encF f m ++ r) = .ok (n + m * 128 ^ i,r):=by
  induction f with
  | zero =>
    intro i n m r hm ht h0
    have hm' : m < 128:=by simpa using hm
    simp only [encF,List.singleton_append,decF,toNat_ofNat]
    rw [Nat.mod_eq_of_lt (by omega : m < 256),if_neg (by omega),if_neg (no_form ht h0)]
  | succ f ih =>
    intro i n m r hm ht h0
    by_cases hl : m < 128
    · unfold encF
      rw [if_pos hl]
      simp only [List.singleton_append,decF,toNat_ofNat]
      rw [Nat.mod_eq_of_lt (by omega : m < 256),if_neg (by omega),if_neg (no_form ht h0)]
    · unfold encF
      rw [if_neg hl]
      have e2 : n + m % 128 * 128 ^ i + m / 128 * 128 ^ (i + 1) = n + m * 128 ^ i:=by
        have hd : m = m % 128 + m / 128 * 128:=by omega
        conv=>rhs;rw [hd,Nat.add_mul,Nat.mul_assoc]
        rw [Nat.pow_succ,Nat.mul_comm (128 ^ i) 128];omega
      simp only [List.cons_append,decF,toNat_ofNat]
      rw [Nat.mod_eq_of_lt (by omega : m % 128 + 128 < 256),if_pos (by omega),show (m % 128 + 128) % 128 = m % 128 by omega];rw [ih (i + 1) _ (m / 128) r (by rw [Nat.pow_succ] at hm;omega) (by rw [e2];exact ht) (by omega),e2]
theorem dec_enc {n : Nat} (h : n≤top) (r : List UInt8) : dec (enc n ++ r) = .ok (n,r):=by
  have h128 : (128 : Nat) ^ 6 = 4398046511104:=by decide
  have:=decF_encF 5 0 0 n r (by rw [show 5 + 1 = 6 from rfl,h128];unfold top at h;omega) (by simpa using h) (by omega)
  simpa [dec,enc] using this
theorem decF_ok (k : Nat) : ∀ (i n : Nat) (l : List UInt8) (v : Nat) (r : List UInt8),decF (k + 1) i n l = .ok (v,r) →
    ∃ m,v = n + m * 128 ^ i∧l = encF k m ++ r∧(m = 0→i = 0)∧v≤top∧m < 128 ^ (k + 1):=by
  induction k with
  | zero =>
    intro i n l v r h
    cases l with
    | nil=>simp [decF] at h
    | cons c l =>
      unfold decF at h
      split at h
      · simp [decF] at h
      · split at h
        · cases h
        · rename_i h1 h2
          have hc:=c.toNat_lt
          injection h with h
          injection h with h3 h4
          refine ⟨c.toNat,h3.symm,?_,fun h0=>by false_or_by_contra;exact h2 (.inr ⟨h0,by omega⟩),by omega,by simp;omega⟩;rw [h4];simp [encF]
  | succ k ih =>
    intro i n l v r h
    cases l with
    | nil=>simp [decF] at h
    | cons c l =>
      unfold decF at h
      have hc:=c.toNat_lt
      split at h
      · rename_i h1
        obtain ⟨m,e1,e2,e3,e4,e5⟩:=ih _ _ _ _ _ h
        have hm : m ≠ 0:=fun h0=>by have:=e3 h0;omega
        refine ⟨c.toNat % 128 + 128 * m,?_,?_,by omega,e4,?_⟩
        · rw [e1,Nat.add_mul,Nat.pow_succ,Nat.add_assoc]
          congr 2
          rw [Nat.mul_comm 128 m,Nat.mul_assoc,Nat.mul_comm (128 ^ i) 128]
        · unfold encF
          rw [if_neg (by omega),show (c.toNat % 128 + 128 * m) % 128 + 128 = c.toNat by omega,show (c.toNat % 128 + 128 * m) / 128 = m by omega,e2]
          simp
        · rw [Nat.pow_succ];omega
      · split at h
        · cases h
        · rename_i h1 h2
          injection h with h
          injection h with h3 h4
          have h128 : 128≤128 ^ (k + 1 + 1):=by
            rw [Nat.pow_succ];have : 0 < 128 ^ (k + 1):=Nat.pow_pos (by decide);omega
          refine ⟨c.toNat,h3.symm,?_,fun h0=>by false_or_by_contra;exact h2 (.inr ⟨h0,by omega⟩),by omega,by omega⟩
          unfold encF
          rw [if_pos (by omega),h4];simp
theorem dec_ok {l : List UInt8} {n : Nat} {r : List UInt8} (h : dec l = .ok (n,r)) : l = enc n ++ r∧n≤top:=by
  obtain ⟨m,e1,e2,_,e4,_⟩:=decF_ok 5 0 0 l n r h
  have : n = m:=by simpa using e1
  subst this;exact ⟨e2,e4⟩
theorem dec_ok_lt {l : List UInt8} {n : Nat} {r : List UInt8} (h : dec l = .ok (n,r)) : r.length < l.length∧l.length = (enc n).length + r.length:=by
  obtain ⟨e,_⟩:=dec_ok h
  have:=enc_pos n
  rw [e,List.length_append];omega
theorem decF_err (k : Nat) : ∀ (i n : Nat) (l : List UInt8) (x : Nat),decF k i n l = .error x→x = 3∨x = 4:=by
  induction k with
  | zero=>intro i n l x h;unfold decF at h;injection h with h;omega
  | succ k ih =>
    intro i n l x h
    cases l with
    | nil=>unfold decF at h;injection h with h;omega
    | cons c l =>
      unfold decF at h
      split at h
      · exact ih _ _ _ _ h
      · split at h
        · injection h with h;omega
        · cases h
theorem dec_err {l : List UInt8} {x : Nat} (h : dec l = .error x) : x = 3∨x = 4:=decF_err 6 0 0 l x h
theorem dec_nil : dec [] = .error 3:=rfl
def intM (l : List UInt8) (e : Nat) : Nat × List UInt8 × Nat :=
  if e = 0 then
    match dec l with
    | .ok (n,r)=>(n,r,0)
    | .error x=>(0,l,x)
  else (0,l,e)
theorem intM_ok {l : List UInt8} {n : Nat} {r : List UInt8} (h : dec l = .ok (n,r)) : intM l 0 = (n,r,0):=by simp [intM,h]
theorem intM_bad {l : List UInt8} {x : Nat} (h : dec l = .error x) : intM l 0 = (0,l,x):=by simp [intM,h]
theorem intM_fail {l : List UInt8} {e : Nat} (h : e ≠ 0) : intM l e = (0,l,e):=by simp [intM,h]
theorem or128 : ∀ x : Fin 256,x.val ||| 128 = x.val % 128 + 128:=by decide +kernel
end Go.Proofs.YtfpenfgmpbdakaaGreat.Vint

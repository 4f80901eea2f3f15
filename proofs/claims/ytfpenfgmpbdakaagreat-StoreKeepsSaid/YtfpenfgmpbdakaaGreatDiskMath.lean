import Derived.KernelRfl
namespace Go.Proofs.YtfpenfgmpbdakaaGreat.Disk
set_option linter.unusedVariables false
set_option linter.unusedSimpArgs false
set_option maxRecDepth 100000
abbrev W:=Bool × List UInt8
def units (x : W) : Nat:=if x.1 then 1 else x.2.length
def doW (x : W) (b : List UInt8) (k : Nat) : List UInt8:=if x.1 then x.2 else b ++ x.2.take k
def afterL (b : List UInt8) : List W→Nat→List UInt8
  | [],_=>b
  | x :: r,n=>afterL (if 0 < min n (units x) then doW x b (min n (units x)) else b) r (n - min n (units x))
def pend : List W→Nat
  | []=>0
  | x :: r=>units x + pend r
def mass : List W→Nat
  | []=>0
  | x :: r=>x.2.length + mass r
def readL (b : List UInt8) (ws : List W) : List UInt8:=afterL b ws (pend ws)
theorem pend_append (a b : List W) : pend (a ++ b) = pend a + pend b:=by
  induction a with
  | nil=>simp [pend]
  | cons x r ih=>simp [pend,ih,Nat.add_assoc]
theorem mass_append (a b : List W) : mass (a ++ b) = mass a + mass b:=by
  induction a with
  | nil=>simp [mass]
  | cons x r ih=>simp [mass,ih,Nat.add_assoc]
theorem pend_le (a : List W) : pend a≤mass a + a.length:=by
  induction a with
  | nil=>simp [pend]
  | cons x r ih =>
    unfold pend mass
    have : units x≤x.2.length + 1:=by unfold units;split <;> omega
    simp;omega
theorem doW_len (x : W) (b : List UInt8) (k : Nat) : (doW x b k).length≤b.length + x.2.length:=by
  unfold doW;split
  · omega
  · simp;omega
theorem after_len (b : List UInt8) (ws : List W) (n : Nat) : (afterL b ws n).length≤b.length + mass ws:=by
  induction ws generalizing b n with
  | nil=>simp [afterL,mass]
  | cons x r ih =>
    unfold afterL mass
    refine Nat.le_trans (ih _ _) ?_
    split
    · have:=doW_len x b (min n (units x));omega
    · omega
theorem after_zero (b : List UInt8) (ws : List W) : afterL b ws 0 = b:=by
  induction ws with
  | nil=>rfl
  | cons x r ih=>unfold afterL;simpa using ih
theorem after_append (a c : List W) (b : List UInt8) (n : Nat) : afterL b (a ++ c) n = afterL (afterL b a n) c (n - pend a):=by
  induction a generalizing b n with
  | nil=>simp [afterL,pend]
  | cons x r ih =>
    simp only [List.cons_append,afterL,pend]
    rw [ih]
    congr 1
    omega
theorem after_ge (ws : List W) (b : List UInt8) (n : Nat) (h : pend ws≤n) : afterL b ws n = readL b ws:=by
  unfold readL
  induction ws generalizing b n with
  | nil=>rfl
  | cons x r ih =>
    unfold pend at h
    unfold afterL pend
    rw [Nat.min_eq_right (by omega : units x≤n),Nat.min_eq_right (by omega : units x≤units x + pend r)];rw [ih _ _ (by omega)]
    congr 1
    omega
theorem read_append (b : List UInt8) (a c : List W) : readL b (a ++ c) = readL (readL b a) c:=by
  unfold readL
  rw [after_append,pend_append,Nat.add_sub_cancel_left,after_ge a b _ (by omega)];rfl
theorem read_app (b : List UInt8) (ws : List W) (x : List UInt8) : readL b (ws ++ [(false,x)]) = readL b ws ++ x:=by
  rw [read_append]
  generalize readL b ws = c
  unfold readL
  rcases x with _ | ⟨y,r⟩
  · simp [afterL,pend,units]
  · simp [afterL,pend,units,doW]
theorem read_swap (b : List UInt8) (ws : List W) (x : List UInt8) : readL b (ws ++ [(true,x)]) = x:=by
  rw [read_append]
  generalize readL b ws = c
  simp [readL,afterL,pend,units,doW]
theorem drop_at {ws : List W} {k : Nat} {x : W} (h : ws[k]? = some x) : ws.drop k = x :: ws.drop (k + 1):=by
  obtain ⟨hk,e⟩:=List.getElem?_eq_some_iff.1 h;rw [List.drop_eq_getElem_cons hk,e]
theorem after_step {ws : List W} {k : Nat} {x : W} (h : ws[k]? = some x) (cur : List UInt8) (m t : Nat) (ht : t = min m (units x)) :
    afterL cur (ws.drop k) m = afterL (if 0 < t then doW x cur t else cur) (ws.drop (k + 1)) (m - t):=by
  rw [drop_at h,ht];rfl
theorem mass_step {ws : List W} {k : Nat} {x : W} (h : ws[k]? = some x) : mass (ws.drop k) = x.2.length + mass (ws.drop (k + 1)):=by
  rw [drop_at h];rfl
theorem pend_step {ws : List W} {k : Nat} {x : W} (h : ws[k]? = some x) : pend (ws.take (k + 1)) = pend (ws.take k) + units x:=by
  obtain ⟨hk,e⟩:=List.getElem?_eq_some_iff.1 h;rw [List.take_succ_eq_append_getElem hk,pend_append,e];rfl
def Fits (size : Nat) (b : List UInt8) (ws : List W) : Prop:=(∀ n,(afterL b ws n).length≤size)∧∀ x ∈ ws,x.2.length≤size
theorem Fits.empty (size : Nat) : Fits size [] []:=⟨fun n=>by simp [afterL],fun x hx=>by simp at hx⟩
theorem Fits.read {size : Nat} {b : List UInt8} {ws : List W} (h : Fits size b ws) : (readL b ws).length≤size:=h.1 _
theorem Fits.app {size : Nat} {b : List UInt8} {ws : List W} (h : Fits size b ws) {x : List UInt8} (hx : (readL b ws).length + x.length≤size) : Fits size b (ws ++ [(false,x)]):=by
  refine ⟨fun n=>?_,fun y hy=>?_⟩
  · rw [after_append]
    by_cases hn : n≤pend ws
    · rw [Nat.sub_eq_zero_of_le hn,after_zero];exact h.1 n
    · rw [after_ge ws b n (by omega)]
      refine Nat.le_trans (after_len _ _ _) ?_
      simp [mass];omega
  · rcases List.mem_append.1 hy with h1 | h1
    · exact h.2 y h1
    · simp at h1;subst h1;simp;omega
theorem Fits.swap {size : Nat} {b : List UInt8} {ws : List W} (h : Fits size b ws) {x : List UInt8} (hx : x.length≤size) : Fits size b (ws ++ [(true,x)]):=by
  refine ⟨fun n=>?_,fun y hy=>?_⟩
  · rw [after_append]
    by_cases hn : n≤pend ws
    · rw [Nat.sub_eq_zero_of_le hn,after_zero];exact h.1 n
    · have : 0 < n - pend ws:=by omega
      simp [afterL,units,doW]
      split
      · exact hx
      · omega
  · rcases List.mem_append.1 hy with h1 | h1
    · exact h.2 y h1
    · simp at h1;subst h1;simp;omega
theorem Fits.crash {size : Nat} {b : List UInt8} {ws : List W} (h : Fits size b ws) (n : Nat) : Fits size (afterL b ws n) [] :=
  ⟨fun m=>by simpa [afterL] using h.1 n,fun x hx=>by simp at hx⟩
end Go.Proofs.YtfpenfgmpbdakaaGreat.Disk

import Derived.KernelRfl
namespace Go.Proofs.YtfpenfgmpbdakaaGreat.Dot
set_option linter.unusedVariables false
set_option linter.unusedSimpArgs false
set_option maxRecDepth 100000
abbrev Dt:=Int × Int
def mayB (d : Dt) : Bool:=decide (0≤d.1) && decide (d.1 < 8) && decide (1≤d.2) && decide (d.2≤96)
def befB (a b : Dt) : Bool:=decide (a.1 < b.1) || decide (a.1 = b.1) && decide (a.2 < b.2)
def goodAt (U : List Int) (l : List Dt) (i : Nat) : Bool :=
  mayB (l.getD i (0,0)) && decide (U.getD (l.getD i (0,0)).1.toNat 0 + 2≤(l.getD i (0,0)).2) && (decide (i = 0) || befB (l.getD (i - 1) (0,0)) (l.getD i (0,0)))
def numOk (n : Int) : Bool:=decide (0≤n) && decide (n≤96)
def rightB (U : List Int) (l : List Dt) : Bool:=U.all numOk && decide (l.length≤768) && (List.range l.length).all (goodAt U l)
theorem may_iff (d : Dt) : mayB d = true↔0≤d.1∧d.1 < 8∧1≤d.2∧d.2≤96:=by
  unfold mayB
  simp only [Bool.and_eq_true,decide_eq_true_eq]
  exact ⟨fun h=>⟨h.1.1.1,h.1.1.2,h.1.2,h.2⟩,fun h=>⟨⟨⟨h.1,h.2.1⟩,h.2.2.1⟩,h.2.2.2⟩⟩
theorem numOk_iff (n : Int) : numOk n = true↔0≤n∧n≤96:=by simp [numOk]
theorem right_iff (U : List Int) (l : List Dt) : rightB U l = true↔U.all numOk = true∧l.length≤768∧∀ i,i < l.length→goodAt U l i = true:=by
  unfold rightB
  simp only [Bool.and_eq_true,decide_eq_true_eq,List.all_eq_true,List.mem_range]
  exact ⟨fun h=>⟨h.1.1,h.1.2,h.2⟩,fun h=>⟨⟨h.1,h.2.1⟩,h.2.2⟩⟩
theorem all_num {U : List Int} (h : U.all numOk = true) (i : Nat) : 0≤U.getD i 0∧U.getD i 0≤96:=by
  rw [List.all_eq_true] at h
  by_cases hi : i < U.length
  · have:=h U[i] (List.getElem_mem hi)
    rw [numOk_iff] at this;rw [List.getD_eq_getElem?_getD,List.getElem?_eq_getElem hi];exact this
  · rw [List.getD_eq_getElem?_getD,List.getElem?_eq_none (by omega)]
    exact ⟨by simp,by simp⟩
theorem good_false {U : List Int} {l : List Dt} {i : Nat} (hi : i < l.length) (h : goodAt U l i = false) : rightB U l = false:=by
  rw [← Bool.not_eq_true,right_iff];intro h';rw [h'.2.2 i hi] at h
  cases h
abbrev Grid:=Nat→Nat→Bool
def noG : Grid:=fun _ _=>false
def orG (g h : Grid) : Grid:=fun n q=>g n q || h n q
def putG (g : Grid) (d : Dt) : Grid:=fun n q=>g n q || (decide ((n : Int) = d.1) && decide ((q : Int) = d.2))
def hasG (U : List Int) (l : List Dt) : Grid:=fun n q=>rightB U l && decide (n < 8) && decide (1≤q) && decide (q≤96) && (decide ((q : Int)≤U.getD n 0) || l.contains ((n : Int),(q : Int)))
def lead (r : Nat→Bool) : Nat→Nat
  | 0=>0
  | Q + 1=>if r Q = true∧Q = lead r Q + 1 then Q else lead r Q
def rest (r : Nat→Bool) : Nat→List Nat
  | 0=>[]
  | Q + 1=>if r Q = true∧Q ≠ lead r Q + 1 then rest r Q ++ [Q] else rest r Q
def numb (n : Nat) (l : List Nat) : List Dt:=l.map fun (q : Nat)=>(((n : Int),(q : Int)) : Dt)
def uptoS (g : Grid) : List Int:=(List.range 8).map fun n=>(lead (g n) 98 : Int)
def moreTo (g : Grid) : Nat→List Dt
  | 0=>[]
  | n + 1=>moreTo g n ++ numb n (rest (g n) 98)
def moreS (g : Grid) : List Dt:=moreTo g 8
theorem lead_le (r : Nat→Bool) (Q : Nat) : lead r Q≤Q - 1:=by
  induction Q with
  | zero=>simp [lead]
  | succ Q ih =>
    rw [lead]
    split <;> omega
theorem numb_len (n : Nat) (l : List Nat) : (numb n l).length = l.length:=by unfold numb;rw [List.length_map]
theorem rest_len (r : Nat→Bool) (Q : Nat) : (rest r Q).length≤Q:=by
  induction Q with
  | zero=>simp [rest]
  | succ Q ih=>rw [rest];split <;> (try simp only [List.length_append,List.length_cons,List.length_nil]) <;> omega
theorem moreTo_len (g : Grid) (n : Nat) : (moreTo g n).length≤n * 98:=by
  induction n with
  | zero=>simp [moreTo]
  | succ n ih =>
    have:=rest_len (g n) 98
    rw [moreTo,List.length_append,numb_len]
    omega
end Go.Proofs.YtfpenfgmpbdakaaGreat.Dot

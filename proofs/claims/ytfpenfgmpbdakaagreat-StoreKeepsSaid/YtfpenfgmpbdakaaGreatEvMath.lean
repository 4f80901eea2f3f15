import Derived.Test.YtfpenfgmpbdakaaGreatDotMath
namespace Go.Proofs.YtfpenfgmpbdakaaGreat.Evt
set_option linter.unusedVariables false
set_option linter.unusedSimpArgs false
set_option maxRecDepth 100000
open Dot
structure Ev where
  d : Dt
  t : Int
  k : Int
  w : Int
  v : Int
  p : List Int
  l : List Dt
def top : Int:=1099511627776
def inB (n lo hi : Int) : Bool:=decide (lo≤n) && decide (n≤hi)
def p0 : List Int:=[0,0,0,0,0,0,0]
def polB (p : List Int) : Bool :=
  inB (p.getD 1 0) 0 1000 && inB (p.getD 0 0) 0 (p.getD 1 0) && inB (p.getD 2 0) 1 1073741824 && inB (p.getD 3 0) 0 100 && inB (p.getD 4 0) 1 1000 && inB (p.getD 5 0) 1 1000 && inB (p.getD 6 0) 0 1000
def nameAt (own : Dt) (l : List Dt) (i : Nat) : Bool :=
  mayB (l.getD i (0,0)) && !decide (l.getD i (0,0) = own) && (decide (i = 0) || befB (l.getD (i - 1) (0,0)) (l.getD i (0,0)))
def namedB (own : Dt) (l : List Dt) : Bool:=(List.range l.length).all (nameAt own l)
def kindB (e : Ev) : Bool :=
  if e.k = 1 then decide (e.p = p0) && inB e.v 0 top && decide (e.l = [])
  else if e.k = 2 then polB e.p && decide (e.v = 0)
  else if e.k = 3 then decide (e.p = p0) && decide (e.v = 0)
  else false
def rightE (e : Ev) : Bool:=mayB e.d && inB e.t 1 top && inB e.w 0 7 && decide (e.l.length≤96) && namedB e.d e.l && kindB e
def dotNums (l : List Dt) : List Int:=l.flatMap fun d=>[d.1,d.2]
def numsE (e : Ev) : List Int :=
  [e.d.1,e.d.2,e.t,e.k,e.w] ++ (if e.k = 1 then [e.v] else (if e.k = 2 then e.p else []) ++ [(e.l.length : Int)] ++ dotNums e.l)
theorem inB_iff (n lo hi : Int) : inB n lo hi = true↔lo≤n∧n≤hi:=by simp [inB]
theorem named_iff (own : Dt) (l : List Dt) : namedB own l = true↔∀ i,i < l.length→nameAt own l i = true:=by
  unfold namedB
  simp only [List.all_eq_true,List.mem_range]
theorem polB_iff {p : List Int} : polB p = true↔(0≤p.getD 1 0∧p.getD 1 0≤1000)∧(0≤p.getD 0 0∧p.getD 0 0≤p.getD 1 0)∧(1≤p.getD 2 0∧p.getD 2 0≤1073741824)∧(0≤p.getD 3 0∧p.getD 3 0≤100)∧(1≤p.getD 4 0∧p.getD 4 0≤1000)∧(1≤p.getD 5 0∧p.getD 5 0≤1000)∧(0≤p.getD 6 0∧p.getD 6 0≤1000):=by
  unfold polB
  simp only [Bool.and_eq_true,inB_iff]
  constructor
  · rintro ⟨⟨⟨⟨⟨⟨h1,h2⟩,h3⟩,h4⟩,h5⟩,h6⟩,h7⟩
    exact ⟨h1,h2,h3,h4,h5,h6,h7⟩
  · rintro ⟨h1,h2,h3,h4,h5,h6,h7⟩
    exact ⟨⟨⟨⟨⟨⟨h1,h2⟩,h3⟩,h4⟩,h5⟩,h6⟩,h7⟩
end Go.Proofs.YtfpenfgmpbdakaaGreat.Evt

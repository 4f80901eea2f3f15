import Derived.Test.YtcgalmnllegnbaaEvMath
namespace Go.Proofs.Ytcgalmnllegnbaa.Ms
set_option linter.unusedVariables false
set_option linter.unusedSimpArgs false
set_option maxRecDepth 100000
open Dot
open Evt (Ev rightE inB inB_iff)
abbrev Mem:=Int × Int × Int
structure Msg where
  kind : Int
  frm : Int
  to : Int
  seq : Int
  node : Int
  u : List Int
  more : List Dt
  ev : List Ev
  mem : List Mem
def top : Int:=1099511627776
def nodeB (n : Int) : Bool:=inB n 0 7
theorem nodeB_iff (n : Int) : nodeB n = true↔0≤n∧n≤7:=inB_iff n 0 7
def lastM (l : List Mem) (i : Nat) : Int:=if i = 0 then -1 else (l.getD (i - 1) (0,0,0)).1
def memAt (l : List Mem) (i : Nat) : Bool :=
  nodeB (l.getD i (0,0,0)).1 && decide (lastM l i < (l.getD i (0,0,0)).1) && inB (l.getD i (0,0,0)).2.1 1 4 && inB (l.getD i (0,0,0)).2.2 0 top
def membersB (l : List Mem) : Bool:=(List.range l.length).all (memAt l)
def noSeen (m : Msg) : Bool:=decide (m.u = [0,0,0,0,0,0,0,0]) && decide (m.more = [])
def mostS (k : Int) : Int:=if k = 5 then 0 else if k = 4 then 1 else top
def askNode (m : Msg) : Bool:=if m.kind = 2∨m.kind = 3 then nodeB m.node else decide (m.node = 0)
def askSeen (m : Msg) : Bool:=if m.kind = 4 then rightB m.u m.more else noSeen m
def askEv (m : Msg) : Bool:=if m.kind = 5 then m.ev.all rightE && decide (m.ev.length≤768) else decide (m.ev = [])
def headB (m : Msg) : Bool:=inB m.kind 1 5 && nodeB m.frm && nodeB m.to && !decide (m.frm = m.to) && membersB m.mem
def rightM (m : Msg) : Bool:=headB m && inB m.seq 0 (mostS m.kind) && askNode m && askSeen m && askEv m
def headN (m : Msg) : List Int :=
  [m.kind,m.frm,m.to,(m.mem.length : Int)] ++ (m.mem.flatMap fun x=>[x.1,x.2.1,x.2.2]) ++ (if m.kind ≠ 5 then [m.seq] else []) ++ (if m.kind = 2∨m.kind = 3 then [m.node] else [])
theorem members_iff (l : List Mem) : membersB l = true↔∀ i,i < l.length→memAt l i = true:=by
  unfold membersB
  simp only [List.all_eq_true,List.mem_range]
theorem memAt_iff (l : List Mem) (i : Nat) : memAt l i = true↔(0≤(l.getD i (0,0,0)).1∧(l.getD i (0,0,0)).1≤7)∧lastM l i < (l.getD i (0,0,0)).1∧(1≤(l.getD i (0,0,0)).2.1∧(l.getD i (0,0,0)).2.1≤4)∧0≤(l.getD i (0,0,0)).2.2∧(l.getD i (0,0,0)).2.2≤top:=by
  unfold memAt
  simp only [Bool.and_eq_true,decide_eq_true_eq,nodeB_iff,inB_iff]
  constructor
  · rintro ⟨⟨⟨h1,h2⟩,h3⟩,h4⟩;exact ⟨h1,h2,h3,h4⟩
  · rintro ⟨h1,h2,h3,h4⟩;exact ⟨⟨⟨h1,h2⟩,h3⟩,h4⟩
theorem members_len {l : List Mem} (h : membersB l = true) : l.length≤8:=by
  have hm:=(members_iff l).1 h
  have key : ∀ i,i < l.length→(i : Int)≤(l.getD i (0,0,0)).1:=by
    intro i
    induction i with
    | zero=>intro hi;exact ((memAt_iff l 0).1 (hm 0 hi)).1.1
    | succ i ih =>
      intro hi;have h1:=ih (by omega);have h2:=((memAt_iff l (i + 1)).1 (hm (i + 1) hi)).2.1
      unfold lastM at h2
      rw [if_neg (by omega),Nat.add_sub_cancel] at h2
      omega
  by_cases h8 : 8 < l.length
  · have h1:=key 8 h8
    have h2:=((memAt_iff l 8).1 (hm 8 h8)).1.2
    omega
  · omega
theorem right_iff (m : Msg) : rightM m = true↔headB m = true∧(0≤m.seq∧m.seq≤mostS m.kind)∧askNode m = true∧askSeen m = true∧askEv m = true:=by
  unfold rightM
  simp only [Bool.and_eq_true,inB_iff]
  constructor
  · rintro ⟨⟨⟨⟨h1,h2⟩,h3⟩,h4⟩,h5⟩;exact ⟨h1,h2,h3,h4,h5⟩
  · rintro ⟨h1,h2,h3,h4,h5⟩;exact ⟨⟨⟨⟨h1,h2⟩,h3⟩,h4⟩,h5⟩
end Go.Proofs.Ytcgalmnllegnbaa.Ms

import Derived.Test.YtfpenfgmpbdakaaGreatLogOps
import Derived.Test.YtfpenfgmpbdakaaGreatStoMath
import Derived.Test.YtfpenfgmpbdakaaGreatFactsD
namespace Go.Proofs.YtfpenfgmpbdakaaGreat
set_option linter.unusedVariables false
set_option linter.unusedSimpArgs false
set_option maxRecDepth 100000
open Go.RowKit
open Disk
namespace Sto
open _root_.Go.Proofs.YtfpenfgmpbdakaaGreat.Log (writeM LogEnd)
open _root_.Go.Proofs.YtfpenfgmpbdakaaGreat.Frame (frm frms frms_nil frms_cons frms_snoc frms_append frm_length frm_pos Parts AllF)
abbrev flt (x : Int) : Value:=.iface 113 (.agg #[.int .i64 x])
theorem must_ok (x : Int) (w : World) :
    Calls Tryz.prog 47 #[.bool true,.int .i64 x] w fun e w'=>e = .returned (.tuple #[])∧w = w':=by
  go_enter Tryz.func47,Tryz.ntmps47
  go_wp2_with fail
  go_end0
  exact ⟨rfl,rfl⟩
theorem must_bad (x : Int) (w : World) :
    Calls Tryz.prog 47 #[.bool false,.int .i64 x] w fun e w'=>e = .panicked [{ v:=flt x,recovered:=false }]∧w = w':=by
  go_enter Tryz.func47,Tryz.ntmps47
  go_wp2_with fail;exact ⟨rfl,rfl,rfl⟩
theorem must_yes {b : Bool} (hb : b = true) (x : Int) (w : World) : Calls Tryz.prog 47 #[.bool b,.int .i64 x] w fun e w'=>e = .returned (.tuple #[])∧w = w':=hb ▸ must_ok x w
theorem must_no {b : Bool} (hb : b = false) (x : Int) (w : World) : Calls Tryz.prog 47 #[.bool b,.int .i64 x] w fun e w'=>e = .panicked [{ v:=flt x,recovered:=false }]∧w = w':=hb ▸ must_bad x w
theorem assert_flt (x : Int) (w : World) : (Instr.typeAssert (flt x) 20 113 true).run Tryz.prog w = .ok (.tuple #[.agg #[.int .i64 x],.bool true]) w:=by kernel_rfl
theorem caught_panic (g : Nat) (x : Int) (older : List PanicEntry) (v : Value) (w : World) (h0 : w.cell? ⟨g,0,none⟩ = some v) (hf : w.frozen? ⟨g,0,none⟩ = false) :
    CallsD Tryz.prog 38 #[.pointer (some ⟨g,0,none⟩)] (.panicking ({ v:=flt x,recovered:=false } :: older)) w fun e u' w' =>
      e = .returned (.tuple #[])∧u' = .panicking ({ v:=flt x,recovered:=true } :: older)∧w' = (w.alloc (.cells #[.int .i64 x] 113)).setCell ⟨g,0,none⟩ (.int .i64 x):=by
  have ta:=assert_flt x;have lt0:=World.block_lt_of_cell? w _ h0
  refine callsD_of_wpS Tryz.func38 rfl fun c₀ cs hu=>?_
  apply wpS_seq
  apply wpS_region
  simp [wpOpsS,go_sem,recoverD,hu,Tryz.ntmps38,Exit.thenS]
  refine wpS_of_wp ?_;rw [Frame.frame15];go_wp2_with fail
  simp [bodyPostS,results,Tryz.results38]
theorem caught_none (g : Nat) (w : World) :
    CallsD Tryz.prog 38 #[.pointer (some ⟨g,0,none⟩)] .returning w fun e u' w'=>e = .returned (.tuple #[])∧u' = .returning∧w' = w:=by
  refine callsD_of_wpS Tryz.func38 rfl fun c₀ cs hu=>?_
  apply wpS_seq
  apply wpS_region
  simp [wpOpsS,go_sem,recoverD,hu,Tryz.ntmps38,Exit.thenS]
  refine wpS_of_wp ?_;rw [Frame.frame15];go_wp2_with fail
  cases c₀
  simp_all [bodyPostS,results,Tryz.results38]
theorem told_any (kd : UInt8) (n : Nat) (hn : n≤1099511627776) (w : World) :
    Calls Tryz.prog 49 #[.int .u8 (kd.toNat : Int),.int .i64 n] w (GiveB w (told kd n)):=by
  have hal:=fun w0 : World=>(Below.refl w0.heap.size w0).alloc (Nat.le_refl _)
  go_enter Tryz.func49,Tryz.ntmps49
  go_wp2_with fail;refine (put_ok _ 1 1 [kd] n (World.heap _).size _ (by exact (RdB.made _ [kd] _ _ _ rfl).size) (Nat.le_refl _) (by omega) hn).mono ?_;rintro e w1 ⟨A,n1,c1,rfl,ho,h1⟩;go_wp2_with fail;refine (must_ok _ _).mono ?_;rintro e w2 ⟨rfl,rfl⟩;go_wp2_with fail;go_ret;exact ⟨_,_,_,rfl,ho.mono (by simp),(hal _ _).trans (h1.mono (by simp))⟩
def numM (most : Nat) (bs : List UInt8) : Option Nat :=
  match Vint.dec bs with
  | .ok (n,[])=>if n≤most then some n else none
  | _=>none
def NumEnd (w : World) (o : Option Nat) (e : Ending) (w' : World) : Prop :=
  Below w.heap.size w w'∧match o with
    | some x=>e = .returned (.int .i64 x)
    | none=>e = .panicked [{ v:=flt 4,recovered:=false }]
theorem number_any (A : Option Addr) (n c : Nat) (bs : List UInt8) (B most : Nat) (w : World) (hb : RdB w B A n bs) (hB : B≤w.heap.size) (hl : n≤140737488355000) :
    Calls Tryz.prog 95 #[.slice A n c,.int .i64 most] w (NumEnd w (numM most bs)):=by
  go_enter Tryz.func95,Tryz.ntmps95
  go_wp2_with fail;refine (new_any _ _ _ bs B _ hb hB hl).mono ?_;rintro e w1 ⟨A1,c1,g,rfl,hg,hR,hb1⟩;go_wp2_with fail;refine (int_any _ _ _ _ _ _ _ hR).mono ?_;rintro e w2 ⟨rfl,hg2,A2,c2,hR2⟩;have hb2 : Below w.heap.size w w2:=hb1.trans (only_Below hg2 hg hb1.size)
  rename_i w1
  clear hR hg2 hb1
  rcases hdt : Vint.dec bs with x | ⟨k,r⟩
  · rw [Vint.intM_bad hdt] at hR2 ⊢
    simp only at hR2 ⊢
    have hx : x ≠ 0:=by have:=Vint.dec_err hdt;omega
    have hq0 : ((x : Int) == 0) = false:=by rw [beq_eq_false_iff_ne];omega
    have hno : numM most bs = none:=by unfold numM;rw [hdt]
    have HN:=Lib.hid hno;clear hdt hno;go_wp2_with fail;refine (err_any _ _ _ _ _ _ _ hR2).mono ?_;rintro e w3 ⟨rfl,rfl⟩;go_wp2_with fail;refine (must_no rfl _ _).mono ?_;rintro e w3 ⟨rfl,rfl⟩;go_wp2_with fail;refine ⟨rfl,hb2,?_⟩;rw [HN.out]
  · rw [Vint.intM_ok hdt] at hR2 ⊢
    simp only at hR2 ⊢
    have hkt:=(Vint.dec_ok hdt).2;have hrl:=(Vint.dec_ok_lt hdt).1
    unfold Vint.top at hkt
    have hno : numM most bs = if r = []∧k≤most then some k else none:=by
      unfold numM
      rw [hdt]
      cases r with
      | nil=>simp
      | cons a b=>simp
    have HN:=Lib.hid hno;obtain ⟨q,hq9⟩ : ∃ q,q = r.length:=⟨_,rfl⟩
    have hq0 : q = 0↔r = []:=by rw [hq9];exact List.length_eq_zero_iff
    have HQ:=Lib.hid hq0;rw [← hq9] at hR2 hrl;clear hdt hno hq0 hq9;go_wp2_with fail;refine (err_any _ _ _ _ _ _ _ hR2).mono ?_;rintro e w3 ⟨rfl,rfl⟩;go_wp2_with fail;refine (left_any _ _ _ _ _ _ _ hR2).mono ?_;rintro e w3 ⟨rfl,rfl⟩
    by_cases h0 : q = 0
    · by_cases hk : k≤most
      · have hd : decide ((k : Int)≤(most : Int)) = true:=decide_eq_true (by omega)
        have hq : ((q : Int) == 0) = true:=by rw [h0];rfl
        go_wp2_with fail;refine (must_yes (by first | rfl | (simp;done) | (simp;omega)) _ _).mono ?_;rintro e w3 ⟨rfl,rfl⟩;go_wp2_with fail;go_ret;refine ⟨hb2,?_⟩;rw [HN.out,if_pos ⟨HQ.out.1 h0,hk⟩]
        rfl
      · have hd : decide ((k : Int)≤(most : Int)) = false:=decide_eq_false (by omega)
        have hq : ((q : Int) == 0) = true:=by rw [h0];rfl
        go_wp2_with fail;refine (must_no (by first | rfl | (simp;done) | (simp;omega)) _ _).mono ?_;rintro e w3 ⟨rfl,rfl⟩;go_wp2_with fail;refine ⟨rfl,hb2,?_⟩;rw [HN.out,if_neg (fun h=>hk h.2)]
    · have hq : ((q : Int) == 0) = false:=by rw [beq_eq_false_iff_ne];omega
      go_wp2_with fail;refine (must_no (by first | rfl | (simp;done) | (simp;omega)) _ _).mono ?_;rintro e w3 ⟨rfl,rfl⟩;go_wp2_with fail;refine ⟨rfl,hb2,?_⟩;rw [HN.out,if_neg (fun h=>h0 (HQ.out.2 h.1))]
abbrev sc (g used upto inc : Nat) (E : Value) : Array Value:=#[.pointer (some ⟨g,0,none⟩),.int .i64 used,.int .i64 upto,.int .i64 inc,E]
def SaysEnd (w : World) (b g used : Nat) (E : Value) (o : Option (Nat × Nat)) (e : Ending) (w' : World) : Prop :=
  w.grownBy w' (some b)∧match o with
    | some (u,i)=>e = .returned (.tuple #[])∧Blk w' b 88 (sc g used u i E)
    | none=>e = .panicked [{ v:=flt 4,recovered:=false }]
theorem number_ok {x : Nat} (A : Option Addr) (n c : Nat) (bs : List UInt8) (B most : Nat) (w : World) (hb : RdB w B A n bs) (hB : B≤w.heap.size) (hl : n≤140737488355000) (h : numM most bs = some x) :
    Calls Tryz.prog 95 #[.slice A n c,.int .i64 most] w fun e w'=>e = .returned (.int .i64 x)∧Below w.heap.size w w' :=
  (number_any A n c bs B most w hb hB hl).mono (by rintro e w' ⟨h1,h2⟩;rw [h] at h2;exact ⟨h2,h1⟩)
theorem number_bad (A : Option Addr) (n c : Nat) (bs : List UInt8) (B most : Nat) (w : World) (hb : RdB w B A n bs) (hB : B≤w.heap.size) (hl : n≤140737488355000) (h : numM most bs = none) :
    Calls Tryz.prog 95 #[.slice A n c,.int .i64 most] w fun e w'=>e = .panicked [{ v:=flt 4,recovered:=false }]∧Below w.heap.size w w' :=
  (number_any A n c bs B most w hb hB hl).mono (by rintro e w' ⟨h1,h2⟩;rw [h] at h2;exact ⟨h2,h1⟩)
set_option maxHeartbeats 1000000 in
theorem reserves_bad (b g used u i : Nat) (E : Value) (A : Option Addr) (n c : Nat) (bs : List UInt8) (B : Nat) (w0 : World) (h0 : Blk w0 b 88 (sc g used u i E)) (hb : RdB w0 B A n bs) (hB : B≤w0.heap.size) (hl : n≤140737488355000) (hn : numM 96 bs = none) :
    Calls Tryz.prog 69 #[.pointer (some ⟨b,0,none⟩),.slice A n c] w0 (SaysEnd w0 b g used E none):=by
  have c0 : w0.cell? ⟨b,2,none⟩ = some (.int .i64 u):=h0.cell 2;have hlt:=h0.lt
  have HC:=Lib.hid fun (w' : World) (hx : Below w0.heap.size w0 w')=>number_bad A n c bs B 96 w' (hb.below (hx.mono hB)) (Nat.le_trans hB hx.size) hl hn
  clear hn h0 hb hB
  go_enter Tryz.func69,Tryz.ntmps69
  refine wp_region_tailD 3 8 (fun L v w=>v 0 = .pointer (some ⟨b,0,none⟩)∧v 1 = .slice A n c∧Below w0.heap.size w0 w∧(L 0 = true→v 4 = .pointer (some ⟨b,0,none⟩))∧(L 1 = true→v 5 = .pointer (some ⟨b,0,none⟩))∧(L 2 = true→v 6 = .pointer (some ⟨b,0,none⟩))∧(L 3 = true→v 7 = .pointer (some ⟨b,2,none⟩))∧(L 4 = true→v 8 = .int .i64 (u : Nat))∧(L 5 = true→v 9 = .slice A n c)∧(L 6 = true→False)) [4,5,6,7,8,9,10,11] (by kernel_rfl) (by kernel_rfl) (by kernel_rfl) (by kernel_rfl) (by kernel_rfl) (by kernel_rfl) ?h0 ?hst ?hend
  case h0 =>
    intro L h0;have h0 : ∀ i,i < 8→L i = false:=h0;exact ⟨rfl,rfl,(Below.refl _ _).drew,offF h0 (i:=0) (by decide),offF h0 (i:=1) (by decide),offF h0 (i:=2) (by decide),offF h0 (i:=3) (by decide),offF h0 (i:=4) (by decide),offF h0 (i:=5) (by decide),offF h0 (i:=6) (by decide)⟩
  case hst =>
    show FactSteps _ _ _ _ [0,1,2,3,4,5,6,7]
    refine @FactSteps.cons _ _ _ _ 0 _ [] _ rfl (by kernel_rfl) ?s0 ?_;rotate_left;refine @FactSteps.cons _ _ _ _ 1 _ [] _ rfl (by kernel_rfl) ?s1 ?_;rotate_left;refine @FactSteps.cons _ _ _ _ 2 _ [1] _ rfl (by kernel_rfl) ?s2 ?_;rotate_left;refine @FactSteps.cons _ _ _ _ 3 _ [2] _ rfl (by kernel_rfl) ?s3 ?_;rotate_left;refine @FactSteps.cons _ _ _ _ 4 _ [3] _ rfl (by kernel_rfl) ?s4 ?_;rotate_left;refine @FactSteps.cons _ _ _ _ 5 _ [] _ rfl (by kernel_rfl) ?s5 ?_;rotate_left;refine @FactSteps.cons _ _ _ _ 6 _ [5] _ rfl (by kernel_rfl) ?s6 ?_;rotate_left;refine @FactSteps.cons _ _ _ _ 7 _ [4,6] _ rfl (by kernel_rfl) ?s7 ?_;rotate_left;exact FactSteps.nil
    case s0 =>
      rintro L a v w hv hg hL hd hcl ⟨e0,e1,hb,f0,f1,f2,f3,f4,f5,f6⟩ K hK;refine step_do rfl ?_;clear hv;go_simp;exact hK.out _ _ ⟨e0,e1,hb,fun _=>rfl,f1,f2,f3,f4,f5,f6⟩
    case s1 =>
      rintro L a v w hv hg hL hd hcl ⟨e0,e1,hb,f0,f1,f2,f3,f4,f5,f6⟩ K hK;refine step_do rfl ?_;clear hv;go_simp;exact hK.out _ _ ⟨e0,e1,hb,f0,fun _=>rfl,f2,f3,f4,f5,f6⟩
    case s2 =>
      rintro L a v w hv hg hL hd hcl ⟨e0,e1,hb,f0,f1,f2,f3,f4,f5,f6⟩ K hK;have g1:=f1 (hd 1 (by decide));refine step_do rfl ?_;clear hv;go_simp;exact hK.out _ _ ⟨e0,e1,hb,f0,f1,fun _=>rfl,f3,f4,f5,f6⟩
    case s3 =>
      rintro L a v w hv hg hL hd hcl ⟨e0,e1,hb,f0,f1,f2,f3,f4,f5,f6⟩ K hK;have g2:=f2 (hd 2 (by decide));refine step_do rfl ?_;clear hv;go_simp;exact hK.out _ _ ⟨e0,e1,hb,f0,f1,f2,fun _=>rfl,f4,f5,f6⟩
    case s4 =>
      rintro L a v w hv hg hL hd hcl ⟨e0,e1,hb,f0,f1,f2,f3,f4,f5,f6⟩ K hK;have g3:=f3 (hd 3 (by decide));have hc:=(hb.cell (p:=⟨b,2,none⟩) hlt).trans c0;refine step_do rfl ?_;clear hv;go_simp;exact hK.out _ _ ⟨e0,e1,hb,f0,f1,f2,f3,fun _=>rfl,f5,f6⟩
    case s5 =>
      rintro L a v w hv hg hL hd hcl ⟨e0,e1,hb,f0,f1,f2,f3,f4,f5,f6⟩ K hK;refine step_do rfl ?_;clear hv;go_simp;exact hK.out _ _ ⟨e0,e1,hb,f0,f1,f2,f3,f4,fun _=>rfl,f6⟩
    case s6 =>
      rintro L a v w hv hg hL hd hcl ⟨e0,e1,hb,f0,f1,f2,f3,f4,f5,f6⟩ K hK;have g5:=f5 (hd 5 (by decide));refine step_do rfl ?_;clear hv;go_simp;refine (HC.out w hb).mono ?_;rintro e wy ⟨rfl,h1⟩
      exact fun hD=>⟨hD,only_of_below (hb.trans (h1.mono hb.size)) _,rfl⟩
    case s7 =>
      rintro L a v w hv hg hL hd hcl ⟨e0,e1,hb,f0,f1,f2,f3,f4,f5,f6⟩ K hK;exact (f6 (hd 6 (by decide))).elim
  case hend =>
  rintro L v wx hall ⟨e0,e1,hb,f0,f1,f2,f3,f4,f5,f6⟩;have hL : ∀ i,i < 8→L i = true:=hall;have f0:=f0 (hL 0 (by decide));have f1:=f1 (hL 1 (by decide));have f2:=f2 (hL 2 (by decide));have f3:=f3 (hL 3 (by decide));have f4:=f4 (hL 4 (by decide));have f5:=f5 (hL 5 (by decide));exact (f6 (hL 6 (by decide))).elim
set_option maxHeartbeats 1000000 in
theorem bumps_bad (b g used u i : Nat) (E : Value) (A : Option Addr) (n c : Nat) (bs : List UInt8) (B : Nat) (w0 : World) (h0 : Blk w0 b 88 (sc g used u i E)) (hb : RdB w0 B A n bs) (hB : B≤w0.heap.size) (hl : n≤140737488355000) (hn : numM 1099511627776 bs = none) :
    Calls Tryz.prog 70 #[.pointer (some ⟨b,0,none⟩),.slice A n c] w0 (SaysEnd w0 b g used E none):=by
  have c0 : w0.cell? ⟨b,3,none⟩ = some (.int .i64 i):=h0.cell 3;have hlt:=h0.lt
  have HC:=Lib.hid fun (w' : World) (hx : Below w0.heap.size w0 w')=>number_bad A n c bs B 1099511627776 w' (hb.below (hx.mono hB)) (Nat.le_trans hB hx.size) hl hn
  clear hn h0 hb hB
  go_enter Tryz.func70,Tryz.ntmps70
  refine wp_region_tailD 3 8 (fun L v w=>v 0 = .pointer (some ⟨b,0,none⟩)∧v 1 = .slice A n c∧Below w0.heap.size w0 w∧(L 0 = true→v 4 = .pointer (some ⟨b,0,none⟩))∧(L 1 = true→v 5 = .pointer (some ⟨b,0,none⟩))∧(L 2 = true→v 6 = .pointer (some ⟨b,0,none⟩))∧(L 3 = true→v 7 = .pointer (some ⟨b,3,none⟩))∧(L 4 = true→v 8 = .int .i64 (i : Nat))∧(L 5 = true→v 9 = .slice A n c)∧(L 6 = true→False)) [4,5,6,7,8,9,10,11] (by kernel_rfl) (by kernel_rfl) (by kernel_rfl) (by kernel_rfl) (by kernel_rfl) (by kernel_rfl) ?h0 ?hst ?hend
  case h0 =>
    intro L h0;have h0 : ∀ i,i < 8→L i = false:=h0;exact ⟨rfl,rfl,(Below.refl _ _).drew,offF h0 (i:=0) (by decide),offF h0 (i:=1) (by decide),offF h0 (i:=2) (by decide),offF h0 (i:=3) (by decide),offF h0 (i:=4) (by decide),offF h0 (i:=5) (by decide),offF h0 (i:=6) (by decide)⟩
  case hst =>
    show FactSteps _ _ _ _ [0,1,2,3,4,5,6,7]
    refine @FactSteps.cons _ _ _ _ 0 _ [] _ rfl (by kernel_rfl) ?s0 ?_;rotate_left;refine @FactSteps.cons _ _ _ _ 1 _ [] _ rfl (by kernel_rfl) ?s1 ?_;rotate_left;refine @FactSteps.cons _ _ _ _ 2 _ [1] _ rfl (by kernel_rfl) ?s2 ?_;rotate_left;refine @FactSteps.cons _ _ _ _ 3 _ [2] _ rfl (by kernel_rfl) ?s3 ?_;rotate_left;refine @FactSteps.cons _ _ _ _ 4 _ [3] _ rfl (by kernel_rfl) ?s4 ?_;rotate_left;refine @FactSteps.cons _ _ _ _ 5 _ [] _ rfl (by kernel_rfl) ?s5 ?_;rotate_left;refine @FactSteps.cons _ _ _ _ 6 _ [5] _ rfl (by kernel_rfl) ?s6 ?_;rotate_left;refine @FactSteps.cons _ _ _ _ 7 _ [4,6] _ rfl (by kernel_rfl) ?s7 ?_;rotate_left;exact FactSteps.nil
    case s0 =>
      rintro L a v w hv hg hL hd hcl ⟨e0,e1,hb,f0,f1,f2,f3,f4,f5,f6⟩ K hK;refine step_do rfl ?_;clear hv;go_simp;exact hK.out _ _ ⟨e0,e1,hb,fun _=>rfl,f1,f2,f3,f4,f5,f6⟩
    case s1 =>
      rintro L a v w hv hg hL hd hcl ⟨e0,e1,hb,f0,f1,f2,f3,f4,f5,f6⟩ K hK;refine step_do rfl ?_;clear hv;go_simp;exact hK.out _ _ ⟨e0,e1,hb,f0,fun _=>rfl,f2,f3,f4,f5,f6⟩
    case s2 =>
      rintro L a v w hv hg hL hd hcl ⟨e0,e1,hb,f0,f1,f2,f3,f4,f5,f6⟩ K hK;have g1:=f1 (hd 1 (by decide));refine step_do rfl ?_;clear hv;go_simp;exact hK.out _ _ ⟨e0,e1,hb,f0,f1,fun _=>rfl,f3,f4,f5,f6⟩
    case s3 =>
      rintro L a v w hv hg hL hd hcl ⟨e0,e1,hb,f0,f1,f2,f3,f4,f5,f6⟩ K hK;have g2:=f2 (hd 2 (by decide));refine step_do rfl ?_;clear hv;go_simp;exact hK.out _ _ ⟨e0,e1,hb,f0,f1,f2,fun _=>rfl,f4,f5,f6⟩
    case s4 =>
      rintro L a v w hv hg hL hd hcl ⟨e0,e1,hb,f0,f1,f2,f3,f4,f5,f6⟩ K hK;have g3:=f3 (hd 3 (by decide));have hc:=(hb.cell (p:=⟨b,3,none⟩) hlt).trans c0;refine step_do rfl ?_;clear hv;go_simp;exact hK.out _ _ ⟨e0,e1,hb,f0,f1,f2,f3,fun _=>rfl,f5,f6⟩
    case s5 =>
      rintro L a v w hv hg hL hd hcl ⟨e0,e1,hb,f0,f1,f2,f3,f4,f5,f6⟩ K hK;refine step_do rfl ?_;clear hv;go_simp;exact hK.out _ _ ⟨e0,e1,hb,f0,f1,f2,f3,f4,fun _=>rfl,f6⟩
    case s6 =>
      rintro L a v w hv hg hL hd hcl ⟨e0,e1,hb,f0,f1,f2,f3,f4,f5,f6⟩ K hK;have g5:=f5 (hd 5 (by decide));refine step_do rfl ?_;clear hv;go_simp;refine (HC.out w hb).mono ?_;rintro e wy ⟨rfl,h1⟩
      exact fun hD=>⟨hD,only_of_below (hb.trans (h1.mono hb.size)) _,rfl⟩
    case s7 =>
      rintro L a v w hv hg hL hd hcl ⟨e0,e1,hb,f0,f1,f2,f3,f4,f5,f6⟩ K hK;exact (f6 (hd 6 (by decide))).elim
  case hend =>
  rintro L v wx hall ⟨e0,e1,hb,f0,f1,f2,f3,f4,f5,f6⟩;have hL : ∀ i,i < 8→L i = true:=hall;have f0:=f0 (hL 0 (by decide));have f1:=f1 (hL 1 (by decide));have f2:=f2 (hL 2 (by decide));have f3:=f3 (hL 3 (by decide));have f4:=f4 (hL 4 (by decide));have f5:=f5 (hL 5 (by decide));exact (f6 (hL 6 (by decide))).elim
set_option maxHeartbeats 2000000 in
theorem reserves_any (b g used u i : Nat) (E : Value) (A : Option Addr) (n c : Nat) (bs : List UInt8) (B : Nat) (w : World) (h0 : Blk w b 88 (sc g used u i E)) (hb : RdB w B A n bs) (hB : B≤w.heap.size) (hl : n≤140737488355000) :
    Calls Tryz.prog 69 #[.pointer (some ⟨b,0,none⟩),.slice A n c] w (SaysEnd w b g used E ((numM 96 bs).map fun x=>(max u x,i))):=by
  have c0:=h0.drew.cell 2;have hlt:=h0.lt;have h0d:=h0.drew;have H0:=Lib.hid h0d
  rcases hn : numM 96 bs with _ | x
  · exact reserves_bad b g used u i E A n c bs B w h0 hb hB hl hn
  · have HC:=Lib.hid (number_ok A n c bs B 96 w.drew hb hB hl hn)
    clear hn h0 h0d hb
    have key : ∀ w1 : World,Below w.drew.heap.size w.drew w1→Blk w1 b 88 (sc g used u i E)→∀ z z2 : Nat,z = max u x→z2 = max u x→SaysEnd w b g used E (some (z2,i)) (.returned (.tuple #[])) (w1.setCell ⟨b,2,none⟩ (.int .i64 (z : Nat))):=by
      rintro w1 h1 k1 z z2 rfl rfl;have h1 : Below w.heap.size w w1:=(Below.refl w.heap.size w).drew.trans h1;exact ⟨only_set (only_of_below h1 _) _,rfl,k1.set_ 2 _⟩
    have HK:=Lib.hid key;clear key
    rcases Nat.lt_or_ge u x with hux | hux
    rotate_left
    · have hle : (x : Int)≤(u : Int):=by omega
      have hnl : ¬ u < x:=by omega
      have hnl2 : ¬ (u : Int) < (x : Int):=by omega
      have hmx : max (u : Int) (x : Int) = (u : Int):=by omega
      go_enter Tryz.func69,Tryz.ntmps69
      go_wp2_with fail
      go_region_with (go_at_call 95;refine HC.out.mono ?_;rintro e w1 ⟨rfl,h1⟩;have k1:=H0.out.below h1 hlt;have c1 : w1.cell? ⟨b,2,none⟩ = some (.int .i64 u):=k1.cell 2;have f1:=k1.free 2)
      all_goals (
        go_wp2_with fail
        go_end0
        exact HK.out _ h1 k1 _ _ (by omega) (by omega))
    · have hle : (u : Int) < (x : Int):=by omega
      have hmx : max (u : Int) (x : Int) = (x : Int):=by omega
      go_enter Tryz.func69,Tryz.ntmps69
      go_wp2_with fail
      go_region_with (go_at_call 95;refine HC.out.mono ?_;rintro e w1 ⟨rfl,h1⟩;have k1:=H0.out.below h1 hlt;have c1 : w1.cell? ⟨b,2,none⟩ = some (.int .i64 u):=k1.cell 2;have f1:=k1.free 2)
      all_goals (
        go_wp2_with fail
        go_end0
        exact HK.out _ h1 k1 _ _ (by omega) (by omega))
set_option maxHeartbeats 2000000 in
theorem bumps_any (b g used u i : Nat) (E : Value) (A : Option Addr) (n c : Nat) (bs : List UInt8) (B : Nat) (w : World) (h0 : Blk w b 88 (sc g used u i E)) (hb : RdB w B A n bs) (hB : B≤w.heap.size) (hl : n≤140737488355000) :
    Calls Tryz.prog 70 #[.pointer (some ⟨b,0,none⟩),.slice A n c] w (SaysEnd w b g used E ((numM 1099511627776 bs).map fun x=>(u,max i x))):=by
  have c0:=h0.drew.cell 3;have hlt:=h0.lt;have h0d:=h0.drew;have H0:=Lib.hid h0d
  rcases hn : numM 1099511627776 bs with _ | x
  · exact bumps_bad b g used u i E A n c bs B w h0 hb hB hl hn
  · have HC:=Lib.hid (number_ok A n c bs B 1099511627776 w.drew hb hB hl hn)
    clear hn h0 h0d hb
    have key : ∀ w1 : World,Below w.drew.heap.size w.drew w1→Blk w1 b 88 (sc g used u i E)→∀ z z2 : Nat,z = max i x→z2 = max i x→SaysEnd w b g used E (some (u,z2)) (.returned (.tuple #[])) (w1.setCell ⟨b,3,none⟩ (.int .i64 (z : Nat))):=by
      rintro w1 h1 k1 z z2 rfl rfl;have h1 : Below w.heap.size w w1:=(Below.refl w.heap.size w).drew.trans h1;exact ⟨only_set (only_of_below h1 _) _,rfl,k1.set_ 3 _⟩
    have HK:=Lib.hid key;clear key
    rcases Nat.lt_or_ge i x with hux | hux
    rotate_left
    · have hle : (x : Int)≤(i : Int):=by omega
      have hnl : ¬ i < x:=by omega
      have hnl2 : ¬ (i : Int) < (x : Int):=by omega
      have hmx : max (i : Int) (x : Int) = (i : Int):=by omega
      go_enter Tryz.func70,Tryz.ntmps70
      go_wp2_with fail
      go_region_with (go_at_call 95;refine HC.out.mono ?_;rintro e w1 ⟨rfl,h1⟩;have k1:=H0.out.below h1 hlt;have c1 : w1.cell? ⟨b,3,none⟩ = some (.int .i64 i):=k1.cell 3;have f1:=k1.free 3)
      all_goals (
        go_wp2_with fail
        go_end0
        exact HK.out _ h1 k1 _ _ (by omega) (by omega))
    · have hle : (i : Int) < (x : Int):=by omega
      have hmx : max (i : Int) (x : Int) = (x : Int):=by omega
      go_enter Tryz.func70,Tryz.ntmps70
      go_wp2_with fail
      go_region_with (go_at_call 95;refine HC.out.mono ?_;rintro e w1 ⟨rfl,h1⟩;have k1:=H0.out.below h1 hlt;have c1 : w1.cell? ⟨b,3,none⟩ = some (.int .i64 i):=k1.cell 3;have f1:=k1.free 3)
      all_goals (
        go_wp2_with fail
        go_end0
        exact HK.out _ h1 k1 _ _ (by omega) (by omega))
end Sto
end Go.Proofs.YtfpenfgmpbdakaaGreat

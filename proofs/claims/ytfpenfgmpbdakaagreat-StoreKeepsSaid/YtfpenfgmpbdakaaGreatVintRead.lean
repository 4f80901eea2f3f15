import Derived.Test.YtfpenfgmpbdakaaGreatVintWalks
import Derived.WideLaws
namespace Go.Proofs.YtfpenfgmpbdakaaGreat
set_option linter.unusedVariables false
set_option linter.unusedSimpArgs false
set_option maxRecDepth 100000
open Go.RowKit
theorem frame20 (a b f : Value) : (#[a,b] ++ (Array.replicate 18 undef).setIfInBounds 3 f : Array Value) = #[a,b,undef,undef,undef,f,undef,undef,undef,undef,undef,undef,undef,undef,undef,undef,undef,undef,undef,undef]:=by kernel_rfl
theorem assert_fault (x : Int) (w : World) : (Instr.typeAssert (fault x) 20 186 true).run Tryz.prog w = .ok (.tuple #[.agg #[.int .i64 x],.bool true]) w:=by kernel_rfl
theorem caught_panic (g b0 b1 : Nat) (x : Int) (older : List PanicEntry) (A : Option Addr) (n c : Nat) (v1 v2 : Value) (w : World) (hq : w.cell? ⟨b1,0,none⟩ = some (.pointer (some ⟨g,0,none⟩))) (hp : w.cell? ⟨b0,0,none⟩ = some (.slice A n c)) (h0 : w.cell? ⟨g,0,none⟩ = some v1) (h1 : w.cell? ⟨g,1,none⟩ = some v2)
    (hf : ∀ i,w.frozen? ⟨g,i,none⟩ = false) :
    CallsD Tryz.prog 129 #[.pointer (some ⟨b0,0,none⟩),.pointer (some ⟨b1,0,none⟩)] (.panicking ({ v:=fault x,recovered:=false } :: older)) w fun e u' w' =>
      e = .returned (.tuple #[])∧u' = .panicking ({ v:=fault x,recovered:=true } :: older)∧w' = (((w.setCell ⟨g,0,none⟩ (.slice A n c)).setCell ⟨g,1,none⟩ (.int .i64 x)).alloc (.cells #[.int .i64 x] 186)).drew:=by
  have hf0:=hf 0;have hf1:=hf 1;clear hf;have ta:=assert_fault x;have lt0:=World.block_lt_of_cell? w _ h0;have lt1:=World.block_lt_of_cell? w _ hq;have lt2:=World.block_lt_of_cell? w _ hp
  refine callsD_of_wpS Tryz.func129 rfl fun c₀ cs hu=>?_
  apply wpS_seq
  apply wpS_region
  simp [wpOpsS,go_sem,recoverD,hu,Tryz.ntmps129,Exit.thenS]
  refine wpS_of_wp ?_;rw [frame20];go_wp2_with fail
  go_region
  go_wp2_with fail
  simp [bodyPostS,results,Tryz.results129]
theorem caught_none (b0 b1 : Nat) (w : World) :
    CallsD Tryz.prog 129 #[.pointer (some ⟨b0,0,none⟩),.pointer (some ⟨b1,0,none⟩)] .returning w fun e u' w'=>e = .returned (.tuple #[])∧u' = .returning∧w' = w:=by
  refine callsD_of_wpS Tryz.func129 rfl fun c₀ cs hu=>?_
  apply wpS_seq
  apply wpS_region
  simp [wpOpsS,go_sem,recoverD,hu,Tryz.ntmps129,Exit.thenS]
  refine wpS_of_wp ?_;rw [frame20];go_wp2_with fail
  cases c₀
  simp_all [bodyPostS,results,Tryz.results129]
theorem int1_ok (g b1 b2 m : Nat) (A : Option Addr) (n c : Nat) (bs rest : List UInt8) (v : Value) (w : World) (hR : Rdr w g A n c bs 0) (hd : Vint.dec bs = .ok (m,rest)) (h1 : w.cell? ⟨b1,0,none⟩ = some (.pointer (some ⟨g,0,none⟩))) (h2 : w.cell? ⟨b2,0,none⟩ = some v) (hf : w.frozen? ⟨b2,0,none⟩ = false) (hb : g ≠ b2) :
    Calls Tryz.prog 119 #[.pointer (some ⟨b1,0,none⟩),.pointer (some ⟨b2,0,none⟩)] w fun e w'=>e = .returned (.tuple #[]) ∧
      ∃ w1 A' c',w.grownBy w1 (some g)∧w.heap.size = w1.heap.size∧Rdr w1 g A' rest.length c' rest 0∧w' = w1.setCell ⟨b2,0,none⟩ (.int .i64 m):=by
  have HD:=Lib.hid hd;clear hd
  go_enter Tryz.func119,Tryz.ntmps119
  go_wp2_with fail;refine (number_any _ _ _ _ _ _ hR).mono ?_;rintro e w1 ⟨hg,hs,hm⟩;rw [HD.out] at hm;obtain ⟨rfl,A',c',hR'⟩:=hm;have e2:=hg.block b2 (World.block_lt_of_cell? w _ h2) (fun e=>hb (by injection e with e;exact e.symm));have h2' : w1.cell? ⟨b2,0,none⟩ = some v:=(World.cell?_of_block (a:=⟨b2,0,none⟩) e2).trans h2;have hf' : w1.frozen? ⟨b2,0,none⟩ = false:=(World.frozen?_of_block (a:=⟨b2,0,none⟩) e2).trans hf;have HS:=Lib.hid hs;clear hs e2;go_wp2_with fail
  go_end0
  exact ⟨rfl,w1,A',c',hg,HS.out,hR',rfl⟩
theorem int1_bad (g b1 b2 x : Nat) (A : Option Addr) (n c : Nat) (bs : List UInt8) (w : World) (hR : Rdr w g A n c bs 0) (hd : Vint.dec bs = .error x) (h1 : w.cell? ⟨b1,0,none⟩ = some (.pointer (some ⟨g,0,none⟩))) :
    Calls Tryz.prog 119 #[.pointer (some ⟨b1,0,none⟩),.pointer (some ⟨b2,0,none⟩)] w fun e w'=>e = .panicked [{ v:=fault (x : Nat),recovered:=false }] ∧
      ∃ A' n' c' rest,w.grownBy w' (some g)∧w.heap.size = w'.heap.size∧Rdr w' g A' n' c' rest 0:=by
  have HD:=Lib.hid hd;clear hd
  go_enter Tryz.func119,Tryz.ntmps119
  go_wp2_with fail;refine (number_any _ _ _ _ _ _ hR).mono ?_;rintro e w1 ⟨hg,hs,hm⟩;rw [HD.out] at hm;obtain ⟨rfl,A',n',c',rest,hR'⟩:=hm;have HS:=Lib.hid hs;clear hs;go_wp2_with fail;exact ⟨rfl,rfl,A',n',c',rest,hg,HS.out,hR'⟩
theorem reading_fail (g e : Nat) (A : Option Addr) (n c : Nat) (bs : List UInt8) (w : World) (hR : Rdr w g A n c bs e) (he : e ≠ 0) (f : Value) :
    Calls Tryz.prog 118 #[.pointer (some ⟨g,0,none⟩),f] w fun r w'=>r = .returned (.tuple #[])∧Below w.heap.size w w':=by
  have h1:=hR.cell1;have hlt:=hR.lt
  have hne : ((e : Int) != 0) = true:=by rw [bne_iff_ne];omega
  go_enter_defers Tryz.func118,Tryz.ntmps118
  go_wp2_with fail;exact ⟨_,results_none rfl _ _ _,rfl,(Below.refl _ _).alloc (Nat.le_refl _) _⟩
def readW (w : World) (g : Nat) (A : Option Addr) (n c : Nat) : World:=(w.alloc (.cells #[.pointer (some ⟨g,0,none⟩)] 157)).alloc (.cells #[.slice A n c] 22)
def backW (w : World) (g : Nat) (A : Option Addr) (n c : Nat) (x : Int) : World:=(((w.setCell ⟨g,0,none⟩ (.slice A n c)).setCell ⟨g,1,none⟩ (.int .i64 x)).alloc (.cells #[.int .i64 x] 186)).drew
def ReadDone (g : Nat) (A : Option Addr) (n c : Nat) (R : Ending→World→Prop) (r : Ending) (w' : World) : Prop :=
  r = .returned (.tuple #[])∧(R (.returned (.tuple #[])) w'∨∃ x w1,R (.panicked [{ v:=fault x,recovered:=false }]) w1∧w' = backW w1 g A n c x)
theorem reading_any (g k : Nat) (cap : Array Value) (A : Option Addr) (n c : Nat) (bs : List UInt8) (w : World) (hR : Rdr w g A n c bs 0) (R : Ending→World→Prop)
    (hk : ∀ args w,(callFunc k args).run Tryz.prog w = .ok (.enter k args) w)
    (hdo : Calls Tryz.prog k cap (readW w g A n c) R)
    (hend : ∀ e w1,R e w1→e = .returned (.tuple #[])∨∃ x A' n' c' rest,e = .panicked [{ v:=fault x,recovered:=false }]∧(readW w g A n c).grownBy w1 (some g)∧Rdr w1 g A' n' c' rest 0) :
    Calls Tryz.prog 118 #[.pointer (some ⟨g,0,none⟩),.func (.func k) #[] cap] w (ReadDone g A n c R):=by
  have hc0:=hR.cell0;have hc1:=hR.cell1;have hlt:=hR.lt;have HD:=Lib.hid hdo;have HE:=Lib.hid hend;clear hdo hend
  have hmf : ∀ (fn : Fn) (first cap : Array Value) (w : World),(Instr.makeFunc fn first cap).run Tryz.prog w = .ok (.func fn first cap) w:=fun _ _ _ _=>rfl
  go_enter_defers Tryz.func118,Tryz.ntmps118
  go_wp2_with fail;refine (show Calls Tryz.prog k cap (readW w g A n c) R from HD.out).mono ?_;intro e w1 hr
  rcases HE.out _ _ hr with rfl | ⟨x,A',n',c',rest,rfl,hg,hR1⟩
  · have HR:=Lib.hid hr
    clear hr;go_wp2_with fail;refine leaves_cons (f:=129) (args:=#[.pointer (some ⟨w.heap.size + 1,0,none⟩),.pointer (some ⟨w.heap.size,0,none⟩)]) (by simp) (by simp [go_sem]) ?_;refine (caught_none _ _ _).mono ?_;rintro e u' w'' ⟨rfl,rfl,rfl⟩;exact ⟨_,results_none rfl _ _ _,rfl,.inl HR.out⟩
  · have HR:=Lib.hid hr
    clear hr;go_wp2_with fail;refine leaves_cons (f:=129) (args:=#[.pointer (some ⟨w.heap.size + 1,0,none⟩),.pointer (some ⟨w.heap.size,0,none⟩)]) (by simp) (by simp [go_sem]) ?_
    have z1 : (readW w g A n c).heap.size = w.heap.size + 2:=by simp [readW]
    have z2 : (readW w g A n c).cell? ⟨w.heap.size,0,none⟩ = some (.pointer (some ⟨g,0,none⟩)):=by simp [readW,go_sem]
    have z3 : (readW w g A n c).cell? ⟨w.heap.size + 1,0,none⟩ = some (.slice A n c):=by simp [readW,go_sem]
    have b1:=hg.block w.heap.size (by omega) (fun e=>by injection e;omega);have b2:=hg.block (w.heap.size + 1) (by omega) (fun e=>by injection e;omega);refine (caught_panic g _ _ x [] A n c _ _ _ ((World.cell?_of_block (a:=⟨w.heap.size,0,none⟩) b1).trans z2) ((World.cell?_of_block (a:=⟨w.heap.size + 1,0,none⟩) b2).trans z3) hR1.cell0 hR1.cell1 hR1.free).mono ?_;rintro e u' w'' ⟨rfl,rfl,rfl⟩;exact ⟨_,results_none rfl _ _ _,rfl,.inr ⟨x,w1,HR.out,rfl⟩⟩
theorem readW_below (w : World) (g : Nat) (A : Option Addr) (n c : Nat) : Below w.heap.size w (readW w g A n c):=((Below.refl _ _).alloc (Nat.le_refl _) _).alloc (by simp) _
theorem backW_only {a w : World} {g : Nat} (h : a.grownBy w (some g)) (A : Option Addr) (n c : Nat) (x : Int) : a.grownBy (backW w g A n c x) (some g):=only_drew (only_alloc (only_set (only_set h _) _) _)
theorem backW_blk {w : World} {g b : Nat} {t : TypeId} {cs : Array Value} (h : Blk w b t cs) (hne : b ≠ g) (A : Option Addr) (n c : Nat) (x : Int) : Blk (backW w g A n c x) b t cs :=
  ((h.far (p:=⟨g,0,none⟩) hne _).far (p:=⟨g,1,none⟩) hne _).alloc _
theorem backW_rdr {w : World} {g n c n' c' : Nat} {A A' : Option Addr} {bs rest : List UInt8} (h : Rdr w g A' n' c' rest 0) (hb : RdB w g A n bs) (hn : n≤c) (hc : c≤maxLen) (x : Nat) : Rdr (backW w g A n c x) g A n c bs x:=by
  have h0 : Blk w g 168 #[.slice A' n' c',.int .i64 (0 : Nat)]:=h.1;have h1:=(((h0.set_ 0 (.slice A n c)).set_ 1 (.int .i64 x)).alloc (.cells #[.int .i64 x] 186)).drew;refine ⟨h1,⟨hb.1,?_⟩,hn,hc⟩;exact ((hb.2.setCell (p:=⟨g,0,none⟩) (Nat.le_refl _) _).setCell (p:=⟨g,1,none⟩) (Nat.le_refl _) _).alloc (by have:=h.lt;simp [World.setCell];omega) _
theorem Rdr.only {w w' : World} {g : Nat} {A : Option Addr} {n : Nat} {bs : List UInt8} (hb : RdB w g A n bs) (hg : w.grownBy w' (some g)) (h : g < w.heap.size) : RdB w' g A n bs :=
  ⟨hb.1,hb.2.keep fun p hp=>World.cell?_of_block (hg.block p.block (by omega) (fun e=>by injection e;omega))⟩
theorem Rdr.far {w w' : World} {g h : Nat} {A A' : Option Addr} {n c n' c' : Nat} {bs bs' : List UInt8} {e e' : Nat} (hR : Rdr w g A n c bs e) (hH : Rdr w h A' n' c' bs' e') (hne : g ≠ h) (hg : w.grownBy w' (some h)) : Rdr w' g A n c bs e:=by
  have hb : Blk w h 168 #[.slice A' n' c',.int .i64 (e' : Nat)]:=hH.1;refine ⟨(hg.block g hR.lt (fun e=>hne (by injection e))).trans hR.1,⟨hR.2.1.1,fun j u hu=>?_⟩,hR.2.2⟩;obtain ⟨a,ha,hab,hc⟩:=hR.2.1.2 j u hu;have hlt:=World.block_lt_of_cell? w _ hc;refine ⟨a,ha,hab,(World.cell?_of_block (hg.block _ hlt (fun e=>?_))).trans hc⟩
  have e1 : (a.add j).block = h:=by injection e
  obtain ⟨x,hx⟩ : ∃ x,u = bv x:=by
    have hj:=List.mem_of_getElem? hu;obtain ⟨x,_,rfl⟩:=List.mem_map.1 hj;exact ⟨x,rfl⟩
  subst hx
  have h1 : w.heap[(a.add j).block]? = some (.cells #[.slice A' n' c',.int .i64 (e' : Nat)] 168 (0,0)):=by rw [e1];exact hb
  unfold World.cell? at hc
  rw [h1] at hc
  simp only at hc
  split at hc
  · cases hc
  · generalize (a.add j).off = q at hc
    match q,hc with
    | 0,hc=>simp at hc
    | 1,hc=>simp at hc
    | q + 2,hc=>simp at hc
def IntDone (w : World) (g : Nat) (bs : List UInt8) (e : Nat) (r : Ending) (w' : World) : Prop :=
  r = .returned (.int .i64 ((Vint.intM bs e).1 : Nat))∧w.grownBy w' (some g)∧∃ A' c',Rdr w' g A' (Vint.intM bs e).2.1.length c' (Vint.intM bs e).2.1 (Vint.intM bs e).2.2
theorem int_tail {w w2 : World} {g m : Nat} {A' : Option Addr} {n' c' : Nat} {bs' : List UInt8} {e' : Nat} (hlt : g < w.heap.size) (hr : Rdr w2 g A' n' c' bs' e') (hg : w.grownBy w2 (some g)) :
    w.grownBy (w2.setCell ⟨w.heap.size + 1,0,none⟩ (.int .i64 m)) (some g)∧Rdr (w2.setCell ⟨w.heap.size + 1,0,none⟩ (.int .i64 m)) g A' n' c' bs' e' :=
  ⟨only_new hg (by show _≤w.heap.size + 1;omega) _,hr.below ((Below.refl _ _).setCell (by show _≤w.heap.size + 1;omega) _)⟩
theorem int_any (g : Nat) (A : Option Addr) (n c : Nat) (bs : List UInt8) (e : Nat) (w : World) (hR : Rdr w g A n c bs e) :
    Calls Tryz.prog 108 #[.pointer (some ⟨g,0,none⟩)] w (IntDone w g bs e):=by
  obtain rfl:=hR.2.1.1;have hlt:=hR.lt
  have hmf : ∀ (fn : Fn) (first cap : Array Value) (w : World),(Instr.makeFunc fn first cap).run Tryz.prog w = .ok (.func fn first cap) w:=fun _ _ _ _=>rfl
  have hck : ∀ args w,(callFunc 119 args).run Tryz.prog w = .ok (.enter 119 args) w:=by
    intro args w
    simp [go_sem]
  obtain ⟨W,hW⟩ : ∃ W,W = (w.alloc (.cells #[.pointer (some ⟨g,0,none⟩)] 157)).alloc (.cells #[.int .i64 0] 3):=⟨_,rfl⟩
  have hBW : Below w.heap.size w W:=by rw [hW];exact ((Below.refl _ _).alloc (Nat.le_refl _) _).alloc (by simp) _
  have hRW : Rdr W g A bs.length c bs e:=hR.below (hBW.mono (by omega))
  have q1 : Blk W w.heap.size 157 #[.pointer (some ⟨g,0,none⟩)]:=by rw [hW];exact (Blk.new w _ _).alloc _
  have q2 : Blk W (w.heap.size + 1) 3 #[.int .i64 0]:=by rw [hW];have:=Blk.new (w.alloc (.cells #[.pointer (some ⟨g,0,none⟩)] 157)) 3 #[.int .i64 0];simpa using this
  have q4 : W.heap.size = w.heap.size + 2:=by rw [hW];simp
  have hGW : w.grownBy W (some g):=only_of_below hBW _;have HW:=Lib.hid hW;have Q4:=Lib.hid q4;clear hW q4
  by_cases he : e = 0
  · subst he
    have y1:=(readW_below W g A bs.length c);have y2:=hRW.below (y1.mono (by have:=Q4.out;omega));have y3:=q1.below y1 q1.lt;have y4:=q2.below y1 q2.lt;have y6 : w.grownBy (readW W g A bs.length c) (some g):=only_of_below (hBW.trans (y1.mono (by have:=Q4.out;omega))) _
    have hne : some g ≠ some (w.heap.size + 1):=fun e=>by injection e;omega
    rcases hd : Vint.dec bs with x | ⟨m,rest⟩
    · have hI:=Vint.intM_bad hd
      have HI:=Lib.hid hI;have HD:=Lib.hid hd;clear hI hd
      go_enter Tryz.func108,Tryz.ntmps108
      go_wp2_with fail;rw [← HW.out];refine (reading_any g _ _ A _ c bs W hRW _ hck (int1_bad g _ _ x A _ c bs _ y2 HD.out (y3.cell 0)) ?_).mono ?_
      · rintro e' w1 ⟨rfl,A',n',c',rest,z1,z2,z3⟩
        exact .inr ⟨_,A',n',c',rest,rfl,z1,z3⟩
      rintro e' w2 ⟨rfl,hr⟩
      rcases hr with ⟨h,_⟩ | ⟨x',w1,⟨hx,A',n',c',rest,z1,z2,z3⟩,rfl⟩
      · cases h
      · obtain rfl : x' = x:=by injection hx with h;injection h with h;injection h with h;injection h with _ h;injection h with h;injection h with h;injection h with h;injection h
        have c1:=(backW_blk (y4.grown z1 hne) (fun e=>hne (by rw [e])) A bs.length c x);have r2 : Rdr (backW w1 g A bs.length c x) g A bs.length c bs x:=backW_rdr z3 (Rdr.only y2.2.1 z1 y2.lt) hR.2.2.1 hR.2.2.2 x;have g2:=backW_only (y6.trans z1) A bs.length c x
        generalize backW w1 g A bs.length c x = w2 at *
        have c2:=c1.cell 0;have c3:=c1.free 0;have HT:=Lib.hid (int_tail (m:=0) hlt r2 g2);go_wp2_with fail;refine bodyPost_ret (v:=.int .i64 0) (by simp [results,Tryz.results108,go_sem,c2]) rfl ?_
        unfold IntDone
        rw [HI.out];exact ⟨rfl,HT.out.1,A,c,HT.out.2⟩
    · have hI:=Vint.intM_ok hd
      have HI:=Lib.hid hI;have HD:=Lib.hid hd;clear hI hd
      go_enter Tryz.func108,Tryz.ntmps108
      go_wp2_with fail;rw [← HW.out];refine (reading_any g _ _ A _ c bs W hRW _ hck (int1_ok g _ _ m A _ c bs rest _ _ y2 HD.out (y3.cell 0) (y4.cell 0) (y4.free 0) (fun e=>hne (by rw [e]))) ?_).mono ?_
      · rintro e' w1 ⟨rfl,h⟩
        exact .inl rfl
      rintro e' w2 ⟨rfl,hr⟩
      rcases hr with ⟨_,w1,A',c',z1,z2,z3,rfl⟩ | ⟨x',w1,⟨hx,_⟩,rfl⟩
      · have c1:=(y4.grown z1 hne).set_ 0 (.int .i64 m)
        have ht:=int_tail (m:=m) hlt z3 (y6.trans z1);obtain ⟨t1,t2⟩:=ht
        generalize w1.setCell ⟨w.heap.size + 1,0,none⟩ (.int .i64 m) = w2 at *
        have c2:=c1.cell 0;have c3:=c1.free 0;have HT:=Lib.hid (int_tail (m:=m) hlt t2 t1);go_wp2_with fail;refine bodyPost_ret (v:=.int .i64 m) (by simp [results,Tryz.results108,go_sem,c2]) rfl ?_
        unfold IntDone
        rw [HI.out];exact ⟨rfl,HT.out.1,A',c',HT.out.2⟩
      · cases hx
  · have hI:=Vint.intM_fail (l:=bs) he
    have HI:=Lib.hid hI;clear hI
    go_enter Tryz.func108,Tryz.ntmps108
    go_wp2_with fail;rw [← HW.out];refine (reading_fail g e A _ c bs W hRW he _).mono ?_;rintro e' w2 ⟨rfl,hb2⟩;have c1:=q2.below hb2 q2.lt;have r2:=hRW.below (hb2.mono (by have:=Q4.out;omega));have g2 : w.grownBy w2 (some g):=only_of_below (hBW.trans (hb2.mono (by have:=Q4.out;omega))) _;have c2:=c1.cell 0;have c3:=c1.free 0;have HT:=Lib.hid (int_tail (m:=0) hlt r2 g2);go_wp2_with fail;refine bodyPost_ret (v:=.int .i64 0) (by simp [results,Tryz.results108,go_sem,c2]) rfl ?_
    unfold IntDone
    rw [HI.out];exact ⟨rfl,HT.out.1,A,c,HT.out.2⟩
end Go.Proofs.YtfpenfgmpbdakaaGreat

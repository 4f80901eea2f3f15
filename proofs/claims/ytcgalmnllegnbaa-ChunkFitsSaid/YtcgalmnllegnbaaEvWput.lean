import Derived.Test.YtcgalmnllegnbaaEvThrW
namespace Go.Proofs.Ytcgalmnllegnbaa
set_option linter.unusedVariables false
set_option linter.unusedSimpArgs false
set_option maxRecDepth 100000
open Go.RowKit
open Dot Evt
def encE (x : Ev) : List UInt8:=encN ((numsE x).map Int.toNat)
theorem right_facts {x : Ev} (hp : x.p.length = 7) (h : rightE x = true) :
    ((0≤x.d.1∧x.d.1≤1099511627776)∧(0≤x.d.2∧x.d.2≤1099511627776)∧(0≤x.t∧x.t≤1099511627776)∧(1≤x.k∧x.k≤3)∧(0≤x.w∧x.w≤1099511627776)∧(0≤x.v∧x.v≤1099511627776)) ∧
    ((0≤x.p.getD 0 0∧x.p.getD 0 0≤1099511627776)∧(0≤x.p.getD 1 0∧x.p.getD 1 0≤1099511627776)∧(0≤x.p.getD 2 0∧x.p.getD 2 0≤1099511627776)∧(0≤x.p.getD 3 0∧x.p.getD 3 0≤1099511627776)∧(0≤x.p.getD 4 0∧x.p.getD 4 0≤1099511627776)∧(0≤x.p.getD 5 0∧x.p.getD 5 0≤1099511627776)∧(0≤x.p.getD 6 0∧x.p.getD 6 0≤1099511627776)) ∧
    x.l.length≤96∧∀ d ∈ x.l,(0≤d.1∧d.1≤1099511627776)∧0≤d.2∧d.2≤1099511627776:=by
  unfold rightE at h
  simp only [Bool.and_eq_true,decide_eq_true_eq,inB_iff] at h
  obtain ⟨⟨⟨⟨⟨h1,h2⟩,h3⟩,h4⟩,h5⟩,h6⟩:=h;have g1:=(may_iff _).1 h1;have hn:=(named_iff _ _).1 h5;have ht : top = 1099511627776:=rfl
  have hk : (1≤x.k∧x.k≤3)∧(0≤x.v∧x.v≤1099511627776)∧(x.p = p0∨polB x.p = true):=by
    unfold kindB at h6
    by_cases k1 : x.k = 1
    · rw [if_pos k1] at h6
      simp only [Bool.and_eq_true,inB_iff,decide_eq_true_eq] at h6
      exact ⟨by omega,by omega,.inl h6.1.1⟩
    · rw [if_neg k1] at h6
      by_cases k2 : x.k = 2
      · rw [if_pos k2] at h6
        simp only [Bool.and_eq_true,decide_eq_true_eq] at h6
        exact ⟨by omega,by omega,.inr h6.1⟩
      · rw [if_neg k2] at h6
        by_cases k3 : x.k = 3
        · rw [if_pos k3] at h6
          simp only [Bool.and_eq_true,decide_eq_true_eq] at h6
          exact ⟨by omega,by omega,.inl h6.1⟩
        · rw [if_neg k3] at h6;cases h6
  refine ⟨⟨by omega,by omega,by omega,hk.1,by omega,hk.2.1⟩,?_,h4,?_⟩
  · rcases hk.2.2 with e | e
    · rw [e];simp [p0]
    · have:=polB_iff.1 e
      omega
  · intro d hd
    obtain ⟨i,hi,rfl⟩:=List.getElem_of_mem hd;have g:=hn i hi
    unfold nameAt at g
    rw [List.getD_eq_getElem?_getD,List.getElem?_eq_getElem hi] at g
    simp only [Option.getD_some,Bool.and_eq_true] at g
    have g5:=(may_iff _).1 g.1.1
    omega
theorem dotNums_nat (l : List Dt) : (dotNums l).map Int.toNat = dotN l:=by
  induction l with
  | nil=>rfl
  | cons a l ih=>simp [dotNums,dotN] at ih ⊢;exact ih
theorem wput_no (x : Ev) (hp : x.p.length = 7) (A : Option Addr) (m c g : Nat) (w : World) (hl : RdD w w.heap.size A m x.l) (hx : rightE x = false) :
    Calls Try.prog 77 #[.pointer (some ⟨g,0,none⟩),.agg (ec x (.slice A m c))] w fun e w'=>e = .panicked [{ v:=eflt 2,recovered:=false }]∧Below w.heap.size w w':=by
  have hb0 : Below w.heap.size w (w.alloc (.cells (ec x (.slice A m c)) 50)):=(Below.refl _ _).alloc (Nat.le_refl _) _;have hr:=eright_any x hp A m c (w.alloc (.cells (ec x (.slice A m c)) 50)) (hl.below hb0).size;rw [hx] at hr;obtain ⟨⟨n,q⟩,t,k,wk,v,p,l⟩:=x
  unfold ec at hb0 hr ⊢
  simp only at hb0 hr ⊢
  clear hx hl hp
  generalize p.getD 0 0 = p0,p.getD 1 0 = p1,p.getD 2 0 = p2,p.getD 3 0 = p3,p.getD 4 0 = p4,p.getD 5 0 = p5,p.getD 6 0 = p6 at *
  have HR:=Lib.hid hr;clear hr
  go_enter Try.func77,Try.ntmps77
  go_wp2_with fail;refine HR.out.mono ?_;rintro e w1 ⟨rfl,b1⟩;go_wp2_with fail;refine (wfail_any g 2 w1).mono ?_;rintro e w2 ⟨rfl,rfl⟩;go_wp2_with fail;exact ⟨rfl,rfl,hb0.trans (b1.mono hb0.size)⟩
theorem wput_yes (x : Ev) (hp : x.p.length = 7) (A : Option Addr) (m c g : Nat) (bs : List UInt8) (w : World) (h : WrS w g bs) (hl : RdD w g A m x.l) (hx : rightE x = true) (hbs : bs.length≤140737488350000) :
    Calls Try.prog 77 #[.pointer (some ⟨g,0,none⟩),.agg (ec x (.slice A m c))] w fun e w'=>e = .returned (.tuple #[])∧WrS w' g (bs ++ encE x)∧w.grownBy w' (some g):=by
  have hb0 : Below w.heap.size w (w.alloc (.cells (ec x (.slice A m c)) 50)):=(Below.refl _ _).alloc (Nat.le_refl _) _;have kb : Blk (w.alloc (.cells (ec x (.slice A m c)) 50)) w.heap.size 50 (ec x (.slice A m c)):=Blk.new _ _ _;have hr:=eright_any x hp A m c (w.alloc (.cells (ec x (.slice A m c)) 50)) (hl.below (hb0.mono (by have:=h.lt;omega))).size;rw [hx] at hr;obtain ⟨⟨⟨a0,a1⟩,⟨a2,a3⟩,⟨a4,a5⟩,⟨a6,a7⟩,⟨a8,a9⟩,⟨a10,a11⟩⟩,⟨⟨d0,e0⟩,⟨d1,e1⟩,⟨d2,e2⟩,⟨d3,e3⟩,⟨d4,e4⟩,⟨d5,e5⟩,⟨d6,e6⟩⟩,h96,hdd⟩:=right_facts hp hx;obtain ⟨⟨n,q⟩,t,k,wk,v,p,l⟩:=x
  simp only at a0 a1 a2 a3 a4 a5 a6 a7 a8 a9 a10 a11 d0 d1 d2 d3 d4 d5 d6 e0 e1 e2 e3 e4 e5 e6 h96 hdd hl hp
  obtain ⟨n,rfl⟩:=Int.eq_ofNat_of_zero_le a0;obtain ⟨q,rfl⟩:=Int.eq_ofNat_of_zero_le a2;obtain ⟨t,rfl⟩:=Int.eq_ofNat_of_zero_le a4;obtain ⟨k,rfl⟩:=Int.eq_ofNat_of_zero_le (show 0≤k by omega);obtain ⟨wk,rfl⟩:=Int.eq_ofNat_of_zero_le a8;obtain ⟨v,rfl⟩:=Int.eq_ofNat_of_zero_le a10
  have hE : encE ⟨((n : Int),(q : Int)),t,k,wk,v,p,l⟩ = encN ([n,q,t,k,wk] ++ (if k = 1 then [v] else (if k = 2 then [(p.getD 0 0).toNat,(p.getD 1 0).toNat,(p.getD 2 0).toNat,(p.getD 3 0).toNat,(p.getD 4 0).toNat,(p.getD 5 0).toNat,(p.getD 6 0).toNat] else []) ++ [m] ++ dotN l)):=by
    unfold encE numsE
    have hm : m = l.length:=hl.1
    match p,hp with
    | [p0,p1,p2,p3,p4,p5,p6],_ =>
      simp only [List.map_append,dotNums_nat]
      by_cases k1 : k = 1
      · subst k1;simp
      · by_cases k2 : k = 2
        · subst k2;simp [dotNums_nat,hm]
        · have : ¬ (k : Int) = 1:=by omega
          have : ¬ (k : Int) = 2:=by omega
          simp [*,dotNums_nat]
  rw [hE];clear hE hx
  unfold ec at hb0 kb hr ⊢
  simp only at hb0 kb hr ⊢
  generalize p.getD 0 0 = p0,p.getD 1 0 = p1,p.getD 2 0 = p2,p.getD 3 0 = p3,p.getD 4 0 = p4,p.getD 5 0 = p5,p.getD 6 0 = p6 at *
  obtain ⟨p0,rfl⟩:=Int.eq_ofNat_of_zero_le d0;obtain ⟨p1,rfl⟩:=Int.eq_ofNat_of_zero_le d1;obtain ⟨p2,rfl⟩:=Int.eq_ofNat_of_zero_le d2;obtain ⟨p3,rfl⟩:=Int.eq_ofNat_of_zero_le d3;obtain ⟨p4,rfl⟩:=Int.eq_ofNat_of_zero_le d4;obtain ⟨p5,rfl⟩:=Int.eq_ofNat_of_zero_le d5;obtain ⟨p6,rfl⟩:=Int.eq_ofNat_of_zero_le d6
  simp only [Int.toNat_natCast]
  have HR:=Lib.hid hr;obtain ⟨Z,hZ⟩ : ∃ Z,Z = encN ([n,q,t,k,wk] ++ (if k = 1 then [v] else (if k = 2 then [p0,p1,p2,p3,p4,p5,p6] else []) ++ [m] ++ dotN l)):=⟨_,rfl⟩;rw [← hZ];have HZ:=Lib.hid hZ;clear hZ;have hgl:=h.lt
  have HT:=Lib.hid fun (w1 : World) (h : WrS w1 g bs) (hb : Blk w1 w.heap.size 50 _) (hr : RdD w1 g A m l)=>thrw_any w.heap.size g bs n q t k wk v p0 p1 p2 p3 p4 p5 p6 A m c l w1 h hb (by have:=hgl;omega) (by omega) (by omega) (by omega) (by omega) (by omega) (by omega) (by omega) (by omega) (by omega) (by omega) (by omega) (by omega) (by omega) hr (by have:=hl.1;omega) hdd hbs
  have HW:=Lib.hid h;have HL:=Lib.hid hl;have HGL:=Lib.hid hgl;have HKB:=Lib.hid kb;clear hr h hl hgl kb hp h96 hdd hbs a0 a1 a2 a3 a4 a5 a6 a7 a8 a9 a10 a11 d0 d1 d2 d3 d4 d5 d6 e0 e1 e2 e3 e4 e5 e6
  go_enter Try.func77,Try.ntmps77
  go_wp2_with fail;refine HR.out.mono ?_;rintro e w1 ⟨rfl,b1⟩;have hb1:=hb0.trans (b1.mono hb0.size);have kb1:=HKB.out.below b1 HKB.out.lt;have hw1 : WrS w1 g bs:=HW.out.below hb1;have hl1:=HL.out.below (hb1.mono (by have:=HGL.out;omega));clear HR HKB HW HL b1 hb0;go_wp2_with fail;refine (HT.out _ hw1 kb1 hl1).mono ?_;rintro e w2 ⟨rfl,hw2,gg⟩;go_wp2_with fail
  go_end0
  exact ⟨rfl,by rw [HZ.out];exact hw2,(only_below (grown_refl0 w _) hb1).trans gg⟩
end Go.Proofs.Ytcgalmnllegnbaa

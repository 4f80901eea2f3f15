import Derived.Test.YtfpenfgmpbdakaaGreatVintPut
namespace Go.Proofs.YtfpenfgmpbdakaaGreat
set_option linter.unusedVariables false
set_option linter.unusedSimpArgs false
set_option maxRecDepth 100000
open Go.RowKit
def Rdr (w : World) (g : Nat) (A : Option Addr) (n c : Nat) (bs : List UInt8) (e : Nat) : Prop :=
  w.heap[g]? = some (.cells #[.slice A n c,.int .i64 (e : Nat)] 168 (0,0))∧RdB w g A n bs∧n≤c∧c≤maxLen
section
variable {w w' : World} {g : Nat} {A : Option Addr} {n c : Nat} {bs : List UInt8} {e : Nat}
theorem Rdr.lt (h : Rdr w g A n c bs e) : g < w.heap.size:=lt_of_block h.1
theorem Rdr.cell0 (h : Rdr w g A n c bs e) : w.cell? ⟨g,0,none⟩ = some (.slice A n c):=by have:=h.1;simp [World.cell?,this]
theorem Rdr.cell1 (h : Rdr w g A n c bs e) : w.cell? ⟨g,1,none⟩ = some (.int .i64 (e : Nat)):=by have:=h.1;simp [World.cell?,this]
theorem Rdr.free (h : Rdr w g A n c bs e) (i : Nat) : w.frozen? ⟨g,i,none⟩ = false:=by have:=h.1;simp [World.frozen?,this]
theorem Rdr.below (h : Rdr w g A n c bs e) (hb : Below (g + 1) w w') : Rdr w' g A n c bs e :=
  ⟨(hb.block g (by omega)).trans h.1,h.2.1.below (hb.mono (by omega)),h.2.2⟩
end
def IsNew (w : World) (bs : List UInt8) (e : Ending) (w' : World) : Prop :=
  ∃ A c g,e = .returned (.pointer (some ⟨g,0,none⟩))∧w.heap.size≤g∧Rdr w' g A bs.length c bs 0∧Below w.heap.size w w'
theorem new_any (A : Option Addr) (n c : Nat) (bs : List UInt8) (B : Nat) (w : World) (hb : RdB w B A n bs) (hB : B≤w.heap.size) (hl : n≤140737488355000) :
    Calls Tryz.prog 107 #[.slice A n c] w (IsNew w bs):=by
  obtain rfl:=hb.1
  go_enter Tryz.func107,Tryz.ntmps107
  go_wp2_with (go_at_call 35;refine (clone_any _ _ _ _ _ _ hb hB (by omega)).mono ?_;rintro e w1 ⟨A1,n1,c1,rfl,ho,hbl⟩)
  have hn:=ho.1;subst hn;go_ret;refine ⟨A1,c1,w1.heap.size,rfl,hbl.size,⟨?_,?_,?_⟩,hbl.alloc hbl.size _⟩
  · exact heap_alloc_new w1 _
  · exact (ho.rd.alloc (Nat.le_refl _) _)
  · rcases ho.2.2 with ⟨h,h0⟩ | ⟨g,cap,cur,h,_,_,h1,h2,_⟩
    · injection h with _ _ h;subst h;exact ⟨by omega,by unfold maxLen;omega⟩
    · injection h with _ _ h;subst h;exact ⟨h1,h2⟩
theorem err_any (g : Nat) (A : Option Addr) (n c : Nat) (bs : List UInt8) (e : Nat) (w : World) (h : Rdr w g A n c bs e) :
    Calls Tryz.prog 109 #[.pointer (some ⟨g,0,none⟩)] w fun r w'=>r = .returned (.int .i64 (e : Nat))∧w = w':=by
  have h1:=h.cell1
  go_enter Tryz.func109,Tryz.ntmps109
  go_wp2_with fail;go_ret;exact ⟨rfl,rfl⟩
theorem left_any (g : Nat) (A : Option Addr) (n c : Nat) (bs : List UInt8) (e : Nat) (w : World) (h : Rdr w g A n c bs e) :
    Calls Tryz.prog 110 #[.pointer (some ⟨g,0,none⟩)] w fun r w'=>r = .returned (.int .i64 (n : Nat))∧w = w':=by
  have h1:=h.cell0
  go_enter Tryz.func110,Tryz.ntmps110
  go_wp2_with fail;go_ret;exact ⟨rfl,rfl⟩
abbrev fault (x : Int) : Value:=.iface 186 (.agg #[.int .i64 x])
theorem pass_short (k : Nat) (g : Nat) (A : Option Addr) (n c : Nat) (bs : List UInt8) (e : Nat) (w : World) (hR : Rdr w g A n c bs e) (hk : n < k) :
    Calls Tryz.prog 130 #[.pointer (some ⟨g,0,none⟩),.int .i64 k] w fun r w'=>r = .panicked [{ v:=fault 3,recovered:=false }]∧w = w':=by
  have h1:=hR.cell0;have hd : decide ((k : Int) < 0) = false:=decide_eq_false (by omega);have hd1 : decide ((n : Int) < (k : Int)) = true:=decide_eq_true (by omega)
  go_enter Tryz.func130,Tryz.ntmps130
  go_wp2
  exact ⟨rfl,rfl,rfl⟩
theorem Rdr.pass {w : World} {g : Nat} {A : Option Addr} {n c : Nat} {bs : List UInt8} {e : Nat} (h : Rdr w g A n c bs e) {k : Nat} (hk : k≤n) :
    (c = k→Rdr (w.setCell ⟨g,0,none⟩ (.slice A (n - k) 0)) g A (n - k) 0 (bs.drop k) e) ∧
    (¬ c = k→Rdr (w.setCell ⟨g,0,none⟩ (.slice (A.map fun x=>x.add k) (n - k) (c - k))) g (A.map fun x=>x.add k) (n - k) (c - k) (bs.drop k) e):=by
  obtain ⟨h1,h2,h3,h4⟩:=h
  have hh : ∀ u,(w.setCell ⟨g,0,none⟩ u).heap[g]? = some (.cells #[u,.int .i64 (e : Nat)] 168 (0,0)):=by
    intro u
    simp [World.setCell,Array.getElem?_modify,h1]
  refine ⟨fun hc=>⟨hh _,⟨by rw [List.length_drop,h2.1],?_⟩,by omega,Nat.zero_le _⟩,fun hc=>⟨hh _,?_,by omega,by omega⟩⟩
  · have : bs.drop k = []:=List.drop_eq_nil_of_le (by have:=h2.1;omega)
    rw [this];exact Rd.nil _ _ _
  · have:=h2.drop k
    exact ⟨this.1,this.2.setCell (Nat.le_refl _) _⟩
def Passed (w : World) (g k : Nat) (A : Option Addr) (c : Nat) (bs : List UInt8) (e : Nat) (r : Ending) (w' : World) : Prop :=
  ∃ A' n' c' u,r = .returned (.slice A k c)∧w' = w.setCell ⟨g,0,none⟩ u∧Rdr w' g A' n' c' (bs.drop k) e
theorem pass_ok (k : Nat) (g : Nat) (A : Option Addr) (n c : Nat) (bs : List UInt8) (e : Nat) (w : World) (hR : Rdr w g A n c bs e) (hk : k≤n) :
    Calls Tryz.prog 130 #[.pointer (some ⟨g,0,none⟩),.int .i64 k] w (Passed w g k A c bs e):=by
  have h1:=hR.cell0;have h2:=hR.free 0;have hn:=hR.2.2.1;have hm:=hR.2.2.2;have hp:=Lib.hid (hR.pass hk)
  unfold maxLen at hm
  have hd : decide ((k : Int) < 0) = false:=decide_eq_false (by omega);have hd1 : decide ((n : Int) < (k : Int)) = false:=decide_eq_false (by omega)
  by_cases hck : c = k
  · subst hck
    obtain rfl : n = c:=by omega
    have hp1:=hp.out.1 rfl;rw [Nat.sub_self] at hp1;have HP:=Lib.hid hp1;clear hp hp1
    go_enter Tryz.func130,Tryz.ntmps130
    go_wp2
    go_ret;exact ⟨_,_,_,_,rfl,rfl,HP.out⟩
  · go_enter Tryz.func130,Tryz.ntmps130
    go_wp2
    go_ret;exact ⟨_,_,_,_,rfl,rfl,hp.out.2 hck⟩
theorem i64_andNot128 : ∀ x : Fin 256,bits .andNot .i64 (x.val : Int) 128 = ((x.val % 128 : Nat) : Int):=by decide +kernel
def Numbered (w : World) (g : Nat) (bs : List UInt8) (r : Ending) (w' : World) : Prop :=
  w.grownBy w' (some g)∧w.heap.size = w'.heap.size ∧
  match Vint.dec bs with
  | .ok (n,rest)=>r = .returned (.int .i64 (n : Nat))∧∃ A' c',Rdr w' g A' rest.length c' rest 0
  | .error x=>r = .panicked [{ v:=fault (x : Nat),recovered:=false }]∧∃ A' n' c' rest,Rdr w' g A' n' c' rest 0
theorem i64_or_nat (a b : Nat) (ha : a < 9223372036854775808) (hb : b < 9223372036854775808) : bits .or .i64 (a : Int) (b : Int) = ((a ||| b : Nat) : Int):=by
  have hx : a ||| b < 2 ^ 63:=Nat.or_lt_two_pow (by omega) (by omega)
  have hn : ∀ x : Nat,x < 9223372036854775808→(BitVec.ofInt 64 (x : Int)).toNat = x:=fun x hx=>by
    rw [BitVec.ofInt_natCast,BitVec.toNat_ofNat];exact Nat.mod_eq_of_lt (by omega)
  show IntKind.i64.wrap ((BitVec.ofInt 64 (a : Int) ||| BitVec.ofInt 64 (b : Int)).toNat : Int) = _
  rw [BitVec.toNat_or,hn a ha,hn b hb,IntKind.wrap_i64]
  omega
theorem pow128 (k : Nat) : (128 : Nat) ^ k = 2 ^ (7 * k):=by rw [show (128 : Nat) = 2 ^ 7 from rfl,← Nat.pow_mul]
theorem or_shift (acc x k : Nat) (hacc : acc < 128 ^ k) (hk : k < 6) (hx : x < 128) : bits .or .i64 (acc : Int) (wrap64 ((x : Int) * 2 ^ (7 * k))) = ((acc + x * 128 ^ k : Nat) : Int):=by
  have h5 : 128 ^ k≤128 ^ 5:=Nat.pow_le_pow_right (by decide) (by omega);have hm : x * 128 ^ k≤127 * 128 ^ 5:=Nat.mul_le_mul (by omega) h5
  have e5 : (128 : Nat) ^ 5 = 34359738368:=by decide
  rw [e5] at h5 hm
  have e1 : ((x : Int) * 2 ^ (7 * k)) = ((x * 128 ^ k : Nat) : Int):=by rw [pow128];push_cast;rfl
  rw [e1,IntWalk.wrap64_in _ ⟨by omega,by omega⟩,i64_or_nat _ _ (by omega) (by omega)];have e2:=Nat.shiftLeft_add_eq_or_of_lt (by rw [← pow128];exact hacc : acc < 2 ^ (7 * k)) x;rw [Nat.shiftLeft_eq,← pow128] at e2;rw [Nat.or_comm,← e2,Nat.add_comm]
theorem passed_one {w wr w1 : World} {g : Nat} {A' : Option Addr} {n' c' : Nat} {x : UInt8} {rest : List UInt8} {u : Value} (hr : Rdr wr g A' n' c' (x :: rest) 0) (hg : w.grownBy wr (some g)) (hs : w.heap.size = wr.heap.size)
    (hw1 : w1 = wr.setCell ⟨g,0,none⟩ u) : ∃ a,A' = some a∧w1.cell? a = some (bv x)∧w.grownBy w1 (some g)∧w.heap.size = w1.heap.size:=by
  obtain ⟨a,hA,hab,hc⟩:=(hr.2.1).at_ (k:=0) (by simp);refine ⟨a,hA,?_,by rw [hw1];exact only_set hg _,by rw [hw1,hs];simp [World.setCell]⟩;rw [hw1,World.cell?_setCell_other _ _ _ _ (fun e=>by rw [← e] at hab;exact absurd hab (Nat.lt_irrefl _))]
  simpa [Addr.add] using hc
set_option maxRecDepth 100000 in
theorem number_any (g : Nat) (A : Option Addr) (n c : Nat) (bs : List UInt8) (w : World) (hR : Rdr w g A n c bs 0) :
    Calls Tryz.prog 120 #[.pointer (some ⟨g,0,none⟩)] w (Numbered w g bs):=by
  go_enter Tryz.func120,Tryz.ntmps120
  go_wp2_with fail
  go_loopw [3,6] (fun v i wr=>∃ (k acc : Nat) (A' : Option Addr) (n' c' : Nat) (rest : List UInt8),k≤6∧i = .int .i64 k∧v = .int .i64 acc∧acc < 128 ^ k∧Vint.decF (6 - k) k acc rest = Vint.dec bs ∧
      Rdr wr g A' n' c' rest 0∧w.grownBy wr (some g)∧w.heap.size = wr.heap.size) (fun _ i _=>6 - (intOf i).toNat)
  case atStart=>exact ⟨0,0,A,n,c,bs,by omega,rfl,rfl,by decide,rfl,hR,World.grownBy.refl w _,rfl⟩
  case round =>
    obtain ⟨k,acc,A',n',c',rest,hk,rfl,rfl,hacc,hdec,hr,hg,hsz⟩:=hrel;have HD:=Lib.hid hdec;have HZ:=Lib.hid hsz;clear hdec hsz
    by_cases hk6 : k = 6
    · subst hk6
      go_wp2
      refine ⟨rfl,hg,HZ.out,?_⟩;rw [← HD.out];exact ⟨rfl,_,_,_,_,hr⟩
    · have hlt : k < 6:=by omega
      rcases rest with _ | ⟨x,rest⟩
      · have hn0:=hr.2.1.1
        have H0:=Lib.hid hn0;clear hn0;go_wp2_with fail;refine (pass_short 1 _ _ _ _ _ _ _ hr (by rw [H0.out];simp)).mono ?_;rintro e w1 ⟨rfl,rfl⟩;refine ⟨rfl,hg,HZ.out,?_⟩;rw [← HD.out];obtain ⟨m,hm⟩ : ∃ m,6 - k = m + 1:=⟨5 - k,by omega⟩;rw [hm];exact ⟨rfl,_,_,_,_,hr⟩
      · have hn':=hr.2.1.1
        have hx:=x.toNat_lt;have ea:=i64_andNot128 ⟨x.toNat,hx⟩
        simp only at ea
        obtain ⟨N,hN⟩ : ∃ N,N = acc + x.toNat % 128 * 128 ^ k:=⟨_,rfl⟩;have eo:=or_shift acc (x.toNat % 128) k hacc hlt (by omega);rw [← hN] at eo;rw [show ((x.toNat % 128 : Nat) : Int) = (x.toNat : Int) % 128 from rfl] at eo
        have hNb : N < 128 ^ (k + 1):=by
          rw [hN,Nat.pow_succ];have : x.toNat % 128 * 128 ^ k≤127 * 128 ^ k:=Nat.mul_le_mul_right _ (by omega)
          omega
        have h6 : 128 ^ (k + 1)≤128 ^ 6:=Nat.pow_le_pow_right (by decide) (by omega)
        have e6 : (128 : Nat) ^ 6 = 4398046511104:=by decide
        rw [e6] at h6
        have hNt : N < 4398046511104:=by omega
        clear h6 e6;have HNN:=Lib.hid hN;clear hN;obtain ⟨m,hm⟩ : ∃ m,6 - k = m + 1:=⟨5 - k,by omega⟩;have hdr : List.drop 1 (x :: rest) = rest:=rfl
        by_cases h128 : 128≤x.toNat
        · go_wp2_with fail
          refine (pass_ok 1 _ _ _ _ _ _ _ hr (by rw [hn'];simp)).mono ?_;rintro e w1 ⟨A2,n2,c2,u,rfl,hw1,hr2⟩;rw [hdr] at hr2;obtain ⟨a,hA,hc1,hg1,hs1⟩:=passed_one hr hg HZ.out hw1;subst hA;have HS:=Lib.hid hs1;have HM:=Lib.hid hm;clear hw1 hn' hdr hs1 hm;go_wp2_with fail
          go_roundw
          case rel =>
            refine ⟨k + 1,N,_,_,_,_,by omega,by go_num,rfl,hNb,?_,hr2,hg1,HS.out⟩;rw [← HD.out,HM.out,show 6 - (k + 1) = m by have:=HM.out;omega]
            conv=>rhs;unfold Vint.decF
            rw [if_pos h128,HNN.out]
          case measure=>simp [intOf];omega
        · have hxm : x.toNat % 128 = x.toNat:=Nat.mod_eq_of_lt (by omega)
          have hdec2 : Vint.dec bs = if Vint.top < N∨(x.toNat = 0∧0 < k) then .error 4 else .ok (N,rest):=by
            rw [← HD.out,hm]
            conv=>lhs;unfold Vint.decF
            rw [if_neg h128,HNN.out,hxm]
          have HD2:=Lib.hid hdec2;have hd8 : decide ((128 : Int)≤(x.toNat : Int)) = false:=decide_eq_false (by omega);have HM:=Lib.hid hm;clear hdec2 hxm hm HD
          by_cases hb : 1099511627776 < N
          · have HB:=Lib.hid (HD2.out.trans (if_pos (.inl hb)))
            have ht : decide ((1099511627776 : Int) < (N : Int)) = true:=decide_eq_true (by omega);clear HD2;go_wp2_with fail;refine (pass_ok 1 _ _ _ _ _ _ _ hr (by rw [hn'];simp)).mono ?_;rintro e w1 ⟨A2,n2,c2,u,rfl,hw1,hr2⟩;rw [hdr] at hr2;obtain ⟨a,hA,hc1,hg1,hs1⟩:=passed_one hr hg HZ.out hw1;subst hA;have HS:=Lib.hid hs1;clear hw1 hn' hdr hs1
            go_wp2
            refine ⟨rfl,hg1,HS.out,?_⟩;rw [HB.out];exact ⟨rfl,_,_,_,_,hr2⟩
          · have ht : decide ((1099511627776 : Int) < (N : Int)) = false:=decide_eq_false (by omega)
            have HNT : ¬ Vint.top < N:=hb
            by_cases hx0 : x.toNat = 0
            · have hxe : ((x.toNat : Int) == 0) = true:=by rw [hx0];rfl
              by_cases hk0 : k = 0
              · rw [if_neg (fun h=>by rcases h with h | h <;> omega)] at HD2
                have hkd : decide (0 < k) = false:=decide_eq_false (by omega);have hk00:=Lib.hid hk0;clear hk0;have hx00:=Lib.hid hx0;clear hx0;go_wp2_with fail;refine (pass_ok 1 _ _ _ _ _ _ _ hr (by rw [hn'];simp)).mono ?_;rintro e w1 ⟨A2,n2,c2,u,rfl,hw1,hr2⟩;rw [hdr] at hr2;obtain ⟨a,hA,hc1,hg1,hs1⟩:=passed_one hr hg HZ.out hw1;subst hA;have HS:=Lib.hid hs1;clear hw1 hn' hdr hs1
                go_wp2
                go_ret;refine ⟨hg1,HS.out,?_⟩;rw [HD2.out]
                have:=hr2.2.1.1
                subst this;exact ⟨rfl,_,_,hr2⟩
              · have HB:=Lib.hid (HD2.out.trans (if_pos (.inr ⟨hx0,by omega⟩)))
                have hkd : 0 < k:=by omega
                have hx00:=Lib.hid hx0;clear HD2 hx0;go_wp2_with fail;refine (pass_ok 1 _ _ _ _ _ _ _ hr (by rw [hn'];simp)).mono ?_;rintro e w1 ⟨A2,n2,c2,u,rfl,hw1,hr2⟩;rw [hdr] at hr2;obtain ⟨a,hA,hc1,hg1,hs1⟩:=passed_one hr hg HZ.out hw1;subst hA;have HS:=Lib.hid hs1;clear hw1 hn' hdr hs1
                go_wp2
                refine ⟨rfl,hg1,HS.out,?_⟩;rw [HB.out];exact ⟨rfl,_,_,_,_,hr2⟩
            · have hxe : ((x.toNat : Int) == 0) = false:=by rw [beq_eq_false_iff_ne];omega
              rw [if_neg (fun h=>by rcases h with h | h <;> omega)] at HD2;go_wp2_with fail;refine (pass_ok 1 _ _ _ _ _ _ _ hr (by rw [hn'];simp)).mono ?_;rintro e w1 ⟨A2,n2,c2,u,rfl,hw1,hr2⟩;rw [hdr] at hr2;obtain ⟨a,hA,hc1,hg1,hs1⟩:=passed_one hr hg HZ.out hw1;subst hA;have HS:=Lib.hid hs1;clear hw1 hn' hdr hs1
              go_wp2
              go_ret;refine ⟨hg1,HS.out,?_⟩;rw [HD2.out]
              have:=hr2.2.1.1
              subst this;exact ⟨rfl,_,_,hr2⟩
end Go.Proofs.YtfpenfgmpbdakaaGreat

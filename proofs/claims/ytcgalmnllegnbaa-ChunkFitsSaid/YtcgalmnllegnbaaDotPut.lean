import Derived.Test.YtcgalmnllegnbaaDotEach1
import Derived.Test.YtcgalmnllegnbaaVintPut
namespace Go.Proofs.Ytcgalmnllegnbaa
set_option linter.unusedVariables false
set_option linter.unusedSimpArgs false
set_option maxRecDepth 100000
open Go.RowKit
open Dot
def encs (ns : List Int) : List UInt8:=ns.flatMap fun z=>Vint.enc z.toNat
theorem encs_len (ns : List Int) : (encs ns).length≤6 * ns.length:=by
  induction ns with
  | nil=>simp [encs]
  | cons z r ih =>
    have:=Vint.enc_length z.toNat
    simp only [encs,List.flatMap_cons,List.length_append,List.length_cons] at *
    omega
theorem encs_snoc (ns : List Int) {k : Nat} (h : k < ns.length) : encs (ns.take (k + 1)) = encs (ns.take k) ++ Vint.enc ns[k].toNat:=by
  unfold encs
  rw [take_snoc ns h,List.flatMap_append]
  simp only [List.flatMap_cons,List.flatMap_nil,List.append_nil]
def putL (U : List Int) (l : List Dt) : List Int:=U ++ [(l.length : Int)] ++ nums l
theorem nums_len (l : List Dt) : (nums l).length = 2 * l.length:=by
  induction l with
  | nil=>rfl
  | cons d l ih=>show (([d.1,d.2] : List Int) ++ nums l).length = _;rw [List.length_append,ih];simp;omega
theorem putL_bd {U : List Int} {l : List Dt} (h : rightB U l = true) : ∀ x ∈ putL U l,0≤x∧x≤1099511627776:=by
  obtain ⟨h1,h2,h3⟩:=(right_iff U l).1 h;intro x hx
  unfold putL at hx
  rcases List.mem_append.1 hx with hx | hx
  · rcases List.mem_append.1 hx with hx | hx
    · have:=(numOk_iff x).1 (List.all_eq_true.1 h1 x hx)
      omega
    · simp at hx
      omega
  · unfold nums at hx
    obtain ⟨d,hd,hx⟩:=List.mem_flatMap.1 hx;obtain ⟨i,hi,rfl⟩:=List.getElem_of_mem hd;have h4:=h3 i hi
    unfold goodAt at h4
    rw [List.getD_eq_getElem?_getD,List.getElem?_eq_getElem hi] at h4
    simp only [Option.getD_some,Bool.and_eq_true] at h4
    have h5:=(may_iff _).1 h4.1.1
    simp at hx
    omega
theorem meet7 {a1 a2 a3 a4 a5 a6 a7 : Type} {F : a1→a2→a3→a4→a5→a6→a7→Prop} {M : a1→a2→a3→a4→a5→a6→a7→Prop} {G : Prop} (hmain : (∀ x1 x2 x3 x4 x5 x6 x7,F x1 x2 x3 x4 x5 x6 x7→M x1 x2 x3 x4 x5 x6 x7)→G) (hkey : ∀ x1 x2 x3 x4 x5 x6 x7,F x1 x2 x3 x4 x5 x6 x7→M x1 x2 x3 x4 x5 x6 x7) : G:=hmain hkey
theorem step_appI {w : World} {ops : Array Oper} {o : Oper} {a : Act} {K : Act→World→Prop} {Q : Exit→Act→World→Prop} {E : Prop} (hgd : o.guard = none) (s x : Operand)
    (ho : o.op = .call { callee:=.builtin .append,args:=#[s,x],argTypes:=#[75,75] })
    {base : Nat} {A : Option Addr} {n c : Nat} {bs : List Int} (hs : a.eval s = .slice A n c) (hown : OwnI w base A n c bs)
    {B : Nat} {D : Option Addr} {m d : Nat} {news : List Int} (hx : a.eval x = .slice D m d) (hr : RdI w B D m news)
    (hbytes : n + m≤17592186044416) (hbase : base≤w.heap.size)
    (h : ∀ A' c' w',OwnI w' base A' (n + m) c' (bs ++ news)→w.grownBy w' (A.map (·.block))→Moved A' (A.map (·.block)) w.heap.size→Below base w w' →
      K (a.put o.dst (.slice A' (n + m) c')) w') :
    if Region.wanted o (yielded ops a.tmps) = true then Oper.wp Try.prog o a w K Q else E:=by
  have hw : Region.wanted o (yielded ops a.tmps) = true:=by simp [Region.wanted,hgd]
  rw [if_pos hw];obtain ⟨i0,hi,hz0,hz1,hz2⟩:=info_parts infoI
  have hob : (Value.slice A n c).ownBlock = A.map (·.block):=by cases A <;> rfl
  obtain ⟨v',w',hrun,h2,h3,h4⟩:=run_app (P:=Try.prog) w base 75 o.type 3 i0 (.int .i64 0) 1 8 Try.underlying75 hi hz0 hz1 hz2 rfl (by decide) (.slice A n c) n _ hown.2 B D m d (news.map iv) hr.2 (by simp [hr.1]) (iv_one _) (by unfold maxLen;omega) (by omega) hbase
  unfold Oper.wp execOp
  simp only [ho,resolve,invoke,builtin,Sem.run_bind,Sem.run_pure,Result.andThen_ok,List.map_toArray,List.map_cons,List.map_nil,hs,hx,hrun]
  have hv : ∃ A' c',v' = .slice A' (n + m) c'∧v'.ownBlock = A'.map (·.block):=by
    rcases h2.2 with ⟨rfl,h0⟩ | ⟨g,cap,cur,rfl,_⟩
    · exact ⟨none,0,by rw [h0],rfl⟩
    · exact ⟨_,_,rfl,rfl⟩
  obtain ⟨A',c',rfl,hb⟩:=hv;rw [hb] at h4;rw [hob] at h3 h4;exact h _ _ _ ⟨by rw [List.length_append,hown.1,hr.1],by rw [List.map_append];exact h2⟩ h3 h4 ((Below.refl _ _).grown h3 hbase (fun g hg=>(hown.lt g hg).1))
set_option maxRecDepth 100000 in
set_option maxHeartbeats 2000000 in
theorem dput_any (s : SetV) (w : World) (hU : s.U.length = 8) (hr : RdD w w.heap.size s.A s.n s.l) :
    Calls Try.prog 35 #[.agg (uc s.U (.slice s.A s.n s.c))] w (GiveBE w (if rightB s.U s.l = true then encs (putL s.U s.l) else []) (if rightB s.U s.l = true then 0 else 2)):=by
  have hmf : ∀ (fn : Fn) (first cap : Array Value) (w : World),(Instr.makeFunc fn first cap).run Try.prog w = .ok (.func fn first cap) w:=fun _ _ _ _=>rfl
  have HU:=Lib.hid hU;have HS:=Lib.hid (uc_size hU (.slice s.A s.n s.c))
  have hra:=fun w' (hb : Below w.heap.size w w')=>right_any s.U hU s.A s.n s.c s.l w' ((hr.below hb).more hb.size)
  have HRA:=Lib.hid hra;clear hra;have HN:=Lib.hid hr.1;obtain ⟨sc,hsc⟩ : ∃ sc,sc = uc s.U (.slice s.A s.n s.c):=⟨_,rfl⟩;rw [← hsc] at HS HRA ⊢;have HSC:=Lib.hid hsc;clear hsc
  obtain ⟨BS,hBS⟩ : ∃ BS,BS = if rightB s.U s.l = true then encs (putL s.U s.l) else []:=⟨_,rfl⟩
  obtain ⟨E,hE⟩ : ∃ E,E = if rightB s.U s.l = true then 0 else 2:=⟨_,rfl⟩
  rw [← hBS,← hE];have HBS:=Lib.hid hBS;have HE:=Lib.hid hE;clear hBS hE
  go_enter Try.func35,Try.ntmps35
  go_upto_region 1 with fail
  refine nameW ?_;intro wv hwv;obtain ⟨b,hb⟩ : ∃ b,b = w.heap.size:=⟨_,rfl⟩;rw [← hb]
  have kb : Blk wv b 79 sc:=by rw [hwv,hb];exact Blk.new w _ _
  have gb : Below w.heap.size w wv:=by rw [hwv];exact (Below.refl _ _).alloc (Nat.le_refl _) _
  have hbw : w.heap.size≤b:=by omega
  clear hwv hb
  go_wp2_with ((with_reducible refine wpList_ld rowS kb HS.out ?_ ?_);rotate_left;(rfl))
  refine (HRA.out _ gb).mono ?_;rintro e w1 ⟨rfl,h1⟩
  replace gb:=gb.trans (h1.mono gb.size)
  replace kb:=kb.below h1 kb.lt
  clear h1 wv
  rename World=>wv
  cases hright : rightB s.U s.l
  case false =>
    have hBS2 : BS = []:=by rw [HBS.out,hright];rfl
    have hE2 : E = 2:=by rw [HE.out,hright];rfl
    clear HRA HBS HE;subst hBS2 hE2;go_wp2_with fail;go_ret2;exact ⟨none,0,0,rfl,OwnB.nil _ _,gb⟩
  case true =>
  have hBS2 : BS = encs (putL s.U s.l):=by rw [HBS.out,hright];rfl
  have hE2 : E = 0:=by rw [HE.out,hright];rfl
  clear HBS HE;have HBS:=Lib.hid hBS2;clear hBS2;subst hE2;have hbd:=putL_bd hright;have hbe:=(right_iff _ _).1 hright
  have hn7 : s.n≤768:=by rw [HN.out];exact hbe.2.1
  have HBD:=Lib.hid hbd;clear hbd hbe hright HRA;have hrv:=hr.below gb
  have hr8 : ∀ w',Below wv.heap.size wv w'→RdI w' w'.heap.size (some ⟨b,0,none⟩) 8 s.U:=fun w' h=>by
    refine ⟨by rw [HU.out],?_⟩;have k:=kb.below h kb.lt;rw [HSC.out] at k;intro j u hu
    have hj : j < 8:=by
      have:=(List.getElem?_eq_some_iff.1 hu).1
      rwa [List.length_map,HU.out] at this
    refine ⟨_,rfl,k.lt,?_⟩;rw [add_mk,Nat.zero_add,k.cell,uc_at HU.out _ hj];rw [List.getElem?_map,List.getElem?_eq_getElem (by rw [HU.out];exact hj)] at hu;rw [List.getD_eq_getElem?_getD,List.getElem?_eq_getElem (by rw [HU.out];exact hj)]
    simpa using hu
  have HR8:=Lib.hid hr8;have t8 : wv.cell? ⟨b,8,none⟩ = some (.slice s.A s.n s.c):=(kb.cell 8).trans (by rw [HSC.out];exact uc_last HU.out _);have hbv:=kb.lt;clear hr8 hr kb
  go_upto_region 3 with fail
  refine wp_region_held_drew (S:=fun w'=>Below wv.heap.size wv w') (by kernel_rfl) (Below.refl _ _).drew (fun hS=>?_);have gY:=gb.drew
  generalize wv.drew = wd at *
  refine wpAnyH_take (i:=0) (v:=?rv150) rfl (by kernel_rfl) (by kernel_rfl) (by kernel_rfl) (fun _ _ _ h=>h) (Or.inl ⟨by rfl,?ry150⟩) hS ?_
  case ry150=>(intro wS hSw;clear hSw;go_simp;(try with_reducible rfl))
  simp only [Act.put,List.getElem_toArray,List.getElem_cons_zero,List.getElem_cons_succ,List.setIfInBounds_toArray,List.set_cons_succ,List.set_cons_zero]
  refine wpAnyH_take (i:=1) (v:=?rv153) rfl (by kernel_rfl) (by kernel_rfl) (by kernel_rfl) (fun _ _ _ h=>h) (Or.inl ⟨by rfl,?ry153⟩) hS ?_
  case ry153=>(intro wS hSw;clear hSw;go_simp;(try with_reducible rfl))
  simp only [Act.put,List.getElem_toArray,List.getElem_cons_zero,List.getElem_cons_succ,List.setIfInBounds_toArray,List.set_cons_succ,List.set_cons_zero]
  refine wpAnyH_take (i:=3) (v:=?rv156) rfl (by kernel_rfl) (by kernel_rfl) (by kernel_rfl) (fun _ _ _ h=>h) (Or.inl ⟨by rfl,?ry156⟩) hS ?_
  case ry156=>(intro wS hSw;clear hSw;go_simp;(try with_reducible rfl))
  simp only [Act.put,List.getElem_toArray,List.getElem_cons_zero,List.getElem_cons_succ,List.setIfInBounds_toArray,List.set_cons_succ,List.set_cons_zero]
  refine wpAnyH_take (i:=4) (v:=?rv159) rfl (by kernel_rfl) (by kernel_rfl) (by kernel_rfl) (fun _ _ _ h=>h) (Or.inl ⟨by rfl,?ry159⟩) hS ?_
  case ry159=>(intro wS hSw;have c8:=(hSw.cell (p:=⟨b,8,none⟩) hbv).trans t8;clear hSw;go_simp;(try with_reducible rfl))
  simp only [Act.put,List.getElem_toArray,List.getElem_cons_zero,List.getElem_cons_succ,List.setIfInBounds_toArray,List.set_cons_succ,List.set_cons_zero]
  refine wpAnyH_take (i:=5) (v:=?rv162) rfl (by kernel_rfl) (by kernel_rfl) (by kernel_rfl) (fun _ _ _ h=>h) (Or.inl ⟨by rfl,?ry162⟩) hS ?_
  case ry162=>(intro wS hSw;clear hSw;go_simp;(try with_reducible rfl))
  simp only [Act.put,List.getElem_toArray,List.getElem_cons_zero,List.getElem_cons_succ,List.setIfInBounds_toArray,List.set_cons_succ,List.set_cons_zero]
  apply meet7 (F:=fun (w' : World) (A3 : Option Addr) (c3 gx g8 : Nat) (A7 : Option Addr) (c7 : Nat)=>Below wv.heap.size wv w'∧Below w.heap.size w w'∧OwnI w' wv.heap.size A7 9 c7 (s.U ++ [((s.n : Nat) : Int)])∧Blk w' g8 75 #[.slice none 0 0]∧wv.heap.size≤g8)
  case hmain =>
    intro key;refine wpAnyH_ready (rs:=[2,6,8]) (by kernel_rfl) (by simp) ?_;refine AllReadyH.cons rfl (fun K hK=>?aqx1d0n1_2) (AllReadyH.cons rfl (fun K hK=>?aqx1d0n1_6) (AllReadyH.cons rfl (fun K hK=>?aqx1d0n1_8) .nil))
    case aqx1d0n1_2 =>
      go_simp;refine (cloneI_any b s.U HU.out wd (HR8.out _ hS)).mono ?_;rintro e w2 ⟨A3,c3,rfl,oc,h3⟩
      replace gY:=gY.trans (h3.mono gY.size)
      replace oc:=oc.mono hS.size
      refine hK.out _ _ (hS.trans (h3.mono hS.size)) (fun hS=>?_);clear hK K h3;refine wpAnyH_ready (rs:=[6,8]) (by kernel_rfl) (by simp) ?_;refine AllReadyH.cons rfl (fun K hK=>?aq2x1d1n2_6) (AllReadyH.cons rfl (fun K hK=>?aq2x1d1n2_8) .nil)
      case aq2x1d1n2_6 =>
        go_simp;refine hK.out _ _ (hS.alloc hS.size _) (fun hS=>?_);clear hK K
        replace gY:=gY.alloc gY.size (.cells #[.int .i64 (s.n : Nat)] 3)
        have rn:=(RdI.made w2 [((s.n : Nat) : Int)] #[.int .i64 (s.n : Nat)] 3 (0,0) rfl).size
        replace oc:=oc.alloc (.cells #[.int .i64 (s.n : Nat)] 3)
        generalize w2.alloc (.cells #[.int .i64 (s.n : Nat)] 3) = w6 at *
        generalize w2.heap.size = gx at *
        refine wpAnyH_ready (rs:=[7,8]) (by kernel_rfl) (by simp) ?_;refine AllReadyH.cons rfl (fun K hK=>?aq2_6x1d2n3_7) (AllReadyH.cons rfl (fun K hK=>?aq2_6x1d2n3_8) .nil)
        case aq2_6x1d2n3_7 =>
          refine step_appI rfl (.tmp 13) (.tmp 17) rfl (by rfl) oc (by rfl) rn (by simp) hS.size ?_;intro A7 c7 w7 oM g7 m7 b7
          replace gY:=gY.trans (b7.mono gb.size)
          refine hK.out _ _ (hS.trans b7) (fun hS=>?_);clear hK K g7 m7 b7 oc rn;refine wpAnyH_ready (rs:=[8]) (by kernel_rfl) (by simp) ?_;refine AllReadyH.cons rfl (fun K hK=>?_) .nil;go_simp;have hg8:=hS.size;refine hK.out _ _ (hS.alloc hS.size _) (fun hS=>?_);clear hK K
          replace gY:=gY.alloc gY.size (.cells #[.slice none 0 0] 75)
          have k8:=Blk.new w7 75 #[.slice none 0 0]
          replace oM:=oM.alloc (.cells #[.slice none 0 0] 75)
          generalize w7.alloc (.cells #[.slice none 0 0] 75) = w8 at *
          generalize w7.heap.size = g8 at *
          exact key w8 A3 c3 gx g8 A7 c7 ⟨hS,gY,oM,k8,hg8⟩
        case aq2_6x1d2n3_8 =>
          go_simp;have hg8:=hS.size;refine hK.out _ _ (hS.alloc hS.size _) (fun hS=>?_);clear hK K
          replace gY:=gY.alloc gY.size (.cells #[.slice none 0 0] 75)
          have k8:=Blk.new w6 75 #[.slice none 0 0]
          replace oc:=oc.alloc (.cells #[.slice none 0 0] 75)
          replace rn:=(rn.alloc (Nat.le_refl _) (.cells #[.slice none 0 0] 75)).size
          generalize w6.alloc (.cells #[.slice none 0 0] 75) = w8 at *
          generalize w6.heap.size = g8 at *
          refine wpAnyH_ready (rs:=[7]) (by kernel_rfl) (by simp) ?_;refine AllReadyH.cons rfl (fun K hK=>?_) .nil;refine step_appI rfl (.tmp 13) (.tmp 17) rfl (by rfl) oc (by rfl) rn (by simp) hS.size ?_;intro A7 c7 w7 oM g7 m7 b7
          replace k8:=k8.grown g7 (own_ne oc.2 k8 (by decide))
          replace gY:=gY.trans (b7.mono gb.size)
          refine hK.out _ _ (hS.trans b7) (fun hS=>?_);clear hK K g7 m7 b7 oc rn;exact key w7 A3 c3 gx g8 A7 c7 ⟨hS,gY,oM,k8,hg8⟩
      case aq2x1d1n2_8 =>
        go_simp;have hg8:=hS.size;refine hK.out _ _ (hS.alloc hS.size _) (fun hS=>?_);clear hK K
        replace gY:=gY.alloc gY.size (.cells #[.slice none 0 0] 75)
        have k8:=Blk.new w2 75 #[.slice none 0 0]
        replace oc:=oc.alloc (.cells #[.slice none 0 0] 75)
        generalize w2.alloc (.cells #[.slice none 0 0] 75) = w8 at *
        generalize w2.heap.size = g8 at *
        refine wpAnyH_ready (rs:=[6]) (by kernel_rfl) (by simp) ?_;refine AllReadyH.cons rfl (fun K hK=>?_) .nil;go_simp;refine hK.out _ _ (hS.alloc hS.size _) (fun hS=>?_);clear hK K
        replace gY:=gY.alloc gY.size (.cells #[.int .i64 (s.n : Nat)] 3)
        have rn:=(RdI.made w8 [((s.n : Nat) : Int)] #[.int .i64 (s.n : Nat)] 3 (0,0) rfl).size
        replace oc:=oc.alloc (.cells #[.int .i64 (s.n : Nat)] 3)
        replace k8:=k8.alloc (.cells #[.int .i64 (s.n : Nat)] 3)
        generalize w8.alloc (.cells #[.int .i64 (s.n : Nat)] 3) = w6 at *
        generalize w8.heap.size = gx at *
        refine wpAnyH_ready (rs:=[7]) (by kernel_rfl) (by simp) ?_;refine AllReadyH.cons rfl (fun K hK=>?_) .nil;refine step_appI rfl (.tmp 13) (.tmp 17) rfl (by rfl) oc (by rfl) rn (by simp) hS.size ?_;intro A7 c7 w7 oM g7 m7 b7
        replace k8:=k8.grown g7 (own_ne oc.2 k8 (by decide))
        replace gY:=gY.trans (b7.mono gb.size)
        refine hK.out _ _ (hS.trans b7) (fun hS=>?_);clear hK K g7 m7 b7 oc rn;exact key w7 A3 c3 gx g8 A7 c7 ⟨hS,gY,oM,k8,hg8⟩
    case aqx1d0n1_6 =>
      go_simp;refine hK.out _ _ (hS.alloc hS.size _) (fun hS=>?_);clear hK K
      replace gY:=gY.alloc gY.size (.cells #[.int .i64 (s.n : Nat)] 3)
      have rn:=(RdI.made wd [((s.n : Nat) : Int)] #[.int .i64 (s.n : Nat)] 3 (0,0) rfl).size
      generalize wd.alloc (.cells #[.int .i64 (s.n : Nat)] 3) = w6 at *
      generalize wd.heap.size = gx at *
      refine wpAnyH_ready (rs:=[2,8]) (by kernel_rfl) (by simp) ?_;refine AllReadyH.cons rfl (fun K hK=>?aq6x1d1n4_2) (AllReadyH.cons rfl (fun K hK=>?aq6x1d1n4_8) .nil)
      case aq6x1d1n4_2 =>
        go_simp;refine (cloneI_any b s.U HU.out w6 (HR8.out _ hS)).mono ?_;rintro e w2 ⟨A3,c3,rfl,oc,h3⟩
        replace gY:=gY.trans (h3.mono gY.size)
        replace oc:=oc.mono hS.size
        replace rn:=(rn.below h3).size
        refine hK.out _ _ (hS.trans (h3.mono hS.size)) (fun hS=>?_);clear hK K h3;refine wpAnyH_ready (rs:=[7,8]) (by kernel_rfl) (by simp) ?_;refine AllReadyH.cons rfl (fun K hK=>?aq2_6x1d2n5_7) (AllReadyH.cons rfl (fun K hK=>?aq2_6x1d2n5_8) .nil)
        case aq2_6x1d2n5_7 =>
          refine step_appI rfl (.tmp 13) (.tmp 17) rfl (by rfl) oc (by rfl) rn (by simp) hS.size ?_;intro A7 c7 w7 oM g7 m7 b7
          replace gY:=gY.trans (b7.mono gb.size)
          refine hK.out _ _ (hS.trans b7) (fun hS=>?_);clear hK K g7 m7 b7 oc rn;refine wpAnyH_ready (rs:=[8]) (by kernel_rfl) (by simp) ?_;refine AllReadyH.cons rfl (fun K hK=>?_) .nil;go_simp;have hg8:=hS.size;refine hK.out _ _ (hS.alloc hS.size _) (fun hS=>?_);clear hK K
          replace gY:=gY.alloc gY.size (.cells #[.slice none 0 0] 75)
          have k8:=Blk.new w7 75 #[.slice none 0 0]
          replace oM:=oM.alloc (.cells #[.slice none 0 0] 75)
          generalize w7.alloc (.cells #[.slice none 0 0] 75) = w8 at *
          generalize w7.heap.size = g8 at *
          exact key w8 A3 c3 gx g8 A7 c7 ⟨hS,gY,oM,k8,hg8⟩
        case aq2_6x1d2n5_8 =>
          go_simp;have hg8:=hS.size;refine hK.out _ _ (hS.alloc hS.size _) (fun hS=>?_);clear hK K
          replace gY:=gY.alloc gY.size (.cells #[.slice none 0 0] 75)
          have k8:=Blk.new w2 75 #[.slice none 0 0]
          replace oc:=oc.alloc (.cells #[.slice none 0 0] 75)
          replace rn:=(rn.alloc (Nat.le_refl _) (.cells #[.slice none 0 0] 75)).size
          generalize w2.alloc (.cells #[.slice none 0 0] 75) = w8 at *
          generalize w2.heap.size = g8 at *
          refine wpAnyH_ready (rs:=[7]) (by kernel_rfl) (by simp) ?_;refine AllReadyH.cons rfl (fun K hK=>?_) .nil;refine step_appI rfl (.tmp 13) (.tmp 17) rfl (by rfl) oc (by rfl) rn (by simp) hS.size ?_;intro A7 c7 w7 oM g7 m7 b7
          replace k8:=k8.grown g7 (own_ne oc.2 k8 (by decide))
          replace gY:=gY.trans (b7.mono gb.size)
          refine hK.out _ _ (hS.trans b7) (fun hS=>?_);clear hK K g7 m7 b7 oc rn;exact key w7 A3 c3 gx g8 A7 c7 ⟨hS,gY,oM,k8,hg8⟩
      case aq6x1d1n4_8 =>
        go_simp;have hg8:=hS.size;refine hK.out _ _ (hS.alloc hS.size _) (fun hS=>?_);clear hK K
        replace gY:=gY.alloc gY.size (.cells #[.slice none 0 0] 75)
        have k8:=Blk.new w6 75 #[.slice none 0 0]
        replace rn:=(rn.alloc (Nat.le_refl _) (.cells #[.slice none 0 0] 75)).size
        generalize w6.alloc (.cells #[.slice none 0 0] 75) = w8 at *
        generalize w6.heap.size = g8 at *
        refine wpAnyH_ready (rs:=[2]) (by kernel_rfl) (by simp) ?_;refine AllReadyH.cons rfl (fun K hK=>?_) .nil;go_simp;refine (cloneI_any b s.U HU.out w8 (HR8.out _ hS)).mono ?_;rintro e w2 ⟨A3,c3,rfl,oc,h3⟩
        replace gY:=gY.trans (h3.mono gY.size)
        replace oc:=oc.mono hS.size
        replace rn:=(rn.below h3).size
        replace k8:=k8.below h3 k8.lt
        refine hK.out _ _ (hS.trans (h3.mono hS.size)) (fun hS=>?_);clear hK K h3;refine wpAnyH_ready (rs:=[7]) (by kernel_rfl) (by simp) ?_;refine AllReadyH.cons rfl (fun K hK=>?_) .nil;refine step_appI rfl (.tmp 13) (.tmp 17) rfl (by rfl) oc (by rfl) rn (by simp) hS.size ?_;intro A7 c7 w7 oM g7 m7 b7
        replace k8:=k8.grown g7 (own_ne oc.2 k8 (by decide))
        replace gY:=gY.trans (b7.mono gb.size)
        refine hK.out _ _ (hS.trans b7) (fun hS=>?_);clear hK K g7 m7 b7 oc rn;exact key w7 A3 c3 gx g8 A7 c7 ⟨hS,gY,oM,k8,hg8⟩
    case aqx1d0n1_8 =>
      go_simp;have hg8:=hS.size;refine hK.out _ _ (hS.alloc hS.size _) (fun hS=>?_);clear hK K
      replace gY:=gY.alloc gY.size (.cells #[.slice none 0 0] 75)
      have k8:=Blk.new wd 75 #[.slice none 0 0]
      generalize wd.alloc (.cells #[.slice none 0 0] 75) = w8 at *
      generalize wd.heap.size = g8 at *
      refine wpAnyH_ready (rs:=[2,6]) (by kernel_rfl) (by simp) ?_;refine AllReadyH.cons rfl (fun K hK=>?aq8x1d1n6_2) (AllReadyH.cons rfl (fun K hK=>?aq8x1d1n6_6) .nil)
      case aq8x1d1n6_2 =>
        go_simp;refine (cloneI_any b s.U HU.out w8 (HR8.out _ hS)).mono ?_;rintro e w2 ⟨A3,c3,rfl,oc,h3⟩
        replace gY:=gY.trans (h3.mono gY.size)
        replace oc:=oc.mono hS.size
        replace k8:=k8.below h3 k8.lt
        refine hK.out _ _ (hS.trans (h3.mono hS.size)) (fun hS=>?_);clear hK K h3;refine wpAnyH_ready (rs:=[6]) (by kernel_rfl) (by simp) ?_;refine AllReadyH.cons rfl (fun K hK=>?_) .nil;go_simp;refine hK.out _ _ (hS.alloc hS.size _) (fun hS=>?_);clear hK K
        replace gY:=gY.alloc gY.size (.cells #[.int .i64 (s.n : Nat)] 3)
        have rn:=(RdI.made w2 [((s.n : Nat) : Int)] #[.int .i64 (s.n : Nat)] 3 (0,0) rfl).size
        replace oc:=oc.alloc (.cells #[.int .i64 (s.n : Nat)] 3)
        replace k8:=k8.alloc (.cells #[.int .i64 (s.n : Nat)] 3)
        generalize w2.alloc (.cells #[.int .i64 (s.n : Nat)] 3) = w6 at *
        generalize w2.heap.size = gx at *
        refine wpAnyH_ready (rs:=[7]) (by kernel_rfl) (by simp) ?_;refine AllReadyH.cons rfl (fun K hK=>?_) .nil;refine step_appI rfl (.tmp 13) (.tmp 17) rfl (by rfl) oc (by rfl) rn (by simp) hS.size ?_;intro A7 c7 w7 oM g7 m7 b7
        replace k8:=k8.grown g7 (own_ne oc.2 k8 (by decide))
        replace gY:=gY.trans (b7.mono gb.size)
        refine hK.out _ _ (hS.trans b7) (fun hS=>?_);clear hK K g7 m7 b7 oc rn;exact key w7 A3 c3 gx g8 A7 c7 ⟨hS,gY,oM,k8,hg8⟩
      case aq8x1d1n6_6 =>
        go_simp;refine hK.out _ _ (hS.alloc hS.size _) (fun hS=>?_);clear hK K
        replace gY:=gY.alloc gY.size (.cells #[.int .i64 (s.n : Nat)] 3)
        have rn:=(RdI.made w8 [((s.n : Nat) : Int)] #[.int .i64 (s.n : Nat)] 3 (0,0) rfl).size
        replace k8:=k8.alloc (.cells #[.int .i64 (s.n : Nat)] 3)
        generalize w8.alloc (.cells #[.int .i64 (s.n : Nat)] 3) = w6 at *
        generalize w8.heap.size = gx at *
        refine wpAnyH_ready (rs:=[2]) (by kernel_rfl) (by simp) ?_;refine AllReadyH.cons rfl (fun K hK=>?_) .nil;go_simp;refine (cloneI_any b s.U HU.out w6 (HR8.out _ hS)).mono ?_;rintro e w2 ⟨A3,c3,rfl,oc,h3⟩
        replace gY:=gY.trans (h3.mono gY.size)
        replace oc:=oc.mono hS.size
        replace rn:=(rn.below h3).size
        replace k8:=k8.below h3 k8.lt
        refine hK.out _ _ (hS.trans (h3.mono hS.size)) (fun hS=>?_);clear hK K h3;refine wpAnyH_ready (rs:=[7]) (by kernel_rfl) (by simp) ?_;refine AllReadyH.cons rfl (fun K hK=>?_) .nil;refine step_appI rfl (.tmp 13) (.tmp 17) rfl (by rfl) oc (by rfl) rn (by simp) hS.size ?_;intro A7 c7 w7 oM g7 m7 b7
        replace k8:=k8.grown g7 (own_ne oc.2 k8 (by decide))
        replace gY:=gY.trans (b7.mono gb.size)
        refine hK.out _ _ (hS.trans b7) (fun hS=>?_);clear hK K g7 m7 b7 oc rn;exact key w7 A3 c3 gx g8 A7 c7 ⟨hS,gY,oM,k8,hg8⟩
  rintro w9 A3 c3 gx g8 A7 c7 ⟨hS,gY,oM,k8,hg8⟩;refine wpAnyH_ready (rs:=[9]) (by kernel_rfl) (by simp) ?_;refine AllReadyH.cons rfl (fun K hK=>?_) .nil;have c9 : w9.cell? ⟨g8,0,none⟩ = some (.slice none 0 0):=k8.cell 0;have f9:=k8.free 0;go_simp;have hne:=own_ne oM.2 k8 (by decide);have o9:=oM.setFar (p:=⟨g8,0,none⟩) hne (.slice A7 9 c7);have gY9:=gY.setCell (p:=⟨g8,0,none⟩) (Nat.le_trans gb.size hg8) (.slice A7 9 c7);have hS9:=hS.setCell (p:=⟨g8,0,none⟩) hg8 (.slice A7 9 c7);have k9:=k8.set_ 0 (.slice A7 9 c7);refine hK.out _ _ hS9 (fun hS=>?_);clear hK K c9 f9 oM k8 hS9
  rename Below wv.heap.size wv wd=>hSd
  rename Below w.heap.size w wd=>hYd
  clear hSd hYd gY
  generalize w9.setCell ⟨g8,0,none⟩ (.slice A7 9 c7) = w10 at *
  refine wpAnyH_done (by kernel_rfl) ?_ _;have c8:=(hS.cell (p:=⟨b,8,none⟩) hbv).trans t8;have hrl:=hrv.below (hS.mono gb.size);have o10:=o9.mono gb.size;have hgw:=Nat.le_trans gb.size hg8;clear t8 hrv o9 gb hS;go_wp2_with fail;refine (each_put1 g8 s.n s.c 9 w.heap.size s.A s.l _ w10 hrl hn7 (by decide) hgw gY9.size A7 c7 k9 o10 hne).mono ?_;rintro e w11 ⟨rfl,A1,c1,k11,o11,hne11,b11⟩;have g11:=gY9.trans b11;rw [show s.U ++ [((s.n : Nat) : Int)] ++ nums s.l = putL s.U s.l by rw [HN.out];rfl] at o11
  have hml : 9 + 2 * s.n≤1545:=by omega
  have c11 : w11.cell? ⟨g8,0,none⟩ = some (.slice A1 (9 + 2 * s.n) c1):=k11.cell 0
  generalize 9 + 2 * s.n = m at *
  generalize putL s.U s.l = ms at *
  clear c8 hrl o10 k9 hne gY9 b11 k11;have hmle:=ownsRow_le o11.2;go_wp2_with fail;clear c11;obtain ⟨wo,rfl⟩ : ∃ wo,wo = w11:=⟨_,rfl⟩
  go_loopw [5,25] (fun s i wr=>∃ (j : Nat) (A : Option Addr) (nb cb : Nat),j≤m∧i = .int .i64 j∧s = .slice A nb cb∧OwnB wr w.heap.size A nb cb (encs (ms.take j))∧Below wo.heap.size wo wr) (fun _ i _=>m - (intOf i).toNat)
  case atStart=>exact ⟨0,none,0,0,by omega,rfl,rfl,OwnB.nil _ _,Below.refl _ _⟩
  case round =>
    obtain ⟨j,A,nb,cb,hj,rfl,rfl,ob,bl⟩:=hrel
    by_cases hjm : j < m
    · have hjl : j < ms.length:=by rw [← o11.1];exact hjm
      obtain ⟨ad,rfl,_,c1⟩:=(o11.rd.below bl).at_ hjl;have hxb:=HBD.out _ (List.getElem_mem hjl);have hes:=encs_snoc ms hjl;have HES:=Lib.hid hes;have hel:=encs_len (ms.take j)
      have hnb : nb≤15000:=by
        have h1:=ob.1;have h2 : (ms.take j).length≤j:=List.length_take_le _ _
        omega
      clear hes hel
      generalize ms[j] = x at *
      obtain ⟨x,rfl⟩:=Int.eq_ofNat_of_zero_le hxb.1;rw [Int.toNat_natCast] at HES
      have hj0 : (0 : Int)≤(j : Int):=by omega
      have hj1 : (j : Int) < (m : Int):=by omega
      go_wp2_with fail;refine (put_ok A nb cb _ x wr.heap.size wr ob.rd (Nat.le_refl _) (by omega) (by omega)).mono ?_;rintro e w4 ⟨A4,n4,c4,rfl,o4,b4⟩
      have O4 : OwnB w4 w.heap.size A4 n4 c4 (encs (ms.take (j + 1))):=by rw [HES.out];exact o4.mono (Nat.le_trans g11.size bl.size)
      have B4:=bl.trans (b4.mono bl.size);have HO:=Lib.hid O4;clear O4 o4 b4 ob bl;go_wp2_with fail
      go_roundw
      case rel=>exact ⟨j + 1,A4,n4,c4,by omega,by go_num,rfl,HO.out,B4⟩
      case measure=>simp [intOf];omega
    · have hfull : ms.take j = ms:=List.take_of_length_le (by rw [← o11.1];omega)
      have HFL:=Lib.hid hfull;clear hfull;go_wp2_with fail;go_ret2;exact ⟨A,nb,cb,rfl,by rw [HBS.out];rw [HFL.out] at ob;exact ob,g11.trans (bl.mono g11.size)⟩
end Go.Proofs.Ytcgalmnllegnbaa

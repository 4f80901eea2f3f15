import Derived.Test.YtfpenfgmpbdakaaGreatDisk
namespace Go.Proofs.YtfpenfgmpbdakaaGreat
set_option linter.unusedVariables false
set_option linter.unusedSimpArgs false
set_option maxRecDepth 100000
open Go.RowKit
open Disk
theorem waiting_any (F : Nat→Prop) (g size : Nat) (lasts : List UInt8) (ws : List W) (w : World) (hD : DiskAt w F g size lasts ws) (hm : mass ws≤1099511627776) (hl : ws.length≤1099511627776) :
    Calls Tryz.prog 62 #[.pointer (some ⟨g,0,none⟩)] w fun e w'=>e = .returned (.int .i64 (pend ws : Nat))∧Below w.heap.size w w':=by
  obtain ⟨es,AL,cL,AW,cW,rfl,hE⟩:=hD;have c2:=hE.blk.cell 2;have hlt:=hE.blk.lt;have hwl:=pend_le (es.map (·.1));rw [List.length_map] at hl hwl
  go_enter Tryz.func62,Tryz.ntmps62
  go_wp2_with fail
  go_loopw [2,12] (fun s i wr=>∃ (k : Nat),k≤es.length∧i = .int .i64 k∧s = .int .i64 (pend ((es.map (·.1)).take k) : Nat)∧Below w.heap.size w wr) (fun _ i _=>es.length - (intOf i).toNat)
  case atStart=>exact ⟨0,by omega,rfl,rfl,Below.refl _ _⟩
  case round =>
    obtain ⟨k,hk,rfl,rfl,hbel⟩:=hrel
    have htk : pend ((es.map (·.1)).take k)≤pend (es.map (·.1)):=by
      conv=>rhs;rw [← List.take_append_drop k (es.map (·.1)),pend_append]
      omega
    by_cases hlt2 : k < es.length
    · have hEr:=hE.keep (Keeps.of_below hbel hE.lt)
      obtain ⟨x,bo,hx⟩ : ∃ x bo,es[k] = (x,bo):=⟨_,_,rfl⟩
      have hxe : es[k]? = some (x,bo):=by rw [List.getElem?_eq_getElem hlt2,hx]
      obtain ⟨a,rfl,hab,q1,q2⟩:=hEr.cell hxe
      have hwx : (es.map (·.1))[k]? = some x:=by rw [List.getElem?_map,hxe];rfl
      have hst:=pend_step hwx
      have htk2 : pend ((es.map (·.1)).take (k + 1))≤pend (es.map (·.1)):=by
        conv=>rhs;rw [← List.take_append_drop (k + 1) (es.map (·.1)),pend_append]
        omega
      rw [hst] at htk2;have HS:=Lib.hid hst;obtain ⟨kf,hkf⟩ : ∃ kf,kf = (if x.1 then 104 else 37):=⟨_,rfl⟩
      unfold wfun at q2
      rw [← hkf] at q2;clear hst hkf hwx;go_wp2_with fail
      go_roundw
      case rel=>exact ⟨k + 1,by omega,by go_num,by rw [HS.out];go_num,hbel.alloc hbel.size _⟩
      case measure=>simp [intOf];omega
    · go_wp2_with fail
      go_ret;exact ⟨by rw [List.take_of_length_le (by simp;omega)];rfl,hbel⟩
theorem read_any (F : Nat→Prop) (g size : Nat) (lasts : List UInt8) (ws : List W) (w : World) (hD : DiskAt w F g size lasts ws) (hm : lasts.length + mass ws≤1099511627776) (hl : ws.length≤1099511627776) :
    Calls Tryz.prog 27 #[.pointer (some ⟨g,0,none⟩)] w (GiveB w (readL lasts ws)):=by
  have hwl:=pend_le ws
  go_enter Tryz.func27,Tryz.ntmps27
  go_wp2_with fail;refine (waiting_any F g size lasts ws w hD (by omega) hl).mono ?_;rintro e w1 ⟨rfl,h1⟩;go_wp2_with fail;refine (after_any _ F g size lasts ws w1 (hD.below h1) (by omega) hm hl).mono ?_;rintro e w2 ⟨A,n,c,rfl,h2,h3⟩;go_wp2_with fail;go_ret;exact ⟨_,_,_,rfl,h2.mono h1.size,h1.trans (h3.mono h1.size)⟩
theorem room_any (F : Nat→Prop) (g size : Nat) (lasts : List UInt8) (ws : List W) (w : World) (hD : DiskAt w F g size lasts ws) (hm : lasts.length + mass ws≤1099511627776) (hl : ws.length≤1099511627776) (hs : size≤1099511627776) :
    Calls Tryz.prog 34 #[.pointer (some ⟨g,0,none⟩)] w fun e w'=>e = .returned (.int .i64 ((size : Int) - (readL lasts ws).length))∧Below w.heap.size w w':=by
  have hD' : DiskAt w.drew F g size lasts ws:=hD.below (Below.refl _ _).drew
  have c0 : w.cell? ⟨g,0,none⟩ = some (.int .i64 (size : Nat)):=by
    obtain ⟨es,AL,cL,AW,cW,rfl,hE⟩:=hD;exact hE.blk.cell 0
  have hlt : g < w.heap.size:=by
    obtain ⟨es,AL,cL,AW,cW,rfl,hE⟩:=hD;exact hE.blk.lt
  have hrl : (readL lasts ws).length≤1099511627776:=Nat.le_trans (after_len _ _ _) hm
  go_enter Tryz.func34,Tryz.ntmps34
  go_wp2_with fail;have ew : IntKind.i64.wrap ((size : Int) - ((readL lasts ws).length : Int)) = (size : Int) - ((readL lasts ws).length : Int):=IntWalk.i64_in _ (by omega)
  go_region_with (go_at_call 27;refine (read_any F g size lasts ws _ hD' hm hl).mono ?_;rintro e w1 ⟨A,n,c,rfl,h2,h3⟩;have hn:=h2.1;subst hn;have q0:=(h3.cell (p:=⟨g,0,none⟩) hlt).trans c0)
  all_goals
    go_wp2_with fail;go_ret;exact ⟨rfl,(Below.refl _ _).drew.trans h3⟩
def DiskOp (w : World) (F : Nat→Prop) (g size : Nat) (lasts : List UInt8) (ws : List W) (w' : World) : Prop :=
  ∃ F',DiskAt w' F' g size lasts ws∧Only F w w'∧Grows F F' w
theorem infoW : (Tryz.prog.info? 111).map (fun i=>(i.zero,i.size,i.bytes)) = some (some (.agg #[.int .i64 0,.nilFunc]),2,16):=by kernel_rfl
theorem FB.safe {w w' : World} {F : Nat→Prop} {A : Option Addr} {n c : Nat} {bs : List UInt8} (h : FB w F A n c bs) (hall : ∀ k cur t,k < w.heap.size→w.heap[k]? = some (.cells cur t (0,0))→t ≠ 75→t ≠ 111→w'.heap[k]? = w.heap[k]?) : FB w' F A n c bs :=
  ⟨⟨h.1.1,ownsRow_keep h.1.2 fun k hA=>by
    obtain ⟨cur,hc⟩:=ownsRow_type h.1.2 hA
    exact hall k cur _ (lt_of_block hc) hc (by decide) (by decide)⟩,h.2⟩
theorem EntAt.safe {w w' : World} {F : Nat→Prop} {e : W × Nat} (h : EntAt w F e) (hall : ∀ k cur t,k < w.heap.size→w.heap[k]? = some (.cells cur t (0,0))→t ≠ 75→t ≠ 111→w'.heap[k]? = w.heap[k]?) : EntAt w' F e:=by
  obtain ⟨h1,A,c,h2,h3⟩:=h;exact ⟨h1,A,c,(hall _ _ _ h2.lt h2 (by decide) (by decide)).trans h2,h3.safe hall⟩
theorem DiskE.add {w w3 : World} {F : Nat→Prop} {g size : Nat} {lasts : List UInt8} {es : List (W × Nat)} {AL AW : Option Addr} {cL cW : Nat} (hE : DiskE w F g size lasts es AL cL AW cW) {x : W} {bo : Nat} {Ao A' : Option Addr} {co c' : Nat}
    (hbo : Blk w bo 22 #[.slice Ao x.2.length co]) (hx : OwnB w 0 Ao x.2.length co x.2) (hsz : w.heap.size≤w3.heap.size)
    (hall : ∀ k,k < w.heap.size→k ≠ g→AW.map (·.block) ≠ some k→w3.heap[k]? = w.heap[k]?)
    (hblk : Blk w3 g 75 #[.int .i64 (size : Nat),.slice AL lasts.length cL,.slice A' (es ++ [(x,bo)]).length c'])
    (hrow : w3.ownsRow 0 111 2 (.slice A' (es ++ [(x,bo)]).length c') (es ++ [(x,bo)]).length (wcells (es ++ [(x,bo)])))
    (hmv : ∀ k,A'.map (·.block) = some k→AW.map (·.block) = some k∨w.heap.size≤k) :
    DiskE w3 (fun k=>F k∨(w.heap.size≤k∧A'.map (·.block) = some k)∨k = bo∨Ao.map (·.block) = some k) g size lasts (es ++ [(x,bo)]) AL cL A' c':=by
  have hs : ∀ k cur t,k < w.heap.size→w.heap[k]? = some (.cells cur t (0,0))→t ≠ 75→t ≠ 111→w3.heap[k]? = w.heap[k]?:=by
    intro k cur t hk hc h1 h2;refine hall k hk (fun e=>?_) (fun e=>?_)
    · have h4:=hE.blk
      unfold Blk at h4
      rw [← e,hc] at h4
      injection h4 with h4
      injection h4 with _ h5
      exact h1 h5
    · obtain ⟨cur2,h4⟩:=ownsRow_type hE.row e
      rw [hc] at h4
      injection h4 with h4
      injection h4 with _ h5
      exact h2 h5
  have hxF : FB w (fun k=>F k∨(w.heap.size≤k∧A'.map (·.block) = some k)∨k = bo∨Ao.map (·.block) = some k) Ao x.2.length co x.2:=⟨hx,fun k hk=>.inr (.inr (.inr hk))⟩;refine ⟨.inl hE.mine,hblk,(hE.lasts.safe hs).mono fun k hk=>.inl hk,hrow,fun k hk=>?_,fun e he=>?_,fun k hk=>?_⟩
  · rcases hmv k hk with h1 | h1
    · exact .inl (hE.rowF k h1)
    · exact .inr (.inl ⟨h1,hk⟩)
  · rcases List.mem_append.1 he with h1 | h1
    · exact ((hE.ents e h1).safe hs).mono fun k hk=>.inl hk
    · simp at h1
      subst h1;exact ⟨.inr (.inr (.inl rfl)),Ao,co,(hs _ _ _ hbo.lt hbo (by decide) (by decide)).trans hbo,hxF.safe hs⟩
  · rcases hk with h1 | ⟨_,h1⟩ | rfl | h1
    · exact Nat.lt_of_lt_of_le (hE.lt k h1) hsz
    · exact ownsRow_lt hrow h1
    · exact Nat.lt_of_lt_of_le hbo.lt hsz
    · exact Nat.lt_of_lt_of_le (ownsRow_lt hx.2 h1) hsz
def WaitsIn (w : World) (F : Nat→Prop) (g size : Nat) (lasts : List UInt8) (ws : List W) (bo : Nat) (Ao : Option Addr) (w' : World) : Prop :=
  ∃ F',DiskAt w' F' g size lasts ws∧Only F w w'∧∀ k,F' k→F k∨w.heap.size≤k∨k = bo∨Ao.map (·.block) = some k
theorem wait_any (x : W) (bo : Nat) (Ao : Option Addr) (co : Nat) (F : Nat→Prop) (g size : Nat) (lasts : List UInt8) (ws : List W) (w : World) (hD : DiskAt w F g size lasts ws) (hl : ws.length≤1099511627776)
    (hbo : Blk w bo 22 #[.slice Ao x.2.length co]) (hx : OwnB w 0 Ao x.2.length co x.2) :
    Calls Tryz.prog 36 #[.pointer (some ⟨g,0,none⟩),.int .i64 (units x : Nat),wfun x bo] w fun e w'=>e = .returned (.int .i64 0)∧WaitsIn w F g size lasts (ws ++ [x]) bo Ao w':=by
  obtain ⟨es,AL,cL,AW,cW,rfl,hE⟩:=hD;rw [List.length_map] at hl;have c2:=hE.blk.cell 2;have hlt:=hE.blk.lt;obtain ⟨i0,hi,hz0,hz1,hz2⟩:=info_parts infoW;obtain ⟨kf,hkf⟩ : ∃ kf,wfun x bo = .func (.func kf) #[] #[.pointer (some ⟨bo,0,none⟩)]:=⟨_,rfl⟩
  have hw1 : ∀ u ∈ [Value.int .i64 (units x : Nat),.func (.func kf) #[] #[.pointer (some ⟨bo,0,none⟩)]],u.oneCell' = true:=by
    intro u hu
    simp at hu
    rcases hu with rfl | rfl <;> rfl
  have HW1:=Lib.hid hw1;rw [hkf];have HK:=Lib.hid hkf;clear hkf hw1
  go_enter Tryz.func36,Tryz.ntmps36
  go_wp2_with (at_builtin;refine wpList_app _ rfl (.tmp 11) (.tmp 15) 73 rfl 0 111 i0 (.agg #[.int .i64 0,.nilFunc]) 2 16 Tryz.underlying73 hi hz0 hz1 hz2 rfl (by decide) _ _ _ rfl (hE.row.alloc _) _ _ 1 1 _ rfl (Rd.made _ _ _ _) rfl HW1.out ?h63 ?hby (Nat.zero_le _) ?_)
  case h63=>unfold maxLen;omega
  case hby=>omega
  intro A' c' w2 h1 h2 h3;have h0 : Below w.heap.size w (w.alloc (.cells #[.int .i64 (units x : Nat),.func (.func kf) #[] #[.pointer (some ⟨bo,0,none⟩)]] 111)):=(Below.refl _ _).alloc (Nat.le_refl _) _;obtain ⟨w1,hw1⟩ : ∃ w1,w1 = w.alloc (.cells #[.int .i64 (units x : Nat),.func (.func kf) #[] #[.pointer (some ⟨bo,0,none⟩)]] 111):=⟨_,rfl⟩
  have hs1 : w1.heap.size = w.heap.size + 1:=by rw [hw1];simp
  rw [← hw1] at h2 h0;clear hw1
  have hrow : (Value.slice AW es.length cW).ownBlock = AW.map (·.block):=by cases AW <;> rfl
  rw [hrow] at h2 h3
  have hk : ∀ k,k < w.heap.size→AW.map (·.block) ≠ some k→w2.heap[k]? = w.heap[k]?:=fun k hk hne=>(h2.block k (by omega) (fun e=>hne e.symm)).trans (h0.block k hk)
  have hgw : AW.map (·.block) ≠ some g:=fun e=>by
    obtain ⟨cur,h4⟩:=ownsRow_type hE.row e;have h5:=hE.blk
    unfold Blk at h5
    rw [h4] at h5
    injection h5 with h5
    injection h5 with _ h5
    exact absurd h5 (by decide)
  have hb2 : Blk w2 g 75 #[.int .i64 (size : Nat),.slice AL lasts.length cL,.slice AW es.length cW]:=(hk g hlt hgw).trans hE.blk;have c2':=hb2.cell 2;have f2':=hb2.free 2;have b3:=hb2.set_ 2 (.slice A' (es.length + 1) c')
  have hgw' : A'.map (·.block) ≠ some g:=fun e=>by
    rcases h3 with h3 | h3
    · rw [h3] at e;exact hgw e
    · rw [h3] at e;injection e;omega
  have hfin : DiskAt (w2.setCell ⟨g,2,none⟩ (.slice A' (es.length + 1) c')) (fun k=>F k∨(w.heap.size≤k∧A'.map (·.block) = some k)∨k = bo∨Ao.map (·.block) = some k) g size lasts (es.map (·.1) ++ [x]):=by
    refine ⟨es ++ [(x,bo)],AL,cL,A',c',by simp,hE.add hbo hx ?_ ?_ ?_ ?_ ?_⟩
    · have:=h2.size;simp [World.setCell];omega
    · intro k h4 h5 h6
      exact (Below.heap_setCell w2 _ _ k h5).trans (hk k h4 h6)
    · rw [List.length_append];exact b3
    · rw [List.length_append,wcells_append]
      refine ownsRow_setCell_other ?_ ?_ _
      · have e : wcells [(x,bo)] = [.int .i64 (units x : Nat),wfun x bo]:=rfl
        rw [e,HK.out];exact h1
      · rcases A' with _ | a'
        · simp [Value.ownBlock]
        · simpa [Value.ownBlock] using hgw'
    · intro k h4
      rcases h3 with h3 | h3
      · rw [h3] at h4;exact .inl h4
      · rw [h3] at h4;injection h4 with h4;right;omega
  have hon : Only F w (w2.setCell ⟨g,2,none⟩ (.slice A' (es.length + 1) c')):=by
    refine Only.setCell ⟨h2.os.trans h0.os,h2.tape.trans h0.tape,h2.output.trans h0.output,Nat.le_trans h0.size h2.size,fun k h4 h5=>hk k h4 (fun e=>h5 (hE.rowF k e))⟩ (.inl hE.mine) _
  have HF:=Lib.hid hfin;have HO:=Lib.hid hon;clear hfin hon b3 hb2 hk h2 h1 h3;go_wp2_with fail;go_ret;refine ⟨rfl,_,HF.out,HO.out,fun k hk=>?_⟩
  rcases hk with h4 | ⟨h4,_⟩ | h4 | h4
  · exact .inl h4
  · exact .inr (.inl h4)
  · exact .inr (.inr (.inl h4))
  · exact .inr (.inr (.inr h4))
def DiskEnd (w : World) (F : Nat→Prop) (g size : Nat) (lasts : List UInt8) (ws : List W) (x : Nat) (e : Ending) (w' : World) : Prop:=e = .returned (.int .i64 (x : Nat))∧DiskOp w F g size lasts ws w'
theorem DiskOp.of_below {w w1 w' : World} {F : Nat→Prop} {g size : Nat} {lasts : List UInt8} {ws : List W} (hb : Below w.heap.size w w1) (h : DiskOp w1 F g size lasts ws w') : DiskOp w F g size lasts ws w':=by
  obtain ⟨F',h1,h2,h3⟩:=h;exact ⟨F',h1,(Only.of_below F hb).trans h2 (Grows.refl _ _),fun k hk=>by rcases h3 k hk with h | h;exact .inl h;right;have:=hb.size;omega⟩
theorem DiskOp.refl {w w' : World} {F : Nat→Prop} {g size : Nat} {lasts : List UInt8} {ws : List W} (h : DiskAt w F g size lasts ws) (hb : Below w.heap.size w w') : DiskOp w F g size lasts ws w':=⟨F,h.below hb,Only.of_below F hb,Grows.refl _ _⟩
set_option maxRecDepth 100000 in
theorem append_any (A : Option Addr) (n c B : Nat) (bs : List UInt8) (F : Nat→Prop) (g size : Nat) (lasts : List UInt8) (ws : List W) (w : World) (hD : DiskAt w F g size lasts ws) (hm : lasts.length + mass ws≤1099511627776) (hl : ws.length≤1099511627776) (hs : size≤1099511627776)
    (hb : RdB w B A n bs) (hn : (n : Int)≤(size : Int) - (readL lasts ws).length) :
    Calls Tryz.prog 10 #[.pointer (some ⟨g,0,none⟩),.slice A n c] w (DiskEnd w F g size lasts (ws ++ [(false,bs)]) 0):=by
  obtain rfl:=hb.1;have hrl : (readL lasts ws).length≤1099511627776:=Nat.le_trans (after_len _ _ _) hm;have hd : decide ((size : Int) - ((readL lasts ws).length : Int) < (bs.length : Int)) = false:=decide_eq_false (by omega)
  go_enter Tryz.func10,Tryz.ntmps10
  go_wp2_with fail;refine (room_any F g size lasts ws w hD hm hl hs).mono ?_;rintro e w1 ⟨rfl,h1⟩;have hD1:=hD.below h1;go_wp2_with fail;refine (clone_any _ _ _ _ _ _ (hb.size.below h1) h1.size (by omega)).mono ?_;rintro e w2 ⟨A2,n2,c2,rfl,ho,h2⟩;have hD2:=hD1.below h2;have h12:=h1.trans (h2.mono h1.size);have hn2:=ho.1;subst hn2
  have hmf : ∀ (fn : Fn) (first cap : Array Value) (w : World),(Instr.makeFunc fn first cap).run Tryz.prog w = .ok (.func fn first cap) w:=fun _ _ _ _=>rfl
  go_wp2_with fail;obtain ⟨w3,hw3⟩ : ∃ w3,w3 = w2.alloc (.cells #[.slice A2 bs.length c2] 22):=⟨_,rfl⟩
  have h3 : Below w2.heap.size w2 w3:=by rw [hw3];exact (Below.refl _ _).alloc (Nat.le_refl _) _
  have hv : Blk w3 w2.heap.size 22 #[.slice A2 bs.length c2]:=by rw [hw3];exact Blk.new w2 _ _
  have ho3:=ho.below h3 (Nat.le_refl _);have hD3:=hD2.below h3;rw [← hw3];refine (wait_any (false,bs) w2.heap.size A2 c2 F g size lasts ws w3 hD3 hl hv ⟨rfl,ownsRow_base ho3.2 (Nat.zero_le _)⟩).mono ?_;rintro e w4 ⟨rfl,F',h4,h5,h6⟩;have h13:=h12.trans (h3.mono h12.size)
  have hop : DiskOp w F g size lasts (ws ++ [(false,bs)]) w4:=by
    refine ⟨F',h4,(Only.of_below F h13).trans h5 (Grows.refl _ _),fun k hk=>?_⟩
    rcases h6 k hk with h | h | h | h
    · exact .inl h
    · right;have:=h13.size;omega
    · right;have:=h12.size;omega
    · right;have:=(ho.lt k h).1;have:=h1.size;omega
  have HP:=Lib.hid hop;clear hop;go_wp2_with fail;go_ret;exact ⟨rfl,HP.out⟩
theorem append_full (A : Option Addr) (n c : Nat) (F : Nat→Prop) (g size : Nat) (lasts : List UInt8) (ws : List W) (w : World) (hD : DiskAt w F g size lasts ws) (hm : lasts.length + mass ws≤1099511627776) (hl : ws.length≤1099511627776) (hs : size≤1099511627776)
    (hn : ¬ (n : Int)≤(size : Int) - (readL lasts ws).length) :
    Calls Tryz.prog 10 #[.pointer (some ⟨g,0,none⟩),.slice A n c] w fun e w'=>e = .returned (.int .i64 7)∧Below w.heap.size w w':=by
  have hrl : (readL lasts ws).length≤1099511627776:=Nat.le_trans (after_len _ _ _) hm;have hd : decide ((size : Int) - ((readL lasts ws).length : Int) < (n : Int)) = true:=decide_eq_true (by omega)
  go_enter Tryz.func10,Tryz.ntmps10
  go_wp2_with fail;refine (room_any F g size lasts ws w hD hm hl hs).mono ?_;rintro e w1 ⟨rfl,h1⟩;go_wp2_with fail;go_ret;exact ⟨rfl,h1⟩
theorem DiskAt.blk0 {w : World} {F : Nat→Prop} {g size : Nat} {lasts : List UInt8} {ws : List W} (hD : DiskAt w F g size lasts ws) : w.cell? ⟨g,0,none⟩ = some (.int .i64 (size : Nat))∧g < w.heap.size:=by
  obtain ⟨es,AL,cL,AW,cW,rfl,hE⟩:=hD;exact ⟨hE.blk.cell 0,hE.blk.lt⟩
set_option maxRecDepth 100000 in
theorem swap_any (A : Option Addr) (n c B : Nat) (bs : List UInt8) (F : Nat→Prop) (g size : Nat) (lasts : List UInt8) (ws : List W) (w : World) (hD : DiskAt w F g size lasts ws) (hl : ws.length≤1099511627776) (hs : size≤1099511627776)
    (hb : RdB w B A n bs) (hn : n≤size) :
    Calls Tryz.prog 90 #[.pointer (some ⟨g,0,none⟩),.slice A n c] w (DiskEnd w F g size lasts (ws ++ [(true,bs)]) 0):=by
  obtain rfl:=hb.1;have c0:=hD.blk0.1;have hd : decide (size < bs.length) = false:=decide_eq_false (by omega)
  go_enter Tryz.func90,Tryz.ntmps90
  go_wp2_with fail;refine (clone_any _ _ _ _ _ _ hb.size (Nat.le_refl _) (by omega)).mono ?_;rintro e w2 ⟨A2,n2,c2,rfl,ho,h2⟩;have hD2:=hD.below h2;have hn2:=ho.1;subst hn2
  have hmf : ∀ (fn : Fn) (first cap : Array Value) (w : World),(Instr.makeFunc fn first cap).run Tryz.prog w = .ok (.func fn first cap) w:=fun _ _ _ _=>rfl
  go_wp2_with fail;obtain ⟨w3,hw3⟩ : ∃ w3,w3 = w2.alloc (.cells #[.slice A2 bs.length c2] 22):=⟨_,rfl⟩
  have h3 : Below w2.heap.size w2 w3:=by rw [hw3];exact (Below.refl _ _).alloc (Nat.le_refl _) _
  have hv : Blk w3 w2.heap.size 22 #[.slice A2 bs.length c2]:=by rw [hw3];exact Blk.new w2 _ _
  have ho3:=ho.below h3 (Nat.le_refl _);have hD3:=hD2.below h3;rw [← hw3];refine (wait_any (true,bs) w2.heap.size A2 c2 F g size lasts ws w3 hD3 hl hv ⟨rfl,ownsRow_base ho3.2 (Nat.zero_le _)⟩).mono ?_;rintro e w4 ⟨rfl,F',h4,h5,h6⟩;have h13:=h2.trans (h3.mono h2.size)
  have hop : DiskOp w F g size lasts (ws ++ [(true,bs)]) w4:=by
    refine ⟨F',h4,(Only.of_below F h13).trans h5 (Grows.refl _ _),fun k hk=>?_⟩
    rcases h6 k hk with h | h | h | h
    · exact .inl h
    · right;have:=h13.size;omega
    · right;have:=h2.size;omega
    · right;have:=(ho.lt k h).1;omega
  have HP:=Lib.hid hop;clear hop;go_wp2_with fail;go_ret;exact ⟨rfl,HP.out⟩
theorem swap_full (A : Option Addr) (n c : Nat) (F : Nat→Prop) (g size : Nat) (lasts : List UInt8) (ws : List W) (w : World) (hD : DiskAt w F g size lasts ws) (hn : ¬ n≤size) :
    Calls Tryz.prog 90 #[.pointer (some ⟨g,0,none⟩),.slice A n c] w fun e w'=>e = .returned (.int .i64 7)∧w = w':=by
  have c0:=hD.blk0.1;have hd : decide (size < n) = true:=decide_eq_true (by omega)
  go_enter Tryz.func90,Tryz.ntmps90
  go_wp2_with fail;go_ret;exact ⟨rfl,rfl⟩
theorem DiskE.crash {w w3 : World} {F : Nat→Prop} {g size : Nat} {lasts : List UInt8} {es : List (W × Nat)} {AL AW : Option Addr} {cL cW : Nat} (hE : DiskE w F g size lasts es AL cL AW cW) {A : Option Addr} {c : Nat} {bs : List UInt8}
    (hsz : w.heap.size≤w3.heap.size) (hblk : Blk w3 g 75 #[.int .i64 (size : Nat),.slice A bs.length c,.slice none 0 0]) (ho : OwnB w3 w.heap.size A bs.length c bs) :
    DiskE w3 (fun k=>F k∨(w.heap.size≤k∧A.map (·.block) = some k)) g size bs [] A c none 0 :=
  ⟨.inl hE.mine,hblk,⟨⟨rfl,ownsRow_base ho.2 (Nat.zero_le _)⟩,fun k hk=>.inr ⟨(ho.lt k hk).1,hk⟩⟩,World.ownsRow_nil _ _ _ _,(fun k hk=>by cases hk),fun e he=>absurd he (by simp),fun k hk=>Or.elim hk (fun h=>Nat.lt_of_lt_of_le (hE.lt k h) hsz) (fun h=>(ho.lt k h.2).2)⟩
set_option maxRecDepth 100000 in
theorem crash_nat (m : Nat) (F : Nat→Prop) (g size : Nat) (lasts : List UInt8) (ws : List W) (w : World) (hD : DiskAt w F g size lasts ws) (hm : lasts.length + mass ws≤1099511627776) (hl : ws.length≤1099511627776) (hm2 : m≤9223372036854775807) :
    Calls Tryz.prog 24 #[.pointer (some ⟨g,0,none⟩),.int .i64 m] w fun e w'=>e = .returned (.tuple #[])∧DiskOp w F g size (afterL lasts ws m) [] w':=by
  have hD0:=hD;obtain ⟨es,AL,cL,AW,cW,he,hE⟩:=hD0;have HE:=Lib.hid he;clear he
  go_enter Tryz.func24,Tryz.ntmps24
  go_wp2_with fail;refine (after_any m F g size lasts ws w hD hm2 hm hl).mono ?_;rintro e w1 ⟨A1,n1,c1,rfl,ho,h1⟩;have hn1:=ho.1;subst hn1;have hb1:=hE.blk.below h1 hE.blk.lt;have q1:=hb1.cell 1;have q1':=hb1.free 1;have hb2:=hb1.set_ 1 (.slice A1 (afterL lasts ws m).length c1);have q2:=hb2.cell 2;have q2':=hb2.free 2;have hb3:=hb2.set_ 2 (.slice none 0 0);have hon : Only F w ((w1.setCell ⟨g,1,none⟩ (.slice A1 (afterL lasts ws m).length c1)).setCell ⟨g,2,none⟩ (.slice none 0 0)):=((Only.of_below F h1).setCell (.inl hE.mine) _).setCell (.inl hE.mine) _
  have hgA : A1.map (·.block) ≠ some g:=fun e=>by have:=(ho.lt g e).1;have:=hE.blk.lt;omega
  have ho3:=(ho.setFar (p:=⟨g,1,none⟩) hgA (.slice A1 (afterL lasts ws m).length c1)).setFar (p:=⟨g,2,none⟩) hgA (.slice none 0 0);have hEc:=hE.crash (by have:=h1.size;simp [World.setCell];omega) hb3 ho3;have HP:=Lib.hid (show DiskOp w F g size (afterL lasts ws m) [] _ from ⟨_,⟨[],_,_,_,_,rfl,hEc⟩,hon,fun k hk=>by rcases hk with h | ⟨h,_⟩;exact .inl h;exact .inr h⟩);clear hEc hon ho3 hb3 hb2 hb1;go_wp2_with fail
  go_end0
  exact ⟨rfl,HP.out⟩
set_option maxRecDepth 100000 in
theorem crash_neg (keep : Int) (F : Nat→Prop) (g size : Nat) (lasts : List UInt8) (ws : List W) (w : World) (hD : DiskAt w F g size lasts ws) (hm : lasts.length + mass ws≤1099511627776) (hl : ws.length≤1099511627776) (hm2 : keep < 0) :
    Calls Tryz.prog 24 #[.pointer (some ⟨g,0,none⟩),.int .i64 keep] w fun e w'=>e = .returned (.tuple #[])∧DiskOp w F g size (afterL lasts ws 0) [] w':=by
  have hD0:=hD;obtain ⟨es,AL,cL,AW,cW,he,hE⟩:=hD0;have HE:=Lib.hid he;clear he
  go_enter Tryz.func24,Tryz.ntmps24
  go_wp2_with fail;refine (after_any 0 F g size lasts ws w hD (by omega) hm hl).mono ?_;rintro e w1 ⟨A1,n1,c1,rfl,ho,h1⟩;have hn1:=ho.1;subst hn1;have hb1:=hE.blk.below h1 hE.blk.lt;have q1:=hb1.cell 1;have q1':=hb1.free 1;have hb2:=hb1.set_ 1 (.slice A1 (afterL lasts ws 0).length c1);have q2:=hb2.cell 2;have q2':=hb2.free 2;have hb3:=hb2.set_ 2 (.slice none 0 0);have hon : Only F w ((w1.setCell ⟨g,1,none⟩ (.slice A1 (afterL lasts ws 0).length c1)).setCell ⟨g,2,none⟩ (.slice none 0 0)):=((Only.of_below F h1).setCell (.inl hE.mine) _).setCell (.inl hE.mine) _
  have hgA : A1.map (·.block) ≠ some g:=fun e=>by have:=(ho.lt g e).1;have:=hE.blk.lt;omega
  have ho3:=(ho.setFar (p:=⟨g,1,none⟩) hgA (.slice A1 (afterL lasts ws 0).length c1)).setFar (p:=⟨g,2,none⟩) hgA (.slice none 0 0);have hEc:=hE.crash (by have:=h1.size;simp [World.setCell];omega) hb3 ho3;have HP:=Lib.hid (show DiskOp w F g size (afterL lasts ws 0) [] _ from ⟨_,⟨[],_,_,_,_,rfl,hEc⟩,hon,fun k hk=>by rcases hk with h | ⟨h,_⟩;exact .inl h;exact .inr h⟩);clear hEc hon ho3 hb3 hb2 hb1;go_wp2_with fail
  go_end0
  exact ⟨rfl,HP.out⟩
theorem sync_any (F : Nat→Prop) (g size : Nat) (lasts : List UInt8) (ws : List W) (w : World) (hD : DiskAt w F g size lasts ws) (hm : lasts.length + mass ws≤1099511627776) (hl : ws.length≤1099511627776) :
    Calls Tryz.prog 91 #[.pointer (some ⟨g,0,none⟩)] w (DiskEnd w F g size (readL lasts ws) [] 0):=by
  have hwl:=pend_le ws
  go_enter Tryz.func91,Tryz.ntmps91
  go_wp2_with fail;refine (waiting_any F g size lasts ws w hD (by omega) hl).mono ?_;rintro e w1 ⟨rfl,h1⟩;go_wp2_with fail;refine (crash_nat _ F g size lasts ws w1 (hD.below h1) hm hl (by omega)).mono ?_;rintro e w2 ⟨rfl,h2⟩;have HP:=Lib.hid (h2.of_below h1);clear h2;go_wp2_with fail;go_ret;exact ⟨rfl,HP.out⟩
def DiskNew (w : World) (size : Nat) (e : Ending) (w' : World) : Prop:=∃ g F,e = .returned (.tuple #[.pointer (some ⟨g,0,none⟩),.int .i64 0])∧DiskAt w' F g size [] []∧(∀ k,F k→w.heap.size≤k)∧Below w.heap.size w w'
theorem dnew_any (size : Nat) (w : World) (h1 : 1≤size) (h2 : size≤16384) :
    Calls Tryz.prog 8 #[.int .i64 size] w (DiskNew w size):=by
  have d1 : decide ((size : Int) < 1) = false:=decide_eq_false (by omega);have d2 : decide ((16384 : Int) < (size : Int)) = false:=decide_eq_false (by omega)
  go_enter Tryz.func8,Tryz.ntmps8
  go_wp2_with fail;go_ret2;refine ⟨w.heap.size,fun k=>k = w.heap.size,rfl,⟨[],none,0,none,0,rfl,⟨rfl,Blk.new w _ _,⟨OwnB.nil _ _,(fun k hk=>by cases hk)⟩,World.ownsRow_nil _ _ _ _,(fun k hk=>by cases hk),fun e he=>absurd he (by simp),fun k hk=>by subst hk;simp⟩⟩,fun k hk=>by omega,(Below.refl _ _).alloc (Nat.le_refl _) _⟩
theorem dnew_bad (size : Int) (w : World) (h : size < 1∨16384 < size) :
    Calls Tryz.prog 8 #[.int .i64 size] w fun e w'=>e = .returned (.tuple #[.pointer none,.int .i64 2])∧w = w':=by
  rcases h with h | h
  · have d1 : decide (size < 1) = true:=decide_eq_true (by omega)
    go_enter Tryz.func8,Tryz.ntmps8
    go_wp2_with fail;go_ret2;exact ⟨rfl,rfl⟩
  · have d1 : decide (size < 1) = false:=decide_eq_false (by omega)
    have d2 : decide ((16384 : Int) < size) = true:=decide_eq_true (by omega)
    go_enter Tryz.func8,Tryz.ntmps8
    go_wp2_with fail;go_ret2;exact ⟨rfl,rfl⟩
end Go.Proofs.YtfpenfgmpbdakaaGreat

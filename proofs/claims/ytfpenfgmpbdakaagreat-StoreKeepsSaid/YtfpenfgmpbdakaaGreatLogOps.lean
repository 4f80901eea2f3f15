import Derived.Test.YtfpenfgmpbdakaaGreatLogMust
namespace Go.Proofs.YtfpenfgmpbdakaaGreat
set_option linter.unusedVariables false
set_option linter.unusedSimpArgs false
set_option maxRecDepth 100000
open Go.RowKit
open Disk
namespace Log
open _root_.Go.Proofs.YtfpenfgmpbdakaaGreat.Frame (frm frms frms_nil frms_cons frms_snoc frms_append frm_length frm_pos Parts AllF)
theorem Bods.only {w w' : World} {F : Nat→Prop} {base n c : Nat} {A : Option Addr} {ls : List (List UInt8)} (h : Bods w base A n c ls) (ho : Only F w w') (hF : ∀ k,F k→k < base) : Bods w' base A n c ls:=by
  have hfr:=fun k=>h.from (k:=k)
  obtain ⟨es,h1,h2,h3,h4⟩:=h;exact ⟨es,h1,h2,ownsRow_keep h3 fun k hk=>ho.block k (ownsRow_lt h3 hk) fun hf=>by have:=hF k hf;have:=hfr k hk;omega,fun j e x q1 q2=>(h4 j e x q1 q2).only ho hF⟩
abbrev Res:=Nat × List UInt8 × List W
def writeM (size : Nat) (b : List UInt8) (ws : List W) (x : List UInt8) : Res :=
  if 4096 < x.length then (6,b,ws) else if (readL b ws).length + (frm x).length≤size then (0,readL b ws ++ frm x,[]) else (7,b,ws)
def rewriteM (size : Nat) (b : List UInt8) (ws : List W) (ls : List (List UInt8)) : Res :=
  if ls.all (·.length≤4096) then (if (frms ls).length≤size then (0,frms ls,[]) else (7,b,ws)) else (6,b,ws)
def LogEnd (w : World) (F : Nat→Prop) (g size : Nat) (r : Res) (e : Ending) (w' : World) : Prop:=e = .returned (.int .i64 (r.1 : Nat))∧DiskOp w F g size r.2.1 r.2.2 w'
def ReadL (w : World) (b : List UInt8) (e : Ending) (w' : World) : Prop :=
  ∃ l r A c,Parts b l r∧e = .returned (.tuple #[.slice A l.length c,.bool (decide ((frms l).length < b.length))])∧Bods w' w.heap.size A l.length c l∧Below w.heap.size w w'
theorem lread_any (F : Nat→Prop) (g size : Nat) (lasts : List UInt8) (ws : List W) (w : World) (hD : DiskAt w F g size lasts ws) (hm : lasts.length + mass ws≤500000000000) (hl : ws.length≤500000000000) :
    Calls Tryz.prog 40 #[.pointer (some ⟨g,0,none⟩)] w (ReadL w (readL lasts ws)):=by
  have hrl : (readL lasts ws).length≤500000000000:=Nat.le_trans (after_len _ _ _) hm
  go_enter Tryz.func40,Tryz.ntmps40
  go_wp2_with fail;refine (read_any F g size lasts ws w hD (by omega) (by omega)).mono ?_;rintro e w1 ⟨A,n,c,rfl,o1,h1⟩;have hn:=o1.1;have hle:=ownsRow_le o1.2;have hrd:=o1.rd;obtain ⟨b,hb⟩ : ∃ b,b = readL lasts ws:=⟨_,rfl⟩;rw [← hb] at hn hrl hrd;have HBQ:=Lib.hid hb;clear hb o1
  have hall : Calls Tryz.prog 68 #[.slice A n c] w1 (AllF w1 b):=by
    cases A with
    | none =>
      have hb0 : b = []:=by
        rcases b with _ | ⟨x,r⟩
        · rfl
        · obtain ⟨_,h,_⟩:=hrd.2 0 _ rfl
          cases h
      subst hb0;obtain rfl : n = 0:=hn;exact all_nil c w1 hle.2
    | some a=>exact Frame.all_any a n c b _ w1 hrd (Nat.le_refl _) (by omega) hle.1 hle.2
  have HC:=Lib.hid hall;have HN:=Lib.hid hn;clear hall hn;go_wp2_with fail;refine HC.out.mono ?_;rintro e w2 ⟨l,r,A2,c2,hp,rfl,hbo,h2⟩;obtain ⟨M,hM⟩ : ∃ M,M = (frms l).length:=⟨_,rfl⟩;rw [← hM];have HM:=Lib.hid hM;have HP:=Lib.hid hp;clear hM hp;go_wp2_with fail;go_ret2;rw [← HBQ.out];refine ⟨l,r,A2,c2,HP.out,?_,hbo.mono h1.size,h1.trans (h2.mono h1.size)⟩;rw [← HM.out,← HN.out]
  first | rfl | (simp;done)
set_option maxRecDepth 100000 in
set_option maxHeartbeats 400000 in
theorem lwrite_any (A : Option Addr) (n c B : Nat) (bs : List UInt8) (F : Nat→Prop) (g size : Nat) (lasts : List UInt8) (ws : List W) (w : World) (hD : DiskAt w F g size lasts ws) (hm : lasts.length + mass ws≤500000000000) (hl : ws.length≤500000000000) (hs : size≤16384)
    (hb : RdB w B A n bs) (hB : B≤w.heap.size) (hc : n≤c) (hcm : c≤maxLen) :
    Calls Tryz.prog 76 #[.pointer (some ⟨g,0,none⟩),.slice A n c] w (LogEnd w F g size (writeM size lasts ws bs)):=by
  have k0:=Blk.new w 27 #[.int .i64 0];have hbw : Below w.heap.size w (w.alloc (.cells #[.int .i64 0] 27)):=(Below.refl _ _).alloc (Nat.le_refl _) _
  have hsz : w.heap.size < (w.alloc (.cells #[.int .i64 0] 27)).heap.size:=by simp
  have hD0:=hD.below hbw;have hb0:=(hb.more hB).below hbw;have hF:=hD.lt
  go_enter_defers Tryz.func76,Tryz.ntmps76
  go_wp2_with fail;refine (there_ok _ _).mono ?_;rintro e w1 ⟨rfl,rfl⟩
  generalize w.alloc (.cells #[.int .i64 0] 27) = w0 at *
  go_wp2_with fail;refine (framed_any _ 1 _ [bs] _ _ ⟨[(A,n,c)],rfl,rfl,Rd.made _ _ _ _,?hx1⟩ (by simp) (by omega)).mono ?_
  case hx1 =>
    intro j e x h1 h2
    have hj : j = 0:=by
      rcases Nat.eq_zero_or_pos j with h | h
      · exact h
      · rw [List.getElem?_eq_none (by simp;omega)] at h1
        cases h1
    subst hj
    simp at h1 h2
    subst h1 h2;exact ⟨(hb0.alloc hbw.size _).more (by have:=hbw.size;simp;omega),hc,hcm⟩
  rintro e w1 ⟨h1,he⟩;have h01 : Below w0.heap.size w0 w1:=((Below.refl _ _).alloc (Nat.le_refl _) _).trans (h1.mono (by simp));have k1:=k0.below h01 k0.lt;have hD1:=hD0.below h01
  by_cases h4 : bs.length≤4096
  · rw [if_pos (by simpa using h4)] at he
    obtain ⟨A1,n1,c1,rfl,o1⟩:=he;rw [Frame.frms_cons,Frame.frms_nil,List.append_nil] at o1;obtain rfl:=o1.1
    by_cases hroom : (readL lasts ws).length + (frm bs).length≤size
    · have hw : writeM size lasts ws bs = (0,readL lasts ws ++ frm bs,[]):=by
        unfold writeM
        rw [if_neg (by omega),if_pos hroom]
      have HW:=Lib.hid hw;clear hw
      have hfm : mass (ws ++ [(false,frm bs)])≤mass ws + 16384:=by rw [mass_append];simp [mass];omega
      go_wp2_with fail;refine (append_any _ _ _ _ (frm bs) F g size lasts ws _ hD1 (by omega) (by omega) (by omega) o1.rd (by omega)).mono ?_;rintro e w2 ⟨rfl,d2⟩;have k2:=d2.kept k1 (fun hf=>by have:=hF _ hf;omega);go_wp2_with fail;refine (must_ok _).mono ?_;rintro e w3 ⟨rfl,rfl⟩;obtain ⟨F2,hD2,q2,q3⟩:=d2;go_wp2_with fail;refine (sync_any F2 g size _ _ _ hD2 (by omega) (by simp;omega)).mono ?_;rintro e w3 ⟨rfl,d3⟩;rw [read_app] at d3
      have k3:=d3.kept k2 (fun hf=>by
        rcases q3 _ hf with h | h
        · have:=hF _ h;omega
        · have:=h01.size;omega)
      have d4:=DiskOp.of_below h01 (DiskOp.of q2 q3 d3);have d5:=d4.cell hF hbw hsz 0 (.int .i64 0);have f3:=k3.free 0;have c3:=k3.cell 0;have k4:=k3.set_ 0 (.int .i64 0);have c4 : World.cell? _ _ = some (.int .i64 0):=k4.cell 0;have HD:=Lib.hid d5;clear d5 d4 d3;go_wp2_with fail;refine leaves_cons (f:=64) (args:=#[.pointer (some ⟨w.heap.size,0,none⟩)]) (by simp) (by simp [go_sem]) ?_;refine (caught_none _ _).mono ?_;rintro e u' w'' ⟨rfl,rfl,rfl⟩;refine ⟨.int .i64 0,by simp [results,Tryz.results76,go_sem,c4],?_⟩;rw [HW.out];exact ⟨rfl,HD.out⟩
    · have hw : writeM size lasts ws bs = (7,lasts,ws):=by
        unfold writeM
        rw [if_neg (by omega),if_neg hroom]
      have HW:=Lib.hid hw;clear hw;go_wp2_with fail;refine (append_full _ _ _ F g size lasts ws _ hD1 (by omega) (by omega) (by omega) (by omega)).mono ?_;rintro e w2 ⟨rfl,h2⟩;have k2:=k1.below h2 k1.lt;have h02:=h01.trans (h2.mono h01.size);go_wp2_with fail;refine (must_no 7 (by omega) _).mono ?_;rintro e w3 ⟨rfl,rfl⟩;go_wp2_with fail;refine leaves_cons (f:=64) (args:=#[.pointer (some ⟨w.heap.size,0,none⟩)]) (by simp) (by simp [go_sem]) ?_;refine (caught_panic _ _ _ _ _ (k2.cell 0) (k2.free 0)).mono ?_;rintro e u' w'' ⟨rfl,rfl,rfl⟩;have k3:=(k2.alloc (.cells #[.int .i64 7] 136)).set_ 0 (.int .i64 7);have c3 : World.cell? _ _ = some (.int .i64 7):=k3.cell 0;have d4:=((DiskOp.refl hD0 h02).alloc (.cells #[.int .i64 7] 136)).cell hF hbw hsz 0 (.int .i64 7);refine ⟨.int .i64 7,by simp [results,Tryz.results76,go_sem,c3],?_⟩;rw [HW.out];exact ⟨rfl,d4⟩
  · have hw : writeM size lasts ws bs = (6,lasts,ws):=by
      unfold writeM
      rw [if_pos (by omega)]
    have HW:=Lib.hid hw;clear hw;rw [if_neg (by simpa using h4)] at he;subst he;go_wp2_with fail;refine leaves_cons (f:=64) (args:=#[.pointer (some ⟨w.heap.size,0,none⟩)]) (by simp) (by simp [go_sem]) ?_;refine (caught_panic _ _ _ _ _ (k1.cell 0) (k1.free 0)).mono ?_;rintro e u' w'' ⟨rfl,rfl,rfl⟩;have k3:=(k1.alloc (.cells #[.int .i64 6] 136)).set_ 0 (.int .i64 6);have c3 : World.cell? _ _ = some (.int .i64 6):=k3.cell 0;have d4:=((DiskOp.refl hD0 h01).alloc (.cells #[.int .i64 6] 136)).cell hF hbw hsz 0 (.int .i64 6);refine ⟨.int .i64 6,by simp [results,Tryz.results76,go_sem,c3],?_⟩;rw [HW.out];exact ⟨rfl,d4⟩
set_option maxRecDepth 100000 in
set_option maxHeartbeats 400000 in
theorem lrewrite_any (A : Option Addr) (n c B : Nat) (ls : List (List UInt8)) (F : Nat→Prop) (g size : Nat) (lasts : List UInt8) (ws : List W) (w : World) (hD : DiskAt w F g size lasts ws) (hm : lasts.length + mass ws≤500000000000) (hl : ws.length≤500000000000) (hs : size≤16384)
    (hb : RdS w B A n ls) (hB : B≤w.heap.size) (hn : n≤1000000) :
    Calls Tryz.prog 57 #[.pointer (some ⟨g,0,none⟩),.slice A n c] w (LogEnd w F g size (rewriteM size lasts ws ls)):=by
  have k0:=Blk.new w 27 #[.int .i64 0];have hbw : Below w.heap.size w (w.alloc (.cells #[.int .i64 0] 27)):=(Below.refl _ _).alloc (Nat.le_refl _) _
  have hsz : w.heap.size < (w.alloc (.cells #[.int .i64 0] 27)).heap.size:=by simp
  have hD0:=hD.below hbw;have hb0:=(hb.more hB).below hbw;have hF:=hD.lt
  go_enter_defers Tryz.func57,Tryz.ntmps57
  go_wp2_with fail;refine (there_ok _ _).mono ?_;rintro e w1 ⟨rfl,rfl⟩
  generalize w.alloc (.cells #[.int .i64 0] 27) = w0 at *
  go_wp2_with fail;refine (framed_any _ _ _ ls _ _ hb0 (by omega) hn).mono ?_;rintro e w1 ⟨h01,he⟩;have k1:=k0.below h01 k0.lt;have hD1:=hD0.below h01
  by_cases h4 : ls.all (·.length≤4096) = true
  · rw [if_pos h4] at he
    obtain ⟨A1,n1,c1,rfl,o1⟩:=he;obtain rfl:=o1.1
    by_cases hroom : (frms ls).length≤size
    · have hw : rewriteM size lasts ws ls = (0,frms ls,[]):=by
        unfold rewriteM
        rw [if_pos h4,if_pos hroom]
      have HW:=Lib.hid hw;clear hw h4;go_wp2_with fail;refine (lswap_any _ _ _ _ (frms ls) F g size lasts ws _ hD1 hm hl hs o1.rd hroom).mono ?_;rintro e w2 ⟨rfl,d3⟩;have k3:=d3.kept k1 (fun hf=>by have:=hF _ hf;omega);have d4:=DiskOp.of_below h01 d3;have d5:=d4.cell hF hbw hsz 0 (.int .i64 0);have f3:=k3.free 0;have c3:=k3.cell 0;have k4:=k3.set_ 0 (.int .i64 0);have c4 : World.cell? _ _ = some (.int .i64 0):=k4.cell 0;have HD:=Lib.hid d5;clear d5 d4 d3;go_wp2_with fail;refine leaves_cons (f:=64) (args:=#[.pointer (some ⟨w.heap.size,0,none⟩)]) (by simp) (by simp [go_sem]) ?_;refine (caught_none _ _).mono ?_;rintro e u' w'' ⟨rfl,rfl,rfl⟩;refine ⟨.int .i64 0,by simp [results,Tryz.results57,go_sem,c4],?_⟩;rw [HW.out];exact ⟨rfl,HD.out⟩
    · have hw : rewriteM size lasts ws ls = (7,lasts,ws):=by
        unfold rewriteM
        rw [if_pos h4,if_neg hroom]
      have HW:=Lib.hid hw;clear hw h4;go_wp2_with fail;refine (lswap_full _ _ _ F g size lasts ws _ hD1 hroom).mono ?_;rintro e w2 ⟨rfl,rfl⟩;go_wp2_with fail;refine leaves_cons (f:=64) (args:=#[.pointer (some ⟨w.heap.size,0,none⟩)]) (by simp) (by simp [go_sem]) ?_;refine (caught_panic _ _ _ _ _ (k1.cell 0) (k1.free 0)).mono ?_;rintro e u' w'' ⟨rfl,rfl,rfl⟩;have k3:=(k1.alloc (.cells #[.int .i64 7] 136)).set_ 0 (.int .i64 7);have c3 : World.cell? _ _ = some (.int .i64 7):=k3.cell 0;have d4:=((DiskOp.refl hD0 h01).alloc (.cells #[.int .i64 7] 136)).cell hF hbw hsz 0 (.int .i64 7);refine ⟨.int .i64 7,by simp [results,Tryz.results57,go_sem,c3],?_⟩;rw [HW.out];exact ⟨rfl,d4⟩
  · have hw : rewriteM size lasts ws ls = (6,lasts,ws):=by
      unfold rewriteM
      rw [if_neg h4]
    have HW:=Lib.hid hw;rw [if_neg h4] at he;clear hw h4;subst he;go_wp2_with fail;refine leaves_cons (f:=64) (args:=#[.pointer (some ⟨w.heap.size,0,none⟩)]) (by simp) (by simp [go_sem]) ?_;refine (caught_panic _ _ _ _ _ (k1.cell 0) (k1.free 0)).mono ?_;rintro e u' w'' ⟨rfl,rfl,rfl⟩;have k3:=(k1.alloc (.cells #[.int .i64 6] 136)).set_ 0 (.int .i64 6);have c3 : World.cell? _ _ = some (.int .i64 6):=k3.cell 0;have d4:=((DiskOp.refl hD0 h01).alloc (.cells #[.int .i64 6] 136)).cell hF hbw hsz 0 (.int .i64 6);refine ⟨.int .i64 6,by simp [results,Tryz.results57,go_sem,c3],?_⟩;rw [HW.out];exact ⟨rfl,d4⟩
def mendM (b : List UInt8) (ws : List W) (l : List (List UInt8)) : Res:=if (frms l).length < (readL b ws).length then (0,frms l,[]) else (0,b,ws)
def MendEnd (w : World) (F : Nat→Prop) (g size : Nat) (b : List UInt8) (ws : List W) (e : Ending) (w' : World) : Prop :=
  ∃ l r,Parts (readL b ws) l r∧LogEnd w F g size (mendM b ws l) e w'
set_option maxRecDepth 100000 in
set_option maxHeartbeats 400000 in
theorem lmend_any (F : Nat→Prop) (g size : Nat) (lasts : List UInt8) (ws : List W) (w : World) (hD : DiskAt w F g size lasts ws) (hm : lasts.length + mass ws≤500000000000) (hl : ws.length≤500000000000) (hs : size≤16384) (hfit : (readL lasts ws).length≤size) :
    Calls Tryz.prog 39 #[.pointer (some ⟨g,0,none⟩)] w (MendEnd w F g size lasts ws):=by
  have k0:=Blk.new w 27 #[.int .i64 0];have hbw : Below w.heap.size w (w.alloc (.cells #[.int .i64 0] 27)):=(Below.refl _ _).alloc (Nat.le_refl _) _
  have hsz : w.heap.size < (w.alloc (.cells #[.int .i64 0] 27)).heap.size:=by simp
  have hD0:=hD.below hbw;have hF:=hD.lt
  go_enter_defers Tryz.func39,Tryz.ntmps39
  go_wp2_with fail;refine (there_ok _ _).mono ?_;rintro e w1 ⟨rfl,rfl⟩
  generalize w.alloc (.cells #[.int .i64 0] 27) = w0 at *
  go_wp2_with fail;refine (lread_any F g size lasts ws _ hD0 hm hl).mono ?_;rintro e w1 ⟨l,r,A,c,hp,rfl,hbo,h01⟩;have k1:=k0.below h01 k0.lt;have hD1:=hD0.below h01
  have hlen : (frms l).length≤(readL lasts ws).length:=by rw [hp.1,List.length_append];omega
  have hll : l.length≤(frms l).length:=by
    have hx:=hp.2.1;clear hp hbo hlen
    induction l with
    | nil=>simp
    | cons x l ih=>rw [frms_cons,List.length_append,List.length_cons];have:=frm_pos x;have:=ih (fun y hy=>hx y (by simp [hy]));omega
  have hal : l.all (·.length≤4096) = true:=by
    rw [List.all_eq_true];intro x hx
    simpa using hp.2.1 x hx
  have HP:=Lib.hid hp;have HA:=Lib.hid hal;clear hp hal
  by_cases htorn : (frms l).length < (readL lasts ws).length
  · have hw : mendM lasts ws l = (0,frms l,[]):=by unfold mendM;rw [if_pos htorn]
    have HW:=Lib.hid hw;have hdt : decide ((frms l).length < (readL lasts ws).length) = true:=decide_eq_true htorn;clear hw;go_wp2_with fail;refine (framed_any _ _ _ l _ _ hbo.rd (Nat.le_refl _) (by omega)).mono ?_;rintro e w2 ⟨h12,he⟩;rw [if_pos HA.out] at he;obtain ⟨A1,n1,c1,rfl,o1⟩:=he;obtain rfl:=o1.1;have k2:=k1.below h12 k1.lt;have hD2:=hD1.below h12;have h02:=h01.trans (h12.mono h01.size);go_wp2_with fail;refine (lswap_any _ _ _ _ (frms l) F g size lasts ws _ hD2 hm hl hs o1.rd (by omega)).mono ?_;rintro e w3 ⟨rfl,d3⟩;have k3:=d3.kept k2 (fun hf=>by have:=hF _ hf;omega);have d4:=DiskOp.of_below h02 d3;have d5:=d4.cell hF hbw hsz 0 (.int .i64 0);have f3:=k3.free 0;have c3:=k3.cell 0;have k4:=k3.set_ 0 (.int .i64 0);have c4 : World.cell? _ _ = some (.int .i64 0):=k4.cell 0;have HD:=Lib.hid d5;clear d5 d4 d3;go_wp2_with fail;refine leaves_cons (f:=64) (args:=#[.pointer (some ⟨w.heap.size,0,none⟩)]) (by simp) (by simp [go_sem]) ?_;refine (caught_none _ _).mono ?_;rintro e u' w'' ⟨rfl,rfl,rfl⟩;refine ⟨.int .i64 0,by simp [results,Tryz.results39,go_sem,c4],l,r,HP.out,?_⟩;rw [HW.out];exact ⟨rfl,HD.out⟩
  · have hw : mendM lasts ws l = (0,lasts,ws):=by unfold mendM;rw [if_neg htorn]
    have HW:=Lib.hid hw;have hdt : decide ((frms l).length < (readL lasts ws).length) = false:=decide_eq_false htorn;clear hw;have d5:=(DiskOp.refl hD0 h01).cell hF hbw hsz 0 (.int .i64 0);have f3:=k1.free 0;have c3:=k1.cell 0;have k4:=k1.set_ 0 (.int .i64 0);have c4 : World.cell? _ _ = some (.int .i64 0):=k4.cell 0;have HD:=Lib.hid d5;clear d5;go_wp2_with fail;refine leaves_cons (f:=64) (args:=#[.pointer (some ⟨w.heap.size,0,none⟩)]) (by simp) (by simp [go_sem]) ?_;refine (caught_none _ _).mono ?_;rintro e u' w'' ⟨rfl,rfl,rfl⟩;refine ⟨.int .i64 0,by simp [results,Tryz.results39,go_sem,c4],l,r,HP.out,?_⟩;rw [HW.out];exact ⟨rfl,HD.out⟩
end Log
end Go.Proofs.YtfpenfgmpbdakaaGreat

import Derived.Test.YtfpenfgmpbdakaaGreatFrameAll
import Derived.Test.YtfpenfgmpbdakaaGreatSls
import Derived.Test.YtfpenfgmpbdakaaGreatDiskWords
namespace Go.Proofs.YtfpenfgmpbdakaaGreat
set_option linter.unusedVariables false
set_option linter.unusedSimpArgs false
set_option maxRecDepth 100000
open Go.RowKit
open Disk
namespace Log
open _root_.Go.Proofs.YtfpenfgmpbdakaaGreat.Frame (frm frms frms_nil frms_cons frms_snoc frms_append frm_length frm_pos frame15)
abbrev flt (x : Int) : Value:=.iface 136 (.agg #[.int .i64 x])
theorem must_ok (w : World) :
    Calls Tryz.prog 89 #[.int .i64 0] w fun e w'=>e = .returned (.tuple #[])∧w = w':=by
  go_enter Tryz.func89,Tryz.ntmps89
  go_wp2_with fail
  go_end0
  exact ⟨rfl,rfl⟩
theorem must_no (x : Nat) (hx : x ≠ 0) (w : World) :
    Calls Tryz.prog 89 #[.int .i64 x] w fun e w'=>e = .panicked [{ v:=flt x,recovered:=false }]∧w = w':=by
  have hq : ((x : Int) != 0) = true:=by rw [bne_iff_ne];omega
  go_enter Tryz.func89,Tryz.ntmps89
  go_wp2_with fail;exact ⟨rfl,rfl,rfl⟩
theorem there_ok (g : Nat) (w : World) :
    Calls Tryz.prog 65 #[.pointer (some ⟨g,0,none⟩)] w fun e w'=>e = .returned (.tuple #[])∧w = w':=by
  go_enter Tryz.func65,Tryz.ntmps65
  go_wp2_with fail
  go_end0
  exact ⟨rfl,rfl⟩
theorem assert_flt (x : Int) (w : World) : (Instr.typeAssert (flt x) 20 136 true).run Tryz.prog w = .ok (.tuple #[.agg #[.int .i64 x],.bool true]) w:=by kernel_rfl
theorem caught_panic (g : Nat) (x : Int) (older : List PanicEntry) (v : Value) (w : World) (h0 : w.cell? ⟨g,0,none⟩ = some v) (hf : w.frozen? ⟨g,0,none⟩ = false) :
    CallsD Tryz.prog 64 #[.pointer (some ⟨g,0,none⟩)] (.panicking ({ v:=flt x,recovered:=false } :: older)) w fun e u' w' =>
      e = .returned (.tuple #[])∧u' = .panicking ({ v:=flt x,recovered:=true } :: older)∧w' = (w.alloc (.cells #[.int .i64 x] 136)).setCell ⟨g,0,none⟩ (.int .i64 x):=by
  have ta:=assert_flt x;have lt0:=World.block_lt_of_cell? w _ h0
  refine callsD_of_wpS Tryz.func64 rfl fun c₀ cs hu=>?_
  apply wpS_seq
  apply wpS_region
  simp [wpOpsS,go_sem,recoverD,hu,Tryz.ntmps64,Exit.thenS]
  refine wpS_of_wp ?_;rw [frame15];go_wp2_with fail
  simp [bodyPostS,results,Tryz.results64]
theorem caught_none (g : Nat) (w : World) :
    CallsD Tryz.prog 64 #[.pointer (some ⟨g,0,none⟩)] .returning w fun e u' w'=>e = .returned (.tuple #[])∧u' = .returning∧w' = w:=by
  refine callsD_of_wpS Tryz.func64 rfl fun c₀ cs hu=>?_
  apply wpS_seq
  apply wpS_region
  simp [wpOpsS,go_sem,recoverD,hu,Tryz.ntmps64,Exit.thenS]
  refine wpS_of_wp ?_;rw [frame15];go_wp2_with fail
  cases c₀
  simp_all [bodyPostS,results,Tryz.results64]
def FramedF (w : World) (ls : List (List UInt8)) (e : Ending) (w' : World) : Prop :=
  Below w.heap.size w w'∧if ls.all (·.length≤4096) then ∃ A n c,e = .returned (.slice A n c)∧OwnB w' w.heap.size A n c (frms ls) else e = .panicked [{ v:=flt 6,recovered:=false }]
theorem frms_bound (ls : List (List UInt8)) (h : ∀ x ∈ ls,x.length≤4096) : (frms ls).length≤4107 * ls.length:=by
  induction ls with
  | nil=>simp [frms]
  | cons x l ih =>
    rw [frms_cons,List.length_append,frm_length,List.length_cons];have h1:=h x (by simp);have h2:=ih (fun y hy=>h y (by simp [hy]));have h3:=Vint.enc_length x.length
    omega
set_option maxRecDepth 100000 in
theorem framed_any (A : Option Addr) (n c : Nat) (ls : List (List UInt8)) (B : Nat) (w : World) (hb : RdS w B A n ls) (hB : B≤w.heap.size) (hl : n≤1000000) :
    Calls Tryz.prog 67 #[.slice A n c] w (FramedF w ls):=by
  obtain rfl:=hb.len
  go_enter Tryz.func67,Tryz.ntmps67
  go_wp2_with fail
  go_loopw [2,9] (fun v i wr=>∃ (k : Nat) (A' : Option Addr) (n' c' : Nat),k≤ls.length∧i = .int .i64 k∧v = .slice A' n' c'∧OwnB wr w.heap.size A' n' c' (frms (ls.take k))∧(∀ x ∈ ls.take k,x.length≤4096)∧Below w.heap.size w wr) (fun _ i _=>ls.length - (intOf i).toNat)
  case atStart=>exact ⟨0,none,0,0,by omega,rfl,rfl,OwnB.nil _ _,by simp,Below.refl _ _⟩
  case round =>
    obtain ⟨k,A',n',c',hk,rfl,rfl,ho,hsm,hbel⟩:=hrel;have hbd:=frms_bound _ hsm;have hnn:=ho.1
    have htk : (ls.take k).length≤1000000:=by rw [List.length_take];omega
    have hn7 : n'≤5000000000:=by omega
    clear hbd hnn htk;have HS:=Lib.hid hsm;clear hsm
    by_cases hlt : k < ls.length
    · obtain ⟨a,D,m,d,rfl,hab,hcell,hrd,hmc,hcm⟩:=(hb.below (hbel.mono hB)).at_ hlt
      have hml:=hrd.1;obtain ⟨x,hx⟩ : ∃ x,x = ls[k]:=⟨_,rfl⟩;rw [← hx] at hrd hml;have HX:=Lib.hid hx;have HML:=Lib.hid hml;clear hx hml
      by_cases h3 : 4096 < m
      · have hno : ls.all (·.length≤4096) = false:=by
          rw [List.all_eq_false];exact ⟨ls[k],List.getElem_mem _,by rw [← HX.out];simp;have:=HML.out;omega⟩
        have HN:=Lib.hid hno;clear hno;go_wp2_with fail;refine (Frame.put_long _ _ _ _ h3).mono ?_;rintro e w2 ⟨rfl,rfl⟩;go_wp2_with fail;refine (must_no 6 (by omega) _).mono ?_;rintro e w2 ⟨rfl,rfl⟩;go_wp2_with fail;refine ⟨rfl,hbel,?_⟩;rw [if_neg (by rw [HN.out];simp)]
      · go_wp2_with fail
        refine (Frame.put_ok _ _ _ x _ _ hrd (Nat.le_trans hB hbel.size) (by omega)).mono ?_;rintro e w2 ⟨A2,n2,c2,rfl,ho2,h2⟩;have hb2:=hbel.trans (h2.mono hbel.size);have hob2:=ho.below h2 (Nat.le_refl _)
        have hn2 : n2≤5000:=by
          have:=ho2.1
          have:=frm_length x
          have:=Vint.enc_length x.length
          have:=HML.out
          omega
        go_wp2_with fail;refine (must_ok _).mono ?_;rintro e w3 ⟨rfl,rfl⟩
        go_wp2_with (at_builtin;refine wpList_appB rfl (.tmp 20) (.tmp 21) rfl rfl hob2 rfl ho2.rd ?hx0 hb2.size ?_)
        case hx0=>omega
        intro A3 c3 w3 ho3 hg3 _ hbl3;have hb3:=hb2.trans hbl3;go_wp2_with fail
        go_roundw
        case rel =>
          refine ⟨k + 1,A3,n' + n2,c3,by omega,by go_num,rfl,?_,?_,hb3⟩
          · rw [take_snoc ls hlt,frms_snoc,← HX.out]
            exact ho3
          · intro y hy
            rw [take_snoc ls hlt,List.mem_append,List.mem_singleton] at hy
            rcases hy with hy | rfl
            · exact HS.out y hy
            · rw [← HX.out,← HML.out];omega
        case measure=>simp [intOf];omega
    · obtain rfl : k = ls.length:=by omega
      rw [List.take_length] at ho
      have hyes : ls.all (·.length≤4096) = true:=by
        rw [List.all_eq_true];intro x hx
        have:=HS.out x (by rw [List.take_length];exact hx)
        simpa using this
      have HY:=Lib.hid hyes;clear hyes;go_wp2_with fail;go_ret;refine ⟨hbel,?_⟩;rw [if_pos HY.out];exact ⟨_,_,_,rfl,ho⟩
theorem lswap_any (A : Option Addr) (n c B : Nat) (bs : List UInt8) (F : Nat→Prop) (g size : Nat) (lasts : List UInt8) (ws : List W) (w : World) (hD : DiskAt w F g size lasts ws) (hm : lasts.length + mass ws≤500000000000) (hl : ws.length≤500000000000) (hs : size≤16384)
    (hb : RdB w B A n bs) (hn : n≤size) :
    Calls Tryz.prog 66 #[.pointer (some ⟨g,0,none⟩),.slice A n c] w (DiskEnd w F g size bs [] 0):=by
  go_enter Tryz.func66,Tryz.ntmps66
  go_wp2_with fail;refine (swap_any _ _ _ _ bs F g size lasts ws w hD (by omega) (by omega) hb hn).mono ?_;rintro e w1 ⟨rfl,F1,h1,h2,h3⟩;go_wp2_with fail;refine (must_ok _).mono ?_;rintro e w2 ⟨rfl,rfl⟩;have hbl:=hb.1;go_wp2_with fail;refine (sync_any F1 g size _ _ _ h1 (by rw [mass_append];simp [mass];omega) (by simp;omega)).mono ?_;rintro e w2 ⟨rfl,k⟩;rw [read_swap] at k;go_wp2_with fail;go_ret;exact ⟨rfl,DiskOp.of h2 h3 k⟩
theorem lswap_full (A : Option Addr) (n c : Nat) (F : Nat→Prop) (g size : Nat) (lasts : List UInt8) (ws : List W) (w : World) (hD : DiskAt w F g size lasts ws) (hn : ¬ n≤size) :
    Calls Tryz.prog 66 #[.pointer (some ⟨g,0,none⟩),.slice A n c] w fun e w'=>e = .panicked [{ v:=flt 7,recovered:=false }]∧w = w':=by
  go_enter Tryz.func66,Tryz.ntmps66
  go_wp2_with fail;refine (swap_full _ _ _ F g size lasts ws w hD hn).mono ?_;rintro e w1 ⟨rfl,rfl⟩;go_wp2_with fail;refine (must_no 7 (by omega) _).mono ?_;rintro e w2 ⟨rfl,rfl⟩;go_wp2_with fail;exact ⟨rfl,rfl,rfl⟩
theorem all_nil (c : Nat) (w : World) (hc : c≤maxLen) :
    Calls Tryz.prog 68 #[.slice none 0 c] w (Frame.AllF w []):=by
  have k0:=Blk.new w 27 #[.int .i64 0];have hbw : Below w.heap.size w (w.alloc (.cells #[.int .i64 0] 27)):=(Below.refl _ _).alloc (Nat.le_refl _) _
  have hsz : w.heap.size < (w.alloc (.cells #[.int .i64 0] 27)).heap.size:=by simp
  go_enter_defers Tryz.func68,Tryz.ntmps68
  go_wp2_with fail
  generalize w.alloc (.cells #[.int .i64 0] 27) = w0 at *
  go_loopw [2,3] (fun v i wr=>v = .slice none 0 0∧i = .int .i64 0∧wr = w0) (fun _ _ _=>0)
  case atStart=>exact ⟨rfl,rfl,rfl⟩
  case round =>
    obtain ⟨rfl,rfl,rfl⟩:=hrel;have k1:=k0;go_wp2_with fail;refine (Frame.read_any none 0 _ [] 0 _ (RdB.nil _ _ _) (Nat.zero_le _) (by omega) (Nat.zero_le _) (by first | exact hc | exact Nat.zero_le _)).mono ?_;rintro e w1 ⟨hb1,he⟩;rw [show Frame.dec [] = .error 3 from rfl] at he
    simp only at he
    subst he;have k2:=k1.below hb1 k1.lt;have hb2:=hbw.trans (hb1.mono hbw.size);go_wp2_with fail;refine leaves_cons (f:=93) (args:=#[.pointer (some ⟨w.heap.size,0,none⟩)]) (by simp) (by simp [go_sem]) ?_;refine (Frame.caught_panic _ _ _ _ _ (k2.cell 0) (k2.free 0)).mono ?_;rintro e u' w'' ⟨rfl,rfl,rfl⟩;have hb3 : Below w.heap.size w ((w1.alloc (.cells #[.int .i64 (3 : Nat)] 156)).setCell ⟨w.heap.size,0,none⟩ (.int .i64 (3 : Nat))):=(hb2.alloc hb2.size _).setCell (Nat.le_refl _) _;exact ⟨.tuple #[.slice none 0 0,.int .i64 0],by simp [results,Tryz.results68,go_sem],[],[],none,0,⟨rfl,by simp,3,rfl⟩,rfl,Bods.nil _ _,hb3⟩
end Log
end Go.Proofs.YtfpenfgmpbdakaaGreat

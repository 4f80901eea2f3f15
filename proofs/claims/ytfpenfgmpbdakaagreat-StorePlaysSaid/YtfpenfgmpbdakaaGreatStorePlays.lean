/- StorePlays: over any disk, through any steps, crashes and openings what each answers, and what is kept, is the document's: the whole statement, without a condition (printed by wip/gen/storeplays.py). -/
import Derived.Test.YtfpenfgmpbdakaaGreatLogRef
import Derived.Test.YtfpenfgmpbdakaaGreatStpRCompact
import Derived.Test.YtfpenfgmpbdakaaGreatOpen
import Derived.SizedLaws
import Derived.Test.YtfpenfgmpbdakaaGreatDotMem
import Derived.Test.YtfpenfgmpbdakaaGreatEvThrW
import Derived.Test.YtfpenfgmpbdakaaGreatFactsD
import Derived.Deep.CutBlock
import Derived.Deep.DeepCutAuto
namespace Go.Proofs.YtfpenfgmpbdakaaGreat
set_option linter.unusedVariables false
set_option linter.unusedSimpArgs false
set_option maxRecDepth 100000
open Go.RowKit
open Disk
namespace Sto.Stp
open _root_.Go.Proofs.YtfpenfgmpbdakaaGreat.Log (writeM LogEnd lwrite_any)
open _root_.Go.Proofs.YtfpenfgmpbdakaaGreat.Frame (frm frms frms_nil frms_cons frms_snoc frms_append frm_length frm_pos Parts AllF)
set_option maxHeartbeats 1000000 in
theorem next_any (S : Sd) (E : Value) (F : Nat→Prop) (b g size : Nat) (w : World) (h : StoAt w F b g size S E) (hu : S.used≤S.upto) (hU : S.upto≤96) (hs : size≤16384) (hl : S.b.length≤16384) :
    Calls Tryz.prog 14 #[.pointer (some ⟨b,0,none⟩)] w (NumOp w F b g size E (nextD size S)):=by
  have k0:=Blk.new w 27 #[.int .i64 0];have hbw : Below w.heap.size w (w.alloc (.cells #[.int .i64 0] 27)):=(Below.refl _ _).alloc (Nat.le_refl _) _
  have hsz : w.heap.size < (w.alloc (.cells #[.int .i64 0] 27)).heap.size:=by simp
  have s0:=(h.below hbw).sw;have hlt : b < w.heap.size:=h.2.1.lt;have hf : ∀ k,F k→k < w.heap.size:=h.1.lt
  have hnF : ¬ F w.heap.size:=fun q=>by have:=hf _ q;omega
  have hne : w.heap.size ≠ b:=by omega
  clear h;obtain ⟨sb,su,sv,si⟩:=S
  simp only at *
  have c1:=s0.blk.cell 1;have c2:=s0.blk.cell 2;have f1:=s0.blk.free 1
  go_enter_defers Tryz.func14,Tryz.ntmps14
  go_wp2_with fail
  generalize w.alloc (.cells #[.int .i64 0] 27) = w0 at *
  by_cases hx : su < sv
  · have hq : ((su : Int) == (sv : Int)) = false:=by rw [beq_eq_false_iff_ne];omega
    have hr : nextD size ⟨sb,su,sv,si⟩ = (su + 1,0,⟨sb,su + 1,sv,si⟩):=by unfold nextD;rw [if_pos hx]
    have HR:=Lib.hid hr;have H0:=Lib.hid s0;have K0:=Lib.hid k0;clear hr s0 k0
    go_quiet (fail)
    have s9:=H0.out.drewN nq;have k9:=K0.out.below (below_drewN (Below.refl _ _) nq) K0.out.lt
    generalize w0.drewN nq = wq at *
    have e1 : wq.cell? ⟨b,1,none⟩ = some (.int .i64 (su : Nat)):=s9.blk.cell 1;have g1:=s9.blk.free 1;have s1 : SW w0 F b g size ⟨sb,su + 1,sv,si⟩ E F (wq.setCell ⟨b,1,none⟩ (.int .i64 ((su : Int) + 1))):=s9.set_ (u':=su + 1) (v':=sv) (i':=si) (s9.blk.set_ 1 (.int .i64 ((su : Int) + 1)));have k1:=k9.far (p:=⟨b,1,none⟩) hne (.int .i64 ((su : Int) + 1));have f0 : wq.frozen? ⟨w.heap.size,0,none⟩ = false:=k9.free 0;have f00 : wq.cell? ⟨w.heap.size,0,none⟩ = some (.int .i64 0):=k9.cell 0;have d1 : World.cell? _ ⟨b,1,none⟩ = some (.int .i64 ((su : Int) + 1)):=s1.blk.cell 1;have H1:=Lib.hid s1;have K1:=Lib.hid k1;clear s1 k1 s9 k9 H0 K0;go_wp2_with fail;have c4 : World.cell? _ _ = some (.int .i64 0):=(K1.out.set_ 0 (.int .i64 0)).cell 0;refine leaves_cons (f:=38) (args:=#[.pointer (some ⟨w.heap.size,0,none⟩)]) (by simp) (by simp [go_sem]) ?_;refine (caught_none _ _).mono ?_;rintro e u' w'' ⟨rfl,rfl,rfl⟩;refine ⟨.tuple #[.int .i64 ((su : Int) + 1),.int .i64 0],by simp [results,Tryz.results14,go_sem,c4],?_⟩;rw [HR.out];exact ⟨rfl,H1.out.err hbw hsz hlt hf 0 (.int .i64 0)⟩
  · obtain rfl : su = sv:=by omega
    have hq : ((su : Int) == (su : Int)) = true:=by simp
    by_cases h9 : 96≤su
    · have hr : nextD size ⟨sb,su,su,si⟩ = (0,7,⟨sb,su,su,si⟩):=by unfold nextD;rw [if_neg hx,if_pos h9]
      have HR:=Lib.hid hr;have hd : decide ((su : Int) < ((min (su + 8) 96 : Nat) : Int)) = false:=decide_eq_false (by omega)
      have hdl : ¬ (su : Int) < ((min (su + 8) 96 : Nat) : Int):=by omega
      have H0:=Lib.hid s0;have K0:=Lib.hid k0;clear hr s0 k0
      go_quiet (fail)
      have H1:=Lib.hid (H0.out.drewN nq);have K1:=Lib.hid (K0.out.below (below_drewN (Below.refl _ _) nq) K0.out.lt)
      generalize w0.drewN nq = wq at *
      have e1 : wq.cell? ⟨b,1,none⟩ = some (.int .i64 (su : Nat)):=H1.out.blk.cell 1;have e2 : wq.cell? ⟨b,2,none⟩ = some (.int .i64 (su : Nat)):=H1.out.blk.cell 2;go_wp2_with fail;refine (must_no (b:=decide ((su : Int) < 96)) (decide_eq_false (by omega)) _ _).mono ?_;rintro e w2 ⟨rfl,rfl⟩;go_wp2_with fail;refine leaves_cons (f:=38) (args:=#[.pointer (some ⟨w.heap.size,0,none⟩)]) (by simp) (by simp [go_sem]) ?_;refine (caught_panic w.heap.size 7 [] (.int .i64 0) _ (K1.out.cell 0) (K1.out.free 0)).mono ?_;rintro e u' w'' ⟨rfl,rfl,rfl⟩;have k9:=(K1.out.alloc (.cells #[.int .i64 7] 113)).set_ 0 (.int .i64 7);have c9 : World.cell? _ _ = some (.int .i64 7):=k9.cell 0;have s9:=(H1.out.below ((Below.refl _ _).alloc (Nat.le_refl _) (.cells #[.int .i64 7] 113))).err hbw hsz hlt hf 0 (.int .i64 7);refine ⟨.tuple #[.int .i64 0,.int .i64 7],by simp [results,Tryz.results14,go_sem,c9],?_⟩;rw [HR.out];exact ⟨rfl,s9⟩
    · obtain ⟨M,hM⟩ : ∃ M,M = min (su + 8) 96:=⟨_,rfl⟩
      have hM9 : M≤96:=by omega
      rcases Nat.lt_or_ge 96 (su + 8) with h8 | h8
      · have hV : (M : Int) = 96:=by omega
        have hv8 : 96 < (su : Int) + 8:=by omega
        by_cases hroom : sb.length + (frm (told 1 M)).length≤size
        · have hr : nextD size ⟨sb,su,su,si⟩ = (su + 1,0,⟨sb ++ frm (told 1 M),su + 1,M,si⟩):=by
            unfold nextD
            rw [if_neg hx,if_neg h9]
            simp only
            rw [← hM,if_pos hroom]
          have hw : writeD size sb (told 1 M) = (0,sb ++ frm (told 1 M)):=by rw [told_write,if_pos hroom]
          have HR:=Lib.hid hr;have HW:=Lib.hid hw;have H0:=Lib.hid s0;have K0:=Lib.hid k0;clear hr hw s0 k0
          go_quiet (fail)
          have H1:=Lib.hid (H0.out.drewN nq);have K1:=Lib.hid (K0.out.below (below_drewN (Below.refl _ _) nq) K0.out.lt)
          generalize w0.drewN nq = wq at *
          have e1 : wq.cell? ⟨b,1,none⟩ = some (.int .i64 (su : Nat)):=H1.out.blk.cell 1;have e2 : wq.cell? ⟨b,2,none⟩ = some (.int .i64 (su : Nat)):=H1.out.blk.cell 2;go_wp2_with fail;refine (must_yes (b:=decide ((su : Int) < 96)) (decide_eq_true (by omega)) _ _).mono ?_;rintro e w2 ⟨rfl,rfl⟩;go_wp2_with fail;refine (told_lit 1 1 (96) M rfl (by omega) (by omega) _).mono ?_;rintro e w2 ⟨A2,n2,c2',rfl,o2,b2⟩;have s2:=H1.out.below b2;have k2:=K1.out.below b2 K1.out.lt;have hle:=ownsRow_le o2.2;go_wp2_with fail;refine (write_any A2 n2 c2' _ (told 1 M) _ b g size su su si sb E w2 s2.blk s2.disk hl hs o2.rd (Nat.le_refl _) hle.1 hle.2).mono ?_;rw [HW.out];rintro e w3 ⟨he,d3⟩;obtain rfl : e = .returned (.tuple #[]):=he;have k3:=d3.kept k2 (s2.nk hsz hnF);obtain ⟨F3,s3⟩:=s2.op d3;have s4 : SW w0 F b g size ⟨_,su,M,si⟩ E F3 (World.setCell _ ⟨b,2,none⟩ (.int .i64 (96))):=s3.set_ (u':=su) (v':=M) (i':=si) (show Blk _ b _ (sc g su M si E) by rw [← hV];exact s3.blk.set_ 2 (.int .i64 (M : Nat)));have e4 : World.cell? _ ⟨b,1,none⟩ = some (.int .i64 (su : Nat)):=s4.blk.cell 1;have f4:=s4.blk.free 1;have g3:=s3.blk.free 2;have s5 : SW w0 F b g size ⟨_,su + 1,M,si⟩ E F3 (World.setCell _ ⟨b,1,none⟩ (.int .i64 ((su : Int) + 1))):=s4.set_ (u':=su + 1) (v':=M) (i':=si) (s4.blk.set_ 1 (.int .i64 ((su : Int) + 1)));have e5 : World.cell? _ ⟨b,1,none⟩ = some (.int .i64 ((su : Int) + 1)):=s5.blk.cell 1;have e3 : w3.cell? ⟨b,1,none⟩ = some (.int .i64 (su : Nat)):=s3.blk.cell 1;have g1 : w3.frozen? ⟨b,1,none⟩ = false:=s3.blk.free 1
          have e6 : w3.cell? ⟨b,2,none⟩ = some (.int .i64 (su : Nat)):=s3.blk.cell 2;have z0 : w3.cell? ⟨w.heap.size,0,none⟩ = some (.int .i64 0):=k3.cell 0;have z1 : w3.frozen? ⟨w.heap.size,0,none⟩ = false:=k3.free 0;have k4:=(k3.far (p:=⟨b,2,none⟩) hne (.int .i64 (96))).far (p:=⟨b,1,none⟩) hne (.int .i64 ((su : Int) + 1));have f5:=k4.free 0;have H5:=Lib.hid s5;have K4:=Lib.hid k4;clear s2 s3 s4 s5 k2 k3 k4 d3 o2;go_wp2_with fail;have c4 : World.cell? _ _ = some (.int .i64 0):=(K4.out.set_ 0 (.int .i64 0)).cell 0;refine leaves_cons (f:=38) (args:=#[.pointer (some ⟨w.heap.size,0,none⟩)]) (by simp) (by simp [go_sem]) ?_;refine (caught_none _ _).mono ?_;rintro e u' w'' ⟨rfl,rfl,rfl⟩;refine ⟨.tuple #[.int .i64 ((su : Int) + 1),.int .i64 0],by simp [results,Tryz.results14,go_sem,c4],?_⟩;rw [HR.out];exact ⟨rfl,H5.out.err hbw hsz hlt hf 0 (.int .i64 0)⟩
        · have hr : nextD size ⟨sb,su,su,si⟩ = (0,7,⟨sb,su,su,si⟩):=by
            unfold nextD
            rw [if_neg hx,if_neg h9]
            simp only
            rw [← hM,if_neg hroom]
          have hw : writeD size sb (told 1 M) = (7,sb):=by rw [told_write,if_neg hroom]
          have HR:=Lib.hid hr;have HW:=Lib.hid hw;have H0:=Lib.hid s0;have K0:=Lib.hid k0;clear hr hw s0 k0
          go_quiet (fail)
          have H1:=Lib.hid (H0.out.drewN nq);have K1:=Lib.hid (K0.out.below (below_drewN (Below.refl _ _) nq) K0.out.lt)
          generalize w0.drewN nq = wq at *
          have e1 : wq.cell? ⟨b,1,none⟩ = some (.int .i64 (su : Nat)):=H1.out.blk.cell 1;have e2 : wq.cell? ⟨b,2,none⟩ = some (.int .i64 (su : Nat)):=H1.out.blk.cell 2;go_wp2_with fail;refine (must_yes (b:=decide ((su : Int) < 96)) (decide_eq_true (by omega)) _ _).mono ?_;rintro e w2 ⟨rfl,rfl⟩;go_wp2_with fail;refine (told_lit 1 1 (96) M rfl (by omega) (by omega) _).mono ?_;rintro e w2 ⟨A2,n2,c2',rfl,o2,b2⟩;have s2:=H1.out.below b2;have k2:=K1.out.below b2 K1.out.lt;have hle:=ownsRow_le o2.2;go_wp2_with fail;refine (write_any A2 n2 c2' _ (told 1 M) _ b g size su su si sb E w2 s2.blk s2.disk hl hs o2.rd (Nat.le_refl _) hle.1 hle.2).mono ?_;rw [HW.out];rintro e w3 ⟨he,d3⟩;obtain rfl : e = .panicked [{ v:=flt ((7 : Nat) : Int),recovered:=false }]:=he;have k3:=d3.kept k2 (s2.nk hsz hnF);obtain ⟨F3,s3⟩:=s2.op d3;go_wp2_with fail;refine leaves_cons (f:=38) (args:=#[.pointer (some ⟨w.heap.size,0,none⟩)]) (by simp) (by simp [go_sem]) ?_;refine (caught_panic w.heap.size 7 [] (.int .i64 0) _ (k3.cell 0) (k3.free 0)).mono ?_;rintro e u' w'' ⟨rfl,rfl,rfl⟩;have k9:=(k3.alloc (.cells #[.int .i64 7] 113)).set_ 0 (.int .i64 7);have c9 : World.cell? _ _ = some (.int .i64 7):=k9.cell 0;have s9:=(s3.below ((Below.refl _ _).alloc (Nat.le_refl _) (.cells #[.int .i64 7] 113))).err hbw hsz hlt hf 0 (.int .i64 7);refine ⟨.tuple #[.int .i64 0,.int .i64 7],by simp [results,Tryz.results14,go_sem,c9],?_⟩;rw [HR.out];exact ⟨rfl,s9⟩
      · have hV : (M : Int) = (su : Int) + 8:=by omega
        have hv8 : ¬ 96 < (su : Int) + 8:=by omega
        by_cases hroom : sb.length + (frm (told 1 M)).length≤size
        · have hr : nextD size ⟨sb,su,su,si⟩ = (su + 1,0,⟨sb ++ frm (told 1 M),su + 1,M,si⟩):=by
            unfold nextD
            rw [if_neg hx,if_neg h9]
            simp only
            rw [← hM,if_pos hroom]
          have hw : writeD size sb (told 1 M) = (0,sb ++ frm (told 1 M)):=by rw [told_write,if_pos hroom]
          have HR:=Lib.hid hr;have HW:=Lib.hid hw;have H0:=Lib.hid s0;have K0:=Lib.hid k0;clear hr hw s0 k0
          go_quiet (fail)
          have H1:=Lib.hid (H0.out.drewN nq);have K1:=Lib.hid (K0.out.below (below_drewN (Below.refl _ _) nq) K0.out.lt)
          generalize w0.drewN nq = wq at *
          have e1 : wq.cell? ⟨b,1,none⟩ = some (.int .i64 (su : Nat)):=H1.out.blk.cell 1;have e2 : wq.cell? ⟨b,2,none⟩ = some (.int .i64 (su : Nat)):=H1.out.blk.cell 2;go_wp2_with fail;refine (must_yes (b:=decide ((su : Int) < (su : Int) + 8)) (decide_eq_true (by omega)) _ _).mono ?_;rintro e w2 ⟨rfl,rfl⟩;go_wp2_with fail;refine (told_lit 1 1 ((su : Int) + 8) M rfl (by omega) (by omega) _).mono ?_;rintro e w2 ⟨A2,n2,c2',rfl,o2,b2⟩;have s2:=H1.out.below b2;have k2:=K1.out.below b2 K1.out.lt;have hle:=ownsRow_le o2.2;go_wp2_with fail;refine (write_any A2 n2 c2' _ (told 1 M) _ b g size su su si sb E w2 s2.blk s2.disk hl hs o2.rd (Nat.le_refl _) hle.1 hle.2).mono ?_;rw [HW.out];rintro e w3 ⟨he,d3⟩;obtain rfl : e = .returned (.tuple #[]):=he;have k3:=d3.kept k2 (s2.nk hsz hnF);obtain ⟨F3,s3⟩:=s2.op d3;have s4 : SW w0 F b g size ⟨_,su,M,si⟩ E F3 (World.setCell _ ⟨b,2,none⟩ (.int .i64 ((su : Int) + 8))):=s3.set_ (u':=su) (v':=M) (i':=si) (show Blk _ b _ (sc g su M si E) by rw [← hV];exact s3.blk.set_ 2 (.int .i64 (M : Nat)));have e4 : World.cell? _ ⟨b,1,none⟩ = some (.int .i64 (su : Nat)):=s4.blk.cell 1;have f4:=s4.blk.free 1;have g3:=s3.blk.free 2;have s5 : SW w0 F b g size ⟨_,su + 1,M,si⟩ E F3 (World.setCell _ ⟨b,1,none⟩ (.int .i64 ((su : Int) + 1))):=s4.set_ (u':=su + 1) (v':=M) (i':=si) (s4.blk.set_ 1 (.int .i64 ((su : Int) + 1)));have e5 : World.cell? _ ⟨b,1,none⟩ = some (.int .i64 ((su : Int) + 1)):=s5.blk.cell 1;have e3 : w3.cell? ⟨b,1,none⟩ = some (.int .i64 (su : Nat)):=s3.blk.cell 1
          have g1 : w3.frozen? ⟨b,1,none⟩ = false:=s3.blk.free 1;have e6 : w3.cell? ⟨b,2,none⟩ = some (.int .i64 (su : Nat)):=s3.blk.cell 2;have z0 : w3.cell? ⟨w.heap.size,0,none⟩ = some (.int .i64 0):=k3.cell 0;have z1 : w3.frozen? ⟨w.heap.size,0,none⟩ = false:=k3.free 0;have k4:=(k3.far (p:=⟨b,2,none⟩) hne (.int .i64 ((su : Int) + 8))).far (p:=⟨b,1,none⟩) hne (.int .i64 ((su : Int) + 1));have f5:=k4.free 0;have H5:=Lib.hid s5;have K4:=Lib.hid k4;clear s2 s3 s4 s5 k2 k3 k4 d3 o2;go_wp2_with fail;have c4 : World.cell? _ _ = some (.int .i64 0):=(K4.out.set_ 0 (.int .i64 0)).cell 0;refine leaves_cons (f:=38) (args:=#[.pointer (some ⟨w.heap.size,0,none⟩)]) (by simp) (by simp [go_sem]) ?_;refine (caught_none _ _).mono ?_;rintro e u' w'' ⟨rfl,rfl,rfl⟩;refine ⟨.tuple #[.int .i64 ((su : Int) + 1),.int .i64 0],by simp [results,Tryz.results14,go_sem,c4],?_⟩;rw [HR.out];exact ⟨rfl,H5.out.err hbw hsz hlt hf 0 (.int .i64 0)⟩
        · have hr : nextD size ⟨sb,su,su,si⟩ = (0,7,⟨sb,su,su,si⟩):=by
            unfold nextD
            rw [if_neg hx,if_neg h9]
            simp only
            rw [← hM,if_neg hroom]
          have hw : writeD size sb (told 1 M) = (7,sb):=by rw [told_write,if_neg hroom]
          have HR:=Lib.hid hr;have HW:=Lib.hid hw;have H0:=Lib.hid s0;have K0:=Lib.hid k0;clear hr hw s0 k0
          go_quiet (fail)
          have H1:=Lib.hid (H0.out.drewN nq);have K1:=Lib.hid (K0.out.below (below_drewN (Below.refl _ _) nq) K0.out.lt)
          generalize w0.drewN nq = wq at *
          have e1 : wq.cell? ⟨b,1,none⟩ = some (.int .i64 (su : Nat)):=H1.out.blk.cell 1;have e2 : wq.cell? ⟨b,2,none⟩ = some (.int .i64 (su : Nat)):=H1.out.blk.cell 2;go_wp2_with fail;refine (must_yes (b:=decide ((su : Int) < (su : Int) + 8)) (decide_eq_true (by omega)) _ _).mono ?_;rintro e w2 ⟨rfl,rfl⟩;go_wp2_with fail;refine (told_lit 1 1 ((su : Int) + 8) M rfl (by omega) (by omega) _).mono ?_;rintro e w2 ⟨A2,n2,c2',rfl,o2,b2⟩;have s2:=H1.out.below b2;have k2:=K1.out.below b2 K1.out.lt;have hle:=ownsRow_le o2.2;go_wp2_with fail;refine (write_any A2 n2 c2' _ (told 1 M) _ b g size su su si sb E w2 s2.blk s2.disk hl hs o2.rd (Nat.le_refl _) hle.1 hle.2).mono ?_;rw [HW.out];rintro e w3 ⟨he,d3⟩;obtain rfl : e = .panicked [{ v:=flt ((7 : Nat) : Int),recovered:=false }]:=he;have k3:=d3.kept k2 (s2.nk hsz hnF);obtain ⟨F3,s3⟩:=s2.op d3;go_wp2_with fail;refine leaves_cons (f:=38) (args:=#[.pointer (some ⟨w.heap.size,0,none⟩)]) (by simp) (by simp [go_sem]) ?_;refine (caught_panic w.heap.size 7 [] (.int .i64 0) _ (k3.cell 0) (k3.free 0)).mono ?_;rintro e u' w'' ⟨rfl,rfl,rfl⟩;have k9:=(k3.alloc (.cells #[.int .i64 7] 113)).set_ 0 (.int .i64 7);have c9 : World.cell? _ _ = some (.int .i64 7):=k9.cell 0;have s9:=(s3.below ((Below.refl _ _).alloc (Nat.le_refl _) (.cells #[.int .i64 7] 113))).err hbw hsz hlt hf 0 (.int .i64 7);refine ⟨.tuple #[.int .i64 0,.int .i64 7],by simp [results,Tryz.results14,go_sem,c9],?_⟩;rw [HR.out];exact ⟨rfl,s9⟩
end Sto.Stp
end Go.Proofs.YtfpenfgmpbdakaaGreat

namespace Go.Proofs.YtfpenfgmpbdakaaGreat
set_option linter.unusedVariables false
set_option linter.unusedSimpArgs false
set_option maxRecDepth 100000
open Go.RowKit
open Disk
namespace Sto.Stp
open _root_.Go.Proofs.YtfpenfgmpbdakaaGreat.Log (writeM LogEnd lwrite_any)
open _root_.Go.Proofs.YtfpenfgmpbdakaaGreat.Frame (frm frms frms_nil frms_cons frms_snoc frms_append frm_length frm_pos Parts AllF)
set_option maxHeartbeats 2000000 in
theorem bump_any (S : Sd) (E : Value) (F : Nat→Prop) (b g size : Nat) (w : World) (h : StoAt w F b g size S E) (hi : S.inc≤1099511627776) (hs : size≤16384) (hl : S.b.length≤16384) :
    Calls Tryz.prog 16 #[.pointer (some ⟨b,0,none⟩)] w (NumOp w F b g size E (bumpD size S)):=by
  have k0:=Blk.new w 27 #[.int .i64 0];have hbw : Below w.heap.size w (w.alloc (.cells #[.int .i64 0] 27)):=(Below.refl _ _).alloc (Nat.le_refl _) _
  have hsz : w.heap.size < (w.alloc (.cells #[.int .i64 0] 27)).heap.size:=by simp
  have s0:=(h.below hbw).sw;have hlt : b < w.heap.size:=h.2.1.lt;have hf : ∀ k,F k→k < w.heap.size:=h.1.lt
  have hnF : ¬ F w.heap.size:=fun q=>by have:=hf _ q;omega
  have hne : w.heap.size ≠ b:=by omega
  clear h;obtain ⟨sb,su,sv,si⟩:=S
  simp only at *
  have c3:=s0.blk.cell 3;have f3:=s0.blk.free 3
  go_enter_defers Tryz.func16,Tryz.ntmps16
  go_wp2_with fail
  generalize w.alloc (.cells #[.int .i64 0] 27) = w0 at *
  by_cases h9 : 1099511627776≤si
  · have hr : bumpD size ⟨sb,su,sv,si⟩ = (0,7,⟨sb,su,sv,si⟩):=by unfold bumpD;rw [if_pos h9]
    have HR:=Lib.hid hr;have hd : decide ((si : Int) < 1099511627776) = false:=decide_eq_false (by omega)
    have hlt9 : ¬ (si : Int) < 1099511627776:=by omega
    clear hr;go_wp2_with fail;refine (must_bad _ _).mono ?_;rintro e w2 ⟨rfl,rfl⟩;go_wp2_with fail;refine leaves_cons (f:=38) (args:=#[.pointer (some ⟨w.heap.size,0,none⟩)]) (by simp) (by simp [go_sem]) ?_;refine (caught_panic w.heap.size 7 [] (.int .i64 0) _ (k0.cell 0) (k0.free 0)).mono ?_;rintro e u' w'' ⟨rfl,rfl,rfl⟩;have k9:=(k0.alloc (.cells #[.int .i64 7] 113)).set_ 0 (.int .i64 7);have c9 : World.cell? _ _ = some (.int .i64 7):=k9.cell 0;have s9:=(s0.below ((Below.refl _ _).alloc (Nat.le_refl _) (.cells #[.int .i64 7] 113))).err hbw hsz hlt hf 0 (.int .i64 7);refine ⟨.tuple #[.int .i64 0,.int .i64 7],by simp [results,Tryz.results16,go_sem,c9],?_⟩;rw [HR.out];exact ⟨rfl,s9⟩
  · have hd : decide ((si : Int) < 1099511627776) = true:=decide_eq_true (by omega)
    have hlt9 : (si : Int) < 1099511627776:=by omega
    by_cases hroom : sb.length + (frm (told 2 (si + 1))).length≤size
    · have hr : bumpD size ⟨sb,su,sv,si⟩ = (si + 1,0,⟨sb ++ frm (told 2 (si + 1)),su,sv,si + 1⟩):=by
        unfold bumpD
        rw [if_neg h9]
        simp only
        rw [if_pos hroom]
      have hw : writeD size sb (told 2 (si + 1)) = (0,sb ++ frm (told 2 (si + 1))):=by rw [told_write,if_pos hroom]
      have HR:=Lib.hid hr;have HW:=Lib.hid hw;clear hr hw;go_wp2_with fail;refine (must_yes (b:=decide ((si : Int) < 1099511627776)) hd _ _).mono ?_;rintro e w2 ⟨rfl,rfl⟩;go_wp2_with fail;refine (told_lit 2 2 _ (si + 1) rfl (by first | rfl | omega) (by omega) _).mono ?_;rintro e w2 ⟨A2,n2,c2',rfl,o2,b2⟩;have s2:=s0.below b2;have k2:=k0.below b2 k0.lt;have hle:=ownsRow_le o2.2;go_wp2_with fail;refine (write_any A2 n2 c2' _ (told 2 (si + 1)) _ b g size su sv si sb E w2 s2.blk s2.disk hl hs o2.rd (Nat.le_refl _) hle.1 hle.2).mono ?_;rw [HW.out];rintro e w3 ⟨he,d3⟩;obtain rfl : e = .returned (.tuple #[]):=he;have k3:=d3.kept k2 (s2.nk hsz hnF);obtain ⟨F3,s3⟩:=s2.op d3;have e3 : w3.cell? ⟨b,3,none⟩ = some (.int .i64 (si : Nat)):=s3.blk.cell 3;have z0 : w3.cell? ⟨w.heap.size,0,none⟩ = some (.int .i64 0):=k3.cell 0;have z1 : w3.frozen? ⟨w.heap.size,0,none⟩ = false:=k3.free 0;have g3:=s3.blk.free 3;have s5 : SW w0 F b g size ⟨_,su,sv,si + 1⟩ E F3 (World.setCell _ ⟨b,3,none⟩ (.int .i64 ((si : Int) + 1))):=s3.set_ (u':=su) (v':=sv) (i':=si + 1) (s3.blk.set_ 3 (.int .i64 ((si : Int) + 1)));have e5 : World.cell? _ ⟨b,3,none⟩ = some (.int .i64 ((si : Int) + 1)):=s5.blk.cell 3;have k4:=k3.far (p:=⟨b,3,none⟩) hne (.int .i64 ((si : Int) + 1));have f5:=k4.free 0;have H5:=Lib.hid s5;have K4:=Lib.hid k4;clear s2 s3 s5 s0 k0 k2 k3 k4 d3 o2 hd hlt9;go_wp2_with fail;have c4 : World.cell? _ _ = some (.int .i64 0):=(K4.out.set_ 0 (.int .i64 0)).cell 0;refine leaves_cons (f:=38) (args:=#[.pointer (some ⟨w.heap.size,0,none⟩)]) (by simp) (by simp [go_sem]) ?_
      refine (caught_none _ _).mono ?_;rintro e u' w'' ⟨rfl,rfl,rfl⟩;refine ⟨.tuple #[.int .i64 ((si : Int) + 1),.int .i64 0],by simp [results,Tryz.results16,go_sem,c4],?_⟩;rw [HR.out];exact ⟨rfl,H5.out.err hbw hsz hlt hf 0 (.int .i64 0)⟩
    · have hr : bumpD size ⟨sb,su,sv,si⟩ = (0,7,⟨sb,su,sv,si⟩):=by
        unfold bumpD
        rw [if_neg h9]
        simp only
        rw [if_neg hroom]
      have hw : writeD size sb (told 2 (si + 1)) = (7,sb):=by rw [told_write,if_neg hroom]
      have HR:=Lib.hid hr;have HW:=Lib.hid hw;clear hr hw;go_wp2_with fail;refine (must_yes (b:=decide ((si : Int) < 1099511627776)) hd _ _).mono ?_;rintro e w2 ⟨rfl,rfl⟩;go_wp2_with fail;refine (told_lit 2 2 _ (si + 1) rfl (by first | rfl | omega) (by omega) _).mono ?_;rintro e w2 ⟨A2,n2,c2',rfl,o2,b2⟩;have s2:=s0.below b2;have k2:=k0.below b2 k0.lt;have hle:=ownsRow_le o2.2;go_wp2_with fail;refine (write_any A2 n2 c2' _ (told 2 (si + 1)) _ b g size su sv si sb E w2 s2.blk s2.disk hl hs o2.rd (Nat.le_refl _) hle.1 hle.2).mono ?_;rw [HW.out];rintro e w3 ⟨he,d3⟩;obtain rfl : e = .panicked [{ v:=flt ((7 : Nat) : Int),recovered:=false }]:=he;have k3:=d3.kept k2 (s2.nk hsz hnF);obtain ⟨F3,s3⟩:=s2.op d3;go_wp2_with fail;refine leaves_cons (f:=38) (args:=#[.pointer (some ⟨w.heap.size,0,none⟩)]) (by simp) (by simp [go_sem]) ?_;refine (caught_panic w.heap.size 7 [] (.int .i64 0) _ (k3.cell 0) (k3.free 0)).mono ?_;rintro e u' w'' ⟨rfl,rfl,rfl⟩;have k9:=(k3.alloc (.cells #[.int .i64 7] 113)).set_ 0 (.int .i64 7);have c9 : World.cell? _ _ = some (.int .i64 7):=k9.cell 0;have s9:=(s3.below ((Below.refl _ _).alloc (Nat.le_refl _) (.cells #[.int .i64 7] 113))).err hbw hsz hlt hf 0 (.int .i64 7);refine ⟨.tuple #[.int .i64 0,.int .i64 7],by simp [results,Tryz.results16,go_sem,c9],?_⟩;rw [HR.out];exact ⟨rfl,s9⟩
end Sto.Stp
end Go.Proofs.YtfpenfgmpbdakaaGreat

namespace Go.Proofs.YtfpenfgmpbdakaaGreat
set_option linter.unusedVariables false
set_option linter.unusedSimpArgs false
set_option maxRecDepth 100000
open Go.RowKit
open Dot Evt
open Disk
namespace Sto.Stp
open _root_.Go.Proofs.YtfpenfgmpbdakaaGreat.Frame (frm frms frms_nil frms_cons frms_snoc frms_append frm_length frm_pos Parts AllF)
structure SoV where
  F : Nat→Prop
  b : Nat
  g : Nat
  A : Option Addr
  n : Nat
  c : Nat
  xs : List EvV
def SoV.foot (s : SoV) (k : Nat) : Prop:=s.F k∨k = s.b∨EvF s.A s.xs k
def SoV.evs (s : SoV) : List Ev:=s.xs.map (·.e)
structure PS (w0 : World) (size : Nat) (S : Sd) (s : SoV) (w : World) : Prop where
  at_ : StoAt w s.F s.b s.g size S (.slice s.A s.n s.c)
  ev : EvsAt w s.F s.b w0.heap.size s.A s.n s.c s.xs
  fs : ∀ k,s.foot k→w0.heap.size≤k
structure QS (w0 : World) (size : Nat) (S : Sd) (s : SoV) (w : World) : Prop where
  at_ : RStoAt w s.F s.b s.g size S (.slice s.A s.n s.c)
  ev : EvsAt w s.F s.b w0.heap.size s.A s.n s.c s.xs
  fs : ∀ k,s.foot k→w0.heap.size≤k
section
variable {w0 w w1 w2 : World} {size : Nat} {S S' T T' : Sd} {s t s' t' : SoV} {G F : Nat→Prop} {evs : List Ev}
theorem EvsAt.keepO {b base n c : Nat} {A : Option Addr} {xs : List EvV} (h : EvsAt w F b base A n c xs) (ho : Only G w w1) (hG : ∀ k,EvF A xs k→¬ G k) : EvsAt w1 F b base A n c xs:=by
  obtain ⟨l1,l2⟩:=h.lt
  exact ⟨⟨h.row.1,ownsRow_keep h.row.2 fun k hk=>ho.block k (l1 k hk) (hG k (.inl hk))⟩,
    fun x hx=>⟨(h.own x hx).1,⟨(h.own x hx).2.1.1,ownsRow_keep (h.own x hx).2.1.2 fun k hk=>ho.block k (l2 x hx k hk) (hG k (.inr ⟨x,hx,hk⟩))⟩,(h.own x hx).2.2⟩,h.nf,h.nfx⟩
theorem EvsAt.evlt {b base n c : Nat} {A : Option Addr} {xs : List EvV} (h : EvsAt w F b base A n c xs) : ∀ k,EvF A xs k→base≤k∧k < w.heap.size:=fun k hk=>by
  rcases hk with q | ⟨x,hx,q⟩
  · exact h.row.lt k q
  · exact (h.own x hx).2.1.lt k q
theorem PS.lt (h : PS w0 size S s w) : ∀ k,s.foot k→k < w.heap.size:=fun k hk=>by
  rcases hk with q | rfl | q
  · exact h.at_.1.lt k q
  · exact h.at_.2.1.lt
  · exact (h.ev.evlt k q).2
theorem QS.lt (h : QS w0 size S s w) : ∀ k,s.foot k→k < w.heap.size:=fun k hk=>by
  rcases hk with q | rfl | q
  · exact h.at_.1.lt k q
  · exact h.at_.2.1.lt
  · exact (h.ev.evlt k q).2
theorem PS.keepO (h : PS w0 size S s w) (ho : Only G w w1) (hG : ∀ k,s.foot k→¬ G k) : PS w0 size S s w1 :=
  ⟨⟨h.at_.1.keep (ho.keeps (fun k hk=>hG k (.inl hk)) h.at_.1.lt),h.at_.2.1.only ho (hG _ (.inr (.inl rfl))),h.at_.2.2⟩,h.ev.keepO ho (fun k hk=>hG k (.inr (.inr hk))),h.fs⟩
theorem QS.keepO (h : QS w0 size S s w) (ho : Only G w w1) (hG : ∀ k,s.foot k→¬ G k) : QS w0 size S s w1 :=
  ⟨⟨h.at_.1.keep (ho.keeps (fun k hk=>hG k (.inl hk)) h.at_.1.lt),h.at_.2.1.only ho (hG _ (.inr (.inl rfl))),h.at_.2.2⟩,h.ev.keepO ho (fun k hk=>hG k (.inr (.inr hk))),h.fs⟩
theorem PS.op (h : PS w0 size S s w) (hz : w0.heap.size≤w.heap.size) (ho : EOp w s.F s.b s.g size w0.heap.size s.A s.xs S' evs w1) :
    ∃ s',s'.b = s.b∧s'.g = s.g∧PS w0 size S' s' w1∧s'.evs = evs∧Only s.foot w w1∧∀ k,s'.foot k→s.foot k∨w.heap.size≤k:=by
  obtain ⟨F',A',n',c',xs',h1,h2,h3,h4,h5,h6⟩:=ho
  have hf : ∀ k,(⟨F',s.b,s.g,A',n',c',xs'⟩ : SoV).foot k→s.foot k∨w.heap.size≤k:=fun k hk=>by
    rcases hk with q | q | q
    · exact (h5 k q).imp .inl id
    · exact .inl (.inr (.inl q))
    · exact (h6 k q).imp (fun x=>.inr (.inr x)) id
  exact ⟨⟨F',s.b,s.g,A',n',c',xs'⟩,rfl,rfl,⟨h1,h2,fun k hk=>(hf k hk).elim (h.fs k) fun q=>Nat.le_trans hz q⟩,h3,
    h4.mono (fun k hk=>.inl (by
      rcases hk with q | q | q
      · exact .inl q
      · exact .inr (.inl q)
      · exact .inr (.inr (.inl q)))),hf⟩
theorem QS.op (h : QS w0 size S s w) (hz : w0.heap.size≤w.heap.size) (ho : REOp w s.F s.b s.g size w0.heap.size s.A s.xs S' evs w1) :
    ∃ s',s'.b = s.b∧s'.g = s.g∧QS w0 size S' s' w1∧s'.evs = evs∧Only s.foot w w1∧∀ k,s'.foot k→s.foot k∨w.heap.size≤k:=by
  obtain ⟨F',A',n',c',xs',h1,h2,h3,h4,h5,h6⟩:=ho
  have hf : ∀ k,(⟨F',s.b,s.g,A',n',c',xs'⟩ : SoV).foot k→s.foot k∨w.heap.size≤k:=fun k hk=>by
    rcases hk with q | q | q
    · exact (h5 k q).imp .inl id
    · exact .inl (.inr (.inl q))
    · exact (h6 k q).imp (fun x=>.inr (.inr x)) id
  exact ⟨⟨F',s.b,s.g,A',n',c',xs'⟩,rfl,rfl,⟨h1,h2,fun k hk=>(hf k hk).elim (h.fs k) fun q=>Nat.le_trans hz q⟩,h3,
    h4.mono (fun k hk=>.inl (by
      rcases hk with q | q | q
      · exact .inl q
      · exact .inr (.inl q)
      · exact .inr (.inr (.inl q)))),hf⟩
theorem PS.eop (h : PS w0 size S s w) (ho : StoOp w s.F s.b s.g size S' (.slice s.A s.n s.c) w1) : EOp w s.F s.b s.g size w0.heap.size s.A s.xs S' s.evs w1:=by
  obtain ⟨F',h1,h2,h3⟩:=ho;exact ⟨F',s.A,s.n,s.c,s.xs,h1,h.ev.only h2 h3 (fun k q=>by rcases q with q | q;exact .inl q;exact .inr (.inl q)),rfl,h2.mono (fun k hk=>.inl (by rcases hk with q | q;exact .inl q;exact .inr (.inl q))),h3,fun k hk=>.inl hk⟩
theorem QS.eop (h : QS w0 size S s w) (ho : RStoOp w s.F s.b s.g size S' (.slice s.A s.n s.c) w1) : REOp w s.F s.b s.g size w0.heap.size s.A s.xs S' s.evs w1:=by
  obtain ⟨F',h1,h2,h3⟩:=ho;exact ⟨F',s.A,s.n,s.c,s.xs,h1,h.ev.only h2 h3 (fun k q=>by rcases q with q | q;exact .inl q;exact .inr (.inl q)),rfl,h2.mono (fun k hk=>.inl (by rcases hk with q | q;exact .inl q;exact .inr (.inl q))),h3,fun k hk=>.inl hk⟩
structure Pr (w0 : World) (size : Nat) (S T : Sd) (s t : SoV) (w : World) : Prop where
  p : PS w0 size S s w
  q : QS w0 size T t w
  ap : ∀ k,s.foot k→¬ t.foot k
  bel : Below w0.heap.size w0 w
theorem Pr.left (h : Pr w0 size S T s t w) (ho : EOp w s.F s.b s.g size w0.heap.size s.A s.xs S' evs w1) :
    ∃ s',s'.b = s.b∧s'.g = s.g∧Pr w0 size S' T s' t w1∧s'.evs = evs∧Only s.foot w w1:=by
  obtain ⟨s',e1,e2,h1,h2,h3,h4⟩:=h.p.op h.bel.size ho;refine ⟨s',e1,e2,⟨h1,h.q.keepO h3 (fun k hk q=>h.ap k q hk),fun k hk ht=>?_,h.bel.trans (h3.to_below h.p.fs h.bel.size)⟩,h2,h3⟩
  rcases h4 k hk with q | q
  · exact h.ap k q ht
  · have:=h.q.lt k ht;omega
theorem Pr.right (h : Pr w0 size S T s t w) (ho : REOp w t.F t.b t.g size w0.heap.size t.A t.xs T' evs w1) :
    ∃ t',t'.b = t.b∧t'.g = t.g∧Pr w0 size S T' s t' w1∧t'.evs = evs∧Only t.foot w w1:=by
  obtain ⟨t',e1,e2,h1,h2,h3,h4⟩:=h.q.op h.bel.size ho;refine ⟨t',e1,e2,⟨h.p.keepO h3 (fun k hk q=>h.ap k hk q),h1,fun k hk ht=>?_,h.bel.trans (h3.to_below h.q.fs h.bel.size)⟩,h2,h3⟩
  rcases h4 k ht with q | q
  · exact h.ap k hk q
  · have:=h.p.lt k hk;omega
theorem Pr.below (h : Pr w0 size S T s t w) (hb : Below w.heap.size w w1) : Pr w0 size S T s t w1 :=
  ⟨h.p.keepO (Only.of_below (fun _=>False) hb) (fun _ _ q=>q),h.q.keepO (Only.of_below (fun _=>False) hb) (fun _ _ q=>q),h.ap,h.bel.trans (hb.mono h.bel.size)⟩
structure Two (w0 : World) (size : Nat) (F : Nat→Prop) (g : Nat) (d : Db) (G : Nat→Prop) (r : Nat) (e : Db) (w : World) : Prop where
  p : DiskD w F g size d
  q : RefD w G r size e
  pf : ∀ k,F k→w0.heap.size≤k
  qf : ∀ k,G k→w0.heap.size≤k
  ap : ∀ k,F k→¬ G k
  bel : Below w0.heap.size w0 w
variable {g r : Nat} {d e d' e' : Db}
theorem Pr.two (h : Pr w0 size S T s t w) : Two w0 size s.F s.g S.b t.F t.g T.b w :=
  ⟨h.p.at_.1,h.q.at_.1,fun k hk=>h.p.fs k (.inl hk),fun k hk=>h.q.fs k (.inl hk),fun k hk q=>h.ap k (.inl hk) (.inl q),h.bel⟩
theorem Two.below (h : Two w0 size F g d G r e w) (hb : Below w.heap.size w w1) : Two w0 size F g d G r e w1:=⟨h.p.below hb,h.q.below hb,h.pf,h.qf,h.ap,h.bel.trans (hb.mono h.bel.size)⟩
theorem Two.left (h : Two w0 size F g d G r e w) (ho : DiskOpD w F g size d' w1) : ∃ F',Two w0 size F' g d' G r e w1∧Only F w w1∧Grows F F' w:=by
  obtain ⟨F',h1,h2,h3⟩:=ho;refine ⟨F',⟨h1,h.q.keep (h2.keeps (fun k hk q=>h.ap k q hk) h.q.lt),fun k hk=>?_,h.qf,fun k hk q=>?_,h.bel.trans (h2.to_below h.pf h.bel.size)⟩,h2,h3⟩
  · rcases h3 k hk with q | q
    · exact h.pf k q
    · have:=h.bel.size;omega
  · rcases h3 k hk with y | y
    · exact h.ap k y q
    · have:=h.q.lt k q;omega
theorem Two.right (h : Two w0 size F g d G r e w) (ho : RefOpD w G r size e' w1) : ∃ G',Two w0 size F g d G' r e' w1∧Only G w w1∧Grows G G' w:=by
  obtain ⟨G',h1,h2,h3⟩:=ho;refine ⟨G',⟨h.p.keep (h2.keeps (fun k hk q=>h.ap k hk q) h.p.lt),h1,h.pf,fun k hk=>?_,fun k hk q=>?_,h.bel.trans (h2.to_below h.qf h.bel.size)⟩,h2,h3⟩
  · rcases h3 k hk with q | q
    · exact h.qf k q
    · have:=h.bel.size;omega
  · rcases h3 k q with y | y
    · exact h.ap k hk y
    · have:=h.p.lt k hk;omega
structure Half (w0 : World) (size : Nat) (S : Sd) (s : SoV) (G : Nat→Prop) (r : Nat) (e : Db) (w : World) : Prop where
  p : PS w0 size S s w
  q : RefD w G r size e
  qf : ∀ k,G k→w0.heap.size≤k
  ap : ∀ k,s.foot k→¬ G k
  bel : Below w0.heap.size w0 w
theorem Two.open_ (h : Two w0 size F g d G r e w) {x : Ending} (ho : OpenE w F g size d x w1) : ∃ l rr,Parts d.v l rr∧Only F w w1∧match recsE ⟨0,0,[]⟩ l with
    | some z=>∃ s,s.g = g∧x = .returned (.tuple #[.pointer (some ⟨s.b,0,none⟩),.int .i64 0])∧Half w0 size ⟨mendD d l,z.u,z.u,z.i⟩ s G r e w1∧s.evs = z.l
    | none=>x = .returned (.tuple #[.pointer none,.int .i64 4])∧∃ F',Two w0 size F' g (mendD d l) G r e w1:=by
  obtain ⟨l,rr,F',hp,o,gr,hm⟩:=ho;refine ⟨l,rr,hp,o,?_⟩;have hq:=h.q.keep (o.keeps (fun k hk q=>h.ap k q hk) h.q.lt);have hb:=h.bel.trans (o.to_below h.pf h.bel.size);have hz:=h.bel.size
  cases hr : recsE ⟨0,0,[]⟩ l with
  | none =>
    rw [hr] at hm;exact ⟨hm.1,F',hm.2,hq,fun k hk=>(gr k hk).elim (h.pf k) fun q=>by omega,h.qf,fun k hk q=>(gr k hk).elim (fun y=>h.ap k y q) fun y=>by have:=h.q.lt k q;omega,hb⟩
  | some z =>
    rw [hr] at hm;obtain ⟨b,A,n,c,xs,h1,h2,h3,h4,h5⟩:=hm
    have hf : ∀ k,(⟨F',b,g,A,n,c,xs⟩ : SoV).foot k→F k∨w.heap.size≤k:=fun k hk=>by
      rcases hk with q | q | q
      · exact gr k q
      · exact .inr (by rw [q];exact h5)
      · exact .inr (h3.evlt k q).1
    refine ⟨⟨F',b,g,A,n,c,xs⟩,rfl,h1,⟨⟨h2,?_,fun k hk=>(hf k hk).elim (h.pf k) fun q=>by omega⟩,hq,h.qf,fun k hk q=>(hf k hk).elim (fun y=>h.ap k y q) fun y=>by have:=h.q.lt k q;omega,hb⟩,h4⟩;exact ⟨h3.row.mono hz,fun x hx=>⟨(h3.own x hx).1,(h3.own x hx).2.1.mono hz,(h3.own x hx).2.2⟩,h3.nf,h3.nfx⟩
theorem Half.open_ (h : Half w0 size S s G r e w) {x : Ending} (ho : ROpenE w G r size e x w1) {l : List (List UInt8)} {rr : List UInt8} {z : RS} (hp : Parts e.v l rr) (hr : recsE ⟨0,0,[]⟩ l = some z) :
    Only G w w1∧∃ t,t.g = r∧x = .returned (.tuple #[.pointer (some ⟨t.b,0,none⟩),.int .i64 0])∧Pr w0 size S ⟨mendD e l,z.u,z.u,z.i⟩ s t w1∧t.evs = z.l:=by
  obtain ⟨l',r',F',hp',o,gr,hm⟩:=ho;obtain ⟨rfl,rfl⟩:=hp.same hp';refine ⟨o,?_⟩;have hq:=h.p.keepO o h.ap;have hb:=h.bel.trans (o.to_below h.qf h.bel.size);have hz:=h.bel.size;rw [hr] at hm;obtain ⟨b,A,n,c,xs,h1,h2,h3,h4,h5⟩:=hm
  have hf : ∀ k,(⟨F',b,r,A,n,c,xs⟩ : SoV).foot k→G k∨w.heap.size≤k:=fun k hk=>by
    rcases hk with q | q | q
    · exact gr k q
    · exact .inr (by rw [q];exact h5)
    · exact .inr (h3.evlt k q).1
  refine ⟨⟨F',b,r,A,n,c,xs⟩,rfl,h1,⟨hq,⟨h2,?_,fun k hk=>(hf k hk).elim (h.qf k) fun q=>by omega⟩,fun k hk q=>(hf k q).elim (fun y=>h.ap k hk y) fun y=>by have:=h.p.lt k hk;omega,hb⟩,h4⟩;exact ⟨h3.row.mono hz,fun x hx=>⟨(h3.own x hx).1,(h3.own x hx).2.1.mono hz,(h3.own x hx).2.2⟩,h3.nf,h3.nfx⟩
theorem Two.open_bad (h : Two w0 size F g d G r e w) {x : Ending} (ho : ROpenE w G r size e x w1) {l : List (List UInt8)} {rr : List UInt8} (hp : Parts e.v l rr) (hr : recsE ⟨0,0,[]⟩ l = none) :
    Only G w w1∧x = .returned (.tuple #[.pointer none,.int .i64 4])∧∃ G',Two w0 size F g d G' r (mendD e l) w1:=by
  obtain ⟨l',r',F',hp',o,gr,hm⟩:=ho;obtain ⟨rfl,rfl⟩:=hp.same hp';refine ⟨o,?_⟩;have hz:=h.bel.size;rw [hr] at hm;exact ⟨hm.1,F',h.p.keep (o.keeps (fun k hk q=>h.ap k hk q) h.p.lt),hm.2,h.pf,fun k hk=>(gr k hk).elim (h.qf k) fun q=>by omega,fun k hk q=>(gr k q).elim (fun y=>h.ap k hk y) fun y=>by have:=h.p.lt k hk;omega,h.bel.trans (o.to_below h.qf h.bel.size)⟩
end
def Db.fits (size : Nat) (d : Db) : Prop:=Fits size d.lasts d.ws∧d.lasts.length + mass d.ws≤40000∧d.ws.length≤9∧size≤16384
theorem Db.of_fits {size : Nat} {b : List UInt8} (hs : size≤16384) (h : b.length≤size) : (Db.of b).fits size:=⟨⟨fun _=>h,fun x hx=>by cases hx⟩,by show b.length + 0≤_;omega,Nat.zero_le _,hs⟩
theorem Db.app_fits {size : Nat} {d : Db} {x : List UInt8} (hs : size≤16384) (h : d.length + x.length≤size) : (d ++ x).fits size:=Db.of_fits (b:=d.v ++ x) hs (by rw [List.length_append];exact h)
theorem Db.fits_len {size : Nat} {d : Db} (h : d.fits size) : d.length≤size:=Fits.read h.1
theorem Db.fits_ok {size : Nat} {d : Db} (h : d.fits size) : d.ok:=⟨by have:=h.2.1;omega,by have:=h.2.2.1;omega,by have:=h.2.1;have:=h.2.2.1;have:=pend_le d.ws;omega⟩
theorem Db.mend_fits {size : Nat} {d : Db} (l : List (List UInt8)) (h : d.fits size) : (mendD d l).fits size:=by
  have:=Db.fits_len h
  unfold mendD
  split
  · exact Db.of_fits h.2.2.2 (by omega)
  · exact h
structure GoodS (size : Nat) (S : Sd) : Prop where
  u : S.used≤S.upto
  p : S.upto≤96
  i : S.inc≤1099511627776
  b : S.b.fits size
theorem GoodS.len {size : Nat} {S : Sd} (h : GoodS size S) : S.b.length≤size:=Db.fits_len h.b
def GoodE (m : Nat) (l : List Ev) : Prop:=l.length≤m∧∀ e ∈ l,e.l.length≤3000
theorem next_out (size : Nat) (S : Sd) (h : GoodS size S) : GoodS size (nextD size S).2.2:=by
  have h1:=h.u;have h2:=h.p
  unfold nextD
  split
  · exact ⟨by simp only;omega,h.p,h.i,h.b⟩
  · split
    · exact h
    · split
      · rename_i q
        exact ⟨by simp only;omega,by simp only;omega,h.i,Db.app_fits h.b.2.2.2 q⟩
      · exact h
theorem bump_out (size : Nat) (S : Sd) (h : GoodS size S) : GoodS size (bumpD size S).2.2:=by
  unfold bumpD
  split
  · exact h
  · split
    · rename_i q
      exact ⟨h.u,h.p,by simp only;omega,Db.app_fits h.b.2.2.2 q⟩
    · exact h
theorem keep_out (size : Nat) (S : Sd) (evs : List Ev) (x : Ev) (h : GoodS size S) {m : Nat} (he : GoodE m evs) (hx : x.l.length≤3000) : GoodS size (keepD size S evs x).2.1∧GoodE (m + 1) (keepD size S evs x).2.2:=by
  have he1 : GoodE (m + 1) evs:=⟨by have:=he.1;omega,he.2⟩
  unfold keepD
  split
  · exact ⟨h,he1⟩
  · split
    · exact ⟨h,he1⟩
    · split
      · rename_i q
        refine ⟨⟨h.u,h.p,h.i,Db.app_fits h.b.2.2.2 q⟩,⟨by simp only [List.length_append,List.length_cons,List.length_nil];have:=he.1;omega,fun e hq=>?_⟩⟩
        rcases List.mem_append.1 hq with q | q
        · exact he.2 e q
        · rw [List.mem_singleton.1 q];exact hx
      · exact ⟨h,he1⟩
theorem compact_out (size : Nat) (S : Sd) (evs l : List Ev) (h : GoodS size S) {m : Nat} (he : GoodE m evs) (hl : GoodE m l) : GoodS size (compactD size S evs l).2.1∧GoodE (m + 1) (compactD size S evs l).2.2:=by
  have he1 : GoodE (m + 1) evs:=⟨by have:=he.1;omega,he.2⟩;have hl1 : GoodE (m + 1) l:=⟨by have:=hl.1;omega,hl.2⟩
  unfold compactD
  split
  · split
    · exact ⟨⟨h.u,h.p,h.i,Db.of_fits h.b.2.2.2 (by assumption)⟩,hl1⟩
    · exact ⟨h,he1⟩
  · exact ⟨h,he1⟩
theorem numM_max {most m : Nat} {t : List UInt8} (h : numM most t = some m) : m≤most:=by
  unfold numM at h
  split at h
  · split at h
    · injection h with h;omega
    · cases h
  · cases h
structure GoodR (n : Nat) (s : RS) : Prop where
  u : s.u≤96
  i : s.i≤1099511627776
  l : s.l.length≤n
  e : ∀ e ∈ s.l,e.l.length≤3000
theorem recE_good {s s' : RS} {n : Nat} {bs : List UInt8} (h : GoodR n s) (hr : recE s bs = some s') : GoodR (n + 1) s':=by
  have hl:=recE_len hr;have h1:=h.u;have h2:=h.i;have h3:=h.l
  rcases bs with _ | ⟨k,t⟩
  · cases hr
  rw [recE_cons] at hr
  split at hr
  · split at hr
    · injection hr with hr
      subst hr;refine ⟨h.u,h.i,by omega,fun e he=>?_⟩;have he : e ∈ addE s.l (getEv t).1:=he
      unfold addE at he
      split at he
      · exact h.e e he
      · rcases List.mem_append.1 he with q | q
        · exact h.e e q
        · rw [List.mem_singleton.1 q];have:=(getEv_facts t).2;omega
    · cases hr
  · unfold recM at hr
    simp only at hr
    split at hr
    · cases hq : numM 96 t with
      | none=>rw [hq] at hr;cases hr
      | some m =>
        rw [hq] at hr
        simp only [Option.map_some,Option.some.injEq] at hr
        subst hr
        have:=numM_max hq
        exact ⟨by simp only;omega,h.i,by simp only;omega,h.e⟩
    · split at hr
      · cases hq : numM 1099511627776 t with
        | none=>rw [hq] at hr;cases hr
        | some m =>
          rw [hq] at hr
          simp only [Option.map_some,Option.some.injEq] at hr
          subst hr
          have:=numM_max hq
          exact ⟨h.u,by simp only;omega,by simp only;omega,h.e⟩
      · cases hr
theorem recsE_good (l : List (List UInt8)) : ∀ {s s' : RS} {n : Nat},GoodR n s→recsE s l = some s'→GoodR (n + l.length) s':=by
  induction l with
  | nil=>intro s s' n h hr;injection hr with hr;subst hr;exact h
  | cons r l ih =>
    intro s s' n h hr;have hr : (match recE s r with | none=>none | some s'=>recsE s' l) = some s':=hr
    cases hq : recE s r with
    | none=>rw [hq] at hr;cases hr
    | some z =>
      rw [hq] at hr
      have:=ih (recE_good h hq) hr
      rw [List.length_cons];exact ⟨this.u,this.i,by have:=this.l;omega,this.e⟩
theorem opened_good {size : Nat} {d : Db} {l : List (List UInt8)} {rr : List UInt8} {z : RS} (hp : Parts d.v l rr) (hs : d.fits size) (hr : recsE ⟨0,0,[]⟩ l = some z) : GoodS size ⟨mendD d l,z.u,z.u,z.i⟩∧GoodE size z.l:=by
  have hpl:=parts_le hp;have hd : d.length = d.v.length:=rfl;have hl:=Db.fits_len hs;have hg:=recsE_good l (n:=0) ⟨Nat.zero_le _,Nat.zero_le _,Nat.le_refl _,fun e he=>by simp at he⟩ hr;exact ⟨⟨Nat.le_refl _,hg.u,hg.i,Db.mend_fits l hs⟩,by have:=hg.l;omega,hg.e⟩
def appendD (size : Nat) (d : Db) (x : List UInt8) : Nat × Db:=if d.length + x.length≤size then (0,⟨d.lasts,d.ws ++ [(false,x)]⟩) else (7,d)
def crashD (d : Db) (n : Nat) : Db:=Db.of (afterL d.lasts d.ws n)
theorem append_out {size : Nat} {d : Db} (x : List UInt8) (h : d.fits size) : Fits size (appendD size d x).2.lasts (appendD size d x).2.ws∧(appendD size d x).2.ok:=by
  obtain ⟨h0,h1,h2,hs⟩:=h;have hpl:=pend_le d.ws
  by_cases q : d.length + x.length≤size
  · have hx : x.length≤16384:=by omega
    rw [show appendD size d x = (0,⟨d.lasts,d.ws ++ [(false,x)]⟩) from if_pos q];refine ⟨Fits.app h0 q,?_,?_,?_⟩
    · show d.lasts.length + mass (d.ws ++ [(false,x)])≤_
      rw [mass_append]
      simp [mass]
      omega
    · show (d.ws ++ [(false,x)]).length≤_
      simp
      omega
    · show pend (d.ws ++ [(false,x)])≤_
      have:=pend_le (d.ws ++ [(false,x)])
      rw [mass_append] at this
      simp [mass] at this
      omega
  · rw [show appendD size d x = (7,d) from if_neg q]
    exact ⟨h0,Db.fits_ok ⟨h0,h1,h2,hs⟩⟩
theorem append_first {size : Nat} (x : List UInt8) (hs : size≤16384) : (appendD size ⟨[],[]⟩ x).2.fits size:=by
  by_cases q : (Db.mk [] []).length + x.length≤size
  · rw [show appendD size ⟨[],[]⟩ x = (0,⟨[],[(false,x)]⟩) from if_pos q]
    refine ⟨Fits.app (ws:=[]) (Fits.empty size) q,?_,?_,hs⟩
    · show 0 + (x.length + 0)≤_
      omega
    · show 1≤9
      omega
  · rw [show appendD size ⟨[],[]⟩ x = (7,⟨[],[]⟩) from if_neg q]
    exact ⟨Fits.empty size,by show 0 + 0≤_;omega,by show 0≤9;omega,hs⟩
theorem crash_fits {size : Nat} {d : Db} (n : Nat) (hs : size≤16384) (h : Fits size d.lasts d.ws) : (crashD d n).fits size:=Db.of_fits hs (h.1 n)
theorem dappend_any (A : Option Addr) (n c B : Nat) (bs : List UInt8) (F : Nat→Prop) (g size : Nat) (d : Db) (w : World) (hD : DiskD w F g size d) (hs : size≤16384) (hok : (appendD size d bs).2.ok) (hb : RdB w B A n bs) :
    Calls Tryz.prog 10 #[.pointer (some ⟨g,0,none⟩),.slice A n c] w (DLogEnd w F g size (appendD size d bs)):=by
  have hn:=hb.1;have h1:=hD.2.1;have h2:=hD.2.2.1
  by_cases h : d.length + bs.length≤size
  · have he : appendD size d bs = (0,⟨d.lasts,d.ws ++ [(false,bs)]⟩):=if_pos h
    rw [he] at hok ⊢
    exact (append_any A n c B bs F g size d.lasts d.ws w hD.1 (by omega) (by omega) (by omega) hb (by have e : d.length = (readL d.lasts d.ws).length:=rfl;omega)).mono fun e w' ⟨he,ho⟩=>⟨he,DiskOpD.of ho hok⟩
  · have he : appendD size d bs = (7,d):=if_neg h
    rw [he]
    exact (append_full A n c F g size d.lasts d.ws w hD.1 (by omega) (by omega) (by omega) (by have e : d.length = (readL d.lasts d.ws).length:=rfl;omega)).mono fun e w' ⟨he,hb⟩=>⟨he,F,hD.below hb,Only.of_below F hb,Grows.refl _ _⟩
theorem rdappend_any (A : Option Addr) (n c B : Nat) (bs : List UInt8) (F : Nat→Prop) (g size : Nat) (d : Db) (w : World) (hD : RefD w F g size d) (hs : size≤16384) (hok : (appendD size d bs).2.ok) (hb : RdB w B A n bs) (hB : B≤w.heap.size) (hFB : ∀ k,F k→B≤k) (hn2 : n≤140737488351232) :
    Calls Tryz.prog 11 #[.pointer (some ⟨g,0,none⟩),.slice A n c] w (RDLogEnd w F g size (appendD size d bs)):=by
  have hn:=hb.1;have h1:=hD.2.1;have h2:=hD.2.2.2
  by_cases h : d.length + bs.length≤size
  · have he : appendD size d bs = (0,⟨d.lasts,d.ws ++ [(false,bs)]⟩):=if_pos h
    rw [he] at hok ⊢
    refine (rappend_any A n c B bs F g size d.lasts (exp d.ws) w hD.1 (by rw [exp_mass];omega) (by rw [exp_length];omega) hb hB hFB hs (by rw [after_all];have e : d.length = (readL d.lasts d.ws).length:=rfl;omega)).mono fun e w' ⟨he,ho⟩=>⟨he,?_⟩
    rw [← exp_app] at ho;exact RefOpD.of ho hok
  · have he : appendD size d bs = (7,d):=if_neg h
    rw [he]
    exact (rappend_full A n c F g size d.lasts (exp d.ws) w hD.1 (by rw [exp_mass];omega) (by omega) (by rw [after_all];have e : d.length = (readL d.lasts d.ws).length:=rfl;omega)).mono fun e w' ⟨he,hb⟩=>⟨he,F,hD.below hb,Only.of_below F hb,Grows.refl _ _⟩
theorem dcrash_any (keep : Int) (F : Nat→Prop) (g size : Nat) (d : Db) (w : World) (hD : DiskD w F g size d) (hs : size≤16384) (hf : Fits size d.lasts d.ws) (h2 : keep≤9223372036854775807) :
    Calls Tryz.prog 24 #[.pointer (some ⟨g,0,none⟩),.int .i64 keep] w fun e w'=>e = .returned (.tuple #[])∧DiskOpD w F g size (crashD d keep.toNat) w':=by
  have h1:=hD.2.1;have h3:=hD.2.2.1;have hok:=Db.fits_ok (crash_fits (size:=size) keep.toNat hs hf)
  by_cases h : keep < 0
  · rw [show keep.toNat = 0 by omega] at hok ⊢
    exact (crash_neg keep F g size d.lasts d.ws w hD.1 (by omega) (by omega) h).mono fun e w' ⟨he,ho⟩=>⟨he,DiskOpD.of ho hok⟩
  · obtain ⟨k,rfl⟩:=Int.eq_ofNat_of_zero_le (show 0≤keep by omega)
    exact (crash_nat k F g size d.lasts d.ws w hD.1 (by omega) (by omega) (by omega)).mono fun e w' ⟨he,ho⟩=>⟨he,DiskOpD.of ho hok⟩
theorem rdcrash_any (keep : Int) (F : Nat→Prop) (g size : Nat) (d : Db) (w : World) (hD : RefD w F g size d) (hs : size≤16384) (hf : Fits size d.lasts d.ws) (h0 : -9223372036854775808≤keep) (h2 : keep≤9223372036854775807) :
    Calls Tryz.prog 25 #[.pointer (some ⟨g,0,none⟩),.int .i64 keep] w fun e w'=>e = .returned (.tuple #[])∧RefOpD w F g size (crashD d keep.toNat) w':=by
  have h1:=hD.2.1;have h3:=hD.2.2.2;have hok:=Db.fits_ok (crash_fits (size:=size) keep.toNat hs hf)
  refine (rcrash_nat keep.toNat F g size d.lasts (exp d.ws) w hD.1 (by rw [exp_mass];omega) (by rw [exp_length];omega) keep rfl h0 h2).mono fun e w' ⟨he,ho⟩=>⟨he,?_⟩
  rw [after_exp] at ho;exact RefOpD.of ho hok
theorem dread_any (F : Nat→Prop) (g size : Nat) (d : Db) (w : World) (hD : DiskD w F g size d) :
    Calls Tryz.prog 27 #[.pointer (some ⟨g,0,none⟩)] w (GiveB w d.v):=by
  have h1:=hD.2.1;have h3:=hD.2.2.1;exact _root_.Go.Proofs.YtfpenfgmpbdakaaGreat.read_any F g size d.lasts d.ws w hD.1 (by omega) (by omega)
theorem rdread_any (F : Nat→Prop) (g size : Nat) (d : Db) (w : World) (hD : RefD w F g size d) :
    Calls Tryz.prog 28 #[.pointer (some ⟨g,0,none⟩)] w (GiveB w d.v):=by
  have h1:=hD.2.1;have h:=rread_any F g size d.lasts (exp d.ws) w hD.1 (by rw [exp_mass];omega);rw [after_all] at h;exact h
end Sto.Stp
end Go.Proofs.YtfpenfgmpbdakaaGreat

namespace Go.Proofs.YtfpenfgmpbdakaaGreat
set_option linter.unusedVariables false
set_option linter.unusedSimpArgs false
set_option maxRecDepth 100000
open Go.RowKit
open Dot Evt
open Disk
namespace Sto.Stp
open _root_.Go.Proofs.YtfpenfgmpbdakaaGreat.Frame (frm frms frms_nil frms_cons frms_snoc frms_append frm_length frm_pos Parts AllF)
def HalfN (w0 : World) (size g r : Nat) (d : Db) (hc : Nat) (sv : Value) (w : World) : Prop:=∃ l rr,Parts d.v l rr∧match recsE ⟨0,0,[]⟩ l with
  | some z=>hc = 0∧∃ s G,s.g = g∧sv = .pointer (some ⟨s.b,0,none⟩)∧Half w0 size ⟨mendD d l,z.u,z.u,z.i⟩ s G r d w∧s.evs = z.l
  | none=>hc = 4∧sv = .pointer none∧∃ F G,Two w0 size F g (mendD d l) G r d w
def NowS (w0 : World) (size g r m : Nat) (sv tv : Value) (w : World) : Prop:=∃ S s t,s.g = g∧t.g = r∧sv = .pointer (some ⟨s.b,0,none⟩)∧tv = .pointer (some ⟨t.b,0,none⟩)∧Pr w0 size S S s t w∧t.evs = s.evs∧GoodS size S∧GoodE m s.evs
def NowN (w0 : World) (size g r : Nat) (sv tv : Value) (w : World) : Prop:=sv = .pointer none∧tv = .pointer none∧∃ F G d,Two w0 size F g d G r d w∧d.fits size
def Now (w0 : World) (size g r m hc : Nat) (sv tv : Value) (w : World) : Prop:=(hc = 0∧NowS w0 size g r m sv tv w)∨(hc = 4∧NowN w0 size g r sv tv w)
section
variable {w0 w w1 : World} {size g r m m' hc : Nat} {d : Db} {sv tv : Value} {F G : Nat→Prop}
theorem Two.call1 (h : Two w0 size F g d G r d w) (hf : d.fits size) :
    Calls Tryz.prog 12 #[.pointer (some ⟨g,0,none⟩)] w fun e w'=>∃ hc sv,e = .returned (.tuple #[sv,.int .i64 (hc : Nat)])∧HalfN w0 size g r d hc sv w':=by
  refine (opene_any F g size d w h.p (Db.fits_len hf) hf.2.2.2).mono ?_;intro e w' ho;obtain ⟨l,rr,hp,o,hm⟩:=h.open_ ho
  cases hr : recsE ⟨0,0,[]⟩ l with
  | none =>
    rw [hr] at hm;obtain ⟨h1,F',h2⟩:=hm;exact ⟨4,_,h1,l,rr,hp,by rw [hr];exact ⟨rfl,rfl,F',G,h2⟩⟩
  | some z =>
    rw [hr] at hm;obtain ⟨s,h1,h2,h3,h4⟩:=hm;exact ⟨0,_,h2,l,rr,hp,by rw [hr];exact ⟨rfl,s,G,h1,rfl,h3,h4⟩⟩
theorem HalfN.call2 (h : HalfN w0 size g r d hc sv w) (hf : d.fits size) (hm : size≤m) :
    Calls Tryz.prog 13 #[.pointer (some ⟨r,0,none⟩)] w fun e w'=>∃ tv,e = .returned (.tuple #[tv,.int .i64 (hc : Nat)])∧Now w0 size g r m hc sv tv w':=by
  obtain ⟨l,rr,hp,h⟩:=h
  cases hr : recsE ⟨0,0,[]⟩ l with
  | none =>
    rw [hr] at h;obtain ⟨rfl,rfl,F,G,h⟩:=h;refine (ropen_any G r size d w h.q (Db.fits_len hf) hf.2.2.2).mono ?_;intro e w' ho;obtain ⟨o,h1,G',h2⟩:=h.open_bad ho hp hr;exact ⟨_,h1,.inr ⟨rfl,rfl,rfl,F,G',_,h2,Db.mend_fits l hf⟩⟩
  | some z =>
    rw [hr] at h;obtain ⟨rfl,s,G,h1,rfl,h,h2⟩:=h;refine (ropen_any G r size d w h.q (Db.fits_len hf) hf.2.2.2).mono ?_;intro e w' ho;obtain ⟨o,t,e1,e2,e3,e4⟩:=h.open_ ho hp hr;obtain ⟨g1,g2⟩:=opened_good hp hf hr;exact ⟨_,e2,.inl ⟨rfl,_,s,t,h1,e1,rfl,rfl,e3,by rw [e4,h2],g1,by rw [h2];exact ⟨Nat.le_trans g2.1 hm,g2.2⟩⟩⟩
theorem Now.two (h : Now w0 size g r m hc sv tv w) : ∃ F G d,Two w0 size F g d G r d w∧d.fits size:=by
  rcases h with ⟨_,S,s,t,h1,h2,_,_,h,_,h3,_⟩ | ⟨_,_,_,F,G,d,h,h3⟩
  · have h:=h.two
    rw [h1,h2] at h;exact ⟨_,_,_,h,h3.b⟩
  · exact ⟨F,G,d,h,h3⟩
theorem Now.below (h : Now w0 size g r m hc sv tv w) (hb : Below w.heap.size w w1) : Now w0 size g r m hc sv tv w1:=by
  rcases h with ⟨h0,S,s,t,h1,h2,h3,h4,h,h5,h6,h7⟩ | ⟨h0,h1,h2,F,G,d,h,h3⟩
  · exact .inl ⟨h0,S,s,t,h1,h2,h3,h4,h.below hb,h5,h6,h7⟩
  · exact .inr ⟨h0,h1,h2,F,G,d,h.below hb,h3⟩
theorem Now.more (h : Now w0 size g r m hc sv tv w) (hm : m≤m') : Now w0 size g r m' hc sv tv w:=by
  rcases h with ⟨h0,S,s,t,h1,h2,h3,h4,h,h5,h6,h7⟩ | h
  · exact .inl ⟨h0,S,s,t,h1,h2,h3,h4,h,h5,h6,Nat.le_trans h7.1 hm,h7.2⟩
  · exact .inr h
theorem Now.bel (h : Now w0 size g r m hc sv tv w) : Below w0.heap.size w0 w:=by
  obtain ⟨F,G,d,h,_⟩:=h.two;exact h.bel
theorem Now.of {S : Sd} {s t s' t' : SoV} (hsg : s.g = g) (htg : t.g = r) (e1 : s'.b = s.b) (e2 : s'.g = s.g) (f1 : t'.b = t.b) (f2 : t'.g = t.g) (h : Pr w0 size S S s' t' w) (hev : t'.evs = s'.evs) (hg : GoodS size S) (he : GoodE m s'.evs) :
    Now w0 size g r m 0 (.pointer (some ⟨s.b,0,none⟩)) (.pointer (some ⟨t.b,0,none⟩)) w:=.inl ⟨rfl,S,s',t',e2.trans hsg,f2.trans htg,by rw [e1],by rw [f1],h,hev,hg,he⟩
end
theorem OwnD.onlyG {w w1 : World} {G : Nat→Prop} {base m c : Nat} {A : Option Addr} {l : List Dt} (h : OwnD w base A m c l) (ho : Only G w w1) (hG : ∀ k,G k→k < base) : OwnD w1 base A m c l :=
  ⟨h.1,ownsRow_keep h.2 fun k hk=>ho.block k (h.lt k hk).2 fun q=>by have:=hG k q;have:=(h.lt k hk).1;omega⟩
theorem OwnEv.onlyG {w w1 : World} {G : Nat→Prop} {base n' c' : Nat} {A' : Option Addr} {ys : List EvV} (h : OwnEv w base A' n' c' ys) (ho : Only G w w1) (hG : ∀ k,G k→k < base) : OwnEv w1 base A' n' c' ys :=
  ⟨h.1,ownsRow_keep h.2 fun k hk=>ho.block k (h.lt k hk).2 fun q=>by have:=hG k q;have:=(h.lt k hk).1;omega⟩
theorem EvOwn.onlyG {w w1 : World} {G : Nat→Prop} {base : Nat} {y : EvV} (h : EvOwn w base y) (ho : Only G w w1) (hG : ∀ k,G k→k < base) : EvOwn w1 base y:=⟨h.1,OwnD.onlyG h.2.1 ho hG,h.2.2⟩
theorem PS.small {w0 w : World} {size m : Nat} {S : Sd} {s : SoV} (h : PS w0 size S s w) (hg : GoodE m s.evs) : s.n≤m∧∀ y ∈ s.xs,y.m≤3000:=⟨by rw [h.ev.row.1,← List.length_map (f:=(·.e))];exact hg.1,fun y hy=>by rw [(h.ev.own y hy).2.1.1];exact hg.2 _ (List.mem_map_of_mem hy)⟩
theorem QS.small {w0 w : World} {size m : Nat} {S : Sd} {s : SoV} (h : QS w0 size S s w) (hg : GoodE m s.evs) : s.n≤m∧∀ y ∈ s.xs,y.m≤3000:=⟨by rw [h.ev.row.1,← List.length_map (f:=(·.e))];exact hg.1,fun y hy=>by rw [(h.ev.own y hy).2.1.1];exact hg.2 _ (List.mem_map_of_mem hy)⟩
section
variable {w0 w : World} {size M B n2 c2 : Nat} {S T : Sd} {s t : SoV}
theorem Pr.keep1 (h : Pr w0 size S T s t w) (x : Ev) {A : Option Addr} {m c : Nat} (own : OwnD w B A m c x.l) (hB : ∀ k,s.foot k→k < B) (h7 : x.p.length = 7) (hm : m≤3000) (hg : GoodS size S) (he : GoodE M s.evs) (hM : M≤100000) :
    Calls Tryz.prog 18 #[.pointer (some ⟨s.b,0,none⟩),.agg (ec x (.slice A m c))] w fun e w'=>e = .returned (.int .i64 ((keepD size S s.evs x).1 : Nat))∧∃ s',s'.b = s.b∧s'.g = s.g∧Pr w0 size (keepD size S s.evs x).2.1 T s' t w'∧s'.evs = (keepD size S s.evs x).2.2∧Only s.foot w w':=by
  have hs:=(h.p.small he).1;have hl:=hg.len;have h16:=hg.b.2.2.2;refine (keep_any ⟨x,A,m,c⟩ S s.F s.b s.g size w0.heap.size s.A s.n s.c s.xs w h.p.at_ h.p.ev (fun w' ho=>EvOwn.ok (base:=B) ⟨h7,OwnD.onlyG own ho (fun k hk=>hB k (hk.imp id .inl)),by show m≤_;omega⟩) (by show m≤_;omega) (by omega) h.bel.size (by omega) (by omega)).mono ?_;rintro e w' ⟨he,ho⟩;exact ⟨he,h.left ho⟩
theorem Pr.keep2 (h : Pr w0 size S T s t w) (x : EvV) (hx : ∀ w',Below w0.heap.size w0 w'→EvOk w' w0.heap.size x) (hm : x.m≤3000) (hg : GoodS size T) (he : GoodE M t.evs) (hM : M≤100000) :
    Calls Tryz.prog 20 #[.pointer (some ⟨t.b,0,none⟩),.agg x.cs] w fun e w'=>e = .returned (.int .i64 ((keepD size T t.evs x.e).1 : Nat))∧∃ t',t'.b = t.b∧t'.g = t.g∧Pr w0 size S (keepD size T t.evs x.e).2.1 s t' w'∧t'.evs = (keepD size T t.evs x.e).2.2∧Only t.foot w w':=by
  have hs:=(h.q.small he).1;have hl:=hg.len;have h16:=hg.b.2.2.2;refine (rkeep_any x T t.F t.b t.g size w0.heap.size t.A t.n t.c t.xs w h.q.at_ h.q.ev (fun w' ho=>?_) (by omega) (by omega) h.bel.size (by omega) (by omega)).mono ?_
  · have hb:=h.bel.trans (ho.to_below (B:=w0.heap.size) (fun k hk=>h.q.fs k (hk.imp id .inl)) h.bel.size)
    exact (hx w' hb).more hb.size
  · rintro e w' ⟨he,ho⟩
    exact ⟨he,h.right ho⟩
theorem Pr.compact1 (h : Pr w0 size S T s t w) {A2 : Option Addr} {ys : List EvV} (oe : OwnEv w B A2 n2 c2 ys) (oy : ∀ y ∈ ys,EvOwn w B y) (hB : ∀ k,s.foot k→k < B) (hm : ∀ y ∈ ys,y.m≤3000) (hn2 : n2≤100000) (hg : GoodS size S) (he : GoodE M s.evs) (hM : M≤100000) :
    Calls Tryz.prog 21 #[.pointer (some ⟨s.b,0,none⟩),.slice A2 n2 c2] w fun e w'=>e = .returned (.int .i64 ((compactD size S s.evs (ys.map (·.e))).1 : Nat))∧∃ s',s'.b = s.b∧s'.g = s.g∧Pr w0 size (compactD size S s.evs (ys.map (·.e))).2.1 T s' t w'∧s'.evs = (compactD size S s.evs (ys.map (·.e))).2.2∧Only s.foot w w':=by
  have hs:=(h.p.small he).1;have hl:=hg.len;have h16:=hg.b.2.2.2;have hle:=ownsRow_le oe.2;refine (compact_any S s.F s.b s.g size w0.heap.size s.A s.n s.c s.xs A2 n2 c2 ys w h.p.at_ h.p.ev (fun w' ho=>?_) (fun y hy=>by have:=hm y hy;omega) hn2 hle.1 hle.2 h.bel.size (by omega) (by omega) hg.p hg.i).mono ?_
  · have hF : ∀ k,s.F k∨k = s.b→k < B:=fun k hk=>hB k (hk.imp id .inl)
    exact (OwnEv.onlyG oe ho hF).row (fun y hy=>EvOwn.ok (EvOwn.onlyG (oy y hy) ho hF))
  · rintro e w' ⟨he,ho⟩
    exact ⟨he,h.left ho⟩
theorem Pr.compact2 (h : Pr w0 size S T s t w) {A2 : Option Addr} {ys : List EvV} (hx : ∀ w',Below w0.heap.size w0 w'→RowEv w' w0.heap.size A2 n2 ys) (hm : ∀ y ∈ ys,y.m≤3000) (hn2 : n2≤100000) (hnc : n2≤c2) (hcm : c2≤maxLen) (hg : GoodS size T) (he : GoodE M t.evs) (hM : M≤100000) :
    Calls Tryz.prog 23 #[.pointer (some ⟨t.b,0,none⟩),.slice A2 n2 c2] w fun e w'=>e = .returned (.int .i64 ((compactD size T t.evs (ys.map (·.e))).1 : Nat))∧∃ t',t'.b = t.b∧t'.g = t.g∧Pr w0 size S (compactD size T t.evs (ys.map (·.e))).2.1 s t' w'∧t'.evs = (compactD size T t.evs (ys.map (·.e))).2.2∧Only t.foot w w':=by
  have hs:=(h.q.small he).1;have hl:=hg.len;have h16:=hg.b.2.2.2;refine (rcompact_any T t.F t.b t.g size w0.heap.size t.A t.n t.c t.xs A2 n2 c2 ys w h.q.at_ h.q.ev (fun w' ho=>?_) (fun y hy=>by have:=hm y hy;omega) hn2 hnc hcm h.bel.size (by omega) (by omega) hg.p hg.i).mono ?_
  · have hb:=h.bel.trans (ho.to_below (B:=w0.heap.size) (fun k hk=>h.q.fs k (hk.imp id .inl)) h.bel.size)
    exact (hx w' hb).more hb.size
  · rintro e w' ⟨he,ho⟩
    exact ⟨he,h.right ho⟩
theorem Pr.next1 (h : Pr w0 size S T s t w) (hg : GoodS size S) :
    Calls Tryz.prog 14 #[.pointer (some ⟨s.b,0,none⟩)] w fun e w'=>e = .returned (.tuple #[.int .i64 ((nextD size S).1 : Nat),.int .i64 ((nextD size S).2.1 : Nat)])∧∃ s',s'.b = s.b∧s'.g = s.g∧Pr w0 size (nextD size S).2.2 T s' t w'∧s'.evs = s.evs∧Only s.foot w w':=by
  have hl:=hg.len;have h16:=hg.b.2.2.2;refine (next_any S (.slice s.A s.n s.c) s.F s.b s.g size w h.p.at_ hg.u hg.p h16 (by omega)).mono ?_;rintro e w' ⟨he,ho⟩;exact ⟨he,h.left (h.p.eop ho)⟩
theorem Pr.next2 (h : Pr w0 size S T s t w) (hg : GoodS size T) :
    Calls Tryz.prog 15 #[.pointer (some ⟨t.b,0,none⟩)] w fun e w'=>e = .returned (.tuple #[.int .i64 ((nextD size T).1 : Nat),.int .i64 ((nextD size T).2.1 : Nat)])∧∃ t',t'.b = t.b∧t'.g = t.g∧Pr w0 size S (nextD size T).2.2 s t' w'∧t'.evs = t.evs∧Only t.foot w w':=by
  have hl:=hg.len;have h16:=hg.b.2.2.2;refine (rnext_any T (.slice t.A t.n t.c) t.F t.b t.g size w h.q.at_ hg.u hg.p h16 (by omega)).mono ?_;rintro e w' ⟨he,ho⟩;exact ⟨he,h.right (h.q.eop ho)⟩
theorem Pr.bump1 (h : Pr w0 size S T s t w) (hg : GoodS size S) :
    Calls Tryz.prog 16 #[.pointer (some ⟨s.b,0,none⟩)] w fun e w'=>e = .returned (.tuple #[.int .i64 ((bumpD size S).1 : Nat),.int .i64 ((bumpD size S).2.1 : Nat)])∧∃ s',s'.b = s.b∧s'.g = s.g∧Pr w0 size (bumpD size S).2.2 T s' t w'∧s'.evs = s.evs∧Only s.foot w w':=by
  have hl:=hg.len;have h16:=hg.b.2.2.2;refine (bump_any S (.slice s.A s.n s.c) s.F s.b s.g size w h.p.at_ hg.i h16 (by omega)).mono ?_;rintro e w' ⟨he,ho⟩;exact ⟨he,h.left (h.p.eop ho)⟩
theorem Pr.bump2 (h : Pr w0 size S T s t w) (hg : GoodS size T) :
    Calls Tryz.prog 17 #[.pointer (some ⟨t.b,0,none⟩)] w fun e w'=>e = .returned (.tuple #[.int .i64 ((bumpD size T).1 : Nat),.int .i64 ((bumpD size T).2.1 : Nat)])∧∃ t',t'.b = t.b∧t'.g = t.g∧Pr w0 size S (bumpD size T).2.2 s t' w'∧t'.evs = t.evs∧Only t.foot w w':=by
  have hl:=hg.len;have h16:=hg.b.2.2.2;refine (rbump_any T (.slice t.A t.n t.c) t.F t.b t.g size w h.q.at_ hg.i h16 (by omega)).mono ?_;rintro e w' ⟨he,ho⟩;exact ⟨he,h.right (h.q.eop ho)⟩
end
end Sto.Stp
end Go.Proofs.YtfpenfgmpbdakaaGreat

namespace Go.Proofs.YtfpenfgmpbdakaaGreat
set_option linter.unusedVariables false
set_option linter.unusedSimpArgs false
set_option maxRecDepth 100000
open Go.ChangeShapes Go.WideShapes Go.ChangeAt Go.RowKit Go.Deep
def Sz {H : Type} (t : TypeId) (d : DataW H) : Prop:=∀ n ∈ d.weights Tryz.prog t,n≤reachBytes
theorem sz_arg {H : Type} {ts : List TypeId} {ds : List (DataW H)} (h : (DataW.weightsEach Tryz.prog ts ds).all (·≤reachBytes) = true) {j : Nat} {t : TypeId} {d : DataW H} (ht : ts[j]? = some t) (hd : ds[j]? = some d) : Sz t d:=fun n hn=>by
  have:=List.all_eq_true.1 h n (DataW.weights_mem_each ht hd n hn)
  simpa using this
theorem weightsAll_mem {H : Type} {P : Program} {e : TypeId} {l : List (DataW H)} {d : DataW H} (hd : d ∈ l) : ∀ n ∈ d.weights P e,n ∈ DataW.weightsAll P e l:=by
  induction l with
  | nil=>cases hd
  | cons a r ih =>
    intro n hn
    simp only [DataW.weightsAll,List.mem_append]
    rcases List.mem_cons.1 hd with h | h
    · subst h;exact .inl hn
    · exact .inr (ih h n hn)
section
variable {H : Type} {enc : TypeId × Value→H} {W : World} {base : Nat} {sp : Nat→Bool} {held : Bool} {fuel : Nat} {cs : List Value} {x : DataW H × List MemPlace}
theorem rdz_field {t : TypeId} {fs : Array Field} (ht : (Tryz.prog).underlying t = some (.struct fs)) (hf : DataW.trod enc Tryz.prog W base sp held fuel t cs = some x) (hs : Sz t x.1) (j T o m : Nat)
    (hj : (fs[j]?).map (fun f=>(f.type,f.offset)) = some (T,o)) (hm : (Tryz.prog).cellsOf T = m) : ∃ n y,DataW.trod enc Tryz.prog W base sp held n T ((cs.drop o).take m) = some y∧Sz T y.1:=by
  obtain ⟨xs,n,_,hx,_,hxl,hg⟩:=DataW.trod_struct ht hf;obtain ⟨f,hf1,hf2⟩:=Option.map_eq_some_iff.1 hj
  injection hf2 with h1 h2
  have hjl : j < xs.length:=by
    rw [hxl];exact (Array.getElem?_eq_some_iff.1 hf1).1
  have h:=hg j f hf1;rw [h1,h2,hm,List.getElem?_eq_getElem hjl] at h;refine ⟨n,_,h,fun k hk=>hs k ?_⟩;rw [hx]
  simp only [DataW.weights,ht]
  refine DataW.weights_mem_each (j:=j) (t:=T) (d:=xs[j].1) ?_ ?_ k hk
  · rw [List.getElem?_map,Array.getElem?_toList,hf1];simp [h1]
  · rw [List.getElem?_map,List.getElem?_eq_getElem hjl];rfl
theorem rdz_slice {t e : TypeId} {m : Nat} (ht : (Tryz.prog).underlying t = some (.slice e)) (hm : (Tryz.prog).cellsOf e = m) (hf : DataW.trod enc Tryz.prog W base sp held fuel t cs = some x) (hs : Sz t x.1) :
    ∃ (a : Option Addr) (n cap : Nat),cs = [.slice a n cap]∧n≤cap∧cap≤maxLen∧n * (Tryz.prog).bytesOf e≤reachBytes∧∀ i,i < n→∃ (ad : Addr) (cs' : List Value) (fuel' : Nat) (x' : DataW H × List MemPlace),a = some ad∧cs'.length = m∧(∀ j,j < m→W.cell? ((ad.add (i * m)).add j) = cs'[j]?)∧DataW.trod enc Tryz.prog W base sp held fuel' e cs' = some x'∧Sz e x'.1:=by
  rcases open_slice ht hf with ⟨h0,_⟩ | ⟨a,len,cap,k,n,D,Pl,hcs,hb,hl,hc,hk,hx,hi⟩
  · exact ⟨none,0,0,h0,Nat.le_refl _,Nat.zero_le _,by simp,fun i h=>absurd h (Nat.not_lt_zero _)⟩
  · refine ⟨some a,len,cap,hcs,hl,hc,?_,fun i h=>?_⟩
    · have:=hs ((len + (k - len)) * (Tryz.prog).bytesOf e) (by rw [hx];simp [DataW.weights,ht])
      refine Nat.le_trans (Nat.mul_le_mul_right _ ?_) this
      omega
    · have hik : i < k:=by rw [hk];split <;> omega
      obtain ⟨cs',hc',ht'⟩:=hi i hik;rw [hm] at hc';obtain ⟨_,hcl,hat⟩:=World.cells?_some hc';refine ⟨a,cs',n,_,rfl,hcl,fun j hj=>hat j hj,ht',fun q hq=>hs q ?_⟩;rw [hx]
      simp only [DataW.weights,ht]
      refine List.mem_cons_of_mem _ (List.mem_append_left _ (weightsAll_mem (List.mem_map.2 ⟨i,by simpa using h,rfl⟩) q hq))
theorem bytesOf8 : (Tryz.prog).bytesOf 5 = 1:=by kernel_rfl
theorem rdz_bytes (hf : DataW.trod enc Tryz.prog W base sp held fuel 22 cs = some x) (hs : Sz 22 x.1) :
    ∃ (a : Option Addr) (n cap : Nat) (bs : List UInt8),cs = [.slice a n cap]∧RdB W W.heap.size a n bs∧n≤cap∧cap≤maxLen∧n≤reachBytes:=by
  obtain ⟨a,n,c,bs,h1,h2,h3,h4⟩:=rd_bytes hf;obtain ⟨a',n',c',k1,k2,k3,k4,_⟩:=rdz_slice Tryz.underlying22 (m:=1) (by kernel_rfl) hf hs;rw [h1] at k1
  injection k1 with k1 _
  injection k1 with _ k1 _
  rw [bytesOf8,Nat.mul_one] at k4;exact ⟨a,n,c,bs,h1,h2,h3,h4,by omega⟩
end
end Go.Proofs.YtfpenfgmpbdakaaGreat

namespace Go.Proofs.YtfpenfgmpbdakaaGreat
set_option linter.unusedVariables false
set_option linter.unusedSimpArgs false
open Go.ChangeShapes Go.WideShapes Go.ChangeAt Go.RowKit Go.Deep
open Dot
set_option maxRecDepth 100000
theorem cellsIq : (Tryz.prog).cellsOf 3 = 1:=by kernel_rfl
theorem cellsD : (Tryz.prog).cellsOf 42 = 2:=by kernel_rfl
theorem cellsDs : (Tryz.prog).cellsOf 45 = 1:=by kernel_rfl
section
variable {H : Type} {enc : TypeId × Value→H} {W : World} {base : Nat} {sp : Nat→Bool} {held : Bool} {fuel : Nat} {cs : List Value} {x : DataW H × List MemPlace}
theorem rd_dot (hf : DataW.trod enc Tryz.prog W base sp held fuel 42 cs = some x) : ∃ d : Dt,cs = [.int .i64 d.1,.int .i64 d.2]:=by
  have hl:=rd_len Tryz.underlying42 cellsD hf;obtain ⟨_,_,g0⟩:=rd_field Tryz.underlying42 hf 0 3 0 1 rfl cellsIq;obtain ⟨_,_,g1⟩:=rd_field Tryz.underlying42 hf 1 3 1 1 rfl cellsIq;obtain ⟨x0,e0,_⟩:=rd_int g0;obtain ⟨x1,e1,_⟩:=rd_int g1
  match cs,hl with
  | [a,b],_ =>
    simp at e0 e1
    exact ⟨(x0,x1),by rw [e0,e1]⟩
theorem rd_dots (hf : DataW.trod enc Tryz.prog W base sp held fuel 45 cs = some x) : ∃ (A : Option Addr) (n c : Nat) (l : List Dt),cs = [.slice A n c]∧RdD W W.heap.size A n l∧n≤maxLen:=by
  obtain ⟨a,n,c,hcs,hnc,hcm,hg⟩:=rd_slice Tryz.underlying45 cellsD hf
  have key : ∀ i,i < n→∃ (ad : Addr) (d : Dt),a = some ad∧DotAt W W.heap.size (ad.add (i * 2)) d:=fun i hi=>by
    obtain ⟨ad,cs',f',x',e,hl,hc,ht⟩:=hg i hi;obtain ⟨d,rfl⟩:=rd_dot ht;have h0:=hc 0 (by omega);have h1:=hc 1 (by omega);rw [add_add] at h0 h1;rw [Nat.add_zero] at h0;rw [add_next] at h1;exact ⟨ad,d,e,World.block_lt_of_cell? W _ h0,h0,h1⟩
  have hex : ∀ i,∃ d : Dt,i < n→∃ ad,a = some ad∧DotAt W W.heap.size (ad.add (i * 2)) d:=fun i=>by
    by_cases hi : i < n
    · obtain ⟨ad,d,h⟩:=key i hi
      exact ⟨d,fun _=>⟨ad,h⟩⟩
    · exact ⟨(0,0),fun h=>absurd h hi⟩
  refine ⟨a,n,c,(List.range n).map fun i=>(hex i).choose,hcs,⟨by simp,fun i d hi=>?_⟩,Nat.le_trans hnc hcm⟩
  have hi' : i < n:=by
    have:=(List.getElem?_eq_some_iff.1 hi).1
    simpa using this
  rw [List.getElem?_map,List.getElem?_range hi'] at hi
  injection hi with hi
  rw [← hi];exact (hex i).choose_spec hi'
end
end Go.Proofs.YtfpenfgmpbdakaaGreat

namespace Go.Proofs.YtfpenfgmpbdakaaGreat
set_option linter.unusedVariables false
set_option linter.unusedSimpArgs false
open Go.ChangeShapes Go.WideShapes Go.ChangeAt Go.RowKit Go.Deep
open Dot Evt
set_option maxRecDepth 100000
theorem cellsI' : (Tryz.prog).cellsOf 3 = 1:=by kernel_rfl
theorem cellsP : (Tryz.prog).cellsOf 44 = 7:=by kernel_rfl
theorem cellsE : (Tryz.prog).cellsOf 47 = 14:=by kernel_rfl
section
variable {H : Type} {enc : TypeId × Value→H} {W : World} {base : Nat} {sp : Nat→Bool} {held : Bool} {fuel : Nat} {cs : List Value} {x : DataW H × List MemPlace}
theorem rd_pol (hf : DataW.trod enc Tryz.prog W base sp held fuel 44 cs = some x) : ∃ p : List Int,p.length = 7∧cs = (pc p).toList:=by
  have hl:=rd_len Tryz.underlying44 cellsP hf;obtain ⟨_,_,g0⟩:=rd_field Tryz.underlying44 hf 0 3 0 1 rfl cellsI';obtain ⟨_,_,g1⟩:=rd_field Tryz.underlying44 hf 1 3 1 1 rfl cellsI';obtain ⟨_,_,g2⟩:=rd_field Tryz.underlying44 hf 2 3 2 1 rfl cellsI';obtain ⟨_,_,g3⟩:=rd_field Tryz.underlying44 hf 3 3 3 1 rfl cellsI';obtain ⟨_,_,g4⟩:=rd_field Tryz.underlying44 hf 4 3 4 1 rfl cellsI';obtain ⟨_,_,g5⟩:=rd_field Tryz.underlying44 hf 5 3 5 1 rfl cellsI';obtain ⟨_,_,g6⟩:=rd_field Tryz.underlying44 hf 6 3 6 1 rfl cellsI';obtain ⟨x0,e0,_⟩:=rd_int g0;obtain ⟨x1,e1,_⟩:=rd_int g1;obtain ⟨x2,e2,_⟩:=rd_int g2;obtain ⟨x3,e3,_⟩:=rd_int g3;obtain ⟨x4,e4,_⟩:=rd_int g4;obtain ⟨x5,e5,_⟩:=rd_int g5;obtain ⟨x6,e6,_⟩:=rd_int g6
  match cs,hl with
  | [a0,a1,a2,a3,a4,a5,a6],_ =>
    simp at e0 e1 e2 e3 e4 e5 e6
    exact ⟨[x0,x1,x2,x3,x4,x5,x6],rfl,by rw [e0,e1,e2,e3,e4,e5,e6];rfl⟩
theorem rd_ev (hf : DataW.trod enc Tryz.prog W base sp held fuel 47 cs = some x) : ∃ (e : Ev) (A : Option Addr) (n c : Nat),e.p.length = 7∧cs = (ec e (.slice A n c)).toList∧RdD W W.heap.size A n e.l∧n≤maxLen:=by
  have hl:=rd_len Tryz.underlying47 cellsE hf;obtain ⟨_,_,g0⟩:=rd_field Tryz.underlying47 hf 0 42 0 2 rfl cellsD;obtain ⟨_,_,g1⟩:=rd_field Tryz.underlying47 hf 1 3 2 1 rfl cellsI';obtain ⟨_,_,g2⟩:=rd_field Tryz.underlying47 hf 2 3 3 1 rfl cellsI';obtain ⟨_,_,g3⟩:=rd_field Tryz.underlying47 hf 3 3 4 1 rfl cellsI';obtain ⟨_,_,g4⟩:=rd_field Tryz.underlying47 hf 4 3 5 1 rfl cellsI';obtain ⟨_,_,g5⟩:=rd_field Tryz.underlying47 hf 5 44 6 7 rfl cellsP;obtain ⟨_,_,g6⟩:=rd_field Tryz.underlying47 hf 6 45 13 1 rfl cellsDs;obtain ⟨d,e0⟩:=rd_dot g0;obtain ⟨x1,e1,_⟩:=rd_int g1;obtain ⟨x2,e2,_⟩:=rd_int g2;obtain ⟨x3,e3,_⟩:=rd_int g3;obtain ⟨x4,e4,_⟩:=rd_int g4;obtain ⟨p,hp,e5⟩:=rd_pol g5;obtain ⟨A,n,c,l,e6,hr,hn⟩:=rd_dots g6;refine ⟨⟨d,x1,x2,x3,x4,p,l⟩,A,n,c,hp,?_,hr,hn⟩
  match cs,hl with
  | [a0,a1,a2,a3,a4,a5,a6,a7,a8,a9,a10,a11,a12,a13],_ =>
    simp [pc] at e0 e1 e2 e3 e4 e5 e6
    obtain ⟨rfl,rfl⟩:=e0;obtain ⟨rfl,rfl,rfl,rfl,rfl,rfl,rfl⟩:=e5;subst e1 e2 e3 e4 e6
    simp [ec]
end
section
variable {H : Type} {enc : TypeId × Value→H} {W : World} {base : Nat} {sp : Nat→Bool} {held : Bool} {r : Reach} {b0 : Nat} {v : Value} {d : DataW H} {p : List MemPlace}
end
end Go.Proofs.YtfpenfgmpbdakaaGreat

namespace Go.Proofs.YtfpenfgmpbdakaaGreat
set_option linter.unusedVariables false
set_option linter.unusedSimpArgs false
open Go.ChangeShapes Go.WideShapes Go.ChangeAt Go.RowKit Go.Deep
open Dot Evt
set_option maxRecDepth 100000
theorem bytesDt : (Tryz.prog).bytesOf 42 = 16:=by kernel_rfl
theorem bytesEv : (Tryz.prog).bytesOf 47 = 128:=by kernel_rfl
section
variable {H : Type} {enc : TypeId × Value→H} {W : World} {base : Nat} {sp : Nat→Bool} {held : Bool} {fuel : Nat} {cs : List Value} {x : DataW H × List MemPlace}
theorem rdz_ev (hf : DataW.trod enc Tryz.prog W base sp held fuel 47 cs = some x) (hs : Sz 47 x.1) : ∃ e : EvV,cs = e.cs.toList∧EvOk W W.heap.size e:=by
  obtain ⟨e,A,n,c,h1,h2,h3,_⟩:=rd_ev hf;obtain ⟨_,_,g6,z6⟩:=rdz_field Tryz.underlying47 hf hs 6 45 13 1 rfl cellsDs;obtain ⟨a3,l3,c3,e1,_,_,e4,_⟩:=rdz_slice Tryz.underlying45 cellsD g6 z6;rw [bytesDt] at e4;have hr : reachBytes = 140737488351232:=rfl;rw [h2] at e1;have e2 : ((ec e (.slice A n c)).toList.drop 13).take 1 = [.slice A n c]:=rfl;rw [e2] at e1
  injection e1 with e1 _
  injection e1 with _ e1 _
  exact ⟨⟨e,A,n,c⟩,h2,h1,h3,by show n≤_;omega⟩
theorem rdz_evs (hf : DataW.trod enc Tryz.prog W base sp held fuel 48 cs = some x) (hs : Sz 48 x.1) : ∃ (A : Option Addr) (n c : Nat) (xs : List EvV),cs = [.slice A n c]∧RowEv W W.heap.size A n xs∧n≤10000000000000:=by
  obtain ⟨a,n,c,h1,_,_,h3,h4⟩:=rdz_slice Tryz.underlying48 cellsE hf hs;rw [bytesEv] at h3;have hr : reachBytes = 140737488351232:=rfl
  have key : ∀ i,i < n→∃ e : EvV,EvOk W W.heap.size e∧∃ ad,a = some ad∧ad.block < W.heap.size∧∀ (j : Nat) v,e.cs[j]? = some v→W.cell? ((ad.add (i * 14)).add j) = some v:=fun i hi=>by
    obtain ⟨ad,cs',f',x',e1,hl,hc,ht,hz⟩:=h4 i hi;obtain ⟨e,h5,h6⟩:=rdz_ev ht hz
    have hlt : ad.block < W.heap.size:=by
      have e6:=hc 0 (by omega);rw [List.getElem?_eq_getElem (by omega)] at e6
      have:=World.block_lt_of_cell? W _ e6
      rwa [block_add,block_add] at this
    refine ⟨e,h6,ad,e1,hlt,fun j v hv=>?_⟩
    have hj : j < 14:=by
      have:=(Array.getElem?_eq_some_iff.1 hv).1
      rwa [e.size] at this
    rw [hc j hj,h5,Array.getElem?_toList,hv]
  have hex : ∀ i,∃ e : EvV,i < n→EvOk W W.heap.size e∧∃ ad,a = some ad∧ad.block < W.heap.size∧∀ (j : Nat) v,e.cs[j]? = some v→W.cell? ((ad.add (i * 14)).add j) = some v:=fun i=>by
    by_cases hi : i < n
    · obtain ⟨e,h⟩:=key i hi
      exact ⟨e,fun _=>h⟩
    · exact ⟨⟨exZ,none,0,0⟩,fun h=>absurd h hi⟩
  refine ⟨a,n,c,(List.range n).map fun i=>(hex i).choose,h1,⟨by simp,fun i d hi=>?_⟩,by omega⟩
  have hi' : i < n:=by
    have:=(List.getElem?_eq_some_iff.1 hi).1
    simpa using this
  rw [List.getElem?_map,List.getElem?_range hi'] at hi
  injection hi with hi
  rw [← hi];exact (hex i).choose_spec hi'
end
section
variable {H : Type} {enc : TypeId × Value→H} {W : World} {base : Nat} {sp : Nat→Bool} {held : Bool} {r : Reach} {b0 : Nat} {v : Value} {d : DataW H} {p : List MemPlace}
end
end Go.Proofs.YtfpenfgmpbdakaaGreat

namespace Go.Proofs.YtfpenfgmpbdakaaGreat
set_option linter.unusedVariables false
set_option linter.unusedSimpArgs false
open Go.ChangeShapes Go.WideShapes Go.ChangeAt Go.RowKit Go.Deep
open Dot Evt
set_option maxRecDepth 100000
namespace Sto
def oc (k n : Int) (x : Ev) (s1 s2 s3 : Value) : Array Value:=#[.int .i64 k,.int .i64 n,.int .i64 x.d.1,.int .i64 x.d.2,.int .i64 x.t,.int .i64 x.k,.int .i64 x.w,.int .i64 x.v,.int .i64 (x.p.getD 0 0),.int .i64 (x.p.getD 1 0),.int .i64 (x.p.getD 2 0),.int .i64 (x.p.getD 3 0),.int .i64 (x.p.getD 4 0),.int .i64 (x.p.getD 5 0),.int .i64 (x.p.getD 6 0),s1,s2,s3]
theorem oc_one (k n : Int) (x : Ev) (A A2 A3 : Option Addr) (n1 c1 n2 c2 n3 c3 : Nat) : (oc k n x (.slice A n1 c1) (.slice A2 n2 c2) (.slice A3 n3 c3)).all (·.oneCell') = true:=by kernel_rfl
theorem rowO : RowT Tryz.prog 50 18:=⟨_,Tryz.underlying50,rfl,by kernel_rfl⟩
structure OpV where
  k : Int
  n : Int
  e : EvV
  AL : Option Addr
  nl : Nat
  cl : Nat
  xs : List EvV
  AB : Option Addr
  nb : Nat
  cb : Nat
  bs : List UInt8
def OpV.cs (o : OpV) : Array Value:=oc o.k o.n o.e.e (.slice o.e.A o.e.m o.e.c) (.slice o.AL o.nl o.cl) (.slice o.AB o.nb o.cb)
theorem OpV.size (o : OpV) : o.cs.size = 18:=rfl
theorem OpV.one (o : OpV) : o.cs.all (·.oneCell') = true:=oc_one ..
structure OpOk (w : World) (B : Nat) (o : OpV) : Prop where
  e : EvOk w B o.e
  l : RowEv w B o.AL o.nl o.xs
  l1 : o.nl≤o.cl
  l2 : o.cl≤maxLen
  l3 : o.nl≤10000000000000
  b : RdB w B o.AB o.nb o.bs
  b1 : o.nb≤o.cb
  b2 : o.cb≤maxLen
  b3 : o.nb≤140737488351232
  n1 : -9223372036854775808≤o.n
  n2 : o.n≤9223372036854775807
def RowOp (w : World) (B : Nat) (A : Option Addr) (n : Nat) (ls : List OpV) : Prop :=
  n = ls.length∧∀ i o,ls[i]? = some o→OpOk w B o∧∃ ad,A = some ad∧ad.block < B∧∀ (j : Nat) v,o.cs[j]? = some v→w.cell? ((ad.add (i * 18)).add j) = some v
theorem OpOk.below {w w' : World} {B : Nat} {o : OpV} (h : OpOk w B o) (hb : Below B w w') : OpOk w' B o:=⟨h.e.below hb,h.l.below hb,h.l1,h.l2,h.l3,h.b.below hb,h.b1,h.b2,h.b3,h.n1,h.n2⟩
theorem RowOp.below {w w' : World} {B n : Nat} {A : Option Addr} {ls : List OpV} (h : RowOp w B A n ls) (hb : Below B w w') : RowOp w' B A n ls:=⟨h.1,fun i x hi=>by
  obtain ⟨h1,ad,e,h2,h3⟩:=h.2 i x hi
  exact ⟨h1.below hb,ad,e,h2,fun j v hv=>(hb.cell (by rw [block_add,block_add];exact h2)).trans (h3 j v hv)⟩⟩
theorem cellsOp15 : (Tryz.prog).cellsOf 50 = 18:=by kernel_rfl
theorem bytesOp15 : (Tryz.prog).bytesOf 50 = 192:=by kernel_rfl
theorem cellsEs15 : (Tryz.prog).cellsOf 48 = 1:=by kernel_rfl
theorem cellsBs15 : (Tryz.prog).cellsOf 22 = 1:=by kernel_rfl
theorem cellsI15 : (Tryz.prog).cellsOf 3 = 1:=by kernel_rfl
section
variable {H : Type} {enc : TypeId × Value→H} {W : World} {base : Nat} {sp : Nat→Bool} {held : Bool} {fuel : Nat} {cs : List Value} {x : DataW H × List MemPlace}
theorem rdz_op (hf : DataW.trod enc Tryz.prog W base sp held fuel 50 cs = some x) (hs : Sz 50 x.1) : ∃ o : OpV,cs = o.cs.toList∧OpOk W W.heap.size o:=by
  have hlen:=rd_len Tryz.underlying50 cellsOp15 hf;obtain ⟨_,_,g0⟩:=rd_field Tryz.underlying50 hf 0 3 0 1 rfl cellsI15;obtain ⟨_,_,g1⟩:=rd_field Tryz.underlying50 hf 1 3 1 1 rfl cellsI15;obtain ⟨_,_,g2,z2⟩:=rdz_field Tryz.underlying50 hf hs 2 47 2 14 rfl cellsE;obtain ⟨_,_,g3,z3⟩:=rdz_field Tryz.underlying50 hf hs 3 48 16 1 rfl cellsEs15;obtain ⟨_,_,g4,z4⟩:=rdz_field Tryz.underlying50 hf hs 4 22 17 1 rfl cellsBs15;obtain ⟨k,e0,_⟩:=rd_int g0;obtain ⟨n,e1,hn⟩:=rd_int g1;obtain ⟨e,e2,he⟩:=rdz_ev g2 z2;obtain ⟨AL,nl,cl,xs,e3,hl,hl3⟩:=rdz_evs g3 z3;obtain ⟨a',n',c',e3',hc1,hc2,_⟩:=rdz_slice Tryz.underlying48 cellsE g3 z3;obtain ⟨AB,nb,cb,bs,e4,hb,hb1,hb2,hb3⟩:=rdz_bytes g4 z4;rw [e3] at e3'
  injection e3' with e3' _
  injection e3' with _ q1 q2
  have hr : reachBytes = 140737488351232:=rfl;refine ⟨⟨k,n,e,AL,nl,cl,xs,AB,nb,cb,bs⟩,?_,he,hl,by show nl≤cl;rw [q1,q2];exact hc1,by show cl≤maxLen;rw [q2];exact hc2,hl3,hb,hb1,hb2,by show nb≤_;omega,hn.1,hn.2⟩
  match cs,hlen with
  | [a0,a1,a2,a3,a4,a5,a6,a7,a8,a9,a10,a11,a12,a13,a14,a15,a16,a17],_ =>
    have e2 : [a2,a3,a4,a5,a6,a7,a8,a9,a10,a11,a12,a13,a14,a15] = e.cs.toList:=e2;have e0 : [a0] = [Value.int .i64 k]:=e0;have e1 : [a1] = [Value.int .i64 n]:=e1;have e3 : [a16] = [Value.slice AL nl cl]:=e3;have e4 : [a17] = [Value.slice AB nb cb]:=e4
    show [a0] ++ ([a1] ++ ([a2,a3,a4,a5,a6,a7,a8,a9,a10,a11,a12,a13,a14,a15] ++ ([a16] ++ [a17]))) = _
    rw [e0,e1,e2,e3,e4]
    rfl
theorem rdz_ops (hf : DataW.trod enc Tryz.prog W base sp held fuel 23 cs = some x) (hs : Sz 23 x.1) : ∃ (A : Option Addr) (n c : Nat) (ls : List OpV),cs = [.slice A n c]∧RowOp W W.heap.size A n ls∧n≤10000000000000:=by
  obtain ⟨a,n,c,h1,h2,h3,h5,h4⟩:=rdz_slice Tryz.underlying23 cellsOp15 hf hs;rw [bytesOp15] at h5;have hr : reachBytes = 140737488351232:=rfl
  obtain ⟨l,q1,q2⟩:=list_of (α:=OpV) (P:=fun i o=>OpOk W W.heap.size o∧∃ ad,a = some ad∧ad.block < W.heap.size∧∀ (j : Nat) v,o.cs[j]? = some v→W.cell? ((ad.add (i * 18)).add j) = some v) n (fun i hi=>by
    obtain ⟨ad,cs',f',x',e1,e2,e3,e4,e5⟩:=h4 i hi;obtain ⟨o,ho,hk⟩:=rdz_op e4 e5
    have hlt : ad.block < W.heap.size:=by
      have e6:=e3 0 (by omega);rw [List.getElem?_eq_getElem (by omega)] at e6
      have:=World.block_lt_of_cell? W _ e6
      rwa [block_add,block_add] at this
    refine ⟨o,hk,ad,e1,hlt,fun j v hv=>?_⟩
    have hj : j < 18:=by
      have:=(Array.getElem?_eq_some_iff.1 hv).1
      rwa [o.size] at this
    rw [e3 j hj,ho,Array.getElem?_toList,hv])
  exact ⟨a,n,c,l,h1,⟨q1.symm,q2⟩,by omega⟩
end
section
variable {H : Type} {enc : TypeId × Value→H} {W : World} {base : Nat} {sp : Nat→Bool} {held : Bool} {r : Reach} {b0 : Nat} {v : Value} {d : DataW H} {p : List MemPlace}
theorem open_ops15 (hv : Value.okWide Tryz.prog W r b0 23 v) (h : DataW.Trod enc Tryz.prog W base sp held 23 v d p) (hs : Sz 23 d) :
    ∃ (A : Option Addr) (n c : Nat) (ls : List OpV),v = .slice A n c∧RowOp W W.heap.size A n ls∧n≤10000000000000:=by
  obtain ⟨a0,len0,cap0,rfl⟩:=okWide_slice Tryz.underlying23 hv;obtain ⟨fuel,hf⟩:=h;obtain ⟨A,n,c,xs,h1,h2⟩:=rdz_ops hf hs
  simp [Value.cells] at h1
  obtain ⟨rfl,rfl,rfl⟩:=h1;exact ⟨_,_,_,xs,rfl,h2⟩
end
end Sto
end Go.Proofs.YtfpenfgmpbdakaaGreat

namespace Go.Proofs.YtfpenfgmpbdakaaGreat
set_option linter.unusedVariables false
set_option linter.unusedSimpArgs false
set_option maxRecDepth 100000
open Go.RowKit
open Dot Evt
namespace Sto
def Great15 (w : World) (n : Nat) (ls : List OpV) (e : Ending) (w' : World) : Prop:=(∃ G,e = .returned (.bool G)∧(G = false→n≤100∧∀ o ∈ ls,o.e.m≤2000∧evSum o.xs≤3000))∧Below w.heap.size w w'
set_option maxHeartbeats 8000000 in
theorem great15_any (A : Option Addr) (n c : Nat) (ls : List OpV) (w : World) (hr : RowOp w w.heap.size A n ls) (hn : n≤10000000000000) :
    Calls Tryz.prog 7 #[.slice A n c] w (Great15 w n ls):=by
  have HN:=Lib.hid hr.1
  have HRK:=Lib.hid fun (w' : World) (hb : Below w.heap.size w w')=>hr.below hb
  clear hr
  by_cases hbig : 100 < n
  · have hd : (100 : Int) < (n : Int):=by omega
    go_enter Tryz.func7,Tryz.ntmps7
    go_wp2_with fail
    go_loopw [3,8] (fun s i wr=>∃ (k : Nat) (z : Int),k≤n∧i = .int .i64 (k : Nat)∧s = .int .i64 z∧Below w.heap.size w wr) (fun _ i _=>n - (intOf i).toNat)
    case atStart=>exact ⟨0,0,by omega,rfl,rfl,Below.refl _ _⟩
    case round =>
    obtain ⟨k,z,hk,rfl,rfl,gb⟩:=hrel
    by_cases hlt : k < n
    case neg =>
      have hkk : ¬ (k : Int) < (n : Int):=by omega
      go_wp2_with fail;go_ret;exact ⟨⟨true,rfl,fun h=>by cases h⟩,gb⟩
    have hkl : k < ls.length:=by rw [← HN.out];exact hlt
    obtain ⟨hok,ad,hA,hab,hcs⟩:=(HRK.out wr gb).2 k _ (List.getElem?_eq_getElem hkl);have e1 : ls[k]? = some ls[k]:=List.getElem?_eq_getElem hkl
    generalize ls[k] = o at *
    subst hA;obtain ⟨cs,hcx⟩ : ∃ cs,cs = o.cs:=⟨_,rfl⟩;rw [← hcx] at hcs;have SZ:=Lib.hid (show cs.size = 18 by rw [hcx];rfl);have OZ:=Lib.hid (show cs.all (·.oneCell') = true by rw [hcx];exact o.one);have X15:=Lib.hid (show cs[15]? = some (.slice o.e.A o.e.m o.e.c) by rw [hcx];rfl);have X16:=Lib.hid (show cs[16]? = some (.slice o.AL o.nl o.cl) by rw [hcx];rfl);have X17:=Lib.hid (show cs[17]? = some (.slice o.AB o.nb o.cb) by rw [hcx];rfl);have HCS:=Lib.hid hcs;have HOK:=Lib.hid hok;have HE1:=Lib.hid e1;have hm13 : o.e.m≤10000000000000:=hok.e.2.2;have hnl13:=hok.l3;have hnb:=hok.b3
    have hk0 : (0 : Int)≤(k : Int):=by omega
    have hkm : (k : Int) < (n : Int):=by omega
    clear hcs hcx hok e1
    go_upto_region 5 with first
      | ((with_reducible refine wpList_lda rowO HCS.out SZ.out ?_ ?_);rotate_left;(rfl))
      | ((with_reducible refine wpList_st rowO (Blk.new _ _ _) SZ.out ?_ OZ.out ?_ ?_ ?_);(rfl);rotate_left;(rfl);(rfl);intro w6 k6 g6 z6)
    have bA : Below wr.heap.size wr w6:=new_below g6;obtain ⟨gr,hgr⟩ : ∃ gr,gr = wr.heap.size:=⟨_,rfl⟩;rw [← hgr] at k6 ⊢;have gb6:=gb.trans (bA.mono gb.size);have t15 : w6.cell? ⟨gr,15,none⟩ = some (.slice o.e.A o.e.m o.e.c):=(k6.cell 15).trans X15.out;have t16 : w6.cell? ⟨gr,16,none⟩ = some (.slice o.AL o.nl o.cl):=(k6.cell 16).trans X16.out;have t17 : w6.cell? ⟨gr,17,none⟩ = some (.slice o.AB o.nb o.cb):=(k6.cell 17).trans X17.out;have HGT:=Lib.hid (egreat_any o.AL o.nl o.cl o.xs w.heap.size w6 (by omega) (HOK.out.l.below (bA.mono gb.size)) gb6.size);have hlg:=k6.lt;obtain ⟨q,hq⟩ : ∃ q,q = o.nb / 20:=⟨_,rfl⟩
    have hqt : ((o.nb : Nat) : Int).tdiv 20 = (q : Int):=by rw [Int.tdiv_eq_ediv_of_nonneg (by omega)];omega
    have hqd : ((o.nb : Nat) : Int) / 20 = (q : Int):=by omega
    have hqb : ¬ 10000 < o.nb→q≤500:=by omega
    obtain ⟨em,hem⟩ : ∃ em,em = o.e.m:=⟨_,rfl⟩;obtain ⟨nl,hnl⟩ : ∃ nl,nl = o.nl:=⟨_,rfl⟩;obtain ⟨nb,hnb'⟩ : ∃ nb,nb = o.nb:=⟨_,rfl⟩;rw [← hem] at t15 hm13;rw [← hnl] at t16 hnl13 HGT;rw [← hnb'] at t17 hnb hqt hqd hqb;have HEM:=Lib.hid hem;have HNL:=Lib.hid hnl;clear g6 z6 hgr bA gb HCS k6 hq hem hnl hnb'
    by_cases hb9 : 10000 < nb
    all_goals
      go_upto_region 6 with fail
      go_wp2_with fail;refine HGT.out.mono ?_;rintro e w7 ⟨⟨G,rfl,hG⟩,b7⟩;have gb7:=gb6.trans (b7.mono gb6.size);have t16 : w7.cell? ⟨gr,16,none⟩ = some (.slice o.AL nl o.cl):=(b7.cell (p:=⟨gr,16,none⟩) hlg).trans t16;clear b7 hG
      cases G
      · go_wp2_with fail
        go_roundw
        case rel=>exact ⟨k + 1,_,by omega,by go_num,rfl,gb7⟩
        case measure=>simp [intOf];omega
      · go_wp2_with fail
        go_ret;exact ⟨⟨true,rfl,fun h=>by cases h⟩,gb7⟩
  have hd : ¬ (100 : Int) < (n : Int):=by omega
  go_enter Tryz.func7,Tryz.ntmps7
  go_wp2_with fail
  go_loopw [3,8] (fun s i wr=>∃ (k z : Nat),k≤n∧i = .int .i64 (k : Nat)∧s = .int .i64 (z : Nat)∧z≤k * 20000000000501∧(∀ j o,j < k→ls[j]? = some o→o.e.m≤z∧evSum o.xs≤3000)∧Below w.heap.size w wr) (fun _ i _=>n - (intOf i).toNat)
  case atStart=>exact ⟨0,0,by omega,rfl,rfl,by omega,fun j o hj=>by omega,Below.refl _ _⟩
  case round =>
  obtain ⟨k,z,hk,rfl,rfl,hz,hol,gb⟩:=hrel;have HOL:=Lib.hid hol
  have hz2 : z≤2000000000050100:=by omega
  clear hol
  by_cases hlt : k < n
  case neg =>
    have hkk : ¬ (k : Int) < (n : Int):=by omega
    have hkn : k = n:=by omega
    have hall : ∀ o ∈ ls,o.e.m≤z∧evSum o.xs≤3000:=fun o ho=>by
      obtain ⟨j,hj,rfl⟩:=List.getElem_of_mem ho;exact HOL.out j _ (by rw [hkn,HN.out];exact hj) (List.getElem?_eq_getElem hj)
    have HALL:=Lib.hid hall;clear hall hkn
    by_cases h2 : 2000 < z
    · have h2i : (2000 : Int) < (z : Int):=by omega
      go_wp2_with fail;go_ret;exact ⟨⟨true,rfl,fun h=>by cases h⟩,gb⟩
    · have h2d : decide ((2000 : Int) < (z : Int)) = false:=decide_eq_false (by omega)
      have h1d : decide ((100 : Int) < (n : Int)) = false:=decide_eq_false (by omega);have H2:=Lib.hid (And.intro h2 hd);clear h2 hd;go_wp2_with fail;go_ret;exact ⟨⟨false,rfl,fun _=>⟨by have:=H2.out.2;omega,fun o ho=>⟨by have:=(HALL.out o ho).1;have:=H2.out.1;omega,(HALL.out o ho).2⟩⟩⟩,gb⟩
  have hkl : k < ls.length:=by rw [← HN.out];exact hlt
  obtain ⟨hok,ad,hA,hab,hcs⟩:=(HRK.out wr gb).2 k _ (List.getElem?_eq_getElem hkl);have e1 : ls[k]? = some ls[k]:=List.getElem?_eq_getElem hkl
  generalize ls[k] = o at *
  subst hA;obtain ⟨cs,hcx⟩ : ∃ cs,cs = o.cs:=⟨_,rfl⟩;rw [← hcx] at hcs;have SZ:=Lib.hid (show cs.size = 18 by rw [hcx];rfl);have OZ:=Lib.hid (show cs.all (·.oneCell') = true by rw [hcx];exact o.one);have X15:=Lib.hid (show cs[15]? = some (.slice o.e.A o.e.m o.e.c) by rw [hcx];rfl);have X16:=Lib.hid (show cs[16]? = some (.slice o.AL o.nl o.cl) by rw [hcx];rfl);have X17:=Lib.hid (show cs[17]? = some (.slice o.AB o.nb o.cb) by rw [hcx];rfl);have HCS:=Lib.hid hcs;have HOK:=Lib.hid hok;have HE1:=Lib.hid e1;have hm13 : o.e.m≤10000000000000:=hok.e.2.2;have hnl13:=hok.l3;have hnb:=hok.b3
  have hk0 : (0 : Int)≤(k : Int):=by omega
  have hkm : (k : Int) < (n : Int):=by omega
  clear hcs hcx hok e1
  go_upto_region 5 with first
    | ((with_reducible refine wpList_lda rowO HCS.out SZ.out ?_ ?_);rotate_left;(rfl))
    | ((with_reducible refine wpList_st rowO (Blk.new _ _ _) SZ.out ?_ OZ.out ?_ ?_ ?_);(rfl);rotate_left;(rfl);(rfl);intro w6 k6 g6 z6)
  have bA : Below wr.heap.size wr w6:=new_below g6;obtain ⟨gr,hgr⟩ : ∃ gr,gr = wr.heap.size:=⟨_,rfl⟩;rw [← hgr] at k6 ⊢;have gb6:=gb.trans (bA.mono gb.size);have t15 : w6.cell? ⟨gr,15,none⟩ = some (.slice o.e.A o.e.m o.e.c):=(k6.cell 15).trans X15.out;have t16 : w6.cell? ⟨gr,16,none⟩ = some (.slice o.AL o.nl o.cl):=(k6.cell 16).trans X16.out;have t17 : w6.cell? ⟨gr,17,none⟩ = some (.slice o.AB o.nb o.cb):=(k6.cell 17).trans X17.out;have HGT:=Lib.hid (egreat_any o.AL o.nl o.cl o.xs w.heap.size w6 (by omega) (HOK.out.l.below (bA.mono gb.size)) gb6.size);have hlg:=k6.lt;obtain ⟨q,hq⟩ : ∃ q,q = o.nb / 20:=⟨_,rfl⟩
  have hqt : ((o.nb : Nat) : Int).tdiv 20 = (q : Int):=by rw [Int.tdiv_eq_ediv_of_nonneg (by omega)];omega
  have hqd : ((o.nb : Nat) : Int) / 20 = (q : Int):=by omega
  have hqb : ¬ 10000 < o.nb→q≤500:=by omega
  obtain ⟨em,hem⟩ : ∃ em,em = o.e.m:=⟨_,rfl⟩;obtain ⟨nl,hnl⟩ : ∃ nl,nl = o.nl:=⟨_,rfl⟩;obtain ⟨nb,hnb'⟩ : ∃ nb,nb = o.nb:=⟨_,rfl⟩;rw [← hem] at t15 hm13;rw [← hnl] at t16 hnl13 HGT;rw [← hnb'] at t17 hnb hqt hqd hqb;have HEM:=Lib.hid hem;have HNL:=Lib.hid hnl;clear g6 z6 hgr bA gb HCS k6 hq hem hnl hnb';have hz9 : z≤k * 20000000000501:=hz;have HZ:=Lib.hid hz;clear hz hz9
  by_cases hb9 : 10000 < nb
  · go_upto_region 6 with fail
    go_wp2_with fail;refine HGT.out.mono ?_;rintro e w7 ⟨⟨G,rfl,hG⟩,b7⟩;have gb7:=gb6.trans (b7.mono gb6.size);have t16 : w7.cell? ⟨gr,16,none⟩ = some (.slice o.AL nl o.cl):=(b7.cell (p:=⟨gr,16,none⟩) hlg).trans t16;have HGG:=Lib.hid hG;clear b7 hG
    cases G
    · have hgs:=HGG.out rfl
      have HGS:=Lib.hid hgs;clear hgs;go_wp2_with fail
      go_roundw
      case rel=>exact ⟨k + 1,z + (1 + em + 500) + nl,by omega,by go_num,by go_num,by have:=HZ.out;omega,fun j y hj hy=>by
        by_cases e : j = k
        · subst e
          rw [HE1.out] at hy
          injection hy with hy
          rw [← hy,← HEM.out];exact ⟨by omega,HGS.out⟩
        · have:=HOL.out j y (by omega) hy
          exact ⟨by omega,this.2⟩,gb7⟩
      case measure=>simp [intOf];omega
    · go_wp2_with fail
      go_ret;exact ⟨⟨true,rfl,fun h=>by cases h⟩,gb7⟩
  · have hq5:=hqb hb9
    go_upto_region 6 with fail
    go_wp2_with fail;refine HGT.out.mono ?_;rintro e w7 ⟨⟨G,rfl,hG⟩,b7⟩;have gb7:=gb6.trans (b7.mono gb6.size);have t16 : w7.cell? ⟨gr,16,none⟩ = some (.slice o.AL nl o.cl):=(b7.cell (p:=⟨gr,16,none⟩) hlg).trans t16;have HGG:=Lib.hid hG;clear b7 hG
    cases G
    · have hgs:=HGG.out rfl
      have HGS:=Lib.hid hgs;clear hgs;go_wp2_with fail
      go_roundw
      case rel=>exact ⟨k + 1,z + (1 + em + q) + nl,by omega,by go_num,by go_num,by have:=HZ.out;omega,fun j y hj hy=>by
        by_cases e : j = k
        · subst e
          rw [HE1.out] at hy
          injection hy with hy
          rw [← hy,← HEM.out];exact ⟨by omega,HGS.out⟩
        · have:=HOL.out j y (by omega) hy
          exact ⟨by omega,this.2⟩,gb7⟩
      case measure=>simp [intOf];omega
    · go_wp2_with fail
      go_ret;exact ⟨⟨true,rfl,fun h=>by cases h⟩,gb7⟩
end Sto
end Go.Proofs.YtfpenfgmpbdakaaGreat

namespace Go.Proofs.YtfpenfgmpbdakaaGreat
set_option linter.unusedVariables false
set_option linter.unusedSimpArgs false
set_option maxRecDepth 100000
open Go.RowKit
open Disk
namespace Sto
open _root_.Go.Proofs.YtfpenfgmpbdakaaGreat.Log (writeM LogEnd lwrite_any)
open _root_.Go.Proofs.YtfpenfgmpbdakaaGreat.Frame (frm frms frms_nil frms_cons frms_snoc frms_append frm_length frm_pos Parts AllF)
set_option maxHeartbeats 1000000 in
theorem next_any (S : Sd) (E : Value) (F : Nat→Prop) (b g size : Nat) (w : World) (h : StoAt w F b g size S E) (hu : S.used≤S.upto) (hU : S.upto≤96) (hs : size≤16384) (hl : S.b.length≤16384) :
    Calls Tryz.prog 14 #[.pointer (some ⟨b,0,none⟩)] w (NumOp w F b g size E (nextD size S)):=by
  have k0:=Blk.new w 27 #[.int .i64 0];have hbw : Below w.heap.size w (w.alloc (.cells #[.int .i64 0] 27)):=(Below.refl _ _).alloc (Nat.le_refl _) _
  have hsz : w.heap.size < (w.alloc (.cells #[.int .i64 0] 27)).heap.size:=by simp
  have s0:=(h.below hbw).sw;have hlt : b < w.heap.size:=h.2.1.lt;have hf : ∀ k,F k→k < w.heap.size:=h.1.lt
  have hnF : ¬ F w.heap.size:=fun q=>by have:=hf _ q;omega
  have hne : w.heap.size ≠ b:=by omega
  clear h;obtain ⟨sb,su,sv,si⟩:=S
  simp only at *
  have c1:=s0.blk.cell 1;have c2:=s0.blk.cell 2;have f1:=s0.blk.free 1
  go_enter_defers Tryz.func14,Tryz.ntmps14
  go_wp2_with fail
  generalize w.alloc (.cells #[.int .i64 0] 27) = w0 at *
  by_cases hx : su < sv
  · have hq : ((su : Int) == (sv : Int)) = false:=by rw [beq_eq_false_iff_ne];omega
    have hr : nextD size ⟨sb,su,sv,si⟩ = (su + 1,0,⟨sb,su + 1,sv,si⟩):=by unfold nextD;rw [if_pos hx]
    have HR:=Lib.hid hr;have H0:=Lib.hid s0;have K0:=Lib.hid k0;clear hr s0 k0
    go_quiet (fail)
    have s9:=H0.out.drewN nq;have k9:=K0.out.below (below_drewN (Below.refl _ _) nq) K0.out.lt
    generalize w0.drewN nq = wq at *
    have e1 : wq.cell? ⟨b,1,none⟩ = some (.int .i64 (su : Nat)):=s9.blk.cell 1;have g1:=s9.blk.free 1;have s1 : SW w0 F b g size ⟨sb,su + 1,sv,si⟩ E F (wq.setCell ⟨b,1,none⟩ (.int .i64 ((su : Int) + 1))):=s9.set_ (u':=su + 1) (v':=sv) (i':=si) (s9.blk.set_ 1 (.int .i64 ((su : Int) + 1)));have k1:=k9.far (p:=⟨b,1,none⟩) hne (.int .i64 ((su : Int) + 1));have f0 : wq.frozen? ⟨w.heap.size,0,none⟩ = false:=k9.free 0;have f00 : wq.cell? ⟨w.heap.size,0,none⟩ = some (.int .i64 0):=k9.cell 0;have d1 : World.cell? _ ⟨b,1,none⟩ = some (.int .i64 ((su : Int) + 1)):=s1.blk.cell 1;have H1:=Lib.hid s1;have K1:=Lib.hid k1;clear s1 k1 s9 k9 H0 K0;go_wp2_with fail;have c4 : World.cell? _ _ = some (.int .i64 0):=(K1.out.set_ 0 (.int .i64 0)).cell 0;refine leaves_cons (f:=38) (args:=#[.pointer (some ⟨w.heap.size,0,none⟩)]) (by simp) (by simp [go_sem]) ?_;refine (caught_none _ _).mono ?_;rintro e u' w'' ⟨rfl,rfl,rfl⟩;refine ⟨.tuple #[.int .i64 ((su : Int) + 1),.int .i64 0],by simp [results,Tryz.results14,go_sem,c4],?_⟩;rw [HR.out];exact ⟨rfl,H1.out.err hbw hsz hlt hf 0 (.int .i64 0)⟩
  · obtain rfl : su = sv:=by omega
    have hq : ((su : Int) == (su : Int)) = true:=by simp
    by_cases h9 : 96≤su
    · have hr : nextD size ⟨sb,su,su,si⟩ = (0,7,⟨sb,su,su,si⟩):=by unfold nextD;rw [if_neg hx,if_pos h9]
      have HR:=Lib.hid hr;have hd : decide ((su : Int) < ((min (su + 8) 96 : Nat) : Int)) = false:=decide_eq_false (by omega)
      have hdl : ¬ (su : Int) < ((min (su + 8) 96 : Nat) : Int):=by omega
      have H0:=Lib.hid s0;have K0:=Lib.hid k0;clear hr s0 k0
      go_quiet (fail)
      have H1:=Lib.hid (H0.out.drewN nq);have K1:=Lib.hid (K0.out.below (below_drewN (Below.refl _ _) nq) K0.out.lt)
      generalize w0.drewN nq = wq at *
      have e1 : wq.cell? ⟨b,1,none⟩ = some (.int .i64 (su : Nat)):=H1.out.blk.cell 1;have e2 : wq.cell? ⟨b,2,none⟩ = some (.int .i64 (su : Nat)):=H1.out.blk.cell 2;go_wp2_with fail;refine (must_no (b:=decide ((su : Int) < 96)) (decide_eq_false (by omega)) _ _).mono ?_;rintro e w2 ⟨rfl,rfl⟩;go_wp2_with fail;refine leaves_cons (f:=38) (args:=#[.pointer (some ⟨w.heap.size,0,none⟩)]) (by simp) (by simp [go_sem]) ?_;refine (caught_panic w.heap.size 7 [] (.int .i64 0) _ (K1.out.cell 0) (K1.out.free 0)).mono ?_;rintro e u' w'' ⟨rfl,rfl,rfl⟩;have k9:=(K1.out.alloc (.cells #[.int .i64 7] 113)).set_ 0 (.int .i64 7);have c9 : World.cell? _ _ = some (.int .i64 7):=k9.cell 0;have s9:=(H1.out.below ((Below.refl _ _).alloc (Nat.le_refl _) (.cells #[.int .i64 7] 113))).err hbw hsz hlt hf 0 (.int .i64 7);refine ⟨.tuple #[.int .i64 0,.int .i64 7],by simp [results,Tryz.results14,go_sem,c9],?_⟩;rw [HR.out];exact ⟨rfl,s9⟩
    · obtain ⟨M,hM⟩ : ∃ M,M = min (su + 8) 96:=⟨_,rfl⟩
      have hM9 : M≤96:=by omega
      rcases Nat.lt_or_ge 96 (su + 8) with h8 | h8
      · have hV : (M : Int) = 96:=by omega
        have hv8 : 96 < (su : Int) + 8:=by omega
        by_cases hroom : sb.length + (frm (told 1 M)).length≤size
        · have hr : nextD size ⟨sb,su,su,si⟩ = (su + 1,0,⟨sb ++ frm (told 1 M),su + 1,M,si⟩):=by
            unfold nextD
            rw [if_neg hx,if_neg h9]
            simp only
            rw [← hM,if_pos hroom]
          have hw : writeM size sb [] (told 1 M) = (0,sb ++ frm (told 1 M),[]):=by rw [told_write,if_pos hroom]
          have HR:=Lib.hid hr;have HW:=Lib.hid hw;have H0:=Lib.hid s0;have K0:=Lib.hid k0;clear hr hw s0 k0
          go_quiet (fail)
          have H1:=Lib.hid (H0.out.drewN nq);have K1:=Lib.hid (K0.out.below (below_drewN (Below.refl _ _) nq) K0.out.lt)
          generalize w0.drewN nq = wq at *
          have e1 : wq.cell? ⟨b,1,none⟩ = some (.int .i64 (su : Nat)):=H1.out.blk.cell 1;have e2 : wq.cell? ⟨b,2,none⟩ = some (.int .i64 (su : Nat)):=H1.out.blk.cell 2;go_wp2_with fail;refine (must_yes (b:=decide ((su : Int) < 96)) (decide_eq_true (by omega)) _ _).mono ?_;rintro e w2 ⟨rfl,rfl⟩;go_wp2_with fail;refine (told_lit 1 1 (96) M rfl (by omega) (by omega) _).mono ?_;rintro e w2 ⟨A2,n2,c2',rfl,o2,b2⟩;have s2:=H1.out.below b2;have k2:=K1.out.below b2 K1.out.lt;have hle:=ownsRow_le o2.2;go_wp2_with fail;refine (write_any A2 n2 c2' _ (told 1 M) _ b g size su su si sb E w2 s2.blk s2.disk hl hs o2.rd (Nat.le_refl _) hle.1 hle.2).mono ?_;rw [HW.out];rintro e w3 ⟨he,d3⟩;obtain rfl : e = .returned (.tuple #[]):=he;have k3:=d3.kept k2 (s2.nk hsz hnF);obtain ⟨F3,s3⟩:=s2.op d3;have s4 : SW w0 F b g size ⟨_,su,M,si⟩ E F3 (World.setCell _ ⟨b,2,none⟩ (.int .i64 (96))):=s3.set_ (u':=su) (v':=M) (i':=si) (show Blk _ b _ (sc g su M si E) by rw [← hV];exact s3.blk.set_ 2 (.int .i64 (M : Nat)));have e4 : World.cell? _ ⟨b,1,none⟩ = some (.int .i64 (su : Nat)):=s4.blk.cell 1;have f4:=s4.blk.free 1;have g3:=s3.blk.free 2;have s5 : SW w0 F b g size ⟨_,su + 1,M,si⟩ E F3 (World.setCell _ ⟨b,1,none⟩ (.int .i64 ((su : Int) + 1))):=s4.set_ (u':=su + 1) (v':=M) (i':=si) (s4.blk.set_ 1 (.int .i64 ((su : Int) + 1)));have e5 : World.cell? _ ⟨b,1,none⟩ = some (.int .i64 ((su : Int) + 1)):=s5.blk.cell 1;have e3 : w3.cell? ⟨b,1,none⟩ = some (.int .i64 (su : Nat)):=s3.blk.cell 1;have g1 : w3.frozen? ⟨b,1,none⟩ = false:=s3.blk.free 1
          have e6 : w3.cell? ⟨b,2,none⟩ = some (.int .i64 (su : Nat)):=s3.blk.cell 2;have z0 : w3.cell? ⟨w.heap.size,0,none⟩ = some (.int .i64 0):=k3.cell 0;have z1 : w3.frozen? ⟨w.heap.size,0,none⟩ = false:=k3.free 0;have k4:=(k3.far (p:=⟨b,2,none⟩) hne (.int .i64 (96))).far (p:=⟨b,1,none⟩) hne (.int .i64 ((su : Int) + 1));have f5:=k4.free 0;have H5:=Lib.hid s5;have K4:=Lib.hid k4;clear s2 s3 s4 s5 k2 k3 k4 d3 o2;go_wp2_with fail;have c4 : World.cell? _ _ = some (.int .i64 0):=(K4.out.set_ 0 (.int .i64 0)).cell 0;refine leaves_cons (f:=38) (args:=#[.pointer (some ⟨w.heap.size,0,none⟩)]) (by simp) (by simp [go_sem]) ?_;refine (caught_none _ _).mono ?_;rintro e u' w'' ⟨rfl,rfl,rfl⟩;refine ⟨.tuple #[.int .i64 ((su : Int) + 1),.int .i64 0],by simp [results,Tryz.results14,go_sem,c4],?_⟩;rw [HR.out];exact ⟨rfl,H5.out.err hbw hsz hlt hf 0 (.int .i64 0)⟩
        · have hr : nextD size ⟨sb,su,su,si⟩ = (0,7,⟨sb,su,su,si⟩):=by
            unfold nextD
            rw [if_neg hx,if_neg h9]
            simp only
            rw [← hM,if_neg hroom]
          have hw : writeM size sb [] (told 1 M) = (7,sb,[]):=by rw [told_write,if_neg hroom]
          have HR:=Lib.hid hr;have HW:=Lib.hid hw;have H0:=Lib.hid s0;have K0:=Lib.hid k0;clear hr hw s0 k0
          go_quiet (fail)
          have H1:=Lib.hid (H0.out.drewN nq);have K1:=Lib.hid (K0.out.below (below_drewN (Below.refl _ _) nq) K0.out.lt)
          generalize w0.drewN nq = wq at *
          have e1 : wq.cell? ⟨b,1,none⟩ = some (.int .i64 (su : Nat)):=H1.out.blk.cell 1;have e2 : wq.cell? ⟨b,2,none⟩ = some (.int .i64 (su : Nat)):=H1.out.blk.cell 2;go_wp2_with fail;refine (must_yes (b:=decide ((su : Int) < 96)) (decide_eq_true (by omega)) _ _).mono ?_;rintro e w2 ⟨rfl,rfl⟩;go_wp2_with fail;refine (told_lit 1 1 (96) M rfl (by omega) (by omega) _).mono ?_;rintro e w2 ⟨A2,n2,c2',rfl,o2,b2⟩;have s2:=H1.out.below b2;have k2:=K1.out.below b2 K1.out.lt;have hle:=ownsRow_le o2.2;go_wp2_with fail;refine (write_any A2 n2 c2' _ (told 1 M) _ b g size su su si sb E w2 s2.blk s2.disk hl hs o2.rd (Nat.le_refl _) hle.1 hle.2).mono ?_;rw [HW.out];rintro e w3 ⟨he,d3⟩;obtain rfl : e = .panicked [{ v:=flt ((7 : Nat) : Int),recovered:=false }]:=he;have k3:=d3.kept k2 (s2.nk hsz hnF);obtain ⟨F3,s3⟩:=s2.op d3;go_wp2_with fail;refine leaves_cons (f:=38) (args:=#[.pointer (some ⟨w.heap.size,0,none⟩)]) (by simp) (by simp [go_sem]) ?_;refine (caught_panic w.heap.size 7 [] (.int .i64 0) _ (k3.cell 0) (k3.free 0)).mono ?_;rintro e u' w'' ⟨rfl,rfl,rfl⟩;have k9:=(k3.alloc (.cells #[.int .i64 7] 113)).set_ 0 (.int .i64 7);have c9 : World.cell? _ _ = some (.int .i64 7):=k9.cell 0;have s9:=(s3.below ((Below.refl _ _).alloc (Nat.le_refl _) (.cells #[.int .i64 7] 113))).err hbw hsz hlt hf 0 (.int .i64 7);refine ⟨.tuple #[.int .i64 0,.int .i64 7],by simp [results,Tryz.results14,go_sem,c9],?_⟩;rw [HR.out];exact ⟨rfl,s9⟩
      · have hV : (M : Int) = (su : Int) + 8:=by omega
        have hv8 : ¬ 96 < (su : Int) + 8:=by omega
        by_cases hroom : sb.length + (frm (told 1 M)).length≤size
        · have hr : nextD size ⟨sb,su,su,si⟩ = (su + 1,0,⟨sb ++ frm (told 1 M),su + 1,M,si⟩):=by
            unfold nextD
            rw [if_neg hx,if_neg h9]
            simp only
            rw [← hM,if_pos hroom]
          have hw : writeM size sb [] (told 1 M) = (0,sb ++ frm (told 1 M),[]):=by rw [told_write,if_pos hroom]
          have HR:=Lib.hid hr;have HW:=Lib.hid hw;have H0:=Lib.hid s0;have K0:=Lib.hid k0;clear hr hw s0 k0
          go_quiet (fail)
          have H1:=Lib.hid (H0.out.drewN nq);have K1:=Lib.hid (K0.out.below (below_drewN (Below.refl _ _) nq) K0.out.lt)
          generalize w0.drewN nq = wq at *
          have e1 : wq.cell? ⟨b,1,none⟩ = some (.int .i64 (su : Nat)):=H1.out.blk.cell 1;have e2 : wq.cell? ⟨b,2,none⟩ = some (.int .i64 (su : Nat)):=H1.out.blk.cell 2;go_wp2_with fail;refine (must_yes (b:=decide ((su : Int) < (su : Int) + 8)) (decide_eq_true (by omega)) _ _).mono ?_;rintro e w2 ⟨rfl,rfl⟩;go_wp2_with fail;refine (told_lit 1 1 ((su : Int) + 8) M rfl (by omega) (by omega) _).mono ?_;rintro e w2 ⟨A2,n2,c2',rfl,o2,b2⟩;have s2:=H1.out.below b2;have k2:=K1.out.below b2 K1.out.lt;have hle:=ownsRow_le o2.2;go_wp2_with fail;refine (write_any A2 n2 c2' _ (told 1 M) _ b g size su su si sb E w2 s2.blk s2.disk hl hs o2.rd (Nat.le_refl _) hle.1 hle.2).mono ?_;rw [HW.out];rintro e w3 ⟨he,d3⟩;obtain rfl : e = .returned (.tuple #[]):=he;have k3:=d3.kept k2 (s2.nk hsz hnF);obtain ⟨F3,s3⟩:=s2.op d3;have s4 : SW w0 F b g size ⟨_,su,M,si⟩ E F3 (World.setCell _ ⟨b,2,none⟩ (.int .i64 ((su : Int) + 8))):=s3.set_ (u':=su) (v':=M) (i':=si) (show Blk _ b _ (sc g su M si E) by rw [← hV];exact s3.blk.set_ 2 (.int .i64 (M : Nat)));have e4 : World.cell? _ ⟨b,1,none⟩ = some (.int .i64 (su : Nat)):=s4.blk.cell 1;have f4:=s4.blk.free 1;have g3:=s3.blk.free 2;have s5 : SW w0 F b g size ⟨_,su + 1,M,si⟩ E F3 (World.setCell _ ⟨b,1,none⟩ (.int .i64 ((su : Int) + 1))):=s4.set_ (u':=su + 1) (v':=M) (i':=si) (s4.blk.set_ 1 (.int .i64 ((su : Int) + 1)));have e5 : World.cell? _ ⟨b,1,none⟩ = some (.int .i64 ((su : Int) + 1)):=s5.blk.cell 1;have e3 : w3.cell? ⟨b,1,none⟩ = some (.int .i64 (su : Nat)):=s3.blk.cell 1
          have g1 : w3.frozen? ⟨b,1,none⟩ = false:=s3.blk.free 1;have e6 : w3.cell? ⟨b,2,none⟩ = some (.int .i64 (su : Nat)):=s3.blk.cell 2;have z0 : w3.cell? ⟨w.heap.size,0,none⟩ = some (.int .i64 0):=k3.cell 0;have z1 : w3.frozen? ⟨w.heap.size,0,none⟩ = false:=k3.free 0;have k4:=(k3.far (p:=⟨b,2,none⟩) hne (.int .i64 ((su : Int) + 8))).far (p:=⟨b,1,none⟩) hne (.int .i64 ((su : Int) + 1));have f5:=k4.free 0;have H5:=Lib.hid s5;have K4:=Lib.hid k4;clear s2 s3 s4 s5 k2 k3 k4 d3 o2;go_wp2_with fail;have c4 : World.cell? _ _ = some (.int .i64 0):=(K4.out.set_ 0 (.int .i64 0)).cell 0;refine leaves_cons (f:=38) (args:=#[.pointer (some ⟨w.heap.size,0,none⟩)]) (by simp) (by simp [go_sem]) ?_;refine (caught_none _ _).mono ?_;rintro e u' w'' ⟨rfl,rfl,rfl⟩;refine ⟨.tuple #[.int .i64 ((su : Int) + 1),.int .i64 0],by simp [results,Tryz.results14,go_sem,c4],?_⟩;rw [HR.out];exact ⟨rfl,H5.out.err hbw hsz hlt hf 0 (.int .i64 0)⟩
        · have hr : nextD size ⟨sb,su,su,si⟩ = (0,7,⟨sb,su,su,si⟩):=by
            unfold nextD
            rw [if_neg hx,if_neg h9]
            simp only
            rw [← hM,if_neg hroom]
          have hw : writeM size sb [] (told 1 M) = (7,sb,[]):=by rw [told_write,if_neg hroom]
          have HR:=Lib.hid hr;have HW:=Lib.hid hw;have H0:=Lib.hid s0;have K0:=Lib.hid k0;clear hr hw s0 k0
          go_quiet (fail)
          have H1:=Lib.hid (H0.out.drewN nq);have K1:=Lib.hid (K0.out.below (below_drewN (Below.refl _ _) nq) K0.out.lt)
          generalize w0.drewN nq = wq at *
          have e1 : wq.cell? ⟨b,1,none⟩ = some (.int .i64 (su : Nat)):=H1.out.blk.cell 1;have e2 : wq.cell? ⟨b,2,none⟩ = some (.int .i64 (su : Nat)):=H1.out.blk.cell 2;go_wp2_with fail;refine (must_yes (b:=decide ((su : Int) < (su : Int) + 8)) (decide_eq_true (by omega)) _ _).mono ?_;rintro e w2 ⟨rfl,rfl⟩;go_wp2_with fail;refine (told_lit 1 1 ((su : Int) + 8) M rfl (by omega) (by omega) _).mono ?_;rintro e w2 ⟨A2,n2,c2',rfl,o2,b2⟩;have s2:=H1.out.below b2;have k2:=K1.out.below b2 K1.out.lt;have hle:=ownsRow_le o2.2;go_wp2_with fail;refine (write_any A2 n2 c2' _ (told 1 M) _ b g size su su si sb E w2 s2.blk s2.disk hl hs o2.rd (Nat.le_refl _) hle.1 hle.2).mono ?_;rw [HW.out];rintro e w3 ⟨he,d3⟩;obtain rfl : e = .panicked [{ v:=flt ((7 : Nat) : Int),recovered:=false }]:=he;have k3:=d3.kept k2 (s2.nk hsz hnF);obtain ⟨F3,s3⟩:=s2.op d3;go_wp2_with fail;refine leaves_cons (f:=38) (args:=#[.pointer (some ⟨w.heap.size,0,none⟩)]) (by simp) (by simp [go_sem]) ?_;refine (caught_panic w.heap.size 7 [] (.int .i64 0) _ (k3.cell 0) (k3.free 0)).mono ?_;rintro e u' w'' ⟨rfl,rfl,rfl⟩;have k9:=(k3.alloc (.cells #[.int .i64 7] 113)).set_ 0 (.int .i64 7);have c9 : World.cell? _ _ = some (.int .i64 7):=k9.cell 0;have s9:=(s3.below ((Below.refl _ _).alloc (Nat.le_refl _) (.cells #[.int .i64 7] 113))).err hbw hsz hlt hf 0 (.int .i64 7);refine ⟨.tuple #[.int .i64 0,.int .i64 7],by simp [results,Tryz.results14,go_sem,c9],?_⟩;rw [HR.out];exact ⟨rfl,s9⟩
end Sto
end Go.Proofs.YtfpenfgmpbdakaaGreat

namespace Go.Proofs.YtfpenfgmpbdakaaGreat
set_option linter.unusedVariables false
set_option linter.unusedSimpArgs false
set_option maxRecDepth 100000
open Go.RowKit
open Disk
namespace Sto
open _root_.Go.Proofs.YtfpenfgmpbdakaaGreat.Log (writeM LogEnd lwrite_any)
open _root_.Go.Proofs.YtfpenfgmpbdakaaGreat.Frame (frm frms frms_nil frms_cons frms_snoc frms_append frm_length frm_pos Parts AllF)
set_option maxHeartbeats 2000000 in
theorem bump_any (S : Sd) (E : Value) (F : Nat→Prop) (b g size : Nat) (w : World) (h : StoAt w F b g size S E) (hi : S.inc≤1099511627776) (hs : size≤16384) (hl : S.b.length≤16384) :
    Calls Tryz.prog 16 #[.pointer (some ⟨b,0,none⟩)] w (NumOp w F b g size E (bumpD size S)):=by
  have k0:=Blk.new w 27 #[.int .i64 0];have hbw : Below w.heap.size w (w.alloc (.cells #[.int .i64 0] 27)):=(Below.refl _ _).alloc (Nat.le_refl _) _
  have hsz : w.heap.size < (w.alloc (.cells #[.int .i64 0] 27)).heap.size:=by simp
  have s0:=(h.below hbw).sw;have hlt : b < w.heap.size:=h.2.1.lt;have hf : ∀ k,F k→k < w.heap.size:=h.1.lt
  have hnF : ¬ F w.heap.size:=fun q=>by have:=hf _ q;omega
  have hne : w.heap.size ≠ b:=by omega
  clear h;obtain ⟨sb,su,sv,si⟩:=S
  simp only at *
  have c3:=s0.blk.cell 3;have f3:=s0.blk.free 3
  go_enter_defers Tryz.func16,Tryz.ntmps16
  go_wp2_with fail
  generalize w.alloc (.cells #[.int .i64 0] 27) = w0 at *
  by_cases h9 : 1099511627776≤si
  · have hr : bumpD size ⟨sb,su,sv,si⟩ = (0,7,⟨sb,su,sv,si⟩):=by unfold bumpD;rw [if_pos h9]
    have HR:=Lib.hid hr;have hd : decide ((si : Int) < 1099511627776) = false:=decide_eq_false (by omega)
    have hlt9 : ¬ (si : Int) < 1099511627776:=by omega
    clear hr;go_wp2_with fail;refine (must_bad _ _).mono ?_;rintro e w2 ⟨rfl,rfl⟩;go_wp2_with fail;refine leaves_cons (f:=38) (args:=#[.pointer (some ⟨w.heap.size,0,none⟩)]) (by simp) (by simp [go_sem]) ?_;refine (caught_panic w.heap.size 7 [] (.int .i64 0) _ (k0.cell 0) (k0.free 0)).mono ?_;rintro e u' w'' ⟨rfl,rfl,rfl⟩;have k9:=(k0.alloc (.cells #[.int .i64 7] 113)).set_ 0 (.int .i64 7);have c9 : World.cell? _ _ = some (.int .i64 7):=k9.cell 0;have s9:=(s0.below ((Below.refl _ _).alloc (Nat.le_refl _) (.cells #[.int .i64 7] 113))).err hbw hsz hlt hf 0 (.int .i64 7);refine ⟨.tuple #[.int .i64 0,.int .i64 7],by simp [results,Tryz.results16,go_sem,c9],?_⟩;rw [HR.out];exact ⟨rfl,s9⟩
  · have hd : decide ((si : Int) < 1099511627776) = true:=decide_eq_true (by omega)
    have hlt9 : (si : Int) < 1099511627776:=by omega
    by_cases hroom : sb.length + (frm (told 2 (si + 1))).length≤size
    · have hr : bumpD size ⟨sb,su,sv,si⟩ = (si + 1,0,⟨sb ++ frm (told 2 (si + 1)),su,sv,si + 1⟩):=by
        unfold bumpD
        rw [if_neg h9]
        simp only
        rw [if_pos hroom]
      have hw : writeM size sb [] (told 2 (si + 1)) = (0,sb ++ frm (told 2 (si + 1)),[]):=by rw [told_write,if_pos hroom]
      have HR:=Lib.hid hr;have HW:=Lib.hid hw;clear hr hw;go_wp2_with fail;refine (must_yes (b:=decide ((si : Int) < 1099511627776)) hd _ _).mono ?_;rintro e w2 ⟨rfl,rfl⟩;go_wp2_with fail;refine (told_lit 2 2 _ (si + 1) rfl (by first | rfl | omega) (by omega) _).mono ?_;rintro e w2 ⟨A2,n2,c2',rfl,o2,b2⟩;have s2:=s0.below b2;have k2:=k0.below b2 k0.lt;have hle:=ownsRow_le o2.2;go_wp2_with fail;refine (write_any A2 n2 c2' _ (told 2 (si + 1)) _ b g size su sv si sb E w2 s2.blk s2.disk hl hs o2.rd (Nat.le_refl _) hle.1 hle.2).mono ?_;rw [HW.out];rintro e w3 ⟨he,d3⟩;obtain rfl : e = .returned (.tuple #[]):=he;have k3:=d3.kept k2 (s2.nk hsz hnF);obtain ⟨F3,s3⟩:=s2.op d3;have e3 : w3.cell? ⟨b,3,none⟩ = some (.int .i64 (si : Nat)):=s3.blk.cell 3;have z0 : w3.cell? ⟨w.heap.size,0,none⟩ = some (.int .i64 0):=k3.cell 0;have z1 : w3.frozen? ⟨w.heap.size,0,none⟩ = false:=k3.free 0;have g3:=s3.blk.free 3;have s5 : SW w0 F b g size ⟨_,su,sv,si + 1⟩ E F3 (World.setCell _ ⟨b,3,none⟩ (.int .i64 ((si : Int) + 1))):=s3.set_ (u':=su) (v':=sv) (i':=si + 1) (s3.blk.set_ 3 (.int .i64 ((si : Int) + 1)));have e5 : World.cell? _ ⟨b,3,none⟩ = some (.int .i64 ((si : Int) + 1)):=s5.blk.cell 3;have k4:=k3.far (p:=⟨b,3,none⟩) hne (.int .i64 ((si : Int) + 1));have f5:=k4.free 0;have H5:=Lib.hid s5;have K4:=Lib.hid k4;clear s2 s3 s5 s0 k0 k2 k3 k4 d3 o2 hd hlt9;go_wp2_with fail;have c4 : World.cell? _ _ = some (.int .i64 0):=(K4.out.set_ 0 (.int .i64 0)).cell 0;refine leaves_cons (f:=38) (args:=#[.pointer (some ⟨w.heap.size,0,none⟩)]) (by simp) (by simp [go_sem]) ?_
      refine (caught_none _ _).mono ?_;rintro e u' w'' ⟨rfl,rfl,rfl⟩;refine ⟨.tuple #[.int .i64 ((si : Int) + 1),.int .i64 0],by simp [results,Tryz.results16,go_sem,c4],?_⟩;rw [HR.out];exact ⟨rfl,H5.out.err hbw hsz hlt hf 0 (.int .i64 0)⟩
    · have hr : bumpD size ⟨sb,su,sv,si⟩ = (0,7,⟨sb,su,sv,si⟩):=by
        unfold bumpD
        rw [if_neg h9]
        simp only
        rw [if_neg hroom]
      have hw : writeM size sb [] (told 2 (si + 1)) = (7,sb,[]):=by rw [told_write,if_neg hroom]
      have HR:=Lib.hid hr;have HW:=Lib.hid hw;clear hr hw;go_wp2_with fail;refine (must_yes (b:=decide ((si : Int) < 1099511627776)) hd _ _).mono ?_;rintro e w2 ⟨rfl,rfl⟩;go_wp2_with fail;refine (told_lit 2 2 _ (si + 1) rfl (by first | rfl | omega) (by omega) _).mono ?_;rintro e w2 ⟨A2,n2,c2',rfl,o2,b2⟩;have s2:=s0.below b2;have k2:=k0.below b2 k0.lt;have hle:=ownsRow_le o2.2;go_wp2_with fail;refine (write_any A2 n2 c2' _ (told 2 (si + 1)) _ b g size su sv si sb E w2 s2.blk s2.disk hl hs o2.rd (Nat.le_refl _) hle.1 hle.2).mono ?_;rw [HW.out];rintro e w3 ⟨he,d3⟩;obtain rfl : e = .panicked [{ v:=flt ((7 : Nat) : Int),recovered:=false }]:=he;have k3:=d3.kept k2 (s2.nk hsz hnF);obtain ⟨F3,s3⟩:=s2.op d3;go_wp2_with fail;refine leaves_cons (f:=38) (args:=#[.pointer (some ⟨w.heap.size,0,none⟩)]) (by simp) (by simp [go_sem]) ?_;refine (caught_panic w.heap.size 7 [] (.int .i64 0) _ (k3.cell 0) (k3.free 0)).mono ?_;rintro e u' w'' ⟨rfl,rfl,rfl⟩;have k9:=(k3.alloc (.cells #[.int .i64 7] 113)).set_ 0 (.int .i64 7);have c9 : World.cell? _ _ = some (.int .i64 7):=k9.cell 0;have s9:=(s3.below ((Below.refl _ _).alloc (Nat.le_refl _) (.cells #[.int .i64 7] 113))).err hbw hsz hlt hf 0 (.int .i64 7);refine ⟨.tuple #[.int .i64 0,.int .i64 7],by simp [results,Tryz.results16,go_sem,c9],?_⟩;rw [HR.out];exact ⟨rfl,s9⟩
end Sto
end Go.Proofs.YtfpenfgmpbdakaaGreat

namespace Go.Proofs.YtfpenfgmpbdakaaGreat
set_option linter.unusedVariables false
set_option linter.unusedSimpArgs false
set_option maxRecDepth 100000
open Go.RowKit
open Disk
namespace Sto
open _root_.Go.Proofs.YtfpenfgmpbdakaaGreat.Log (writeM LogEnd lwrite_any)
open _root_.Go.Proofs.YtfpenfgmpbdakaaGreat.Frame (frm frms frms_nil frms_cons frms_snoc frms_append frm_length frm_pos Parts)
structure SL (w : World) (F : Nat→Prop) (b g size : Nat) (S : Sd) (w1 : World) : Prop where
  at_ : StoAt w1 F b g size S (.slice none 0 0)
  fs : ∀ k,F k→w.heap.size≤k
  hb : w.heap.size≤b
  bel : Below w.heap.size w w1
theorem SL.op {w w1 w2 : World} {F : Nat→Prop} {b g size : Nat} {S S' : Sd} (h : SL w F b g size S w1) (ho : StoOp w1 F b g size S' (.slice none 0 0) w2) : ∃ F',SL w F' b g size S' w2:=by
  obtain ⟨F',a,o,gr⟩:=ho;refine ⟨F',a,fun k hk=>?_,h.hb,h.bel.trans (o.to_below (fun k hk=>?_) h.bel.size)⟩
  · rcases gr k hk with q | q
    · exact h.fs k q
    · have:=h.bel.size;omega
  · rcases hk with q | rfl
    · exact h.fs k q
    · exact h.hb
theorem SL.below {w w1 w2 : World} {F : Nat→Prop} {b g size : Nat} {S : Sd} (h : SL w F b g size S w1) (hb : Below w1.heap.size w1 w2) : SL w F b g size S w2:=⟨h.at_.below hb,h.fs,h.hb,h.bel.trans (hb.mono h.bel.size)⟩
theorem SL.dl {w w1 : World} {F : Nat→Prop} {b g size : Nat} {S : Sd} (h : SL w F b g size S w1) : DL w F g size S.b [] w1:=⟨h.at_.1,h.fs,h.bel⟩
theorem open_recs (l : List (List UInt8)) (F : Nat→Prop) (g size u i : Nat) (w w1 : World) (hD : DL w F g size (frms l) [] w1) (hx : ∀ x ∈ l,x.length≤4096∧x.head? ≠ some 3) (hm : (frms l).length≤size) (hs : size≤16384) (hr : recsM (0,0) l = some (u,i)) :
    Calls Tryz.prog 12 #[.pointer (some ⟨g,0,none⟩)] w1 fun e w2=>∃ b F',e = .returned (.tuple #[.pointer (some ⟨b,0,none⟩),.int .i64 0])∧SL w F' b g size ⟨frms l,u,u,i⟩ w2:=by
  have hp : Parts (frms l) l []:=⟨by rw [List.append_nil],fun x h=>(hx x h).1,3,rfl⟩;refine (open_any F g size (frms l) w1 hD.1 hm hs (fun l' r' h x hx'=>?_)).mono ?_
  · obtain ⟨rfl,rfl⟩:=hp.same h
    exact (hx x hx').2
  · rintro e w2 ⟨l',r',F',hp',o,gr,h⟩
    obtain ⟨rfl,rfl⟩:=hp.same hp';rw [hr] at h;obtain ⟨b,he,ha,hb⟩:=h;have hz:=hD.2.2.size;exact ⟨b,F',he,ha,fun k hk=>by rcases gr k hk with q | q;exact hD.2.1 k q;omega,by omega,hD.2.2.trans (o.to_below hD.2.1 hz)⟩
theorem told_frm (k : UInt8) (n : Nat) (hn : n < 128) : (frm (told k n)).length = 8:=by
  rw [frm_length]
  have : Vint.enc n = [UInt8.ofNat n]:=by unfold Vint.enc Vint.encF;rw [if_pos hn]
  unfold told
  rw [this]
  rfl
theorem num_told (most n : Nat) (h : n≤most) (h2 : n≤1099511627776) : numM most (Vint.enc n) = some n:=by
  have:=Vint.dec_enc (n:=n) (by unfold Vint.top;exact h2) []
  rw [List.append_nil] at this
  unfold numM
  rw [this]
  simp [h]
theorem rec_told1 (s : Nat × Nat) (n : Nat) (h : n≤96) : recM s (told 1 n) = some (max s.1 n,s.2):=by
  unfold recM told
  simp only [if_pos,num_told 96 n h (by omega)]
  rfl
theorem rec_told2 (s : Nat × Nat) (n : Nat) (h : n≤1099511627776) : recM s (told 2 n) = some (s.1,max s.2 n):=by
  rw [show told 2 n = 2 :: Vint.enc n from rfl,recM_cons,if_neg (by decide),if_pos rfl,num_told _ n h h]
  rfl
theorem al1 : nextD 100 ⟨[],0,0,0⟩ = (1,0,⟨frms [told 1 8],1,8,0⟩):=by
  unfold nextD
  simp only
  rw [if_neg (by omega),if_neg (by omega),if_pos (by rw [told_frm _ _ (by omega)];simp),frms_cons,frms_nil]
  simp
theorem al2 : nextD 100 ⟨frms [told 1 8],1,8,0⟩ = (2,0,⟨frms [told 1 8],2,8,0⟩):=by
  unfold nextD
  simp only
  rw [if_pos (by omega)]
theorem al3 : bumpD 100 ⟨frms [told 1 8],2,8,0⟩ = (1,0,⟨frms [told 1 8,told 2 1],2,8,1⟩):=by
  unfold bumpD
  simp only
  rw [if_neg (by omega),if_pos (by rw [frms_cons,frms_nil,List.append_nil,told_frm _ _ (by omega),told_frm _ _ (by omega)];omega),show [told 1 8,told 2 1] = [told 1 8] ++ [told 2 1] from rfl,frms_snoc]
theorem al4 : recsM (0,0) [told 1 8,told 2 1] = some (8,1):=by
  show (match recM (0,0) (told 1 8) with | none=>none | some s'=>recsM s' [told 2 1]) = some (8,1)
  rw [rec_told1 _ _ (by omega)]
  show (match recM (8,0) (told 2 1) with | none=>none | some s'=>recsM s' []) = some (8,1)
  rw [rec_told2 _ _ (by omega)]
  rfl
theorem al_len : (frms [told 1 8,told 2 1]).length = 16:=by rw [frms_cons,frms_cons,frms_nil,List.append_nil,List.length_append,told_frm _ _ (by omega),told_frm _ _ (by omega)]
theorem al5 : nextD 100 ⟨frms [told 1 8,told 2 1],8,8,1⟩ = (9,0,⟨frms [told 1 8,told 2 1,told 1 16],9,16,1⟩):=by
  unfold nextD
  simp only
  rw [if_neg (by omega),if_neg (by omega),if_pos (by rw [al_len,told_frm _ _ (by omega)];omega),show [told 1 8,told 2 1,told 1 16] = [told 1 8,told 2 1] ++ [told 1 16] from rfl,frms_snoc]
  rfl
theorem al_len2 : (frms [told 1 8,told 2 1,told 1 16]).length = 24:=by rw [show [told 1 8,told 2 1,told 1 16] = [told 1 8,told 2 1] ++ [told 1 16] from rfl,frms_snoc,List.length_append,al_len,told_frm _ _ (by omega)]
theorem al6 : bumpD 100 ⟨frms [told 1 8,told 2 1,told 1 16],9,16,1⟩ = (2,0,⟨frms [told 1 8,told 2 1,told 1 16] ++ frm (told 2 2),9,16,2⟩):=by
  unfold bumpD
  simp only
  rw [if_neg (by omega),if_pos (by rw [al_len2,told_frm _ _ (by omega)];omega)]
set_option maxRecDepth 100000 in
set_option maxHeartbeats 2000000 in
theorem alive15 (w : World) : Calls Tryz.prog 6 #[] w fun e w'=>e = .returned (.bool true)∧Below w.heap.size w w':=by
  go_enter Tryz.func6,Tryz.ntmps6
  go_wp2_with fail;refine (dnew_any 100 w (by omega) (by omega)).mono ?_;rintro e w1 ⟨g,F1,rfl,hD1,hF1,hb1⟩;have L1:=DL.of_new (Below.refl _ w) hD1 hF1 hb1;clear hD1 hb1 hF1;go_wp2_with fail;refine (open_recs [] F1 g 100 0 0 w w1 L1 (by simp) (by simp [frms_nil]) (by omega) rfl).mono ?_;rintro e w2 ⟨b2,F2,rfl,S2⟩;clear L1;go_wp2_with fail;refine (next_any _ _ F2 b2 g 100 w2 S2.at_ (Nat.le_refl 0) (Nat.zero_le _) (by omega) (by simp [frms_nil])).mono ?_;rw [show frms [] = [] from frms_nil,al1];rintro e w3 ⟨rfl,q3⟩;obtain ⟨F3,S3⟩:=S2.op q3;clear S2 q3;go_wp2_with fail;refine (next_any _ _ F3 b2 g 100 w3 S3.at_ (by simp) (by simp) (by omega) (by simp only;rw [frms_cons,frms_nil,List.append_nil,told_frm _ _ (by omega)];omega)).mono ?_;rw [al2];rintro e w4 ⟨rfl,q4⟩;obtain ⟨F4,S4⟩:=S3.op q4;clear S3 q4;go_wp2_with fail;refine (bump_any _ _ F4 b2 g 100 w4 S4.at_ (by simp) (by omega) (by simp only;rw [frms_cons,frms_nil,List.append_nil,told_frm _ _ (by omega)];omega)).mono ?_;rw [al3];rintro e w5 ⟨rfl,q5⟩;obtain ⟨F5,S5⟩:=S4.op q5;clear S4 q5;go_wp2_with fail;refine (open_recs [told 1 8,told 2 1] F5 g 100 8 1 w w5 S5.dl (by intro x hx;rcases List.mem_cons.1 hx with rfl | hx;exact ⟨by have:=told_len 1 8;omega,by simp [told]⟩;obtain rfl:=List.mem_singleton.1 hx;exact ⟨by have:=told_len 2 1;omega,by simp [told]⟩) (by rw [al_len];omega) (by omega) al4).mono ?_;rintro e w6 ⟨b6,F6,rfl,S6⟩;clear S5;go_wp2_with fail;refine (next_any _ _ F6 b6 g 100 w6 S6.at_ (by simp) (by simp) (by omega) (by simp only;rw [al_len];omega)).mono ?_
  rw [al5];rintro e w7 ⟨rfl,q7⟩;obtain ⟨F7,S7⟩:=S6.op q7;clear S6 q7;go_wp2_with fail;refine (bump_any _ _ F7 b6 g 100 w7 S7.at_ (by simp) (by omega) (by simp only;rw [al_len2];omega)).mono ?_;rw [al6];rintro e w8 ⟨rfl,q8⟩;obtain ⟨F8,S8⟩:=S7.op q8;have b8:=S8.bel;clear S7 q8 S8;go_wp2_with fail;refine (next_nil w8).mono ?_;rintro e w9 ⟨rfl,b9⟩;have b9:=b8.trans (b9.mono b8.size);clear b8;go_wp2_with fail;go_ret;exact ⟨rfl,b9⟩
end Sto
end Go.Proofs.YtfpenfgmpbdakaaGreat

namespace Go.Proofs.YtfpenfgmpbdakaaGreat
set_option linter.unusedVariables false
set_option linter.unusedSimpArgs false
set_option maxRecDepth 100000
open Go.RowKit
open Dot
set_option maxHeartbeats 1000000 in
theorem dots_any (A1 A2 : Option Addr) (n1 c1 n2 c2 B1 B2 : Nat) (l1 l2 : List Dt) (w : World) (h1 : RdD w B1 A1 n1 l1) (h2 : RdD w B2 A2 n2 l2) (hm : n1≤1000000) :
    Calls Tryz.prog 88 #[.slice A1 n1 c1,.slice A2 n2 c2] w fun e w'=>e = .returned (.bool (decide (l1 = l2)))∧∃ m,w' = w.drewN m:=by
  have H1:=Lib.hid h1.1;have H2:=Lib.hid h2.1;obtain ⟨R,hR⟩ : ∃ R,R = decide (l1 = l2):=⟨_,rfl⟩;rw [← hR];have HR:=Lib.hid hR;clear hR
  by_cases hn : n1 = n2
  case neg =>
    have hf : R = false:=by
      rw [HR.out];exact decide_eq_false (fun e=>hn (by rw [H1.out,H2.out,e]))
    subst hf
    have hnd : ¬ (n1 : Int) = (n2 : Int):=by omega
    go_enter Tryz.func88,Tryz.ntmps88
    go_wp2_with fail;go_ret;exact ⟨rfl,0,rfl⟩
  subst hn
  go_enter Tryz.func88,Tryz.ntmps88
  go_wp2_with fail
  go_loopw [13] (fun i wr=>∃ k m : Nat,k≤n1∧i = .int .i64 k∧(∀ j,j < k→l1[j]? = l2[j]?)∧wr = w.drewN m) (fun i _=>n1 - (intOf i).toNat)
  case atStart=>exact ⟨0,0,by omega,rfl,fun j hj=>by omega,rfl⟩
  case round =>
    obtain ⟨k,m,hk,rfl,hall,rfl⟩:=hrel;have HA:=Lib.hid hall;clear hall
    by_cases hlt : k < n1
    · have hkl1 : k < l1.length:=by rw [← H1.out];exact hlt
      have hkl2 : k < l2.length:=by rw [← H2.out];exact hlt
      obtain ⟨ad1,rfl,q5,q0,q1⟩:=h1.2 k _ (List.getElem?_eq_getElem hkl1);obtain ⟨ad2,rfl,p5,p0,p1⟩:=h2.2 k _ (List.getElem?_eq_getElem hkl2);have e1 : l1[k]? = some l1[k]:=List.getElem?_eq_getElem hkl1;have e2 : l2[k]? = some l2[k]:=List.getElem?_eq_getElem hkl2
      generalize l1[k] = d1 at *
      generalize l2[k] = d2 at *
      obtain ⟨x1,y1⟩:=d1;obtain ⟨x2,y2⟩:=d2
      simp only at q0 q1 p0 p1
      have E1:=Lib.hid e1;have E2:=Lib.hid e2
      have hk0 : (0 : Int)≤(k : Int):=by omega
      have hkn : (k : Int) < (n1 : Int):=by omega
      have q0' : (w.drewN m).cell? (ad1.add (k * 2)) = some (.int .i64 x1):=q0;have q1' : (w.drewN m).cell? ⟨(ad1.add (k * 2)).block,(ad1.add (k * 2)).off + 1,none⟩ = some (.int .i64 y1):=q1;have p0' : (w.drewN m).cell? (ad2.add (k * 2)) = some (.int .i64 x2):=p0;have p1' : (w.drewN m).cell? ⟨(ad2.add (k * 2)).block,(ad2.add (k * 2)).off + 1,none⟩ = some (.int .i64 y2):=p1;clear e1 e2
      by_cases ex : x1 = x2
      · by_cases ey : y1 = y2
        · subst ex ey
          go_upto_region 6 with fail
          go_quiet (fail)
          go_wp2_with fail
          go_roundw
          case rel=>exact ⟨k + 1,m + nq,by omega,by go_num,fun j hj=>by
            by_cases e : j = k
            · subst e;rw [E1.out,E2.out]
            · exact HA.out j (by omega),rfl⟩
          case measure=>simp [intOf];omega
        · have hf : R = false:=by
            rw [HR.out];refine decide_eq_false (fun e=>?_);have h3:=E1.out;rw [e,E2.out] at h3
            injection h3 with h3
            injection h3 with h3 h4
            exact ey h4.symm
          subst hf;subst ex
          go_upto_region 6 with fail
          go_quiet (fail)
          go_wp2_with fail;go_ret;exact ⟨rfl,m + nq,by simp⟩
      · have hf : R = false:=by
          rw [HR.out];refine decide_eq_false (fun e=>?_);have h3:=E1.out;rw [e,E2.out] at h3
          injection h3 with h3
          injection h3 with h3 h4
          exact ex h3.symm
        subst hf
        go_upto_region 6 with fail
        go_quiet (fail)
        go_wp2_with fail;go_ret;exact ⟨rfl,m + nq,by simp⟩
    · have hf : R = true:=by
        rw [HR.out];refine decide_eq_true (List.ext_getElem? fun i=>?_)
        by_cases hi : i < n1
        · exact HA.out i (by omega)
        · rw [List.getElem?_eq_none (by have:=H1.out;omega),List.getElem?_eq_none (by have:=H2.out;omega)]
      subst hf;go_wp2_with fail;go_ret;exact ⟨rfl,m,rfl⟩
end Go.Proofs.YtfpenfgmpbdakaaGreat

namespace Go.Proofs.YtfpenfgmpbdakaaGreat
set_option linter.unusedVariables false
set_option linter.unusedSimpArgs false
set_option maxRecDepth 100000
open Go.RowKit
open Dot Evt
set_option maxRecDepth 100000 in
set_option maxHeartbeats 2000000 in
theorem rsame07_eq (x y : EvV) (w : World) (hx : EvOk w w.heap.size x) (hy : EvOk w w.heap.size y) (he : x.e = y.e) (hm : x.m≤1000000) :
    Calls Tryz.prog 63 #[.agg x.cs,.agg y.cs] w fun e w'=>e = .returned (.bool true)∧Below w.heap.size w w':=by
  obtain ⟨ex,A1,m1,c1⟩:=x;obtain ⟨ey,A2,m2,c2⟩:=y
  simp only at he
  subst he
  have hd:=fun (w' : World) (h : Below w.heap.size w w')=>dots_any A1 A2 m1 c1 m2 c2 w.heap.size w.heap.size ex.l ex.l w' (hx.2.1.below h) (hy.2.1.below h) hm
  obtain ⟨⟨n,q⟩,t,k,wk,v,p,l⟩:=ex
  simp only [decide_true] at hd
  have HD:=Lib.hid hd;clear hd hx hy hm
  unfold EvV.cs ec
  simp only
  generalize p.getD 0 0 = p0,p.getD 1 0 = p1,p.getD 2 0 = p2,p.getD 3 0 = p3,p.getD 4 0 = p4,p.getD 5 0 = p5,p.getD 6 0 = p6
  go_enter Tryz.func63,Tryz.ntmps63
  go_upto_region 1 with fail
  refine nameW ?_;intro wv hwv;obtain ⟨b,hb⟩ : ∃ b,b = w.heap.size:=⟨_,rfl⟩;rw [← hb]
  have kb : Blk wv b 47 #[.int .i64 n,.int .i64 q,.int .i64 t,.int .i64 k,.int .i64 wk,.int .i64 v,.int .i64 p0,.int .i64 p1,.int .i64 p2,.int .i64 p3,.int .i64 p4,.int .i64 p5,.int .i64 p6,.slice A1 m1 c1]:=by rw [hwv,hb];exact (Blk.new w _ _).alloc _
  have kz : Blk wv (b + 1) 47 #[.int .i64 n,.int .i64 q,.int .i64 t,.int .i64 k,.int .i64 wk,.int .i64 v,.int .i64 p0,.int .i64 p1,.int .i64 p2,.int .i64 p3,.int .i64 p4,.int .i64 p5,.int .i64 p6,.slice A2 m2 c2]:=by
    have h:=Blk.new (w.alloc (.cells #[.int .i64 n,.int .i64 q,.int .i64 t,.int .i64 k,.int .i64 wk,.int .i64 v,.int .i64 p0,.int .i64 p1,.int .i64 p2,.int .i64 p3,.int .i64 p4,.int .i64 p5,.int .i64 p6,.slice A1 m1 c1] 47)) 47 #[.int .i64 n,.int .i64 q,.int .i64 t,.int .i64 k,.int .i64 wk,.int .i64 v,.int .i64 p0,.int .i64 p1,.int .i64 p2,.int .i64 p3,.int .i64 p4,.int .i64 p5,.int .i64 p6,.slice A2 m2 c2];rw [show (w.alloc (.cells #[.int .i64 n,.int .i64 q,.int .i64 t,.int .i64 k,.int .i64 wk,.int .i64 v,.int .i64 p0,.int .i64 p1,.int .i64 p2,.int .i64 p3,.int .i64 p4,.int .i64 p5,.int .i64 p6,.slice A1 m1 c1] 47)).heap.size = w.heap.size + 1 by simp] at h;rw [hwv,hb];exact h
  have gb : Below w.heap.size w wv:=by rw [hwv];exact ((Below.refl _ _).alloc (Nat.le_refl _) _).alloc (by simp) _
  have hD:=HD.out wv gb;have HD2:=Lib.hid hD;have HG:=Lib.hid gb;clear hwv hb gb hD HD;obtain ⟨c0,c1,c2,c3,c4,c5,c6,c7,c8,c9,c10,c11,c12,c13⟩:=ecells kb;obtain ⟨d0,d1,d2,d3,d4,d5,d6,d7,d8,d9,d10,d11,d12,d13⟩:=ecells kz;go_wp2_with fail;refine HD2.out.mono ?_;rintro e w1 ⟨rfl,mm,rfl⟩;go_wp2_with fail;go_ret;exact ⟨rfl,below_drewN HG.out mm⟩
section
variable {P : Program} {T : TypeId} {n : Nat} {ad : Addr} {cs : Array Value}
theorem quiet_lda {ops : Array Oper} {rest : List Oper} {a : Act} {Q : Act→Prop} {C : World→Prop} {d : Option Tmp} {ty : TypeId} {pos : String} {aft : Array Edge} {gd : Option (Nat × Bool)} {x : Operand} (hR : RowT P T n) (hS : ∀ w,C w→∀ (j : Nat) v,cs[j]? = some v→w.cell? (ad.add j) = some v) (hn : cs.size = n)
    (h : wpQuiet P ops C Q rest (a.put d (.agg cs))) (hx : a.eval x = .pointer (some ad)) (hw : Region.wanted ⟨d,.load T x,ty,pos,aft,gd⟩ (yielded ops a.tmps) = true) : wpQuiet P ops C Q (⟨d,.load T x,ty,pos,aft,gd⟩ :: rest) a:=by
  unfold wpQuiet
  rw [if_pos hw];obtain ⟨e,hu,hd,hi⟩:=hR;rw [← hn,← Array.length_toList] at hi;refine ⟨.agg cs,fun w hw=>?_,h⟩
  have hcl : ∀ (j : Nat) v,cs.toList[j]? = some v→w.cell? (ad.add j) = some v:=fun j v hj=>hS w hw j v (by simpa using hj)
  unfold Oper.quietAt execOp
  simp only [hx,Instr.loadAt,Instr.sureAddr,Sem.run_bind,Sem.run_pure,Result.andThen_ok,run_loadVar_at w ad T cs.toList e hcl hu hd hi,Array.toArray_toList]
  exact ⟨rfl,rfl⟩
end
set_option maxRecDepth 100000 in
set_option maxHeartbeats 2000000 in
theorem rall07_eq (A1 A2 : Option Addr) (n c1 c2 : Nat) (xs ys : List EvV) (w : World) (hx : RowEv w w.heap.size A1 n xs) (hy : RowEv w w.heap.size A2 n ys) (he : xs.map (·.e) = ys.map (·.e)) (hm : ∀ x ∈ xs,x.m≤1000000) (hn : n≤10000000000000) :
    Calls Tryz.prog 29 #[.slice A1 n c1,.slice A2 n c2] w fun e w'=>e = .returned (.bool true)∧Below w.heap.size w w':=by
  have HN:=Lib.hid hx.1;have HN2:=Lib.hid hy.1
  have HX:=Lib.hid fun (w' : World) (h : Below w.heap.size w w')=>(hx.below h)
  have HY:=Lib.hid fun (w' : World) (h : Below w.heap.size w w')=>(hy.below h)
  have HE:=Lib.hid he;have HM:=Lib.hid hm;clear hx hy he hm
  go_enter Tryz.func29,Tryz.ntmps29
  go_wp2_with fail
  go_loopw [13] (fun i wr=>∃ k : Nat,k≤n∧i = .int .i64 k∧Below w.heap.size w wr) (fun i _=>n - (intOf i).toNat)
  case atStart=>exact ⟨0,by omega,rfl,Below.refl _ _⟩
  case round =>
    obtain ⟨k,hk,rfl,gb⟩:=hrel
    by_cases hlt : k < n
    · have hkl : k < xs.length:=by rw [← HN.out];exact hlt
      have hky : k < ys.length:=by rw [← HN2.out];exact hlt
      have hX:=(HX.out wr gb).2 k _ (List.getElem?_eq_getElem hkl);have hY:=(HY.out wr gb).2 k _ (List.getElem?_eq_getElem hky);have hmm:=HM.out _ (List.getElem_mem hkl)
      have hee : xs[k].e = ys[k].e:=by
        have h:=congrArg (fun l=>l[k]?) HE.out
        simp only [List.getElem?_map,List.getElem?_eq_getElem hkl,List.getElem?_eq_getElem hky,Option.map_some] at h
        injection h
      generalize xs[k] = x at *
      generalize ys[k] = y at *
      obtain ⟨okx,ad1,hA1,hb1,hc1⟩:=hX;obtain ⟨oky,ad2,hA2,hb2,hc2⟩:=hY;subst hA1 hA2
      have hcl1:=fun (w' : World) (h : Below wr.heap.size wr w')=>fun (j : Nat) (v : Value) (hv : x.cs[j]? = some v)=>((h.cell (p:=(ad1.add (k * 14)).add j) (by rw [block_add,block_add];have:=gb.size;omega)).trans (hc1 j v hv))
      have hcl2:=fun (w' : World) (h : Below wr.heap.size wr w')=>fun (j : Nat) (v : Value) (hv : y.cs[j]? = some v)=>((h.cell (p:=(ad2.add (k * 14)).add j) (by rw [block_add,block_add];have:=gb.size;omega)).trans (hc2 j v hv))
      have hsm:=fun (w' : World) (h : Below wr.heap.size wr w')=>rsame07_eq x y w' ((okx.below (h.mono gb.size)).more (by have:=gb.size;have:=h.size;omega)) ((oky.below (h.mono gb.size)).more (by have:=gb.size;have:=h.size;omega)) hee hmm
      obtain ⟨cx,hcx⟩ : ∃ cx,cx = x.cs:=⟨_,rfl⟩;obtain ⟨cy,hcy⟩ : ∃ cy,cy = y.cs:=⟨_,rfl⟩;have SX:=Lib.hid (show cx.size = 14 by rw [hcx];rfl);have SY:=Lib.hid (show cy.size = 14 by rw [hcy];rfl);rw [← hcx,← hcy] at hsm;rw [← hcx] at hcl1;rw [← hcy] at hcl2;have HC1:=Lib.hid hcl1;have HC2:=Lib.hid hcl2;have HSM:=Lib.hid hsm
      have hk0 : (0 : Int)≤(k : Int):=by omega
      have hkm : (k : Int) < (n : Int):=by omega
      clear hcl1 hcl2 hsm hcx hcy hee hmm hc1 hc2 okx oky
      go_upto_region 6 with fail
      refine wp_region_below (by kernel_rfl) (by kernel_rfl) ?_;intro T iT F hF hT;have HF:=Lib.hid hF;have HT:=Lib.hid hT;clear hF hT
      iterate 3 (go_big_quiet_step (fail))
      (with_reducible refine quiet_lda rowE (fun w' hw'=>by obtain ⟨qf,rfl⟩:=hw';exact HC1.out _ (HF.out qf)) SX.out ?_ ?_ ?_);rotate_left;(rfl);(rfl);simp only [Act.put,List.setIfInBounds_toArray,List.set_cons_succ,List.set_cons_zero,eq_self,decide_true,Bool.not_true,Bool.not_false,beq_self_eq_true]
      iterate 3 (go_big_quiet_step (fail))
      (with_reducible refine quiet_lda rowE (fun w' hw'=>by obtain ⟨qf,rfl⟩:=hw';exact HC2.out _ (HF.out qf)) SY.out ?_ ?_ ?_);rotate_left;(rfl);(rfl);simp only [Act.put,List.setIfInBounds_toArray,List.set_cons_succ,List.set_cons_zero,eq_self,decide_true,Bool.not_true,Bool.not_false,beq_self_eq_true]
      go_big_quiet_step ((go_at_call 63;exact calls_below HF.out HT.out (HSM.out _ (HF.out _))))
      repeat (go_big_quiet_step (fail))
      refine wpQuiet_nil ?_;intro w' hw';obtain ⟨qf,rfl⟩:=hw';have bF:=HF.out qf;have gbF:=gb.trans (bF.mono gb.size);clear HC1 HC2 HSM HF HT bF;go_wp2_with fail
      go_roundw
      case rel=>exact ⟨k + 1,by omega,by go_num,gbF⟩
      case measure=>simp [intOf];omega
    · have hkd : decide ((k : Int) < (n : Int)) = false:=decide_eq_false (by omega)
      go_wp2_with fail;go_ret;exact ⟨rfl,gb⟩
end Go.Proofs.YtfpenfgmpbdakaaGreat

namespace Go.Proofs.YtfpenfgmpbdakaaGreat.StorePlays
set_option linter.unusedVariables false
set_option linter.unusedSimpArgs false
set_option maxRecDepth 100000
open Go.ChangeShapes Go.WideShapes Go.ChangeAt Go.RowKit Go.Deep
open Dot Evt
open Go.Proofs.YtfpenfgmpbdakaaGreat.Sto.Stp Go.Proofs.YtfpenfgmpbdakaaGreat.Disk
open Go.Proofs.YtfpenfgmpbdakaaGreat.Sto (alive15 great15_any OpV OpOk RowOp rowO events_any inc_any open_ops15 Great15 sc)
open Go.Proofs.YtfpenfgmpbdakaaGreat.Frame (frm frms frms_nil frms_cons frms_snoc frms_append frm_length frm_pos Parts)
set_option linter.unusedVariables false
set_option linter.unusedSimpArgs false
theorem op_ev {w : World} {g : Nat} {T : TypeId} {o : OpV} (k : Blk w g T o.cs) : w.rangeAt g 2 o.e.cs.toList:=fun j v hv=>by
  have hv : o.e.cs[j]? = some v:=by simpa using hv
  have hj : j < 14:=by
    have:=(Array.getElem?_eq_some_iff.1 hv).1
    rwa [o.e.size] at this
  rw [k.cell,← hv]
  match j,hj with
  | 0,_=>rfl
  | 1,_=>rfl
  | 2,_=>rfl
  | 3,_=>rfl
  | 4,_=>rfl
  | 5,_=>rfl
  | 6,_=>rfl
  | 7,_=>rfl
  | 8,_=>rfl
  | 9,_=>rfl
  | 10,_=>rfl
  | 11,_=>rfl
  | 12,_=>rfl
  | 13,_=>rfl
theorem evSum_mem (xs : List EvV) : ∀ x ∈ xs,x.m≤evSum xs:=by
  unfold evSum
  induction xs with
  | nil=>simp
  | cons y l ih =>
    intro x hx
    simp only [List.map_cons,List.sum_cons]
    rcases List.mem_cons.1 hx with rfl | h
    · omega
    · have:=ih x h;omega
theorem evSum_len (xs : List EvV) : xs.length≤evSum xs:=by
  unfold evSum
  induction xs with
  | nil=>simp
  | cons x l ih=>simp at ih ⊢;omega
set_option maxHeartbeats 32000000 in
theorem walk (size0 : Int) (A1 : Option Addr) (n1 c1 : Nat) (b1 : List UInt8) (A0 : Option Addr) (n0 c0 : Nat) (ls : List OpV) (w0 : World) (m1 : -9223372036854775808≤size0) (m2 : size0≤9223372036854775807) (hf1 : RdB w0 w0.heap.size A1 n1 b1) (hf2 : n1≤maxLen) (hr : RowOp w0 w0.heap.size A0 n0 ls) (hn0 : n0≤10000000000000) :
    Calls Tryz.prog 3 #[.int .i64 size0,.slice A1 n1 c1,.slice A0 n0 c0] w0 fun e w'=>e = .returned (.bool true)∧Below w0.heap.size w0 w':=by
  have HRK:=Lib.hid fun (w' : World) (hb : Below w0.heap.size w0 w')=>hr.below hb
  have HN:=Lib.hid hr.1
  have HFB:=Lib.hid fun (w' : World) (hb : Below w0.heap.size w0 w')=>hf1.below hb
  have HGR:=Lib.hid fun (w' : World) (hb : Below w0.heap.size w0 w')=>(great15_any A0 n0 c0 ls w' (by
    have h:=hr.below hb
    exact ⟨h.1,fun i o hi=>by
      obtain ⟨q1,ad,q2,q3,q4⟩:=h.2 i o hi;have hz:=hb.size
      exact ⟨⟨q1.e.more hz,q1.l.more hz,q1.l1,q1.l2,q1.l3,q1.b.more hz,q1.b1,q1.b2,q1.b3,q1.n1,q1.n2⟩,ad,q2,by omega,q4⟩⟩) hn0)
  clear hr m1 m2 hf1 hf2
  go_enter Tryz.func3,Tryz.ntmps3
  go_wp2_with fail;refine (alive15 w0).mono ?_;rintro e w1 ⟨rfl,b1'⟩;go_wp2_with fail;refine (HGR.out w1 b1').mono ?_;rintro e w2 ⟨⟨G,rfl,hG⟩,b2'⟩;have gb:=b1'.trans (b2'.mono b1'.size);have HGG:=Lib.hid hG;clear b1' b2' hG HGR
  cases G
  case true =>
    go_wp2_with fail;go_ret;exact ⟨rfl,gb⟩
  have hgg:=HGG.out rfl;have HG:=Lib.hid hgg;have hn100:=hgg.1;clear hgg HGG
  by_cases hbig : 5000 < n1
  case pos =>
    have hd : (5000 : Int) < (n1 : Int):=by omega
    clear hbig;go_wp2_with fail;go_ret;exact ⟨rfl,gb⟩
  have hd : ¬ (5000 : Int) < (n1 : Int):=by omega
  have HN1:=Lib.hid (show n1≤5000 by omega);clear hbig
  by_cases hsz : 1≤size0∧size0≤16384
  case neg =>
    have HB:=Lib.hid (dnew_bad size0 w2 (by omega));have HB2:=Lib.hid (rnew_bad size0 w2 (by omega));go_wp2_with fail;refine HB.out.mono ?_;rintro e w3 ⟨rfl,rfl⟩;go_wp2_with fail;refine HB2.out.mono ?_;rintro e w3 ⟨rfl,rfl⟩;go_wp2_with fail;go_ret;exact ⟨rfl,gb⟩
  obtain ⟨size,rfl⟩ : ∃ size : Nat,size0 = (size : Int):=⟨size0.toNat,by omega⟩
  have hs1 : 1≤size:=by omega
  have hs2 : size≤16384:=by omega
  clear hsz;go_wp2_with fail;refine (dnew_any size w2 hs1 hs2).mono ?_;rintro e w3 ⟨g,F1,rfl,hD1,hF1,hb3⟩;have HD1:=Lib.hid hD1;have HB3:=Lib.hid hb3;clear hD1 hb3 hd;go_wp2_with fail;refine (rnew_any size w3 hs1 hs2).mono ?_;rintro e w4 ⟨r,G1,rfl,hD2,hG1,hb4⟩;have ok0 : (Db.mk [] []).ok:=Db.of_ok (b:=[]) (Nat.zero_le _);have T0 : Two w0 size F1 g ⟨[],[]⟩ G1 r ⟨[],[]⟩ w4:=⟨⟨HD1.out.below hb4,ok0⟩,⟨hD2,ok0⟩,fun k hk=>Nat.le_trans gb.size (hF1 k hk),fun k hk=>Nat.le_trans gb.size (Nat.le_trans HB3.out.size (hG1 k hk)),fun k hk q=>by have:=HD1.out.lt k hk;have:=hG1 k q;omega,(gb.trans (HB3.out.mono gb.size)).trans (hb4.mono (Nat.le_trans gb.size HB3.out.size))⟩;have HT0:=Lib.hid T0;clear hD2 hG1 hb4 HD1 HB3 hF1 gb ok0 T0;have hok:=append_first (size:=size) b1 hs2;have HAP:=Lib.hid (dappend_any A1 n1 c1 w0.heap.size b1 F1 g size ⟨[],[]⟩ w4 HT0.out.p hs2 (Db.fits_ok hok) (HFB.out w4 HT0.out.bel));have HOKF:=Lib.hid hok;clear hok;go_wp2_with fail;refine HAP.out.mono ?_;rintro e w5 ⟨rfl,ho⟩;obtain ⟨F2,T1,_⟩:=HT0.out.left ho;have HT1:=Lib.hid T1;have HAP2:=Lib.hid (rdappend_any A1 n1 c1 w0.heap.size b1 G1 r size ⟨[],[]⟩ w5 T1.q hs2 (Db.fits_ok HOKF.out) (HFB.out w5 T1.bel) T1.bel.size T1.qf (by have:=HN1.out;omega))
  generalize (appendD size ⟨[],[]⟩ b1).1 = q1 at *
  clear ho T1 HT0 HAP;go_wp2_with fail;refine HAP2.out.mono ?_;rintro e w6 ⟨rfl,ho⟩;obtain ⟨G2,T2,_⟩:=HT1.out.right ho;have HT2:=Lib.hid T2
  generalize (appendD size ⟨[],[]⟩ b1).2 = d1 at *
  clear ho T2 HT1 HAP2 HFB;go_wp2_with fail;refine (HT2.out.call1 HOKF.out).mono ?_;rintro e w7 ⟨hc,sv,rfl,hn⟩;have HHN:=Lib.hid hn;clear hn HT2;go_wp2_with fail;refine (HHN.out.call2 (m:=20000) HOKF.out (by omega)).mono ?_;rintro e w8 ⟨tv,rfl,hnow⟩;have HNOW:=Lib.hid hnow;clear hnow HHN HOKF;go_wp2_with fail
  go_loopw [11,12,13,14,17,18,19,20,21,69] (fun sv g1 tv h1 _ _ _ _ _ i wr=>∃ (k hc : Nat),k≤n0∧i = .int .i64 (k : Nat)∧g1 = .int .i64 (hc : Nat)∧h1 = .int .i64 (hc : Nat)∧Now w0 size g r (20000 + k) hc sv tv wr) (fun _ _ _ _ _ _ _ _ _ i _=>n0 - (intOf i).toNat)
  case atStart=>exact ⟨0,hc,by omega,rfl,rfl,rfl,HNOW.out⟩
  case round =>
  clear HNOW;obtain ⟨k,hc,hk,rfl,rfl,rfl,hnow⟩:=hrel;have HS0:=Lib.hid hnow;clear hnow
  by_cases hlt : k < n0
  case neg =>
    have hkn : ¬ (k : Int) < (n0 : Int):=by omega
    go_wp2_with fail;go_ret;exact ⟨rfl,HS0.out.bel⟩
  have hkl : k < ls.length:=by rw [← HN.out];exact hlt
  obtain ⟨hok,ad,hA,hab,hcs⟩:=(HRK.out wr HS0.out.bel).2 k _ (List.getElem?_eq_getElem hkl);have hgo:=HG.out.2 _ (List.getElem_mem hkl)
  have hokw:=fun (w : World) (hb : Below w0.heap.size w0 w)=>((HRK.out w hb).2 k _ (List.getElem?_eq_getElem hkl)).1
  generalize ls[k] = o at *
  subst hA;obtain ⟨cs,hcx⟩ : ∃ cs,cs = o.cs:=⟨_,rfl⟩;rw [← hcx] at hcs;have SZ:=Lib.hid (show cs.size = 18 by rw [hcx];rfl);have OZ:=Lib.hid (show cs.all (·.oneCell') = true by rw [hcx];exact o.one);have X0:=Lib.hid (show cs[0]? = some (.int .i64 o.k) by rw [hcx];rfl);have X1:=Lib.hid (show cs[1]? = some (.int .i64 o.n) by rw [hcx];rfl);have X16:=Lib.hid (show cs[16]? = some (.slice o.AL o.nl o.cl) by rw [hcx];rfl);have X17:=Lib.hid (show cs[17]? = some (.slice o.AB o.nb o.cb) by rw [hcx];rfl);have HCS:=Lib.hid hcs;have HCX:=Lib.hid hcx;have HOK:=Lib.hid hokw;have HGO:=Lib.hid hgo
  have hk0 : (0 : Int)≤(k : Int):=by omega
  have hkm : (k : Int) < (n0 : Int):=by omega
  clear hcs hcx hok hokw hgo
  rcases HS0.out with ⟨rfl,hN⟩ | ⟨rfl,rfl,rfl,F,G,d,hT,hdf⟩
  case inr =>
    go_upto_region 16 with first
      | ((with_reducible refine wpList_lda rowO HCS.out SZ.out ?_ ?_);rotate_left;(rfl))
      | ((with_reducible refine wpList_st rowO (Blk.new _ _ _) SZ.out ?_ OZ.out ?_ ?_ ?_);(rfl);rotate_left;(rfl);(rfl);intro w6 k6 g6 z6)
    have bA : Below wr.heap.size wr w6:=new_below g6;have hbb:=(hT.below bA).bel;clear g6 z6 k6 hT bA;go_wp2_with fail;go_ret;exact ⟨rfl,hbb⟩
  obtain ⟨S,s,t,hsg,htg,rfl,rfl,pr,hte,good,hge⟩:=hN;have HFT:=Lib.hid (show ∀ q,s.foot q∨t.foot q→q < wr.heap.size from fun q hq=>hq.elim (pr.p.lt q) (pr.q.lt q));have HP0:=Lib.hid pr;have HSG:=Lib.hid hsg;have HTG:=Lib.hid htg;have HTE:=Lib.hid hte;have HGS:=Lib.hid good;have HGE:=Lib.hid hge;clear pr hsg htg hte good hge HS0
  go_upto_region 16 with first
    | ((with_reducible refine wpList_lda rowO HCS.out SZ.out ?_ ?_);rotate_left;(rfl))
    | ((with_reducible refine wpList_st rowO (Blk.new _ _ _) SZ.out ?_ OZ.out ?_ ?_ ?_);(rfl);rotate_left;(rfl);(rfl);intro w6 k6 g6 z6)
  have bA : Below wr.heap.size wr w6:=new_below g6;obtain ⟨gr,hgr⟩ : ∃ gr,gr = wr.heap.size:=⟨_,rfl⟩;rw [← hgr] at k6 ⊢;have HP:=Lib.hid (HP0.out.below bA);have HGR:=Lib.hid (And.intro hgr bA.size);have HFG:=Lib.hid (show ∀ q,s.foot q∨t.foot q→q < gr from fun q hq=>by rw [HGR.out.1];exact HFT.out q hq);have HK6:=Lib.hid k6;clear g6 z6 hgr bA HCS HFT HP0;have t0 : w6.cell? ⟨gr,0,none⟩ = some (.int .i64 o.k):=(k6.cell 0).trans X0.out;clear k6
  go_upto_block 2 with fail
  go_cut [11,12,13,14,17,18,19,20,21] (fun sv g1 tv h1 a b x y _ wx=>∃ hc q1 q2 : Nat,g1 = .int .i64 (hc : Nat)∧h1 = .int .i64 (hc : Nat)∧a = .int .i64 (q1 : Nat)∧b = .int .i64 (q1 : Nat)∧x = .int .i64 (q2 : Nat)∧y = .int .i64 (q2 : Nat)∧Now w0 size g r (20000 + (k + 1)) hc sv tv wx)
  case first =>
    by_cases h1 : o.k = 1
    · have e1 : (o.k == 1) = true:=by rw [beq_iff_eq];exact h1
      have hgd:=next_out size S HGS.out;have hop:=HP.out.next1 HGS.out
      have hop2:=fun (w9 : World) (s' : SoV) (pr1 : Pr w0 size (nextD size S).2.2 S s' t w9)=>pr1.next2 HGS.out
      generalize nextD size S = R at *
      obtain ⟨K,y,S'⟩:=R
      dsimp only at hgd hop hop2
      have HGD:=Lib.hid hgd;have HOP:=Lib.hid hop;have HOP2:=Lib.hid hop2;clear h1 hgd hop hop2;go_wp2_with fail;refine HOP.out.mono ?_;rintro e w9 ⟨rfl,s',e1,e2,pr1,ev1,_⟩;have HO:=Lib.hid (HOP2.out w9 s' pr1);have HE:=Lib.hid (And.intro e1 (And.intro e2 ev1));clear e1 e2 pr1 ev1 HOP HOP2;go_wp2_with fail;refine HO.out.mono ?_;rintro e wa ⟨rfl,t',f1,f2,pr2,ev2,_⟩;have HNW:=Lib.hid (Now.of (m:=20000 + (k + 1)) HSG.out HTG.out HE.out.1 HE.out.2.1 f1 f2 pr2 (by rw [ev2,HE.out.2.2];exact HTE.out) HGD.out (by rw [HE.out.2.2];exact ⟨by have:=HGE.out.1;omega,HGE.out.2⟩));clear f1 f2 pr2 ev2 HO;go_wp2_with fail;go_meet;exact ⟨0,K,y,rfl,rfl,rfl,rfl,rfl,rfl,HNW.out⟩
    by_cases h2 : o.k = 2
    · have e2 : (o.k == 2) = true:=by rw [beq_iff_eq];exact h2
      have hgd:=bump_out size S HGS.out;have hop:=HP.out.bump1 HGS.out
      have hop2:=fun (w9 : World) (s' : SoV) (pr1 : Pr w0 size (bumpD size S).2.2 S s' t w9)=>pr1.bump2 HGS.out
      generalize bumpD size S = R at *
      obtain ⟨K,y,S'⟩:=R
      dsimp only at hgd hop hop2
      have HGD:=Lib.hid hgd;have HOP:=Lib.hid hop;have HOP2:=Lib.hid hop2;clear h2 hgd hop hop2;go_wp2_with fail;refine HOP.out.mono ?_;rintro e w9 ⟨rfl,s',e1,e2,pr1,ev1,_⟩;have HO:=Lib.hid (HOP2.out w9 s' pr1);have HE:=Lib.hid (And.intro e1 (And.intro e2 ev1));clear e1 e2 pr1 ev1 HOP HOP2;go_wp2_with fail;refine HO.out.mono ?_;rintro e wa ⟨rfl,t',f1,f2,pr2,ev2,_⟩;have HNW:=Lib.hid (Now.of (m:=20000 + (k + 1)) HSG.out HTG.out HE.out.1 HE.out.2.1 f1 f2 pr2 (by rw [ev2,HE.out.2.2];exact HTE.out) HGD.out (by rw [HE.out.2.2];exact ⟨by have:=HGE.out.1;omega,HGE.out.2⟩));clear f1 f2 pr2 ev2 HO;go_wp2_with fail;go_meet;exact ⟨0,K,y,rfl,rfl,rfl,rfl,rfl,rfl,HNW.out⟩
    by_cases h3 : o.k = 3
    · have e3 : (o.k == 3) = true:=by rw [beq_iff_eq];exact h3
      have hem : o.e.m≤3000:=by have:=HGO.out.1;omega
      have hoe:=(HOK.out w6 HP.out.bel).e
      have hxl : o.e.e.l.length≤3000:=by have:=hoe.2.1.1;omega
      have hgd:=keep_out size S s.evs o.e.e HGS.out HGE.out hxl
      have hkp:=fun (w : World) (pr : Pr w0 size S S s t w) (A9 : Option Addr) (c9 : Nat) (o9 : OwnD w w6.heap.size A9 o.e.m c9 o.e.e.l)=>pr.keep1 o.e.e o9 (fun q hq=>HP.out.p.lt q hq) hoe.1 hem HGS.out HGE.out (by omega)
      have hkr:=fun (w : World) (s' : SoV) (pr : Pr w0 size (keepD size S s.evs o.e.e).2.1 S s' t w)=>pr.keep2 o.e (fun w' hb=>(HOK.out w' hb).e) hem HGS.out (by rw [HTE.out];exact HGE.out) (by omega)
      rw [HTE.out] at hkr
      have hcp:=fun (w : World) (hb : Below w6.heap.size w6 w)=>rcopy07_any o.e w (((HOK.out w (HP.out.bel.trans (hb.mono HP.out.bel.size))).e).more (HP.out.bel.trans (hb.mono HP.out.bel.size)).size) (by omega)
      have hrg:=fun (w : World) (ho : Only (fun q=>s.foot q∨t.foot q) w6 w)=>(by
        have h:=HK6.out.only ho (fun q=>Nat.lt_irrefl _ (HFG.out _ q));rw [HCX.out] at h
        exact op_ev h : w.rangeAt gr 2 o.e.cs.toList)
      have SE:=Lib.hid o.e.size
      generalize keepD size S s.evs o.e.e = R at *
      obtain ⟨K1,S1,E1⟩:=R
      dsimp only at hgd hkp hkr
      generalize o.e.cs = CE at *
      have HGD:=Lib.hid hgd;have HKP:=Lib.hid hkp;have HKR:=Lib.hid hkr;have HCP:=Lib.hid hcp;have HRG:=Lib.hid hrg;clear h3 hgd hkp hkr hcp hrg hem hoe hxl
      go_upto_region 32 with fail
      refine wp_region_tailF 12 9 (fun L v w=>v 11 = .pointer (some ⟨s.b,0,none⟩)∧v 13 = .pointer (some ⟨t.b,0,none⟩)∧v 16 = .pointer (some ⟨gr,0,none⟩)∧Only (fun q=>s.foot q∨t.foot q) w6 w∧(L 4 = false→Below w6.heap.size w6 w)∧(L 4 = false→Pr w0 size S S s t w)∧(L 4 = true→L 8 = false→∃ s',s'.b = s.b∧s'.g = s.g∧Pr w0 size S1 S s' t w∧s'.evs = E1)∧(L 8 = true→∃ s' t',s'.b = s.b∧s'.g = s.g∧t'.b = t.b∧t'.g = t.g∧Pr w0 size S1 S1 s' t' w∧s'.evs = E1∧t'.evs = E1)∧(L 0 = true→v 115 = .pointer (some ⟨s.b,0,none⟩))∧(L 1 = true→v 116 = .pointer (some ⟨gr,2,none⟩))∧(L 2 = true→v 117 = .agg CE)∧(L 3 = true→(∃ Ac cc,v 118 = .agg (ec o.e.e (.slice Ac o.e.m cc))∧(L 4 = false→OwnD w w6.heap.size Ac o.e.m cc o.e.e.l)))∧(L 4 = true→v 119 = .int .i64 (K1 : Nat))∧(L 5 = true→v 120 = .pointer (some ⟨t.b,0,none⟩))∧(L 6 = true→v 121 = .pointer (some ⟨gr,2,none⟩))∧(L 7 = true→v 122 = .agg CE)∧(L 8 = true→v 123 = .int .i64 (K1 : Nat))) [115,116,117,118,119,120,121,122,123] (by kernel_rfl) (by kernel_rfl) (by kernel_rfl) (by kernel_rfl) (by kernel_rfl) (by kernel_rfl) ?h0x32 ?hstx32 ?hendx32
      case h0x32 =>
        intro L h0;have h0 : ∀ i,i < 9→L i = false:=h0;exact ⟨rfl,rfl,rfl,(Only.of_below _ (Below.refl _ _).drew),(fun _=>(Below.refl _ _).drew),(fun _=>HP.out.below (Below.refl _ _).drew),(fun h=>(nomatch (h.symm.trans (h0 4 (by decide))))),(fun h=>(nomatch (h.symm.trans (h0 8 (by decide))))),offF h0 (i:=0) (by decide),offF h0 (i:=1) (by decide),offF h0 (i:=2) (by decide),offF h0 (i:=3) (by decide),offF h0 (i:=4) (by decide),offF h0 (i:=5) (by decide),offF h0 (i:=6) (by decide),offF h0 (i:=7) (by decide),offF h0 (i:=8) (by decide)⟩
      case hstx32 =>
        show FactSteps _ _ _ _ [0,1,2,3,4,5,6,7,8]
        refine @FactSteps.cons _ _ _ _ 0 _ [] _ rfl (by kernel_rfl) ?s0x32 ?_;rotate_left;refine @FactSteps.cons _ _ _ _ 1 _ [] _ rfl (by kernel_rfl) ?s1x32 ?_;rotate_left;refine @FactSteps.cons _ _ _ _ 2 _ [1] _ rfl (by kernel_rfl) ?s2x32 ?_;rotate_left;refine @FactSteps.cons _ _ _ _ 3 _ [2] _ rfl (by kernel_rfl) ?s3x32 ?_;rotate_left;refine @FactSteps.cons _ _ _ _ 4 _ [0,3,3] _ rfl (by kernel_rfl) ?s4x32 ?_;rotate_left;refine @FactSteps.cons _ _ _ _ 5 _ [] _ rfl (by kernel_rfl) ?s5x32 ?_;rotate_left;refine @FactSteps.cons _ _ _ _ 6 _ [] _ rfl (by kernel_rfl) ?s6x32 ?_;rotate_left;refine @FactSteps.cons _ _ _ _ 7 _ [6] _ rfl (by kernel_rfl) ?s7x32 ?_;rotate_left;refine @FactSteps.cons _ _ _ _ 8 _ [5,7,4] _ rfl (by kernel_rfl) ?s8x32 ?_;rotate_left;exact FactSteps.nil
        case s0x32 =>
          rintro L a v w hv hg hL hd hcl ⟨e11,e13,e16,ho,hb4,hp,hq,hz,f0,f1,f2,f3,f4,f5,f6,f7,f8⟩ K hK;refine step_do rfl ?_;clear hv;go_simp;exact hK.out _ _ ⟨e11,e13,e16,ho,hb4,hp,hq,hz,fun _=>rfl,f1,f2,f3,f4,f5,f6,f7,f8⟩
        case s1x32 =>
          rintro L a v w hv hg hL hd hcl ⟨e11,e13,e16,ho,hb4,hp,hq,hz,f0,f1,f2,f3,f4,f5,f6,f7,f8⟩ K hK;refine step_do rfl ?_;clear hv;go_simp;exact hK.out _ _ ⟨e11,e13,e16,ho,hb4,hp,hq,hz,f0,fun _=>rfl,f2,f3,f4,f5,f6,f7,f8⟩
        case s2x32 =>
          rintro L a v w hv hg hL hd hcl ⟨e11,e13,e16,ho,hb4,hp,hq,hz,f0,f1,f2,f3,f4,f5,f6,f7,f8⟩ K hK;have g1:=f1 (hd 1 (by decide));refine step_do rfl ?_;refine wp_ldr rowE (.tmp 116) rfl ((hv 116).trans g1) (HRG.out w ho) SE.out ?_;exact hK.out _ _ ⟨e11,e13,e16,ho,hb4,hp,hq,hz,f0,f1,fun _=>rfl,f3,f4,f5,f6,f7,f8⟩
        case s3x32 =>
          rintro L a v w hv hg hL hd hcl ⟨e11,e13,e16,ho,hb4,hp,hq,hz,f0,f1,f2,f3,f4,f5,f6,f7,f8⟩ K hK;have g2:=f2 (hd 2 (by decide));have c4 : L 4 = false:=off_of hcl (j:=4) (by kernel_rfl : waitsAt _ 4 = [0,3,3]) (d:=3) (by decide) hL;have c8 : L 8 = false:=off_of hcl (j:=8) (by kernel_rfl : waitsAt _ 8 = [5,7,4]) (d:=4) (by decide) c4;have hcp:=HCP.out w (hb4 c4);refine step_do rfl ?_;clear hv;go_simp;refine hcp.mono ?_;rintro e wy ⟨A9,c9,rfl,o9,bb⟩;exact hK.out _ _ ⟨e11,e13,e16,(ho.then_below (bb.mono ho.size)),(fun _=>(hb4 c4).trans (bb.mono (hb4 c4).size)),(fun _=>(hp c4).below bb),(fun h=>(nomatch (h.symm.trans c4))),(fun h=>(nomatch (h.symm.trans c8))),f0,f1,f2,fun _=>⟨A9,c9,rfl,fun _=>o9.mono (hb4 c4).size⟩,f4,f5,f6,f7,f8⟩
        case s4x32 =>
          rintro L a v w hv hg hL hd hcl ⟨e11,e13,e16,ho,hb4,hp,hq,hz,f0,f1,f2,f3,f4,f5,f6,f7,f8⟩ K hK;have g0:=f0 (hd 0 (by decide));obtain ⟨A9,c9,g3,o9⟩:=f3 (hd 3 (by decide));have c8 : L 8 = false:=off_of hcl (j:=8) (by kernel_rfl : waitsAt _ 8 = [5,7,4]) (d:=4) (by decide) hL;have hkp:=HKP.out w (hp hL) A9 c9 (o9 hL);refine step_do rfl ?_;clear hv;go_simp;refine hkp.mono ?_;rintro e wy ⟨rfl,s1,e1,e2,pr1,ev1,o1⟩;exact hK.out _ _ ⟨e11,e13,e16,(ho.trans (o1.mono (fun k q=>.inl (.inl q))) (Grows.refl _ _)),(fun h=>(nomatch (show true = false from h))),(fun h=>(nomatch (show true = false from h))),(fun _ _=>⟨s1,e1,e2,pr1,ev1⟩),(fun h=>(nomatch (h.symm.trans c8))),f0,f1,f2,(fun h=>(by obtain ⟨a1,a2,a3,a4⟩:=f3 h;exact ⟨a1,a2,a3,fun q=>(nomatch (show true = false from q))⟩)),fun _=>rfl,f5,f6,f7,f8⟩
        case s5x32 =>
          rintro L a v w hv hg hL hd hcl ⟨e11,e13,e16,ho,hb4,hp,hq,hz,f0,f1,f2,f3,f4,f5,f6,f7,f8⟩ K hK;refine step_do rfl ?_;clear hv;go_simp;exact hK.out _ _ ⟨e11,e13,e16,ho,hb4,hp,hq,hz,f0,f1,f2,f3,f4,fun _=>rfl,f6,f7,f8⟩
        case s6x32 =>
          rintro L a v w hv hg hL hd hcl ⟨e11,e13,e16,ho,hb4,hp,hq,hz,f0,f1,f2,f3,f4,f5,f6,f7,f8⟩ K hK;refine step_do rfl ?_;clear hv;go_simp;exact hK.out _ _ ⟨e11,e13,e16,ho,hb4,hp,hq,hz,f0,f1,f2,f3,f4,f5,fun _=>rfl,f7,f8⟩
        case s7x32 =>
          rintro L a v w hv hg hL hd hcl ⟨e11,e13,e16,ho,hb4,hp,hq,hz,f0,f1,f2,f3,f4,f5,f6,f7,f8⟩ K hK;have g6:=f6 (hd 6 (by decide));refine step_do rfl ?_;refine wp_ldr rowE (.tmp 121) rfl ((hv 121).trans g6) (HRG.out w ho) SE.out ?_;exact hK.out _ _ ⟨e11,e13,e16,ho,hb4,hp,hq,hz,f0,f1,f2,f3,f4,f5,f6,fun _=>rfl,f8⟩
        case s8x32 =>
          rintro L a v w hv hg hL hd hcl ⟨e11,e13,e16,ho,hb4,hp,hq,hz,f0,f1,f2,f3,f4,f5,f6,f7,f8⟩ K hK;have g5:=f5 (hd 5 (by decide));have g7:=f7 (hd 7 (by decide));have h4:=hd 4 (by decide);obtain ⟨s1,e1,e2,pr1,ev1⟩:=hq h4 hL;have hkp:=HKR.out w s1 pr1;refine step_do rfl ?_;clear hv;go_simp;refine hkp.mono ?_;rintro e wy ⟨rfl,t1,e3,e4,pr2,ev2,o2⟩;exact hK.out _ _ ⟨e11,e13,e16,(ho.trans (o2.mono (fun k q=>.inl (.inr q))) (Grows.refl _ _)),(fun h=>(nomatch (h.symm.trans h4))),(fun h=>(nomatch (h.symm.trans h4))),(fun _ h=>(nomatch (show true = false from h))),(fun _=>⟨s1,t1,e1,e2,e3,e4,pr2,ev1,ev2⟩),f0,f1,f2,(fun h=>(by obtain ⟨a1,a2,a3,a4⟩:=f3 h;exact ⟨a1,a2,a3,fun q=>(nomatch (h4.symm.trans q))⟩)),f4,f5,f6,f7,fun _=>rfl⟩
      case hendx32 =>
      rintro L v we hall ⟨e11,e13,e16,ho,hb4,hp,hq,hz,f0,f1,f2,f3,f4,f5,f6,f7,f8⟩;have hL : ∀ i,i < 9→L i = true:=hall;have f0:=f0 (hL 0 (by decide));have f1:=f1 (hL 1 (by decide));have f2:=f2 (hL 2 (by decide));have f3:=f3 (hL 3 (by decide));have f4:=f4 (hL 4 (by decide));have f5:=f5 (hL 5 (by decide));have f6:=f6 (hL 6 (by decide));have f7:=f7 (hL 7 (by decide));have f8:=f8 (hL 8 (by decide));obtain ⟨s1,t1,e1,e2,e3,e4,pr2,ev1,ev2⟩:=hz (hL 8 (by decide));have HNW:=Lib.hid (Now.of (m:=20000 + (k + 1)) HSG.out HTG.out e1 e2 e3 e4 pr2 (by rw [ev2,ev1]) HGD.out.1 (by rw [ev1,← Nat.add_assoc];exact HGD.out.2))
      simp only [finA,List.foldl_cons,List.foldl_nil,Act.put,List.setIfInBounds_toArray,List.set_cons_succ,List.set_cons_zero,f0,f1,f5,f6,f2,f4,f7,f8]
      clear e11 e13 e16 f0 f1 f2 f3 f4 f5 f6 f7 f8 hL hall ho hb4 hp hq hz e1 e2 e3 e4 pr2 ev1 ev2
      show wpList _ _ _ [_,_] _ _
      go_wp2_with fail;go_meet;exact ⟨0,0,K1,rfl,rfl,rfl,rfl,rfl,rfl,HNW.out⟩
    by_cases h4 : o.k = 4
    · have e4 : (o.k == 4) = true:=by rw [beq_iff_eq];exact h4
      have hok6:=HOK.out w6 HP.out.bel
      have hnl : o.nl≤3000:=by have:=hok6.l.1;have:=evSum_len o.xs;have:=HGO.out.2;omega
      have hxm : ∀ y ∈ o.xs,y.m≤3000:=fun y hy=>by have:=evSum_mem o.xs y hy;have:=HGO.out.2;omega
      have hgl : GoodE (20000 + k) (o.xs.map (·.e)):=⟨by rw [List.length_map,← hok6.l.1];omega,fun e he=>by
        obtain ⟨y,hy,rfl⟩:=List.mem_map.1 he;obtain ⟨i,hi,rfl⟩:=List.getElem_of_mem hy;have hq:=(hok6.l.2 i _ (List.getElem?_eq_getElem hi)).1;rw [← hq.2.1.1]
        exact hxm _ hy⟩
      have hgd:=compact_out size S s.evs (o.xs.map (·.e)) HGS.out HGE.out hgl
      have hkp:=fun (w : World) (pr : Pr w0 size S S s t w) (A9 : Option Addr) (c9 : Nat) (ys : List EvV) (hye : ys.map (·.e) = o.xs.map (·.e)) (o9 : OwnEv w w6.heap.size A9 o.nl c9 ys∧∀ y ∈ ys,EvOwn w w6.heap.size y)=>(by
        have h:=pr.compact1 (c2:=c9) o9.1 o9.2 (fun q hq=>HP.out.p.lt q hq) (fun y hy=>by
          rw [(o9.2 y hy).2.1.1]
          have h9 : y.e ∈ o.xs.map (·.e):=by rw [← hye];exact List.mem_map_of_mem hy
          exact hgl.2 _ h9) (by omega) HGS.out HGE.out (by omega)
        rw [hye] at h
        exact h : Calls Tryz.prog 21 #[.pointer (some ⟨s.b,0,none⟩),.slice A9 o.nl c9] w fun e w'=>e = .returned (.int .i64 ((compactD size S s.evs (o.xs.map (·.e))).1 : Nat))∧∃ s',s'.b = s.b∧s'.g = s.g∧Pr w0 size (compactD size S s.evs (o.xs.map (·.e))).2.1 S s' t w'∧s'.evs = (compactD size S s.evs (o.xs.map (·.e))).2.2∧Only s.foot w w')
      have hkr:=fun (w : World) (s' : SoV) (pr : Pr w0 size (compactD size S s.evs (o.xs.map (·.e))).2.1 S s' t w)=>pr.compact2 (c2:=o.cl) (fun w' hb=>(HOK.out w' hb).l) hxm (by omega) hok6.l1 hok6.l2 HGS.out (by rw [HTE.out];exact HGE.out) (by omega)
      rw [HTE.out] at hkr
      have hcp:=fun (w : World) (hb : Below w6.heap.size w6 w)=>rcopies07_any o.AL o.nl o.cl o.xs w (by omega) ((HOK.out w (HP.out.bel.trans (hb.mono HP.out.bel.size))).l.more (HP.out.bel.trans (hb.mono HP.out.bel.size)).size) (fun y hy=>by have:=hxm y hy;omega)
      have hc16:=fun (w : World) (ho : Only (fun q=>s.foot q∨t.foot q) w6 w)=>(((HK6.out.only ho (fun q=>Nat.lt_irrefl _ (HFG.out _ q))).cell 16).trans X16.out : w.cell? ⟨gr,16,none⟩ = some (.slice o.AL o.nl o.cl))
      generalize compactD size S s.evs (o.xs.map (·.e)) = R at *
      obtain ⟨K1,S1,E1⟩:=R
      dsimp only at hgd hkp hkr
      have HGD:=Lib.hid hgd;have HKP:=Lib.hid hkp;have HKR:=Lib.hid hkr;have HCP:=Lib.hid hcp;have HC16:=Lib.hid hc16;clear h4 hgd hkp hkr hcp hc16 hnl hxm hgl hok6
      go_upto_region 34 with fail
      refine wp_region_tailF 12 9 (fun L v w=>v 11 = .pointer (some ⟨s.b,0,none⟩)∧v 13 = .pointer (some ⟨t.b,0,none⟩)∧v 16 = .pointer (some ⟨gr,0,none⟩)∧Only (fun q=>s.foot q∨t.foot q) w6 w∧(L 4 = false→Below w6.heap.size w6 w)∧(L 4 = false→Pr w0 size S S s t w)∧(L 4 = true→L 8 = false→∃ s',s'.b = s.b∧s'.g = s.g∧Pr w0 size S1 S s' t w∧s'.evs = E1)∧(L 8 = true→∃ s' t',s'.b = s.b∧s'.g = s.g∧t'.b = t.b∧t'.g = t.g∧Pr w0 size S1 S1 s' t' w∧s'.evs = E1∧t'.evs = E1)∧(L 0 = true→v 126 = .pointer (some ⟨s.b,0,none⟩))∧(L 1 = true→v 127 = .pointer (some ⟨gr,16,none⟩))∧(L 2 = true→v 128 = .slice o.AL o.nl o.cl)∧(L 3 = true→(∃ Ac cc ys,v 129 = .slice Ac o.nl cc∧ys.map (·.e) = o.xs.map (·.e)∧(L 4 = false→OwnEv w w6.heap.size Ac o.nl cc ys∧∀ y ∈ ys,EvOwn w w6.heap.size y)))∧(L 4 = true→v 130 = .int .i64 (K1 : Nat))∧(L 5 = true→v 131 = .pointer (some ⟨t.b,0,none⟩))∧(L 6 = true→v 132 = .pointer (some ⟨gr,16,none⟩))∧(L 7 = true→v 133 = .slice o.AL o.nl o.cl)∧(L 8 = true→v 134 = .int .i64 (K1 : Nat))) [126,127,128,129,130,131,132,133,134] (by kernel_rfl) (by kernel_rfl) (by kernel_rfl) (by kernel_rfl) (by kernel_rfl) (by kernel_rfl) ?h0x34 ?hstx34 ?hendx34
      case h0x34 =>
        intro L h0;have h0 : ∀ i,i < 9→L i = false:=h0;exact ⟨rfl,rfl,rfl,(Only.of_below _ (Below.refl _ _).drew),(fun _=>(Below.refl _ _).drew),(fun _=>HP.out.below (Below.refl _ _).drew),(fun h=>(nomatch (h.symm.trans (h0 4 (by decide))))),(fun h=>(nomatch (h.symm.trans (h0 8 (by decide))))),offF h0 (i:=0) (by decide),offF h0 (i:=1) (by decide),offF h0 (i:=2) (by decide),offF h0 (i:=3) (by decide),offF h0 (i:=4) (by decide),offF h0 (i:=5) (by decide),offF h0 (i:=6) (by decide),offF h0 (i:=7) (by decide),offF h0 (i:=8) (by decide)⟩
      case hstx34 =>
        show FactSteps _ _ _ _ [0,1,2,3,4,5,6,7,8]
        refine @FactSteps.cons _ _ _ _ 0 _ [] _ rfl (by kernel_rfl) ?s0x34 ?_;rotate_left;refine @FactSteps.cons _ _ _ _ 1 _ [] _ rfl (by kernel_rfl) ?s1x34 ?_;rotate_left;refine @FactSteps.cons _ _ _ _ 2 _ [1] _ rfl (by kernel_rfl) ?s2x34 ?_;rotate_left;refine @FactSteps.cons _ _ _ _ 3 _ [2] _ rfl (by kernel_rfl) ?s3x34 ?_;rotate_left;refine @FactSteps.cons _ _ _ _ 4 _ [0,3,3] _ rfl (by kernel_rfl) ?s4x34 ?_;rotate_left;refine @FactSteps.cons _ _ _ _ 5 _ [] _ rfl (by kernel_rfl) ?s5x34 ?_;rotate_left;refine @FactSteps.cons _ _ _ _ 6 _ [] _ rfl (by kernel_rfl) ?s6x34 ?_;rotate_left;refine @FactSteps.cons _ _ _ _ 7 _ [6] _ rfl (by kernel_rfl) ?s7x34 ?_;rotate_left;refine @FactSteps.cons _ _ _ _ 8 _ [5,7,4] _ rfl (by kernel_rfl) ?s8x34 ?_;rotate_left;exact FactSteps.nil
        case s0x34 =>
          rintro L a v w hv hg hL hd hcl ⟨e11,e13,e16,ho,hb4,hp,hq,hz,f0,f1,f2,f3,f4,f5,f6,f7,f8⟩ K hK;refine step_do rfl ?_;clear hv;go_simp;exact hK.out _ _ ⟨e11,e13,e16,ho,hb4,hp,hq,hz,fun _=>rfl,f1,f2,f3,f4,f5,f6,f7,f8⟩
        case s1x34 =>
          rintro L a v w hv hg hL hd hcl ⟨e11,e13,e16,ho,hb4,hp,hq,hz,f0,f1,f2,f3,f4,f5,f6,f7,f8⟩ K hK;refine step_do rfl ?_;clear hv;go_simp;exact hK.out _ _ ⟨e11,e13,e16,ho,hb4,hp,hq,hz,f0,fun _=>rfl,f2,f3,f4,f5,f6,f7,f8⟩
        case s2x34 =>
          rintro L a v w hv hg hL hd hcl ⟨e11,e13,e16,ho,hb4,hp,hq,hz,f0,f1,f2,f3,f4,f5,f6,f7,f8⟩ K hK;have g1:=f1 (hd 1 (by decide));have g1:=f1 (hd 1 (by decide));have c16:=HC16.out w ho;refine step_do rfl ?_;clear hv;go_simp;exact hK.out _ _ ⟨e11,e13,e16,ho,hb4,hp,hq,hz,f0,f1,fun _=>rfl,f3,f4,f5,f6,f7,f8⟩
        case s3x34 =>
          rintro L a v w hv hg hL hd hcl ⟨e11,e13,e16,ho,hb4,hp,hq,hz,f0,f1,f2,f3,f4,f5,f6,f7,f8⟩ K hK;have g2:=f2 (hd 2 (by decide));have c4 : L 4 = false:=off_of hcl (j:=4) (by kernel_rfl : waitsAt _ 4 = [0,3,3]) (d:=3) (by decide) hL;have c8 : L 8 = false:=off_of hcl (j:=8) (by kernel_rfl : waitsAt _ 8 = [5,7,4]) (d:=4) (by decide) c4;have hcp:=HCP.out w (hb4 c4);refine step_do rfl ?_;clear hv;go_simp;refine hcp.mono ?_;rintro e wy ⟨A9,c9,ys,rfl,o9,oy,hye,bb⟩;exact hK.out _ _ ⟨e11,e13,e16,(ho.then_below (bb.mono ho.size)),(fun _=>(hb4 c4).trans (bb.mono (hb4 c4).size)),(fun _=>(hp c4).below bb),(fun h=>(nomatch (h.symm.trans c4))),(fun h=>(nomatch (h.symm.trans c8))),f0,f1,f2,fun _=>⟨A9,c9,ys,rfl,hye,fun _=>⟨o9.mono (hb4 c4).size,fun y hy=>⟨(oy y hy).1,(oy y hy).2.1.mono (hb4 c4).size,(oy y hy).2.2⟩⟩⟩,f4,f5,f6,f7,f8⟩
        case s4x34 =>
          rintro L a v w hv hg hL hd hcl ⟨e11,e13,e16,ho,hb4,hp,hq,hz,f0,f1,f2,f3,f4,f5,f6,f7,f8⟩ K hK;have g0:=f0 (hd 0 (by decide));obtain ⟨A9,c9,ys,g3,hye,o9⟩:=f3 (hd 3 (by decide));have c8 : L 8 = false:=off_of hcl (j:=8) (by kernel_rfl : waitsAt _ 8 = [5,7,4]) (d:=4) (by decide) hL;have hkp:=HKP.out w (hp hL) A9 c9 ys hye (o9 hL);refine step_do rfl ?_;clear hv;go_simp;refine hkp.mono ?_;rintro e wy ⟨rfl,s1,e1,e2,pr1,ev1,o1⟩;exact hK.out _ _ ⟨e11,e13,e16,(ho.trans (o1.mono (fun k q=>.inl (.inl q))) (Grows.refl _ _)),(fun h=>(nomatch (show true = false from h))),(fun h=>(nomatch (show true = false from h))),(fun _ _=>⟨s1,e1,e2,pr1,ev1⟩),(fun h=>(nomatch (h.symm.trans c8))),f0,f1,f2,(fun h=>(by obtain ⟨a1,a2,a3,a4,a5,a6⟩:=f3 h;exact ⟨a1,a2,a3,a4,a5,fun q=>(nomatch (show true = false from q))⟩)),fun _=>rfl,f5,f6,f7,f8⟩
        case s5x34 =>
          rintro L a v w hv hg hL hd hcl ⟨e11,e13,e16,ho,hb4,hp,hq,hz,f0,f1,f2,f3,f4,f5,f6,f7,f8⟩ K hK;refine step_do rfl ?_;clear hv;go_simp;exact hK.out _ _ ⟨e11,e13,e16,ho,hb4,hp,hq,hz,f0,f1,f2,f3,f4,fun _=>rfl,f6,f7,f8⟩
        case s6x34 =>
          rintro L a v w hv hg hL hd hcl ⟨e11,e13,e16,ho,hb4,hp,hq,hz,f0,f1,f2,f3,f4,f5,f6,f7,f8⟩ K hK;refine step_do rfl ?_;clear hv;go_simp;exact hK.out _ _ ⟨e11,e13,e16,ho,hb4,hp,hq,hz,f0,f1,f2,f3,f4,f5,fun _=>rfl,f7,f8⟩
        case s7x34 =>
          rintro L a v w hv hg hL hd hcl ⟨e11,e13,e16,ho,hb4,hp,hq,hz,f0,f1,f2,f3,f4,f5,f6,f7,f8⟩ K hK;have g6:=f6 (hd 6 (by decide));have g6:=f6 (hd 6 (by decide));have c16:=HC16.out w ho;refine step_do rfl ?_;clear hv;go_simp;exact hK.out _ _ ⟨e11,e13,e16,ho,hb4,hp,hq,hz,f0,f1,f2,f3,f4,f5,f6,fun _=>rfl,f8⟩
        case s8x34 =>
          rintro L a v w hv hg hL hd hcl ⟨e11,e13,e16,ho,hb4,hp,hq,hz,f0,f1,f2,f3,f4,f5,f6,f7,f8⟩ K hK;have g5:=f5 (hd 5 (by decide));have g7:=f7 (hd 7 (by decide));have h4:=hd 4 (by decide);obtain ⟨s1,e1,e2,pr1,ev1⟩:=hq h4 hL;have hkp:=HKR.out w s1 pr1;refine step_do rfl ?_;clear hv;go_simp;refine hkp.mono ?_;rintro e wy ⟨rfl,t1,e3,e4,pr2,ev2,o2⟩;exact hK.out _ _ ⟨e11,e13,e16,(ho.trans (o2.mono (fun k q=>.inl (.inr q))) (Grows.refl _ _)),(fun h=>(nomatch (h.symm.trans h4))),(fun h=>(nomatch (h.symm.trans h4))),(fun _ h=>(nomatch (show true = false from h))),(fun _=>⟨s1,t1,e1,e2,e3,e4,pr2,ev1,ev2⟩),f0,f1,f2,(fun h=>(by obtain ⟨a1,a2,a3,a4,a5,a6⟩:=f3 h;exact ⟨a1,a2,a3,a4,a5,fun q=>(nomatch (h4.symm.trans q))⟩)),f4,f5,f6,f7,fun _=>rfl⟩
      case hendx34 =>
      rintro L v we hall ⟨e11,e13,e16,ho,hb4,hp,hq,hz,f0,f1,f2,f3,f4,f5,f6,f7,f8⟩;have hL : ∀ i,i < 9→L i = true:=hall;have f0:=f0 (hL 0 (by decide));have f1:=f1 (hL 1 (by decide));have f2:=f2 (hL 2 (by decide));have f3:=f3 (hL 3 (by decide));have f4:=f4 (hL 4 (by decide));have f5:=f5 (hL 5 (by decide));have f6:=f6 (hL 6 (by decide));have f7:=f7 (hL 7 (by decide));have f8:=f8 (hL 8 (by decide));obtain ⟨s1,t1,e1,e2,e3,e4,pr2,ev1,ev2⟩:=hz (hL 8 (by decide));have HNW:=Lib.hid (Now.of (m:=20000 + (k + 1)) HSG.out HTG.out e1 e2 e3 e4 pr2 (by rw [ev2,ev1]) HGD.out.1 (by rw [ev1,← Nat.add_assoc];exact HGD.out.2))
      simp only [finA,List.foldl_cons,List.foldl_nil,Act.put,List.setIfInBounds_toArray,List.set_cons_succ,List.set_cons_zero,f0,f1,f2,f5,f6,f7,f4,f8]
      clear e11 e13 e16 f0 f1 f2 f3 f4 f5 f6 f7 f8 hL hall ho hb4 hp hq hz e1 e2 e3 e4 pr2 ev1 ev2
      show wpList _ _ _ [_,_] _ _
      go_wp2_with fail;go_meet;exact ⟨0,0,K1,rfl,rfl,rfl,rfl,rfl,rfl,HNW.out⟩
    have ht:=HP.out.two;rw [HSG.out,HTG.out] at ht;have HT:=Lib.hid ht;clear ht
    by_cases h6 : o.k = 6
    · have e6 : (o.k == 6) = true:=by rw [beq_iff_eq];exact h6
      have h17:=fun (w : World) (k : Blk w gr 50 cs)=>((k.cell 17).trans X17.out : w.cell? ⟨gr,17,none⟩ = some (.slice o.AB o.nb o.cb))
      have h1c:=fun (w : World) (k : Blk w gr 50 cs)=>((k.cell 1).trans X1.out : w.cell? ⟨gr,1,none⟩ = some (.int .i64 o.n))
      have H17:=Lib.hid h17;have H1C:=Lib.hid h1c;have t17:=h17 w6 HK6.out;have hok6:=HOK.out w6 HP.out.bel;have HBB:=Lib.hid (And.intro hok6.b3 (And.intro hok6.n1 hok6.n2));have hao:=append_out o.bs HGS.out.b;have HAO:=Lib.hid hao;have HAP:=Lib.hid (dappend_any o.AB o.nb o.cb w0.heap.size o.bs s.F g size S.b w6 HT.out.p hs2 hao.2 hok6.b);clear h6 h17 h1c hok6 hao;go_wp2_with fail;refine HAP.out.mono ?_;rintro e w7 ⟨rfl,ho⟩;obtain ⟨F2,T1,o1,gr1⟩:=HT.out.left ho;have HT1:=Lib.hid T1;have K7:=Lib.hid (HK6.out.only o1 (fun q=>Nat.lt_irrefl _ (HFG.out _ (.inl (.inl q)))))
      have HG7:=Lib.hid (show ¬ F2 gr from fun q=>by
        rcases gr1 _ q with x | x
        · exact Nat.lt_irrefl _ (HFG.out _ (.inl (.inl x)))
        · have:=HK6.out.lt;omega)
      have t17:=H17.out w7 K7.out;have HAP2:=Lib.hid (rdappend_any o.AB o.nb o.cb w0.heap.size o.bs t.F r size S.b w7 T1.q hs2 HAO.out.2 (HOK.out w7 T1.bel).b T1.bel.size T1.qf HBB.out.1)
      generalize (appendD size S.b o.bs).1 = q1 at *
      clear ho T1 o1 gr1 HT HAP;go_wp2_with fail;refine HAP2.out.mono ?_;rintro e w8 ⟨rfl,ho⟩;obtain ⟨G2,T2,o2,gr2⟩:=HT1.out.right ho;have HT2:=Lib.hid T2;have K8:=Lib.hid (K7.out.only o2 (fun q=>Nat.lt_irrefl _ (HFG.out _ (.inr (.inl q)))));have t1:=H1C.out w8 K8.out
      generalize (appendD size S.b o.bs).2 = d2 at *
      have HCR:=Lib.hid (dcrash_any o.n F2 g size d2 w8 T2.p hs2 HAO.out.1 HBB.out.2.2);clear ho T2 o2 gr2 HT1 HAP2 t17;go_wp2_with fail;refine HCR.out.mono ?_;rintro e w9 ⟨rfl,ho⟩;obtain ⟨F3,T3,o3,gr3⟩:=HT2.out.left ho;have HT3:=Lib.hid T3;have K9:=Lib.hid (K8.out.only o3 HG7.out);have t1:=H1C.out w9 K9.out;have HCR2:=Lib.hid (rdcrash_any o.n G2 r size d2 w9 T3.q hs2 HAO.out.1 HBB.out.2.1 HBB.out.2.2);clear ho T3 o3 gr3 HT2 HCR;go_wp2_with fail;refine HCR2.out.mono ?_;rintro e wa ⟨rfl,ho⟩;obtain ⟨G3,T4,o4,gr4⟩:=HT3.out.right ho;have HT:=Lib.hid T4;have HCF:=Lib.hid (crash_fits (size:=size) o.n.toNat hs2 HAO.out.1)
      generalize crashD d2 o.n.toNat = d3 at *
      clear ho T4 o4 gr4 HT3 HCR2 t1;go_wp2_with fail;refine (HT.out.call1 HCF.out).mono ?_;rintro e w7' ⟨hc,sv,rfl,hn⟩;have HHN:=Lib.hid hn;clear hn HT;go_wp2_with fail;refine (HHN.out.call2 (m:=20000 + (k + 1)) HCF.out (by omega)).mono ?_;rintro e w8' ⟨tv,rfl,hnow⟩;have HNW:=Lib.hid hnow;clear hnow HHN;go_wp2_with fail;go_meet;exact ⟨hc,0,0,rfl,rfl,rfl,rfl,rfl,rfl,HNW.out⟩
    by_cases h5 : o.k = 5
    · have e5 : (o.k == 5) = true:=by rw [beq_iff_eq];exact h5
      clear h5;go_wp2_with fail;refine (HT.out.call1 HGS.out.b).mono ?_;rintro e w7' ⟨hc,sv,rfl,hn⟩;have HHN:=Lib.hid hn;clear hn HT;go_wp2_with fail;refine (HHN.out.call2 (m:=20000 + (k + 1)) HGS.out.b (by omega)).mono ?_;rintro e w8' ⟨tv,rfl,hnow⟩;have HNW:=Lib.hid hnow;clear hnow HHN;go_wp2_with fail;go_meet;exact ⟨hc,0,0,rfl,rfl,rfl,rfl,rfl,rfl,HNW.out⟩
    have HNW:=Lib.hid (Now.of (m:=20000 + (k + 1)) HSG.out HTG.out rfl rfl rfl rfl HP.out HTE.out HGS.out ⟨by have:=HGE.out.1;omega,HGE.out.2⟩);clear HT;go_wp2_with fail;go_meet;exact ⟨0,0,0,rfl,rfl,rfl,rfl,rfl,rfl,HNW.out⟩
  case rest =>
    obtain ⟨hc,q1,q2,rfl,rfl,rfl,rfl,rfl,rfl,hnow⟩:=hcut;clear HP HFG HK6 HGS HGE HSG HTG HTE t0;obtain ⟨F,G,d,hT,hdf⟩:=hnow.two;have HNO:=Lib.hid hnow;have HT:=Lib.hid hT;have hdl:=Db.fits_len hdf;have HRD:=Lib.hid (dread_any F g size d wc hT.p);clear hT hnow hdf;go_wp2_with fail;refine HRD.out.mono ?_;rintro e wd ⟨AR,nR,cR,rfl,oR,bd⟩;have HNO:=Lib.hid (HNO.out.below bd);have HOR:=Lib.hid oR;have HRD2:=Lib.hid (rdread_any G r size d wd (HT.out.below bd).q);clear oR bd HRD HT;go_wp2_with fail;refine HRD2.out.mono ?_;rintro e we ⟨AR2,nR2,cR2,rfl,oR2,bd⟩;have HNO:=Lib.hid (HNO.out.below bd);have HSAME:=Lib.hid (same_eq AR AR2 nR cR nR2 cR2 d.v _ _ we (HOR.out.below bd (Nat.le_refl _)).rd oR2.rd (by have h1:=HOR.out.1;have h2 : d.v.length = d.length:=rfl;omega));clear oR2 bd HRD2 HOR;go_wp2_with fail;refine HSAME.out.mono ?_;rintro e wf ⟨rfl,mm,rfl⟩;have HNO:=Lib.hid (HNO.out.below (below_drewN (Below.refl _ _) mm))
    generalize we.drewN mm = wf at *
    clear HSAME hdl
    go_upto_region 47 with fail
    rcases HNO.out with ⟨rfl,hN⟩ | ⟨rfl,rfl,rfl,F',G',d',hT,hdf⟩
    case inr =>
      have HNW:=Lib.hid (Now.more (m':=20000 + (k + 1)) (.inr ⟨rfl,rfl,rfl,F',G',d',hT,hdf⟩ : Now w0 size g r (20000 + (k + 1)) 4 _ _ wf) (Nat.le_refl _));clear hT hdf HNO;refine wp_region_facts (fun L v w=>v 11 = .pointer none∧v 12 = .int .i64 4∧v 13 = .pointer none∧v 14 = .int .i64 4∧Below wf.heap.size wf w∧(L 0 = true→v 191 = .int .i64 4)∧(L 1 = true→v 192 = .bool false)∧(L 2 = true→v 193 = .bool false)∧(L 3 = true→v 194 = undef)∧(L 4 = true→v 195 = undef)∧(L 5 = true→v 196 = .bool false)∧(L 6 = true→v 197 = .bool false)∧(L 7 = true→v 198 = undef)∧(L 8 = true→v 199 = undef)∧(L 9 = true→v 200 = undef)∧(L 10 = true→v 201 = undef)∧(L 11 = true→v 202 = undef)∧(L 12 = true→v 203 = undef)∧(L 13 = true→v 204 = undef)∧(L 14 = true→v 205 = undef)∧(L 15 = true→v 206 = undef)∧(L 16 = true→v 207 = undef)∧(L 17 = true→v 208 = undef)∧(L 18 = true→v 209 = undef)∧(L 19 = true→v 210 = undef)∧(L 20 = true→v 211 = undef)∧(L 21 = true→v 212 = undef)∧(L 22 = true→v 213 = undef)∧(L 23 = true→v 214 = undef)∧(L 24 = true→v 215 = undef)∧(L 25 = true→v 216 = undef)∧(L 26 = true→v 217 = undef)∧(L 27 = true→v 218 = undef)∧(L 28 = true→v 219 = undef)∧(L 29 = true→v 220 = undef)∧(L 30 = true→v 221 = undef)∧(L 31 = true→v 222 = undef)∧(L 32 = true→v 223 = undef)∧(L 33 = true→v 224 = .bool false)) [191,192,193,194,195,196,197,198,199,200,201,202,203,204,205,206,207,208,209,210,211,212,213,214,215,216,217,218,219,220,221,222,223,224] (by kernel_rfl) (by kernel_rfl) (by kernel_rfl) (by kernel_rfl) ?h0x470 ?hstx470 ?hendx470
      case h0x470 =>
        intro L h0;have h0 : ∀ i,i < 34→L i = false:=h0;exact ⟨rfl,rfl,rfl,rfl,(Below.refl _ _).drew,offF h0 (i:=0) (by decide),offF h0 (i:=1) (by decide),offF h0 (i:=2) (by decide),offF h0 (i:=3) (by decide),offF h0 (i:=4) (by decide),offF h0 (i:=5) (by decide),offF h0 (i:=6) (by decide),offF h0 (i:=7) (by decide),offF h0 (i:=8) (by decide),offF h0 (i:=9) (by decide),offF h0 (i:=10) (by decide),offF h0 (i:=11) (by decide),offF h0 (i:=12) (by decide),offF h0 (i:=13) (by decide),offF h0 (i:=14) (by decide),offF h0 (i:=15) (by decide),offF h0 (i:=16) (by decide),offF h0 (i:=17) (by decide),offF h0 (i:=18) (by decide),offF h0 (i:=19) (by decide),offF h0 (i:=20) (by decide),offF h0 (i:=21) (by decide),offF h0 (i:=22) (by decide),offF h0 (i:=23) (by decide),offF h0 (i:=24) (by decide),offF h0 (i:=25) (by decide),offF h0 (i:=26) (by decide),offF h0 (i:=27) (by decide),offF h0 (i:=28) (by decide),offF h0 (i:=29) (by decide),offF h0 (i:=30) (by decide),offF h0 (i:=31) (by decide),offF h0 (i:=32) (by decide),offF h0 (i:=33) (by decide)⟩
      case hstx470 =>
        show FactSteps _ _ _ _ [0,1,2,3,4,5,6,7,8,9,10,11,12,13,14,15,16,17,18,19,20,21,22,23,24,25,26,27,28,29,30,31,32,33]
        refine @FactSteps.cons _ _ _ _ 0 _ [] _ rfl (by kernel_rfl) ?s0x470 ?_;rotate_left;refine @FactSteps.cons _ _ _ _ 1 _ [0] _ rfl (by kernel_rfl) ?s1x470 ?_;rotate_left;refine @FactSteps.cons _ _ _ _ 2 _ [1] _ rfl (by kernel_rfl) ?s2x470 ?_;rotate_left;refine @FactSteps.cons _ _ _ _ 3 _ [2] _ rfl (by kernel_rfl) ?s3x470 ?_;rotate_left;refine @FactSteps.cons _ _ _ _ 4 _ [3,2] _ rfl (by kernel_rfl) ?s4x470 ?_;rotate_left;refine @FactSteps.cons _ _ _ _ 5 _ [2,4] _ rfl (by kernel_rfl) ?s5x470 ?_;rotate_left;refine @FactSteps.cons _ _ _ _ 6 _ [5,2] _ rfl (by kernel_rfl) ?s6x470 ?_;rotate_left;refine @FactSteps.cons _ _ _ _ 7 _ [6] _ rfl (by kernel_rfl) ?s7x470 ?_;rotate_left;refine @FactSteps.cons _ _ _ _ 8 _ [7,6,6] _ rfl (by kernel_rfl) ?s8x470 ?_;rotate_left;refine @FactSteps.cons _ _ _ _ 9 _ [6] _ rfl (by kernel_rfl) ?s9x470 ?_;rotate_left;refine @FactSteps.cons _ _ _ _ 10 _ [9,6] _ rfl (by kernel_rfl) ?s10x470 ?_;rotate_left;refine @FactSteps.cons _ _ _ _ 11 _ [10,6] _ rfl (by kernel_rfl) ?s11x470 ?_;rotate_left;refine @FactSteps.cons _ _ _ _ 12 _ [11,6] _ rfl (by kernel_rfl) ?s12x470 ?_;rotate_left;refine @FactSteps.cons _ _ _ _ 13 _ [8,12,8,6] _ rfl (by kernel_rfl) ?s13x470 ?_;rotate_left;refine @FactSteps.cons _ _ _ _ 14 _ [13,6] _ rfl (by kernel_rfl) ?s14x470 ?_;rotate_left;refine @FactSteps.cons _ _ _ _ 15 _ [14,13,6] _ rfl (by kernel_rfl) ?s15x470 ?_;rotate_left;refine @FactSteps.cons _ _ _ _ 16 _ [15] _ rfl (by kernel_rfl) ?s16x470 ?_;rotate_left;refine @FactSteps.cons _ _ _ _ 17 _ [16,15,15] _ rfl (by kernel_rfl) ?s17x470 ?_
        rotate_left;refine @FactSteps.cons _ _ _ _ 18 _ [15] _ rfl (by kernel_rfl) ?s18x470 ?_;rotate_left;refine @FactSteps.cons _ _ _ _ 19 _ [18,15] _ rfl (by kernel_rfl) ?s19x470 ?_;rotate_left;refine @FactSteps.cons _ _ _ _ 20 _ [19,15] _ rfl (by kernel_rfl) ?s20x470 ?_;rotate_left;refine @FactSteps.cons _ _ _ _ 21 _ [20,15] _ rfl (by kernel_rfl) ?s21x470 ?_;rotate_left;refine @FactSteps.cons _ _ _ _ 22 _ [17,21,15] _ rfl (by kernel_rfl) ?s22x470 ?_;rotate_left;refine @FactSteps.cons _ _ _ _ 23 _ [15,22,6] _ rfl (by kernel_rfl) ?s23x470 ?_;rotate_left;refine @FactSteps.cons _ _ _ _ 24 _ [23,17,6] _ rfl (by kernel_rfl) ?s24x470 ?_;rotate_left;refine @FactSteps.cons _ _ _ _ 25 _ [24] _ rfl (by kernel_rfl) ?s25x470 ?_;rotate_left;refine @FactSteps.cons _ _ _ _ 26 _ [25,24,24] _ rfl (by kernel_rfl) ?s26x470 ?_;rotate_left;refine @FactSteps.cons _ _ _ _ 27 _ [24] _ rfl (by kernel_rfl) ?s27x470 ?_;rotate_left;refine @FactSteps.cons _ _ _ _ 28 _ [27,24] _ rfl (by kernel_rfl) ?s28x470 ?_;rotate_left;refine @FactSteps.cons _ _ _ _ 29 _ [28,24] _ rfl (by kernel_rfl) ?s29x470 ?_;rotate_left;refine @FactSteps.cons _ _ _ _ 30 _ [29,24] _ rfl (by kernel_rfl) ?s30x470 ?_;rotate_left;refine @FactSteps.cons _ _ _ _ 31 _ [26,30,24] _ rfl (by kernel_rfl) ?s31x470 ?_;rotate_left;refine @FactSteps.cons _ _ _ _ 32 _ [24,31,6] _ rfl (by kernel_rfl) ?s32x470 ?_;rotate_left;refine @FactSteps.cons _ _ _ _ 33 _ [6,32] _ rfl (by kernel_rfl) ?s33x470 ?_;rotate_left;exact FactSteps.nil
        case s0x470 =>
          rintro L a v w hv hg hL hd hcl ⟨e11,e12,e13,e14,hb,f0,f1,f2,f3,f4,f5,f6,f7,f8,f9,f10,f11,f12,f13,f14,f15,f16,f17,f18,f19,f20,f21,f22,f23,f24,f25,f26,f27,f28,f29,f30,f31,f32,f33⟩ K hK;refine step_do rfl ?_;clear hv;go_simp;exact hK.out _ _ ⟨e11,e12,e13,e14,hb,fun _=>rfl,f1,f2,f3,f4,f5,f6,f7,f8,f9,f10,f11,f12,f13,f14,f15,f16,f17,f18,f19,f20,f21,f22,f23,f24,f25,f26,f27,f28,f29,f30,f31,f32,f33⟩
        case s1x470 =>
          rintro L a v w hv hg hL hd hcl ⟨e11,e12,e13,e14,hb,f0,f1,f2,f3,f4,f5,f6,f7,f8,f9,f10,f11,f12,f13,f14,f15,f16,f17,f18,f19,f20,f21,f22,f23,f24,f25,f26,f27,f28,f29,f30,f31,f32,f33⟩ K hK;have g0:=f0 (hd 0 (by decide));refine step_do rfl ?_;clear hv;go_simp;exact hK.out _ _ ⟨e11,e12,e13,e14,hb,f0,fun _=>rfl,f2,f3,f4,f5,f6,f7,f8,f9,f10,f11,f12,f13,f14,f15,f16,f17,f18,f19,f20,f21,f22,f23,f24,f25,f26,f27,f28,f29,f30,f31,f32,f33⟩
        case s2x470 =>
          rintro L a v w hv hg hL hd hcl ⟨e11,e12,e13,e14,hb,f0,f1,f2,f3,f4,f5,f6,f7,f8,f9,f10,f11,f12,f13,f14,f15,f16,f17,f18,f19,f20,f21,f22,f23,f24,f25,f26,f27,f28,f29,f30,f31,f32,f33⟩ K hK;have g1:=f1 (hd 1 (by decide));refine step_do rfl ?_;clear hv;go_simp;exact hK.out _ _ ⟨e11,e12,e13,e14,hb,f0,f1,fun _=>rfl,f3,f4,f5,f6,f7,f8,f9,f10,f11,f12,f13,f14,f15,f16,f17,f18,f19,f20,f21,f22,f23,f24,f25,f26,f27,f28,f29,f30,f31,f32,f33⟩
        case s3x470 =>
          rintro L a v w hv hg hL hd hcl ⟨e11,e12,e13,e14,hb,f0,f1,f2,f3,f4,f5,f6,f7,f8,f9,f10,f11,f12,f13,f14,f15,f16,f17,f18,f19,f20,f21,f22,f23,f24,f25,f26,f27,f28,f29,f30,f31,f32,f33⟩ K hK;refine step_skip (j:=2) (s:=193) (b:=false) rfl rfl ((hv 193).trans (f2 (hd 2 (by decide)))) (by decide) ?_;exact hK.out _ _ ⟨e11,e12,e13,e14,hb,f0,f1,f2,fun _=>rfl,f4,f5,f6,f7,f8,f9,f10,f11,f12,f13,f14,f15,f16,f17,f18,f19,f20,f21,f22,f23,f24,f25,f26,f27,f28,f29,f30,f31,f32,f33⟩
        case s4x470 =>
          rintro L a v w hv hg hL hd hcl ⟨e11,e12,e13,e14,hb,f0,f1,f2,f3,f4,f5,f6,f7,f8,f9,f10,f11,f12,f13,f14,f15,f16,f17,f18,f19,f20,f21,f22,f23,f24,f25,f26,f27,f28,f29,f30,f31,f32,f33⟩ K hK;refine step_skip (j:=2) (s:=193) (b:=false) rfl rfl ((hv 193).trans (f2 (hd 2 (by decide)))) (by decide) ?_;exact hK.out _ _ ⟨e11,e12,e13,e14,hb,f0,f1,f2,f3,fun _=>rfl,f5,f6,f7,f8,f9,f10,f11,f12,f13,f14,f15,f16,f17,f18,f19,f20,f21,f22,f23,f24,f25,f26,f27,f28,f29,f30,f31,f32,f33⟩
        case s5x470 =>
          rintro L a v w hv hg hL hd hcl ⟨e11,e12,e13,e14,hb,f0,f1,f2,f3,f4,f5,f6,f7,f8,f9,f10,f11,f12,f13,f14,f15,f16,f17,f18,f19,f20,f21,f22,f23,f24,f25,f26,f27,f28,f29,f30,f31,f32,f33⟩ K hK;have g2:=f2 (hd 2 (by decide));refine step_do rfl ?_;clear hv;go_simp;exact hK.out _ _ ⟨e11,e12,e13,e14,hb,f0,f1,f2,f3,f4,fun _=>rfl,f6,f7,f8,f9,f10,f11,f12,f13,f14,f15,f16,f17,f18,f19,f20,f21,f22,f23,f24,f25,f26,f27,f28,f29,f30,f31,f32,f33⟩
        case s6x470 =>
          rintro L a v w hv hg hL hd hcl ⟨e11,e12,e13,e14,hb,f0,f1,f2,f3,f4,f5,f6,f7,f8,f9,f10,f11,f12,f13,f14,f15,f16,f17,f18,f19,f20,f21,f22,f23,f24,f25,f26,f27,f28,f29,f30,f31,f32,f33⟩ K hK;have g2:=f2 (hd 2 (by decide));have g5:=f5 (hd 5 (by decide));refine step_do rfl ?_;clear hv;go_simp;exact hK.out _ _ ⟨e11,e12,e13,e14,hb,f0,f1,f2,f3,f4,f5,fun _=>rfl,f7,f8,f9,f10,f11,f12,f13,f14,f15,f16,f17,f18,f19,f20,f21,f22,f23,f24,f25,f26,f27,f28,f29,f30,f31,f32,f33⟩
        case s7x470 =>
          rintro L a v w hv hg hL hd hcl ⟨e11,e12,e13,e14,hb,f0,f1,f2,f3,f4,f5,f6,f7,f8,f9,f10,f11,f12,f13,f14,f15,f16,f17,f18,f19,f20,f21,f22,f23,f24,f25,f26,f27,f28,f29,f30,f31,f32,f33⟩ K hK;refine step_skip (j:=6) (s:=197) (b:=false) rfl rfl ((hv 197).trans (f6 (hd 6 (by decide)))) (by decide) ?_;exact hK.out _ _ ⟨e11,e12,e13,e14,hb,f0,f1,f2,f3,f4,f5,f6,fun _=>rfl,f8,f9,f10,f11,f12,f13,f14,f15,f16,f17,f18,f19,f20,f21,f22,f23,f24,f25,f26,f27,f28,f29,f30,f31,f32,f33⟩
        case s8x470 =>
          rintro L a v w hv hg hL hd hcl ⟨e11,e12,e13,e14,hb,f0,f1,f2,f3,f4,f5,f6,f7,f8,f9,f10,f11,f12,f13,f14,f15,f16,f17,f18,f19,f20,f21,f22,f23,f24,f25,f26,f27,f28,f29,f30,f31,f32,f33⟩ K hK;refine step_skip (j:=6) (s:=197) (b:=false) rfl rfl ((hv 197).trans (f6 (hd 6 (by decide)))) (by decide) ?_;exact hK.out _ _ ⟨e11,e12,e13,e14,hb,f0,f1,f2,f3,f4,f5,f6,f7,fun _=>rfl,f9,f10,f11,f12,f13,f14,f15,f16,f17,f18,f19,f20,f21,f22,f23,f24,f25,f26,f27,f28,f29,f30,f31,f32,f33⟩
        case s9x470 =>
          rintro L a v w hv hg hL hd hcl ⟨e11,e12,e13,e14,hb,f0,f1,f2,f3,f4,f5,f6,f7,f8,f9,f10,f11,f12,f13,f14,f15,f16,f17,f18,f19,f20,f21,f22,f23,f24,f25,f26,f27,f28,f29,f30,f31,f32,f33⟩ K hK;refine step_skip (j:=6) (s:=197) (b:=false) rfl rfl ((hv 197).trans (f6 (hd 6 (by decide)))) (by decide) ?_;exact hK.out _ _ ⟨e11,e12,e13,e14,hb,f0,f1,f2,f3,f4,f5,f6,f7,f8,fun _=>rfl,f10,f11,f12,f13,f14,f15,f16,f17,f18,f19,f20,f21,f22,f23,f24,f25,f26,f27,f28,f29,f30,f31,f32,f33⟩
        case s10x470 =>
          rintro L a v w hv hg hL hd hcl ⟨e11,e12,e13,e14,hb,f0,f1,f2,f3,f4,f5,f6,f7,f8,f9,f10,f11,f12,f13,f14,f15,f16,f17,f18,f19,f20,f21,f22,f23,f24,f25,f26,f27,f28,f29,f30,f31,f32,f33⟩ K hK;refine step_skip (j:=6) (s:=197) (b:=false) rfl rfl ((hv 197).trans (f6 (hd 6 (by decide)))) (by decide) ?_;exact hK.out _ _ ⟨e11,e12,e13,e14,hb,f0,f1,f2,f3,f4,f5,f6,f7,f8,f9,fun _=>rfl,f11,f12,f13,f14,f15,f16,f17,f18,f19,f20,f21,f22,f23,f24,f25,f26,f27,f28,f29,f30,f31,f32,f33⟩
        case s11x470 =>
          rintro L a v w hv hg hL hd hcl ⟨e11,e12,e13,e14,hb,f0,f1,f2,f3,f4,f5,f6,f7,f8,f9,f10,f11,f12,f13,f14,f15,f16,f17,f18,f19,f20,f21,f22,f23,f24,f25,f26,f27,f28,f29,f30,f31,f32,f33⟩ K hK;refine step_skip (j:=6) (s:=197) (b:=false) rfl rfl ((hv 197).trans (f6 (hd 6 (by decide)))) (by decide) ?_;exact hK.out _ _ ⟨e11,e12,e13,e14,hb,f0,f1,f2,f3,f4,f5,f6,f7,f8,f9,f10,fun _=>rfl,f12,f13,f14,f15,f16,f17,f18,f19,f20,f21,f22,f23,f24,f25,f26,f27,f28,f29,f30,f31,f32,f33⟩
        case s12x470 =>
          rintro L a v w hv hg hL hd hcl ⟨e11,e12,e13,e14,hb,f0,f1,f2,f3,f4,f5,f6,f7,f8,f9,f10,f11,f12,f13,f14,f15,f16,f17,f18,f19,f20,f21,f22,f23,f24,f25,f26,f27,f28,f29,f30,f31,f32,f33⟩ K hK;refine step_skip (j:=6) (s:=197) (b:=false) rfl rfl ((hv 197).trans (f6 (hd 6 (by decide)))) (by decide) ?_;exact hK.out _ _ ⟨e11,e12,e13,e14,hb,f0,f1,f2,f3,f4,f5,f6,f7,f8,f9,f10,f11,fun _=>rfl,f13,f14,f15,f16,f17,f18,f19,f20,f21,f22,f23,f24,f25,f26,f27,f28,f29,f30,f31,f32,f33⟩
        case s13x470 =>
          rintro L a v w hv hg hL hd hcl ⟨e11,e12,e13,e14,hb,f0,f1,f2,f3,f4,f5,f6,f7,f8,f9,f10,f11,f12,f13,f14,f15,f16,f17,f18,f19,f20,f21,f22,f23,f24,f25,f26,f27,f28,f29,f30,f31,f32,f33⟩ K hK;refine step_skip (j:=6) (s:=197) (b:=false) rfl rfl ((hv 197).trans (f6 (hd 6 (by decide)))) (by decide) ?_;exact hK.out _ _ ⟨e11,e12,e13,e14,hb,f0,f1,f2,f3,f4,f5,f6,f7,f8,f9,f10,f11,f12,fun _=>rfl,f14,f15,f16,f17,f18,f19,f20,f21,f22,f23,f24,f25,f26,f27,f28,f29,f30,f31,f32,f33⟩
        case s14x470 =>
          rintro L a v w hv hg hL hd hcl ⟨e11,e12,e13,e14,hb,f0,f1,f2,f3,f4,f5,f6,f7,f8,f9,f10,f11,f12,f13,f14,f15,f16,f17,f18,f19,f20,f21,f22,f23,f24,f25,f26,f27,f28,f29,f30,f31,f32,f33⟩ K hK;refine step_skip (j:=6) (s:=197) (b:=false) rfl rfl ((hv 197).trans (f6 (hd 6 (by decide)))) (by decide) ?_;exact hK.out _ _ ⟨e11,e12,e13,e14,hb,f0,f1,f2,f3,f4,f5,f6,f7,f8,f9,f10,f11,f12,f13,fun _=>rfl,f15,f16,f17,f18,f19,f20,f21,f22,f23,f24,f25,f26,f27,f28,f29,f30,f31,f32,f33⟩
        case s15x470 =>
          rintro L a v w hv hg hL hd hcl ⟨e11,e12,e13,e14,hb,f0,f1,f2,f3,f4,f5,f6,f7,f8,f9,f10,f11,f12,f13,f14,f15,f16,f17,f18,f19,f20,f21,f22,f23,f24,f25,f26,f27,f28,f29,f30,f31,f32,f33⟩ K hK;refine step_skip (j:=6) (s:=197) (b:=false) rfl rfl ((hv 197).trans (f6 (hd 6 (by decide)))) (by decide) ?_;exact hK.out _ _ ⟨e11,e12,e13,e14,hb,f0,f1,f2,f3,f4,f5,f6,f7,f8,f9,f10,f11,f12,f13,f14,fun _=>rfl,f16,f17,f18,f19,f20,f21,f22,f23,f24,f25,f26,f27,f28,f29,f30,f31,f32,f33⟩
        case s16x470 =>
          rintro L a v w hv hg hL hd hcl ⟨e11,e12,e13,e14,hb,f0,f1,f2,f3,f4,f5,f6,f7,f8,f9,f10,f11,f12,f13,f14,f15,f16,f17,f18,f19,f20,f21,f22,f23,f24,f25,f26,f27,f28,f29,f30,f31,f32,f33⟩ K hK;refine step_skipU (j:=15) (s:=206) rfl rfl ((hv 206).trans (f15 (hd 15 (by decide)))) ?_;exact hK.out _ _ ⟨e11,e12,e13,e14,hb,f0,f1,f2,f3,f4,f5,f6,f7,f8,f9,f10,f11,f12,f13,f14,f15,fun _=>rfl,f17,f18,f19,f20,f21,f22,f23,f24,f25,f26,f27,f28,f29,f30,f31,f32,f33⟩
        case s17x470 =>
          rintro L a v w hv hg hL hd hcl ⟨e11,e12,e13,e14,hb,f0,f1,f2,f3,f4,f5,f6,f7,f8,f9,f10,f11,f12,f13,f14,f15,f16,f17,f18,f19,f20,f21,f22,f23,f24,f25,f26,f27,f28,f29,f30,f31,f32,f33⟩ K hK;refine step_skipU (j:=15) (s:=206) rfl rfl ((hv 206).trans (f15 (hd 15 (by decide)))) ?_;exact hK.out _ _ ⟨e11,e12,e13,e14,hb,f0,f1,f2,f3,f4,f5,f6,f7,f8,f9,f10,f11,f12,f13,f14,f15,f16,fun _=>rfl,f18,f19,f20,f21,f22,f23,f24,f25,f26,f27,f28,f29,f30,f31,f32,f33⟩
        case s18x470 =>
          rintro L a v w hv hg hL hd hcl ⟨e11,e12,e13,e14,hb,f0,f1,f2,f3,f4,f5,f6,f7,f8,f9,f10,f11,f12,f13,f14,f15,f16,f17,f18,f19,f20,f21,f22,f23,f24,f25,f26,f27,f28,f29,f30,f31,f32,f33⟩ K hK;refine step_skipU (j:=15) (s:=206) rfl rfl ((hv 206).trans (f15 (hd 15 (by decide)))) ?_;exact hK.out _ _ ⟨e11,e12,e13,e14,hb,f0,f1,f2,f3,f4,f5,f6,f7,f8,f9,f10,f11,f12,f13,f14,f15,f16,f17,fun _=>rfl,f19,f20,f21,f22,f23,f24,f25,f26,f27,f28,f29,f30,f31,f32,f33⟩
        case s19x470 =>
          rintro L a v w hv hg hL hd hcl ⟨e11,e12,e13,e14,hb,f0,f1,f2,f3,f4,f5,f6,f7,f8,f9,f10,f11,f12,f13,f14,f15,f16,f17,f18,f19,f20,f21,f22,f23,f24,f25,f26,f27,f28,f29,f30,f31,f32,f33⟩ K hK;refine step_skipU (j:=15) (s:=206) rfl rfl ((hv 206).trans (f15 (hd 15 (by decide)))) ?_;exact hK.out _ _ ⟨e11,e12,e13,e14,hb,f0,f1,f2,f3,f4,f5,f6,f7,f8,f9,f10,f11,f12,f13,f14,f15,f16,f17,f18,fun _=>rfl,f20,f21,f22,f23,f24,f25,f26,f27,f28,f29,f30,f31,f32,f33⟩
        case s20x470 =>
          rintro L a v w hv hg hL hd hcl ⟨e11,e12,e13,e14,hb,f0,f1,f2,f3,f4,f5,f6,f7,f8,f9,f10,f11,f12,f13,f14,f15,f16,f17,f18,f19,f20,f21,f22,f23,f24,f25,f26,f27,f28,f29,f30,f31,f32,f33⟩ K hK;refine step_skipU (j:=15) (s:=206) rfl rfl ((hv 206).trans (f15 (hd 15 (by decide)))) ?_;exact hK.out _ _ ⟨e11,e12,e13,e14,hb,f0,f1,f2,f3,f4,f5,f6,f7,f8,f9,f10,f11,f12,f13,f14,f15,f16,f17,f18,f19,fun _=>rfl,f21,f22,f23,f24,f25,f26,f27,f28,f29,f30,f31,f32,f33⟩
        case s21x470 =>
          rintro L a v w hv hg hL hd hcl ⟨e11,e12,e13,e14,hb,f0,f1,f2,f3,f4,f5,f6,f7,f8,f9,f10,f11,f12,f13,f14,f15,f16,f17,f18,f19,f20,f21,f22,f23,f24,f25,f26,f27,f28,f29,f30,f31,f32,f33⟩ K hK;refine step_skipU (j:=15) (s:=206) rfl rfl ((hv 206).trans (f15 (hd 15 (by decide)))) ?_;exact hK.out _ _ ⟨e11,e12,e13,e14,hb,f0,f1,f2,f3,f4,f5,f6,f7,f8,f9,f10,f11,f12,f13,f14,f15,f16,f17,f18,f19,f20,fun _=>rfl,f22,f23,f24,f25,f26,f27,f28,f29,f30,f31,f32,f33⟩
        case s22x470 =>
          rintro L a v w hv hg hL hd hcl ⟨e11,e12,e13,e14,hb,f0,f1,f2,f3,f4,f5,f6,f7,f8,f9,f10,f11,f12,f13,f14,f15,f16,f17,f18,f19,f20,f21,f22,f23,f24,f25,f26,f27,f28,f29,f30,f31,f32,f33⟩ K hK;refine step_skipU (j:=15) (s:=206) rfl rfl ((hv 206).trans (f15 (hd 15 (by decide)))) ?_;exact hK.out _ _ ⟨e11,e12,e13,e14,hb,f0,f1,f2,f3,f4,f5,f6,f7,f8,f9,f10,f11,f12,f13,f14,f15,f16,f17,f18,f19,f20,f21,fun _=>rfl,f23,f24,f25,f26,f27,f28,f29,f30,f31,f32,f33⟩
        case s23x470 =>
          rintro L a v w hv hg hL hd hcl ⟨e11,e12,e13,e14,hb,f0,f1,f2,f3,f4,f5,f6,f7,f8,f9,f10,f11,f12,f13,f14,f15,f16,f17,f18,f19,f20,f21,f22,f23,f24,f25,f26,f27,f28,f29,f30,f31,f32,f33⟩ K hK;refine step_skip (j:=6) (s:=197) (b:=false) rfl rfl ((hv 197).trans (f6 (hd 6 (by decide)))) (by decide) ?_;exact hK.out _ _ ⟨e11,e12,e13,e14,hb,f0,f1,f2,f3,f4,f5,f6,f7,f8,f9,f10,f11,f12,f13,f14,f15,f16,f17,f18,f19,f20,f21,f22,fun _=>rfl,f24,f25,f26,f27,f28,f29,f30,f31,f32,f33⟩
        case s24x470 =>
          rintro L a v w hv hg hL hd hcl ⟨e11,e12,e13,e14,hb,f0,f1,f2,f3,f4,f5,f6,f7,f8,f9,f10,f11,f12,f13,f14,f15,f16,f17,f18,f19,f20,f21,f22,f23,f24,f25,f26,f27,f28,f29,f30,f31,f32,f33⟩ K hK;refine step_skip (j:=6) (s:=197) (b:=false) rfl rfl ((hv 197).trans (f6 (hd 6 (by decide)))) (by decide) ?_;exact hK.out _ _ ⟨e11,e12,e13,e14,hb,f0,f1,f2,f3,f4,f5,f6,f7,f8,f9,f10,f11,f12,f13,f14,f15,f16,f17,f18,f19,f20,f21,f22,f23,fun _=>rfl,f25,f26,f27,f28,f29,f30,f31,f32,f33⟩
        case s25x470 =>
          rintro L a v w hv hg hL hd hcl ⟨e11,e12,e13,e14,hb,f0,f1,f2,f3,f4,f5,f6,f7,f8,f9,f10,f11,f12,f13,f14,f15,f16,f17,f18,f19,f20,f21,f22,f23,f24,f25,f26,f27,f28,f29,f30,f31,f32,f33⟩ K hK;refine step_skipU (j:=24) (s:=215) rfl rfl ((hv 215).trans (f24 (hd 24 (by decide)))) ?_;exact hK.out _ _ ⟨e11,e12,e13,e14,hb,f0,f1,f2,f3,f4,f5,f6,f7,f8,f9,f10,f11,f12,f13,f14,f15,f16,f17,f18,f19,f20,f21,f22,f23,f24,fun _=>rfl,f26,f27,f28,f29,f30,f31,f32,f33⟩
        case s26x470 =>
          rintro L a v w hv hg hL hd hcl ⟨e11,e12,e13,e14,hb,f0,f1,f2,f3,f4,f5,f6,f7,f8,f9,f10,f11,f12,f13,f14,f15,f16,f17,f18,f19,f20,f21,f22,f23,f24,f25,f26,f27,f28,f29,f30,f31,f32,f33⟩ K hK;refine step_skipU (j:=24) (s:=215) rfl rfl ((hv 215).trans (f24 (hd 24 (by decide)))) ?_;exact hK.out _ _ ⟨e11,e12,e13,e14,hb,f0,f1,f2,f3,f4,f5,f6,f7,f8,f9,f10,f11,f12,f13,f14,f15,f16,f17,f18,f19,f20,f21,f22,f23,f24,f25,fun _=>rfl,f27,f28,f29,f30,f31,f32,f33⟩
        case s27x470 =>
          rintro L a v w hv hg hL hd hcl ⟨e11,e12,e13,e14,hb,f0,f1,f2,f3,f4,f5,f6,f7,f8,f9,f10,f11,f12,f13,f14,f15,f16,f17,f18,f19,f20,f21,f22,f23,f24,f25,f26,f27,f28,f29,f30,f31,f32,f33⟩ K hK;refine step_skipU (j:=24) (s:=215) rfl rfl ((hv 215).trans (f24 (hd 24 (by decide)))) ?_;exact hK.out _ _ ⟨e11,e12,e13,e14,hb,f0,f1,f2,f3,f4,f5,f6,f7,f8,f9,f10,f11,f12,f13,f14,f15,f16,f17,f18,f19,f20,f21,f22,f23,f24,f25,f26,fun _=>rfl,f28,f29,f30,f31,f32,f33⟩
        case s28x470 =>
          rintro L a v w hv hg hL hd hcl ⟨e11,e12,e13,e14,hb,f0,f1,f2,f3,f4,f5,f6,f7,f8,f9,f10,f11,f12,f13,f14,f15,f16,f17,f18,f19,f20,f21,f22,f23,f24,f25,f26,f27,f28,f29,f30,f31,f32,f33⟩ K hK;refine step_skipU (j:=24) (s:=215) rfl rfl ((hv 215).trans (f24 (hd 24 (by decide)))) ?_;exact hK.out _ _ ⟨e11,e12,e13,e14,hb,f0,f1,f2,f3,f4,f5,f6,f7,f8,f9,f10,f11,f12,f13,f14,f15,f16,f17,f18,f19,f20,f21,f22,f23,f24,f25,f26,f27,fun _=>rfl,f29,f30,f31,f32,f33⟩
        case s29x470 =>
          rintro L a v w hv hg hL hd hcl ⟨e11,e12,e13,e14,hb,f0,f1,f2,f3,f4,f5,f6,f7,f8,f9,f10,f11,f12,f13,f14,f15,f16,f17,f18,f19,f20,f21,f22,f23,f24,f25,f26,f27,f28,f29,f30,f31,f32,f33⟩ K hK;refine step_skipU (j:=24) (s:=215) rfl rfl ((hv 215).trans (f24 (hd 24 (by decide)))) ?_;exact hK.out _ _ ⟨e11,e12,e13,e14,hb,f0,f1,f2,f3,f4,f5,f6,f7,f8,f9,f10,f11,f12,f13,f14,f15,f16,f17,f18,f19,f20,f21,f22,f23,f24,f25,f26,f27,f28,fun _=>rfl,f30,f31,f32,f33⟩
        case s30x470 =>
          rintro L a v w hv hg hL hd hcl ⟨e11,e12,e13,e14,hb,f0,f1,f2,f3,f4,f5,f6,f7,f8,f9,f10,f11,f12,f13,f14,f15,f16,f17,f18,f19,f20,f21,f22,f23,f24,f25,f26,f27,f28,f29,f30,f31,f32,f33⟩ K hK;refine step_skipU (j:=24) (s:=215) rfl rfl ((hv 215).trans (f24 (hd 24 (by decide)))) ?_;exact hK.out _ _ ⟨e11,e12,e13,e14,hb,f0,f1,f2,f3,f4,f5,f6,f7,f8,f9,f10,f11,f12,f13,f14,f15,f16,f17,f18,f19,f20,f21,f22,f23,f24,f25,f26,f27,f28,f29,fun _=>rfl,f31,f32,f33⟩
        case s31x470 =>
          rintro L a v w hv hg hL hd hcl ⟨e11,e12,e13,e14,hb,f0,f1,f2,f3,f4,f5,f6,f7,f8,f9,f10,f11,f12,f13,f14,f15,f16,f17,f18,f19,f20,f21,f22,f23,f24,f25,f26,f27,f28,f29,f30,f31,f32,f33⟩ K hK;refine step_skipU (j:=24) (s:=215) rfl rfl ((hv 215).trans (f24 (hd 24 (by decide)))) ?_;exact hK.out _ _ ⟨e11,e12,e13,e14,hb,f0,f1,f2,f3,f4,f5,f6,f7,f8,f9,f10,f11,f12,f13,f14,f15,f16,f17,f18,f19,f20,f21,f22,f23,f24,f25,f26,f27,f28,f29,f30,fun _=>rfl,f32,f33⟩
        case s32x470 =>
          rintro L a v w hv hg hL hd hcl ⟨e11,e12,e13,e14,hb,f0,f1,f2,f3,f4,f5,f6,f7,f8,f9,f10,f11,f12,f13,f14,f15,f16,f17,f18,f19,f20,f21,f22,f23,f24,f25,f26,f27,f28,f29,f30,f31,f32,f33⟩ K hK;refine step_skip (j:=6) (s:=197) (b:=false) rfl rfl ((hv 197).trans (f6 (hd 6 (by decide)))) (by decide) ?_;exact hK.out _ _ ⟨e11,e12,e13,e14,hb,f0,f1,f2,f3,f4,f5,f6,f7,f8,f9,f10,f11,f12,f13,f14,f15,f16,f17,f18,f19,f20,f21,f22,f23,f24,f25,f26,f27,f28,f29,f30,f31,fun _=>rfl,f33⟩
        case s33x470 =>
          rintro L a v w hv hg hL hd hcl ⟨e11,e12,e13,e14,hb,f0,f1,f2,f3,f4,f5,f6,f7,f8,f9,f10,f11,f12,f13,f14,f15,f16,f17,f18,f19,f20,f21,f22,f23,f24,f25,f26,f27,f28,f29,f30,f31,f32,f33⟩ K hK;have g6:=f6 (hd 6 (by decide));refine step_do rfl ?_;clear hv;go_simp;exact hK.out _ _ ⟨e11,e12,e13,e14,hb,f0,f1,f2,f3,f4,f5,f6,f7,f8,f9,f10,f11,f12,f13,f14,f15,f16,f17,f18,f19,f20,f21,f22,f23,f24,f25,f26,f27,f28,f29,f30,f31,f32,fun _=>rfl⟩
      case hendx470 =>
      rintro L v wg hall ⟨e11,e12,e13,e14,hb,f0,f1,f2,f3,f4,f5,f6,f7,f8,f9,f10,f11,f12,f13,f14,f15,f16,f17,f18,f19,f20,f21,f22,f23,f24,f25,f26,f27,f28,f29,f30,f31,f32,f33⟩;have hL : ∀ i,i < 34→L i = true:=hall;have f0:=f0 (hL 0 (by decide));have f1:=f1 (hL 1 (by decide));have f2:=f2 (hL 2 (by decide));have f3:=f3 (hL 3 (by decide));have f4:=f4 (hL 4 (by decide));have f5:=f5 (hL 5 (by decide));have f6:=f6 (hL 6 (by decide));have f7:=f7 (hL 7 (by decide));have f8:=f8 (hL 8 (by decide));have f9:=f9 (hL 9 (by decide));have f10:=f10 (hL 10 (by decide));have f11:=f11 (hL 11 (by decide));have f12:=f12 (hL 12 (by decide));have f13:=f13 (hL 13 (by decide));have f14:=f14 (hL 14 (by decide));have f15:=f15 (hL 15 (by decide));have f16:=f16 (hL 16 (by decide));have f17:=f17 (hL 17 (by decide));have f18:=f18 (hL 18 (by decide));have f19:=f19 (hL 19 (by decide));have f20:=f20 (hL 20 (by decide));have f21:=f21 (hL 21 (by decide));have f22:=f22 (hL 22 (by decide));have f23:=f23 (hL 23 (by decide));have f24:=f24 (hL 24 (by decide));have f25:=f25 (hL 25 (by decide));have f26:=f26 (hL 26 (by decide));have f27:=f27 (hL 27 (by decide));have f28:=f28 (hL 28 (by decide));have f29:=f29 (hL 29 (by decide));have f30:=f30 (hL 30 (by decide));have f31:=f31 (hL 31 (by decide));have f32:=f32 (hL 32 (by decide));have f33:=f33 (hL 33 (by decide));have HNW:=Lib.hid (HNW.out.below hb)
      simp only [finA,List.foldl_cons,List.foldl_nil,Act.put,List.setIfInBounds_toArray,List.set_cons_succ,List.set_cons_zero,f0,f1,f2,f3,f4,f5,f6,f7,f8,f9,f10,f11,f12,f13,f14,f15,f16,f17,f18,f19,f20,f21,f22,f23,f24,f25,f26,f27,f28,f29,f30,f31,f32,f33]
      clear e11 e12 e13 e14 f0 f1 f2 f3 f4 f5 f6 f7 f8 f9 f10 f11 f12 f13 f14 f15 f16 f17 f18 f19 f20 f21 f22 f23 f24 f25 f26 f27 f28 f29 f30 f31 f32 f33 hL hall hb;go_wp2_with fail
      go_roundw
      case rel=>exact ⟨k + 1,4,by omega,by go_num,rfl,rfl,HNW.out⟩
      case measure=>simp [intOf];omega
    obtain ⟨S,s,t,hsg,htg,rfl,rfl,pr,hte,good,hge⟩:=hN;have HNW:=Lib.hid HNO.out;have hs1:=(pr.p.small hge).1;have hs2':=(pr.p.small hge).2
    have hq:=fun (w : World) (hb : Below wf.heap.size wf w)=>pr.below hb
    have hev:=fun (w : World) (hb : Below wf.heap.size wf w)=>events_any s.b s.g S.used S.upto S.inc s.A s.n s.c s.xs w (hq w hb).p.at_.2.1 (by omega) ((hq w hb).p.ev.row.row (fun y hy=>((hq w hb).p.ev.own y hy).ok)) (fun y hy=>by have:=hs2' y hy;omega)
    have hin:=fun (w : World) (hb : Below wf.heap.size wf w)=>inc_any s.b s.g S.used S.upto S.inc _ w (hq w hb).p.at_.2.1
    have hup:=fun (w : World) (hb : Below wf.heap.size wf w)=>upto_any s.b s.g S.used S.upto S.inc _ w (hq w hb).p.at_.2.1
    have hlen : t.n = s.n:=by
      have h9:=congrArg List.length hte
      unfold SoV.evs at h9
      rw [List.length_map,List.length_map,← pr.p.ev.row.1,← pr.q.ev.row.1] at h9;exact h9
    have hal:=fun (w : World) (hb : Below wf.heap.size wf w) (A9 : Option Addr) (c9 : Nat) (ys : List EvV) (o9 : OwnEv w wf.heap.size A9 s.n c9 ys) (oy : ∀ y ∈ ys,EvOwn w wf.heap.size y) (hye : ys.map (·.e) = s.xs.map (·.e))=>(by
      have h:=rall07_eq A9 t.A s.n c9 t.c ys t.xs w (o9.row (fun y hy=>EvOwn.ok (oy y hy))) (by rw [← hlen];exact (hq w hb).q.ev.row.row (fun y hy=>((hq w hb).q.ev.own y hy).ok)) (hye.trans hte.symm) (fun y hy=>by
        rw [(oy y hy).2.1.1]
        have h9 : y.e ∈ s.xs.map (·.e):=by rw [← hye];exact List.mem_map_of_mem hy
        have:=hge.2 _ h9
        omega) (by omega)
      rw [hlen]
      exact h : Calls Tryz.prog 29 #[.slice A9 s.n c9,.slice t.A t.n t.c] w fun e w'=>e = .returned (.bool true)∧Below w.heap.size w w')
    have HQ:=Lib.hid hq;have HEV:=Lib.hid hev;have HIN:=Lib.hid hin;have HUP:=Lib.hid hup;have HAL:=Lib.hid hal;clear pr hte good hge hs1 hs2' hq hev hin hup hlen hal HNO hsg htg;refine wp_region_facts (fun L v w=>v 11 = .pointer (some ⟨s.b,0,none⟩)∧v 12 = .int .i64 0∧v 13 = .pointer (some ⟨t.b,0,none⟩)∧v 14 = .int .i64 0∧Below wf.heap.size wf w∧(L 0 = true→v 191 = .int .i64 0)∧(L 1 = true→v 192 = .bool true)∧(L 2 = true→v 193 = .bool true)∧(L 3 = true→v 194 = .int .i64 0)∧(L 4 = true→v 195 = .bool true)∧(L 5 = true→v 196 = .bool true)∧(L 6 = true→v 197 = .bool true)∧(L 7 = true→v 198 = .pointer (some ⟨s.b,0,none⟩))∧(L 8 = true→(∃ Ac cc ys,v 199 = .slice Ac s.n cc∧OwnEv w wf.heap.size Ac s.n cc ys∧(∀ y ∈ ys,EvOwn w wf.heap.size y)∧ys.map (·.e) = s.xs.map (·.e)))∧(L 9 = true→v 200 = .pointer (some ⟨t.b,0,none⟩))∧(L 10 = true→v 201 = .pointer (some ⟨t.b,0,none⟩))∧(L 11 = true→v 202 = .pointer (some ⟨t.b,4,none⟩))∧(L 12 = true→v 203 = .slice t.A t.n t.c)∧(L 13 = true→v 204 = .bool true)∧(L 14 = true→v 205 = .bool false)∧(L 15 = true→v 206 = .bool false)∧(L 16 = true→v 207 = .pointer (some ⟨s.b,0,none⟩))∧(L 17 = true→v 208 = .int .i64 (S.inc : Nat))∧(L 18 = true→v 209 = .pointer (some ⟨t.b,0,none⟩))∧(L 19 = true→v 210 = .pointer (some ⟨t.b,0,none⟩))∧(L 20 = true→v 211 = .pointer (some ⟨t.b,3,none⟩))∧(L 21 = true→v 212 = .int .i64 (S.inc : Nat))∧(L 22 = true→v 213 = .bool false)∧(L 23 = true→v 214 = .bool false)∧(L 24 = true→v 215 = .bool false)∧(L 25 = true→v 216 = .pointer (some ⟨s.b,0,none⟩))∧(L 26 = true→v 217 = .int .i64 (S.upto : Nat))∧(L 27 = true→v 218 = .pointer (some ⟨t.b,0,none⟩))∧(L 28 = true→v 219 = .pointer (some ⟨t.b,0,none⟩))∧(L 29 = true→v 220 = .pointer (some ⟨t.b,2,none⟩))∧(L 30 = true→v 221 = .int .i64 (S.upto : Nat))∧(L 31 = true→v 222 = .bool false)∧(L 32 = true→v 223 = .bool false)∧(L 33 = true→v 224 = .bool false)) [191,192,193,194,195,196,197,198,199,200,201,202,203,204,205,206,207,208,209,210,211,212,213,214,215,216,217,218,219,220,221,222,223,224] (by kernel_rfl) (by kernel_rfl) (by kernel_rfl) (by kernel_rfl) ?h0x471 ?hstx471 ?hendx471
    case h0x471 =>
      intro L h0;have h0 : ∀ i,i < 34→L i = false:=h0;exact ⟨rfl,rfl,rfl,rfl,(Below.refl _ _).drew,offF h0 (i:=0) (by decide),offF h0 (i:=1) (by decide),offF h0 (i:=2) (by decide),offF h0 (i:=3) (by decide),offF h0 (i:=4) (by decide),offF h0 (i:=5) (by decide),offF h0 (i:=6) (by decide),offF h0 (i:=7) (by decide),offF h0 (i:=8) (by decide),offF h0 (i:=9) (by decide),offF h0 (i:=10) (by decide),offF h0 (i:=11) (by decide),offF h0 (i:=12) (by decide),offF h0 (i:=13) (by decide),offF h0 (i:=14) (by decide),offF h0 (i:=15) (by decide),offF h0 (i:=16) (by decide),offF h0 (i:=17) (by decide),offF h0 (i:=18) (by decide),offF h0 (i:=19) (by decide),offF h0 (i:=20) (by decide),offF h0 (i:=21) (by decide),offF h0 (i:=22) (by decide),offF h0 (i:=23) (by decide),offF h0 (i:=24) (by decide),offF h0 (i:=25) (by decide),offF h0 (i:=26) (by decide),offF h0 (i:=27) (by decide),offF h0 (i:=28) (by decide),offF h0 (i:=29) (by decide),offF h0 (i:=30) (by decide),offF h0 (i:=31) (by decide),offF h0 (i:=32) (by decide),offF h0 (i:=33) (by decide)⟩
    case hstx471 =>
      show FactSteps _ _ _ _ [0,1,2,3,4,5,6,7,8,9,10,11,12,13,14,15,16,17,18,19,20,21,22,23,24,25,26,27,28,29,30,31,32,33]
      refine @FactSteps.cons _ _ _ _ 0 _ [] _ rfl (by kernel_rfl) ?s0x471 ?_;rotate_left;refine @FactSteps.cons _ _ _ _ 1 _ [0] _ rfl (by kernel_rfl) ?s1x471 ?_;rotate_left;refine @FactSteps.cons _ _ _ _ 2 _ [1] _ rfl (by kernel_rfl) ?s2x471 ?_;rotate_left;refine @FactSteps.cons _ _ _ _ 3 _ [2] _ rfl (by kernel_rfl) ?s3x471 ?_;rotate_left;refine @FactSteps.cons _ _ _ _ 4 _ [3,2] _ rfl (by kernel_rfl) ?s4x471 ?_;rotate_left;refine @FactSteps.cons _ _ _ _ 5 _ [2,4] _ rfl (by kernel_rfl) ?s5x471 ?_;rotate_left;refine @FactSteps.cons _ _ _ _ 6 _ [5,2] _ rfl (by kernel_rfl) ?s6x471 ?_;rotate_left;refine @FactSteps.cons _ _ _ _ 7 _ [6] _ rfl (by kernel_rfl) ?s7x471 ?_;rotate_left;refine @FactSteps.cons _ _ _ _ 8 _ [7,6,6] _ rfl (by kernel_rfl) ?s8x471 ?_;rotate_left;refine @FactSteps.cons _ _ _ _ 9 _ [6] _ rfl (by kernel_rfl) ?s9x471 ?_;rotate_left;refine @FactSteps.cons _ _ _ _ 10 _ [9,6] _ rfl (by kernel_rfl) ?s10x471 ?_;rotate_left;refine @FactSteps.cons _ _ _ _ 11 _ [10,6] _ rfl (by kernel_rfl) ?s11x471 ?_;rotate_left;refine @FactSteps.cons _ _ _ _ 12 _ [11,6] _ rfl (by kernel_rfl) ?s12x471 ?_;rotate_left;refine @FactSteps.cons _ _ _ _ 13 _ [8,12,8,6] _ rfl (by kernel_rfl) ?s13x471 ?_;rotate_left;refine @FactSteps.cons _ _ _ _ 14 _ [13,6] _ rfl (by kernel_rfl) ?s14x471 ?_;rotate_left;refine @FactSteps.cons _ _ _ _ 15 _ [14,13,6] _ rfl (by kernel_rfl) ?s15x471 ?_;rotate_left;refine @FactSteps.cons _ _ _ _ 16 _ [15] _ rfl (by kernel_rfl) ?s16x471 ?_;rotate_left;refine @FactSteps.cons _ _ _ _ 17 _ [16,15,15] _ rfl (by kernel_rfl) ?s17x471 ?_
      rotate_left;refine @FactSteps.cons _ _ _ _ 18 _ [15] _ rfl (by kernel_rfl) ?s18x471 ?_;rotate_left;refine @FactSteps.cons _ _ _ _ 19 _ [18,15] _ rfl (by kernel_rfl) ?s19x471 ?_;rotate_left;refine @FactSteps.cons _ _ _ _ 20 _ [19,15] _ rfl (by kernel_rfl) ?s20x471 ?_;rotate_left;refine @FactSteps.cons _ _ _ _ 21 _ [20,15] _ rfl (by kernel_rfl) ?s21x471 ?_;rotate_left;refine @FactSteps.cons _ _ _ _ 22 _ [17,21,15] _ rfl (by kernel_rfl) ?s22x471 ?_;rotate_left;refine @FactSteps.cons _ _ _ _ 23 _ [15,22,6] _ rfl (by kernel_rfl) ?s23x471 ?_;rotate_left;refine @FactSteps.cons _ _ _ _ 24 _ [23,17,6] _ rfl (by kernel_rfl) ?s24x471 ?_;rotate_left;refine @FactSteps.cons _ _ _ _ 25 _ [24] _ rfl (by kernel_rfl) ?s25x471 ?_;rotate_left;refine @FactSteps.cons _ _ _ _ 26 _ [25,24,24] _ rfl (by kernel_rfl) ?s26x471 ?_;rotate_left;refine @FactSteps.cons _ _ _ _ 27 _ [24] _ rfl (by kernel_rfl) ?s27x471 ?_;rotate_left;refine @FactSteps.cons _ _ _ _ 28 _ [27,24] _ rfl (by kernel_rfl) ?s28x471 ?_;rotate_left;refine @FactSteps.cons _ _ _ _ 29 _ [28,24] _ rfl (by kernel_rfl) ?s29x471 ?_;rotate_left;refine @FactSteps.cons _ _ _ _ 30 _ [29,24] _ rfl (by kernel_rfl) ?s30x471 ?_;rotate_left;refine @FactSteps.cons _ _ _ _ 31 _ [26,30,24] _ rfl (by kernel_rfl) ?s31x471 ?_;rotate_left;refine @FactSteps.cons _ _ _ _ 32 _ [24,31,6] _ rfl (by kernel_rfl) ?s32x471 ?_;rotate_left;refine @FactSteps.cons _ _ _ _ 33 _ [6,32] _ rfl (by kernel_rfl) ?s33x471 ?_;rotate_left;exact FactSteps.nil
      case s0x471 =>
        rintro L a v w hv hg hL hd hcl ⟨e11,e12,e13,e14,hb,f0,f1,f2,f3,f4,f5,f6,f7,f8,f9,f10,f11,f12,f13,f14,f15,f16,f17,f18,f19,f20,f21,f22,f23,f24,f25,f26,f27,f28,f29,f30,f31,f32,f33⟩ K hK;refine step_do rfl ?_;clear hv;go_simp;exact hK.out _ _ ⟨e11,e12,e13,e14,hb,fun _=>rfl,f1,f2,f3,f4,f5,f6,f7,f8,f9,f10,f11,f12,f13,f14,f15,f16,f17,f18,f19,f20,f21,f22,f23,f24,f25,f26,f27,f28,f29,f30,f31,f32,f33⟩
      case s1x471 =>
        rintro L a v w hv hg hL hd hcl ⟨e11,e12,e13,e14,hb,f0,f1,f2,f3,f4,f5,f6,f7,f8,f9,f10,f11,f12,f13,f14,f15,f16,f17,f18,f19,f20,f21,f22,f23,f24,f25,f26,f27,f28,f29,f30,f31,f32,f33⟩ K hK;have g0:=f0 (hd 0 (by decide));refine step_do rfl ?_;clear hv;go_simp;exact hK.out _ _ ⟨e11,e12,e13,e14,hb,f0,fun _=>rfl,f2,f3,f4,f5,f6,f7,f8,f9,f10,f11,f12,f13,f14,f15,f16,f17,f18,f19,f20,f21,f22,f23,f24,f25,f26,f27,f28,f29,f30,f31,f32,f33⟩
      case s2x471 =>
        rintro L a v w hv hg hL hd hcl ⟨e11,e12,e13,e14,hb,f0,f1,f2,f3,f4,f5,f6,f7,f8,f9,f10,f11,f12,f13,f14,f15,f16,f17,f18,f19,f20,f21,f22,f23,f24,f25,f26,f27,f28,f29,f30,f31,f32,f33⟩ K hK;have g1:=f1 (hd 1 (by decide));refine step_do rfl ?_;clear hv;go_simp;exact hK.out _ _ ⟨e11,e12,e13,e14,hb,f0,f1,fun _=>rfl,f3,f4,f5,f6,f7,f8,f9,f10,f11,f12,f13,f14,f15,f16,f17,f18,f19,f20,f21,f22,f23,f24,f25,f26,f27,f28,f29,f30,f31,f32,f33⟩
      case s3x471 =>
        rintro L a v w hv hg hL hd hcl ⟨e11,e12,e13,e14,hb,f0,f1,f2,f3,f4,f5,f6,f7,f8,f9,f10,f11,f12,f13,f14,f15,f16,f17,f18,f19,f20,f21,f22,f23,f24,f25,f26,f27,f28,f29,f30,f31,f32,f33⟩ K hK;have g2:=f2 (hd 2 (by decide));refine step_want (j:=2) (s:=193) (b:=true) rfl rfl ((hv 193).trans (f2 (hd 2 (by decide)))) ?_;clear hv;go_simp;exact hK.out _ _ ⟨e11,e12,e13,e14,hb,f0,f1,f2,fun _=>rfl,f4,f5,f6,f7,f8,f9,f10,f11,f12,f13,f14,f15,f16,f17,f18,f19,f20,f21,f22,f23,f24,f25,f26,f27,f28,f29,f30,f31,f32,f33⟩
      case s4x471 =>
        rintro L a v w hv hg hL hd hcl ⟨e11,e12,e13,e14,hb,f0,f1,f2,f3,f4,f5,f6,f7,f8,f9,f10,f11,f12,f13,f14,f15,f16,f17,f18,f19,f20,f21,f22,f23,f24,f25,f26,f27,f28,f29,f30,f31,f32,f33⟩ K hK;have g2:=f2 (hd 2 (by decide));have g3:=f3 (hd 3 (by decide));refine step_want (j:=2) (s:=193) (b:=true) rfl rfl ((hv 193).trans (f2 (hd 2 (by decide)))) ?_;clear hv;go_simp;exact hK.out _ _ ⟨e11,e12,e13,e14,hb,f0,f1,f2,f3,fun _=>rfl,f5,f6,f7,f8,f9,f10,f11,f12,f13,f14,f15,f16,f17,f18,f19,f20,f21,f22,f23,f24,f25,f26,f27,f28,f29,f30,f31,f32,f33⟩
      case s5x471 =>
        rintro L a v w hv hg hL hd hcl ⟨e11,e12,e13,e14,hb,f0,f1,f2,f3,f4,f5,f6,f7,f8,f9,f10,f11,f12,f13,f14,f15,f16,f17,f18,f19,f20,f21,f22,f23,f24,f25,f26,f27,f28,f29,f30,f31,f32,f33⟩ K hK;have g2:=f2 (hd 2 (by decide));have g4:=f4 (hd 4 (by decide));refine step_do rfl ?_;clear hv;go_simp;exact hK.out _ _ ⟨e11,e12,e13,e14,hb,f0,f1,f2,f3,f4,fun _=>rfl,f6,f7,f8,f9,f10,f11,f12,f13,f14,f15,f16,f17,f18,f19,f20,f21,f22,f23,f24,f25,f26,f27,f28,f29,f30,f31,f32,f33⟩
      case s6x471 =>
        rintro L a v w hv hg hL hd hcl ⟨e11,e12,e13,e14,hb,f0,f1,f2,f3,f4,f5,f6,f7,f8,f9,f10,f11,f12,f13,f14,f15,f16,f17,f18,f19,f20,f21,f22,f23,f24,f25,f26,f27,f28,f29,f30,f31,f32,f33⟩ K hK;have g2:=f2 (hd 2 (by decide));have g5:=f5 (hd 5 (by decide));refine step_do rfl ?_;clear hv;go_simp;exact hK.out _ _ ⟨e11,e12,e13,e14,hb,f0,f1,f2,f3,f4,f5,fun _=>rfl,f7,f8,f9,f10,f11,f12,f13,f14,f15,f16,f17,f18,f19,f20,f21,f22,f23,f24,f25,f26,f27,f28,f29,f30,f31,f32,f33⟩
      case s7x471 =>
        rintro L a v w hv hg hL hd hcl ⟨e11,e12,e13,e14,hb,f0,f1,f2,f3,f4,f5,f6,f7,f8,f9,f10,f11,f12,f13,f14,f15,f16,f17,f18,f19,f20,f21,f22,f23,f24,f25,f26,f27,f28,f29,f30,f31,f32,f33⟩ K hK;have g6:=f6 (hd 6 (by decide));refine step_want (j:=6) (s:=197) (b:=true) rfl rfl ((hv 197).trans (f6 (hd 6 (by decide)))) ?_;clear hv;go_simp;exact hK.out _ _ ⟨e11,e12,e13,e14,hb,f0,f1,f2,f3,f4,f5,f6,fun _=>rfl,f8,f9,f10,f11,f12,f13,f14,f15,f16,f17,f18,f19,f20,f21,f22,f23,f24,f25,f26,f27,f28,f29,f30,f31,f32,f33⟩
      case s8x471 =>
        rintro L a v w hv hg hL hd hcl ⟨e11,e12,e13,e14,hb,f0,f1,f2,f3,f4,f5,f6,f7,f8,f9,f10,f11,f12,f13,f14,f15,f16,f17,f18,f19,f20,f21,f22,f23,f24,f25,f26,f27,f28,f29,f30,f31,f32,f33⟩ K hK;have g7:=f7 (hd 7 (by decide));have hh:=HEV.out w hb;refine step_want (j:=6) (s:=197) (b:=true) rfl rfl ((hv 197).trans (f6 (hd 6 (by decide)))) ?_;clear hv;go_simp;refine hh.mono ?_;rintro e wy ⟨A9,c9,ys,rfl,o9,oy,hye,bb⟩;exact hK.out _ _ ⟨e11,e12,e13,e14,(hb.trans (bb.mono hb.size)),f0,f1,f2,f3,f4,f5,f6,f7,fun _=>⟨A9,c9,ys,rfl,o9.mono hb.size,fun y hy=>⟨(oy y hy).1,(oy y hy).2.1.mono hb.size,(oy y hy).2.2⟩,hye⟩,f9,f10,f11,f12,f13,f14,f15,f16,f17,f18,f19,f20,f21,f22,f23,f24,f25,f26,f27,f28,f29,f30,f31,f32,f33⟩
      case s9x471 =>
        rintro L a v w hv hg hL hd hcl ⟨e11,e12,e13,e14,hb,f0,f1,f2,f3,f4,f5,f6,f7,f8,f9,f10,f11,f12,f13,f14,f15,f16,f17,f18,f19,f20,f21,f22,f23,f24,f25,f26,f27,f28,f29,f30,f31,f32,f33⟩ K hK;have g6:=f6 (hd 6 (by decide));refine step_want (j:=6) (s:=197) (b:=true) rfl rfl ((hv 197).trans (f6 (hd 6 (by decide)))) ?_;clear hv;go_simp;exact hK.out _ _ ⟨e11,e12,e13,e14,hb,f0,f1,f2,f3,f4,f5,f6,f7,f8,fun _=>rfl,f10,f11,f12,f13,f14,f15,f16,f17,f18,f19,f20,f21,f22,f23,f24,f25,f26,f27,f28,f29,f30,f31,f32,f33⟩
      case s10x471 =>
        rintro L a v w hv hg hL hd hcl ⟨e11,e12,e13,e14,hb,f0,f1,f2,f3,f4,f5,f6,f7,f8,f9,f10,f11,f12,f13,f14,f15,f16,f17,f18,f19,f20,f21,f22,f23,f24,f25,f26,f27,f28,f29,f30,f31,f32,f33⟩ K hK;have g6:=f6 (hd 6 (by decide));have g9:=f9 (hd 9 (by decide));have g9:=f9 (hd 9 (by decide));refine step_want (j:=6) (s:=197) (b:=true) rfl rfl ((hv 197).trans (f6 (hd 6 (by decide)))) ?_;clear hv;go_simp;exact hK.out _ _ ⟨e11,e12,e13,e14,hb,f0,f1,f2,f3,f4,f5,f6,f7,f8,f9,fun _=>rfl,f11,f12,f13,f14,f15,f16,f17,f18,f19,f20,f21,f22,f23,f24,f25,f26,f27,f28,f29,f30,f31,f32,f33⟩
      case s11x471 =>
        rintro L a v w hv hg hL hd hcl ⟨e11,e12,e13,e14,hb,f0,f1,f2,f3,f4,f5,f6,f7,f8,f9,f10,f11,f12,f13,f14,f15,f16,f17,f18,f19,f20,f21,f22,f23,f24,f25,f26,f27,f28,f29,f30,f31,f32,f33⟩ K hK;have g6:=f6 (hd 6 (by decide));have g10:=f10 (hd 10 (by decide));have g10:=f10 (hd 10 (by decide));refine step_want (j:=6) (s:=197) (b:=true) rfl rfl ((hv 197).trans (f6 (hd 6 (by decide)))) ?_;clear hv;go_simp;exact hK.out _ _ ⟨e11,e12,e13,e14,hb,f0,f1,f2,f3,f4,f5,f6,f7,f8,f9,f10,fun _=>rfl,f12,f13,f14,f15,f16,f17,f18,f19,f20,f21,f22,f23,f24,f25,f26,f27,f28,f29,f30,f31,f32,f33⟩
      case s12x471 =>
        rintro L a v w hv hg hL hd hcl ⟨e11,e12,e13,e14,hb,f0,f1,f2,f3,f4,f5,f6,f7,f8,f9,f10,f11,f12,f13,f14,f15,f16,f17,f18,f19,f20,f21,f22,f23,f24,f25,f26,f27,f28,f29,f30,f31,f32,f33⟩ K hK;have g6:=f6 (hd 6 (by decide));have g11:=f11 (hd 11 (by decide));have g11:=f11 (hd 11 (by decide));have cc : w.cell? ⟨t.b,4,none⟩ = some (.slice t.A t.n t.c):=(HQ.out w hb).q.at_.2.1.cell 4;refine step_want (j:=6) (s:=197) (b:=true) rfl rfl ((hv 197).trans (f6 (hd 6 (by decide)))) ?_;clear hv;go_simp;exact hK.out _ _ ⟨e11,e12,e13,e14,hb,f0,f1,f2,f3,f4,f5,f6,f7,f8,f9,f10,f11,fun _=>rfl,f13,f14,f15,f16,f17,f18,f19,f20,f21,f22,f23,f24,f25,f26,f27,f28,f29,f30,f31,f32,f33⟩
      case s13x471 =>
        rintro L a v w hv hg hL hd hcl ⟨e11,e12,e13,e14,hb,f0,f1,f2,f3,f4,f5,f6,f7,f8,f9,f10,f11,f12,f13,f14,f15,f16,f17,f18,f19,f20,f21,f22,f23,f24,f25,f26,f27,f28,f29,f30,f31,f32,f33⟩ K hK;obtain ⟨A9,c9,ys,g8,o9,oy,hye⟩:=f8 (hd 8 (by decide));have g12:=f12 (hd 12 (by decide));have hh:=HAL.out w hb A9 c9 ys o9 oy hye;refine step_want (j:=6) (s:=197) (b:=true) rfl rfl ((hv 197).trans (f6 (hd 6 (by decide)))) ?_;clear hv;go_simp;refine hh.mono ?_;rintro e wy ⟨rfl,bb⟩;exact hK.out _ _ ⟨e11,e12,e13,e14,(hb.trans (bb.mono hb.size)),f0,f1,f2,f3,f4,f5,f6,f7,(fun h=>(by obtain ⟨a1,a2,a3,a4,a5,a6,a7⟩:=f8 h;exact ⟨a1,a2,a3,a4,a5.below bb (Nat.le_refl _),fun y hy=>⟨(a6 y hy).1,(a6 y hy).2.1.below bb (Nat.le_refl _),(a6 y hy).2.2⟩,a7⟩)),f9,f10,f11,f12,fun _=>rfl,f14,f15,f16,f17,f18,f19,f20,f21,f22,f23,f24,f25,f26,f27,f28,f29,f30,f31,f32,f33⟩
      case s14x471 =>
        rintro L a v w hv hg hL hd hcl ⟨e11,e12,e13,e14,hb,f0,f1,f2,f3,f4,f5,f6,f7,f8,f9,f10,f11,f12,f13,f14,f15,f16,f17,f18,f19,f20,f21,f22,f23,f24,f25,f26,f27,f28,f29,f30,f31,f32,f33⟩ K hK;have g6:=f6 (hd 6 (by decide));refine step_want (j:=6) (s:=197) (b:=true) rfl rfl ((hv 197).trans (f6 (hd 6 (by decide)))) ?_;clear hv;go_simp;exact hK.out _ _ ⟨e11,e12,e13,e14,hb,f0,f1,f2,f3,f4,f5,f6,f7,f8,f9,f10,f11,f12,f13,fun _=>rfl,f15,f16,f17,f18,f19,f20,f21,f22,f23,f24,f25,f26,f27,f28,f29,f30,f31,f32,f33⟩
      case s15x471 =>
        rintro L a v w hv hg hL hd hcl ⟨e11,e12,e13,e14,hb,f0,f1,f2,f3,f4,f5,f6,f7,f8,f9,f10,f11,f12,f13,f14,f15,f16,f17,f18,f19,f20,f21,f22,f23,f24,f25,f26,f27,f28,f29,f30,f31,f32,f33⟩ K hK;have g6:=f6 (hd 6 (by decide));have g14:=f14 (hd 14 (by decide));refine step_want (j:=6) (s:=197) (b:=true) rfl rfl ((hv 197).trans (f6 (hd 6 (by decide)))) ?_;clear hv;go_simp;exact hK.out _ _ ⟨e11,e12,e13,e14,hb,f0,f1,f2,f3,f4,f5,f6,f7,f8,f9,f10,f11,f12,f13,f14,fun _=>rfl,f16,f17,f18,f19,f20,f21,f22,f23,f24,f25,f26,f27,f28,f29,f30,f31,f32,f33⟩
      case s16x471 =>
        rintro L a v w hv hg hL hd hcl ⟨e11,e12,e13,e14,hb,f0,f1,f2,f3,f4,f5,f6,f7,f8,f9,f10,f11,f12,f13,f14,f15,f16,f17,f18,f19,f20,f21,f22,f23,f24,f25,f26,f27,f28,f29,f30,f31,f32,f33⟩ K hK;have g15:=f15 (hd 15 (by decide));refine step_want (j:=15) (s:=206) (b:=false) rfl rfl ((hv 206).trans (f15 (hd 15 (by decide)))) ?_;clear hv;go_simp;exact hK.out _ _ ⟨e11,e12,e13,e14,hb,f0,f1,f2,f3,f4,f5,f6,f7,f8,f9,f10,f11,f12,f13,f14,f15,fun _=>rfl,f17,f18,f19,f20,f21,f22,f23,f24,f25,f26,f27,f28,f29,f30,f31,f32,f33⟩
      case s17x471 =>
        rintro L a v w hv hg hL hd hcl ⟨e11,e12,e13,e14,hb,f0,f1,f2,f3,f4,f5,f6,f7,f8,f9,f10,f11,f12,f13,f14,f15,f16,f17,f18,f19,f20,f21,f22,f23,f24,f25,f26,f27,f28,f29,f30,f31,f32,f33⟩ K hK;have g16:=f16 (hd 16 (by decide));have hh:=HIN.out w hb;refine step_want (j:=15) (s:=206) (b:=false) rfl rfl ((hv 206).trans (f15 (hd 15 (by decide)))) ?_;clear hv;go_simp;refine hh.mono ?_;rintro e wy ⟨rfl,rfl⟩;have bb:=Below.refl w.heap.size w;exact hK.out _ _ ⟨e11,e12,e13,e14,(hb.trans (bb.mono hb.size)),f0,f1,f2,f3,f4,f5,f6,f7,(fun h=>(by obtain ⟨a1,a2,a3,a4,a5,a6,a7⟩:=f8 h;exact ⟨a1,a2,a3,a4,a5.below bb (Nat.le_refl _),fun y hy=>⟨(a6 y hy).1,(a6 y hy).2.1.below bb (Nat.le_refl _),(a6 y hy).2.2⟩,a7⟩)),f9,f10,f11,f12,f13,f14,f15,f16,fun _=>rfl,f18,f19,f20,f21,f22,f23,f24,f25,f26,f27,f28,f29,f30,f31,f32,f33⟩
      case s18x471 =>
        rintro L a v w hv hg hL hd hcl ⟨e11,e12,e13,e14,hb,f0,f1,f2,f3,f4,f5,f6,f7,f8,f9,f10,f11,f12,f13,f14,f15,f16,f17,f18,f19,f20,f21,f22,f23,f24,f25,f26,f27,f28,f29,f30,f31,f32,f33⟩ K hK;have g15:=f15 (hd 15 (by decide));refine step_want (j:=15) (s:=206) (b:=false) rfl rfl ((hv 206).trans (f15 (hd 15 (by decide)))) ?_;clear hv;go_simp;exact hK.out _ _ ⟨e11,e12,e13,e14,hb,f0,f1,f2,f3,f4,f5,f6,f7,f8,f9,f10,f11,f12,f13,f14,f15,f16,f17,fun _=>rfl,f19,f20,f21,f22,f23,f24,f25,f26,f27,f28,f29,f30,f31,f32,f33⟩
      case s19x471 =>
        rintro L a v w hv hg hL hd hcl ⟨e11,e12,e13,e14,hb,f0,f1,f2,f3,f4,f5,f6,f7,f8,f9,f10,f11,f12,f13,f14,f15,f16,f17,f18,f19,f20,f21,f22,f23,f24,f25,f26,f27,f28,f29,f30,f31,f32,f33⟩ K hK;have g15:=f15 (hd 15 (by decide));have g18:=f18 (hd 18 (by decide));have g18:=f18 (hd 18 (by decide));refine step_want (j:=15) (s:=206) (b:=false) rfl rfl ((hv 206).trans (f15 (hd 15 (by decide)))) ?_;clear hv;go_simp;exact hK.out _ _ ⟨e11,e12,e13,e14,hb,f0,f1,f2,f3,f4,f5,f6,f7,f8,f9,f10,f11,f12,f13,f14,f15,f16,f17,f18,fun _=>rfl,f20,f21,f22,f23,f24,f25,f26,f27,f28,f29,f30,f31,f32,f33⟩
      case s20x471 =>
        rintro L a v w hv hg hL hd hcl ⟨e11,e12,e13,e14,hb,f0,f1,f2,f3,f4,f5,f6,f7,f8,f9,f10,f11,f12,f13,f14,f15,f16,f17,f18,f19,f20,f21,f22,f23,f24,f25,f26,f27,f28,f29,f30,f31,f32,f33⟩ K hK;have g15:=f15 (hd 15 (by decide));have g19:=f19 (hd 19 (by decide));have g19:=f19 (hd 19 (by decide));refine step_want (j:=15) (s:=206) (b:=false) rfl rfl ((hv 206).trans (f15 (hd 15 (by decide)))) ?_;clear hv;go_simp;exact hK.out _ _ ⟨e11,e12,e13,e14,hb,f0,f1,f2,f3,f4,f5,f6,f7,f8,f9,f10,f11,f12,f13,f14,f15,f16,f17,f18,f19,fun _=>rfl,f21,f22,f23,f24,f25,f26,f27,f28,f29,f30,f31,f32,f33⟩
      case s21x471 =>
        rintro L a v w hv hg hL hd hcl ⟨e11,e12,e13,e14,hb,f0,f1,f2,f3,f4,f5,f6,f7,f8,f9,f10,f11,f12,f13,f14,f15,f16,f17,f18,f19,f20,f21,f22,f23,f24,f25,f26,f27,f28,f29,f30,f31,f32,f33⟩ K hK;have g15:=f15 (hd 15 (by decide));have g20:=f20 (hd 20 (by decide));have g20:=f20 (hd 20 (by decide));have cc : w.cell? ⟨t.b,3,none⟩ = some (.int .i64 (S.inc : Nat)):=(HQ.out w hb).q.at_.2.1.cell 3;refine step_want (j:=15) (s:=206) (b:=false) rfl rfl ((hv 206).trans (f15 (hd 15 (by decide)))) ?_;clear hv;go_simp;exact hK.out _ _ ⟨e11,e12,e13,e14,hb,f0,f1,f2,f3,f4,f5,f6,f7,f8,f9,f10,f11,f12,f13,f14,f15,f16,f17,f18,f19,f20,fun _=>rfl,f22,f23,f24,f25,f26,f27,f28,f29,f30,f31,f32,f33⟩
      case s22x471 =>
        rintro L a v w hv hg hL hd hcl ⟨e11,e12,e13,e14,hb,f0,f1,f2,f3,f4,f5,f6,f7,f8,f9,f10,f11,f12,f13,f14,f15,f16,f17,f18,f19,f20,f21,f22,f23,f24,f25,f26,f27,f28,f29,f30,f31,f32,f33⟩ K hK;have g15:=f15 (hd 15 (by decide));have g21:=f21 (hd 21 (by decide));refine step_want (j:=15) (s:=206) (b:=false) rfl rfl ((hv 206).trans (f15 (hd 15 (by decide)))) ?_;clear hv;go_simp;exact hK.out _ _ ⟨e11,e12,e13,e14,hb,f0,f1,f2,f3,f4,f5,f6,f7,f8,f9,f10,f11,f12,f13,f14,f15,f16,f17,f18,f19,f20,f21,fun _=>rfl,f23,f24,f25,f26,f27,f28,f29,f30,f31,f32,f33⟩
      case s23x471 =>
        rintro L a v w hv hg hL hd hcl ⟨e11,e12,e13,e14,hb,f0,f1,f2,f3,f4,f5,f6,f7,f8,f9,f10,f11,f12,f13,f14,f15,f16,f17,f18,f19,f20,f21,f22,f23,f24,f25,f26,f27,f28,f29,f30,f31,f32,f33⟩ K hK;have g6:=f6 (hd 6 (by decide));have g15:=f15 (hd 15 (by decide));have g22:=f22 (hd 22 (by decide));refine step_want (j:=6) (s:=197) (b:=true) rfl rfl ((hv 197).trans (f6 (hd 6 (by decide)))) ?_;clear hv;go_simp;exact hK.out _ _ ⟨e11,e12,e13,e14,hb,f0,f1,f2,f3,f4,f5,f6,f7,f8,f9,f10,f11,f12,f13,f14,f15,f16,f17,f18,f19,f20,f21,f22,fun _=>rfl,f24,f25,f26,f27,f28,f29,f30,f31,f32,f33⟩
      case s24x471 =>
        rintro L a v w hv hg hL hd hcl ⟨e11,e12,e13,e14,hb,f0,f1,f2,f3,f4,f5,f6,f7,f8,f9,f10,f11,f12,f13,f14,f15,f16,f17,f18,f19,f20,f21,f22,f23,f24,f25,f26,f27,f28,f29,f30,f31,f32,f33⟩ K hK;have g6:=f6 (hd 6 (by decide));have g23:=f23 (hd 23 (by decide));refine step_want (j:=6) (s:=197) (b:=true) rfl rfl ((hv 197).trans (f6 (hd 6 (by decide)))) ?_;clear hv;go_simp;exact hK.out _ _ ⟨e11,e12,e13,e14,hb,f0,f1,f2,f3,f4,f5,f6,f7,f8,f9,f10,f11,f12,f13,f14,f15,f16,f17,f18,f19,f20,f21,f22,f23,fun _=>rfl,f25,f26,f27,f28,f29,f30,f31,f32,f33⟩
      case s25x471 =>
        rintro L a v w hv hg hL hd hcl ⟨e11,e12,e13,e14,hb,f0,f1,f2,f3,f4,f5,f6,f7,f8,f9,f10,f11,f12,f13,f14,f15,f16,f17,f18,f19,f20,f21,f22,f23,f24,f25,f26,f27,f28,f29,f30,f31,f32,f33⟩ K hK;have g24:=f24 (hd 24 (by decide));refine step_want (j:=24) (s:=215) (b:=false) rfl rfl ((hv 215).trans (f24 (hd 24 (by decide)))) ?_;clear hv;go_simp;exact hK.out _ _ ⟨e11,e12,e13,e14,hb,f0,f1,f2,f3,f4,f5,f6,f7,f8,f9,f10,f11,f12,f13,f14,f15,f16,f17,f18,f19,f20,f21,f22,f23,f24,fun _=>rfl,f26,f27,f28,f29,f30,f31,f32,f33⟩
      case s26x471 =>
        rintro L a v w hv hg hL hd hcl ⟨e11,e12,e13,e14,hb,f0,f1,f2,f3,f4,f5,f6,f7,f8,f9,f10,f11,f12,f13,f14,f15,f16,f17,f18,f19,f20,f21,f22,f23,f24,f25,f26,f27,f28,f29,f30,f31,f32,f33⟩ K hK;have g25:=f25 (hd 25 (by decide));have hh:=HUP.out w hb;refine step_want (j:=24) (s:=215) (b:=false) rfl rfl ((hv 215).trans (f24 (hd 24 (by decide)))) ?_;clear hv;go_simp;refine hh.mono ?_;rintro e wy ⟨rfl,rfl⟩;have bb:=Below.refl w.heap.size w;exact hK.out _ _ ⟨e11,e12,e13,e14,(hb.trans (bb.mono hb.size)),f0,f1,f2,f3,f4,f5,f6,f7,(fun h=>(by obtain ⟨a1,a2,a3,a4,a5,a6,a7⟩:=f8 h;exact ⟨a1,a2,a3,a4,a5.below bb (Nat.le_refl _),fun y hy=>⟨(a6 y hy).1,(a6 y hy).2.1.below bb (Nat.le_refl _),(a6 y hy).2.2⟩,a7⟩)),f9,f10,f11,f12,f13,f14,f15,f16,f17,f18,f19,f20,f21,f22,f23,f24,f25,fun _=>rfl,f27,f28,f29,f30,f31,f32,f33⟩
      case s27x471 =>
        rintro L a v w hv hg hL hd hcl ⟨e11,e12,e13,e14,hb,f0,f1,f2,f3,f4,f5,f6,f7,f8,f9,f10,f11,f12,f13,f14,f15,f16,f17,f18,f19,f20,f21,f22,f23,f24,f25,f26,f27,f28,f29,f30,f31,f32,f33⟩ K hK;have g24:=f24 (hd 24 (by decide));refine step_want (j:=24) (s:=215) (b:=false) rfl rfl ((hv 215).trans (f24 (hd 24 (by decide)))) ?_;clear hv;go_simp;exact hK.out _ _ ⟨e11,e12,e13,e14,hb,f0,f1,f2,f3,f4,f5,f6,f7,f8,f9,f10,f11,f12,f13,f14,f15,f16,f17,f18,f19,f20,f21,f22,f23,f24,f25,f26,fun _=>rfl,f28,f29,f30,f31,f32,f33⟩
      case s28x471 =>
        rintro L a v w hv hg hL hd hcl ⟨e11,e12,e13,e14,hb,f0,f1,f2,f3,f4,f5,f6,f7,f8,f9,f10,f11,f12,f13,f14,f15,f16,f17,f18,f19,f20,f21,f22,f23,f24,f25,f26,f27,f28,f29,f30,f31,f32,f33⟩ K hK;have g24:=f24 (hd 24 (by decide));have g27:=f27 (hd 27 (by decide));have g27:=f27 (hd 27 (by decide));refine step_want (j:=24) (s:=215) (b:=false) rfl rfl ((hv 215).trans (f24 (hd 24 (by decide)))) ?_;clear hv;go_simp;exact hK.out _ _ ⟨e11,e12,e13,e14,hb,f0,f1,f2,f3,f4,f5,f6,f7,f8,f9,f10,f11,f12,f13,f14,f15,f16,f17,f18,f19,f20,f21,f22,f23,f24,f25,f26,f27,fun _=>rfl,f29,f30,f31,f32,f33⟩
      case s29x471 =>
        rintro L a v w hv hg hL hd hcl ⟨e11,e12,e13,e14,hb,f0,f1,f2,f3,f4,f5,f6,f7,f8,f9,f10,f11,f12,f13,f14,f15,f16,f17,f18,f19,f20,f21,f22,f23,f24,f25,f26,f27,f28,f29,f30,f31,f32,f33⟩ K hK;have g24:=f24 (hd 24 (by decide));have g28:=f28 (hd 28 (by decide));have g28:=f28 (hd 28 (by decide));refine step_want (j:=24) (s:=215) (b:=false) rfl rfl ((hv 215).trans (f24 (hd 24 (by decide)))) ?_;clear hv;go_simp;exact hK.out _ _ ⟨e11,e12,e13,e14,hb,f0,f1,f2,f3,f4,f5,f6,f7,f8,f9,f10,f11,f12,f13,f14,f15,f16,f17,f18,f19,f20,f21,f22,f23,f24,f25,f26,f27,f28,fun _=>rfl,f30,f31,f32,f33⟩
      case s30x471 =>
        rintro L a v w hv hg hL hd hcl ⟨e11,e12,e13,e14,hb,f0,f1,f2,f3,f4,f5,f6,f7,f8,f9,f10,f11,f12,f13,f14,f15,f16,f17,f18,f19,f20,f21,f22,f23,f24,f25,f26,f27,f28,f29,f30,f31,f32,f33⟩ K hK;have g24:=f24 (hd 24 (by decide));have g29:=f29 (hd 29 (by decide));have g29:=f29 (hd 29 (by decide));have cc : w.cell? ⟨t.b,2,none⟩ = some (.int .i64 (S.upto : Nat)):=(HQ.out w hb).q.at_.2.1.cell 2;refine step_want (j:=24) (s:=215) (b:=false) rfl rfl ((hv 215).trans (f24 (hd 24 (by decide)))) ?_;clear hv;go_simp;exact hK.out _ _ ⟨e11,e12,e13,e14,hb,f0,f1,f2,f3,f4,f5,f6,f7,f8,f9,f10,f11,f12,f13,f14,f15,f16,f17,f18,f19,f20,f21,f22,f23,f24,f25,f26,f27,f28,f29,fun _=>rfl,f31,f32,f33⟩
      case s31x471 =>
        rintro L a v w hv hg hL hd hcl ⟨e11,e12,e13,e14,hb,f0,f1,f2,f3,f4,f5,f6,f7,f8,f9,f10,f11,f12,f13,f14,f15,f16,f17,f18,f19,f20,f21,f22,f23,f24,f25,f26,f27,f28,f29,f30,f31,f32,f33⟩ K hK;have g24:=f24 (hd 24 (by decide));have g30:=f30 (hd 30 (by decide));refine step_want (j:=24) (s:=215) (b:=false) rfl rfl ((hv 215).trans (f24 (hd 24 (by decide)))) ?_;clear hv;go_simp;exact hK.out _ _ ⟨e11,e12,e13,e14,hb,f0,f1,f2,f3,f4,f5,f6,f7,f8,f9,f10,f11,f12,f13,f14,f15,f16,f17,f18,f19,f20,f21,f22,f23,f24,f25,f26,f27,f28,f29,f30,fun _=>rfl,f32,f33⟩
      case s32x471 =>
        rintro L a v w hv hg hL hd hcl ⟨e11,e12,e13,e14,hb,f0,f1,f2,f3,f4,f5,f6,f7,f8,f9,f10,f11,f12,f13,f14,f15,f16,f17,f18,f19,f20,f21,f22,f23,f24,f25,f26,f27,f28,f29,f30,f31,f32,f33⟩ K hK;have g6:=f6 (hd 6 (by decide));have g24:=f24 (hd 24 (by decide));have g31:=f31 (hd 31 (by decide));refine step_want (j:=6) (s:=197) (b:=true) rfl rfl ((hv 197).trans (f6 (hd 6 (by decide)))) ?_;clear hv;go_simp;exact hK.out _ _ ⟨e11,e12,e13,e14,hb,f0,f1,f2,f3,f4,f5,f6,f7,f8,f9,f10,f11,f12,f13,f14,f15,f16,f17,f18,f19,f20,f21,f22,f23,f24,f25,f26,f27,f28,f29,f30,f31,fun _=>rfl,f33⟩
      case s33x471 =>
        rintro L a v w hv hg hL hd hcl ⟨e11,e12,e13,e14,hb,f0,f1,f2,f3,f4,f5,f6,f7,f8,f9,f10,f11,f12,f13,f14,f15,f16,f17,f18,f19,f20,f21,f22,f23,f24,f25,f26,f27,f28,f29,f30,f31,f32,f33⟩ K hK;have g6:=f6 (hd 6 (by decide));have g32:=f32 (hd 32 (by decide));refine step_do rfl ?_;clear hv;go_simp;exact hK.out _ _ ⟨e11,e12,e13,e14,hb,f0,f1,f2,f3,f4,f5,f6,f7,f8,f9,f10,f11,f12,f13,f14,f15,f16,f17,f18,f19,f20,f21,f22,f23,f24,f25,f26,f27,f28,f29,f30,f31,f32,fun _=>rfl⟩
    case hendx471 =>
    rintro L v wg hall ⟨e11,e12,e13,e14,hb,f0,f1,f2,f3,f4,f5,f6,f7,f8,f9,f10,f11,f12,f13,f14,f15,f16,f17,f18,f19,f20,f21,f22,f23,f24,f25,f26,f27,f28,f29,f30,f31,f32,f33⟩;have hL : ∀ i,i < 34→L i = true:=hall;have f0:=f0 (hL 0 (by decide));have f1:=f1 (hL 1 (by decide));have f2:=f2 (hL 2 (by decide));have f3:=f3 (hL 3 (by decide));have f4:=f4 (hL 4 (by decide));have f5:=f5 (hL 5 (by decide));have f6:=f6 (hL 6 (by decide));have f7:=f7 (hL 7 (by decide));have f8:=f8 (hL 8 (by decide));have f9:=f9 (hL 9 (by decide));have f10:=f10 (hL 10 (by decide));have f11:=f11 (hL 11 (by decide));have f12:=f12 (hL 12 (by decide));have f13:=f13 (hL 13 (by decide));have f14:=f14 (hL 14 (by decide));have f15:=f15 (hL 15 (by decide));have f16:=f16 (hL 16 (by decide));have f17:=f17 (hL 17 (by decide));have f18:=f18 (hL 18 (by decide));have f19:=f19 (hL 19 (by decide));have f20:=f20 (hL 20 (by decide));have f21:=f21 (hL 21 (by decide));have f22:=f22 (hL 22 (by decide));have f23:=f23 (hL 23 (by decide));have f24:=f24 (hL 24 (by decide));have f25:=f25 (hL 25 (by decide));have f26:=f26 (hL 26 (by decide));have f27:=f27 (hL 27 (by decide));have f28:=f28 (hL 28 (by decide));have f29:=f29 (hL 29 (by decide));have f30:=f30 (hL 30 (by decide));have f31:=f31 (hL 31 (by decide));have f32:=f32 (hL 32 (by decide));have f33:=f33 (hL 33 (by decide));have HNW:=Lib.hid (HNW.out.below hb)
    simp only [finA,List.foldl_cons,List.foldl_nil,Act.put,List.setIfInBounds_toArray,List.set_cons_succ,List.set_cons_zero,f0,f1,f2,f3,f4,f5,f6,f7,f9,f10,f11,f12,f14,f15,f16,f18,f19,f20,f21,f22,f23,f24,f25,f27,f28,f29,f30,f31,f32,f33,f13,f17,f26]
    clear e11 e12 e13 e14 f0 f1 f2 f3 f4 f5 f6 f7 f8 f9 f10 f11 f12 f13 f14 f15 f16 f17 f18 f19 f20 f21 f22 f23 f24 f25 f26 f27 f28 f29 f30 f31 f32 f33 hL hall hb;go_wp2_with fail
    go_roundw
    case rel=>exact ⟨k + 1,0,by omega,by go_num,rfl,rfl,HNW.out⟩
    case measure=>simp [intOf];omega
set_option maxRecDepth 100000 in
theorem lifted (os : Os) (started : os.Started) (H : Type) (enc : TypeId × Value→H) :
    ReturnsInHanded {} Tryz.checked os 3 .any (Rows.storePlaysSpec.pre6 enc Tryz.prog Tryz.f3 Rows.storePlaysRow.domain false) (Rows.storePlaysSpec.post enc Tryz.prog Tryz.f3 false true false false):=by
  refine returnsInHanded_of_change_sized (C:=Tryz.checked) own started (by kernel_rfl) Tryz.func3
    (ChangeSpec.witness6 (enc:=enc) (C:=Tryz.checked) false ⟨#[],#[.int .i64 0,.slice none 0 0,.slice none 0 0],[]⟩ 8 (by kernel_rfl) (by kernel_rfl) (by kernel_rfl) (by kernel_rfl)) ?_
  intro W base args ds gs before hval0 hW hcnd hsz0 _;have hsz : (DataW.weightsEach Tryz.prog (Tryz.f3.params.toList ++ []) (ds ++ gs)).all (·≤reachBytes) = true:=hsz0;have hval : ∀ (j : Nat) t v,Tryz.f3.params[j]? = some t→args[j]? = some v→Value.okWide Tryz.prog W .any base t v:=hval0;have hW':=hW;obtain ⟨p,q,hA0,hV,rfl,hfz,hnd⟩:=hW;have hA : DataW.TrodAll enc Tryz.prog W 0 (fun _=>true) true Tryz.f3.params.toList args.toList ds p:=hA0;rw [Tryz.params3] at hA hval hsz;obtain ⟨v0,vs0,d0,ds0,p0,q0,hargs,rfl,rfl,h0,r0⟩:=trodAll_cons hA;obtain ⟨v1,vs1,d1,ds1,p1,q1,rfl,rfl,rfl,h1,r1⟩:=trodAll_cons r0;obtain ⟨v2,vs2,d2,ds2,p2,q2,rfl,rfl,rfl,h2,r2⟩:=trodAll_cons r1;obtain ⟨rfl,rfl,rfl⟩:=trodAll_nil r2
  obtain rfl : args = #[v0,v1,v2]:=by cases args;simp_all
  obtain ⟨rfl,rfl⟩:=trodVars_none hV
  have lt0 : ∀ x ∈ p0,x.block < W.heap.size:=by obtain ⟨m,hm⟩:=h0;exact DataW.trod_lt m _ _ _ hm
  have k0:=h0
  have lt1 : ∀ x ∈ p1,x.block < W.heap.size:=by obtain ⟨m,hm⟩:=h1;exact DataW.trod_lt m _ _ _ hm
  have k1:=h1
  have lt2 : ∀ x ∈ p2,x.block < W.heap.size:=by obtain ⟨m,hm⟩:=h2;exact DataW.trod_lt m _ _ _ hm
  have k2:=h2;obtain ⟨x0,rfl,rfl,rfl,wf0⟩:=open_int Tryz.underlying3 (hval 0 3 v0 rfl rfl) h0
  have hb0 : -9223372036854775808≤x0∧x0≤9223372036854775807:=by
    have hmin : IntKind.i64.min = -9223372036854775808:=rfl;have hmax : IntKind.i64.max = 9223372036854775807:=rfl
    simp only [Lit.wf,Bool.and_eq_true,decide_eq_true_eq] at wf0
    omega
  obtain ⟨a1,n1,c1,b1,rfl,w1,l1⟩:=open_bytes (hval 1 22 v1 rfl rfl) h1;have sz2 : Sz 23 d2:=sz_arg (j:=2) hsz rfl rfl;obtain ⟨A2,n2,c2,l2,rfl,hk2,p12⟩:=open_ops15 (hval 2 23 v2 rfl rfl) h2 sz2;clear hA0 hval0
  refine (walk x0 a1 n1 c1 b1 A2 n2 c2 l2 W hb0.1 hb0.2 w1 l1 hk2 p12).mono fun e W' ⟨he,bel⟩=>?_
  subst he;exact ⟨_,rfl,_,_,_,[],_,[],hW',trodAll_mk1 (shut_bool Tryz.underlying4 _),(trodAll_cons_mk (Below.trod laidOut (by kernel_rfl) (of_decide_eq_true (by kernel_rfl)) k0 bel lt0) (trodAll_cons_mk (Below.trod laidOut (by kernel_rfl) (of_decide_eq_true (by kernel_rfl)) k1 bel lt1) (trodAll_cons_mk (Below.trod laidOut (by kernel_rfl) (of_decide_eq_true (by kernel_rfl)) k2 bel lt2) trodAll_mk0))),rfl,bel.frame _,fun h=>by cases h⟩
theorem proved : Rows.StorePlaysSaid :=
  OpenClaim.holds_of_wide 3 Tryz.f3 rfl rfl rfl rfl rfl rfl rfl ⟨rfl,rfl,rfl,rfl,rfl⟩ rfl rfl rfl rfl rfl (by kernel_rfl) Tryz.func3 (by kernel_rfl)
    (of_decide_eq_true (by kernel_rfl)) (by unfold Func.isWrapper;first | (rw [if_pos (by decide +kernel)];kernel_rfl) | (rw [if_neg (by decide +kernel)];exact ⟨rfl,rfl⟩))
    (fun os started H enc _=>lifted os started H enc)
#print axioms proved
end Go.Proofs.YtfpenfgmpbdakaaGreat.StorePlays

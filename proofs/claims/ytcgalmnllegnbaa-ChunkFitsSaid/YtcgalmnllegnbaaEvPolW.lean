import Derived.Test.YtcgalmnllegnbaaEvNum
import Derived.LoopN
namespace Go.Proofs.Ytcgalmnllegnbaa
set_option linter.unusedVariables false
set_option linter.unusedSimpArgs false
set_option maxRecDepth 100000
open Go.RowKit
open Dot Evt
abbrev wnumV (g : Nat) : Value:=.func (.method "murmur/event.number") #[.iface 121 (.pointer (some ⟨g,0,none⟩))] #[]
def encN (l : List Nat) : List UInt8:=l.flatMap Vint.enc
theorem encN_cons (x : Nat) (l : List Nat) : encN (x :: l) = Vint.enc x ++ encN l:=by simp [encN]
theorem encN_app (k l : List Nat) : encN (k ++ l) = encN k ++ encN l:=by simp [encN]
theorem encF_len (f : Nat) : ∀ x,(Vint.encF f x).length≤f + 1:=by
  induction f with
  | zero=>intro x;simp [Vint.encF]
  | succ f ih =>
    intro x
    unfold Vint.encF
    split
    · simp
    · simp only [List.length_cons]
      have:=ih (x / 128)
      omega
theorem enc_len6 (x : Nat) : (Vint.enc x).length≤6:=encF_len 5 x
set_option maxRecDepth 100000 in
set_option maxHeartbeats 1000000 in
theorem polw_any (b g : Nat) (bs : List UInt8) (v0 v1 v2 v3 v4 v5 v13 : Value) (x0 x1 x2 x3 x4 x5 x6 : Nat) (w : World) (h : WrS w g bs) (hb : Blk w b 50 #[v0,v1,v2,v3,v4,v5,.int .i64 x0,.int .i64 x1,.int .i64 x2,.int .i64 x3,.int .i64 x4,.int .i64 x5,.int .i64 x6,v13]) (hne : b ≠ g)
    (h0 : x0≤1099511627776) (h1 : x1≤1099511627776) (h2 : x2≤1099511627776) (h3 : x3≤1099511627776) (h4 : x4≤1099511627776) (h5 : x5≤1099511627776) (h6 : x6≤1099511627776) (hl : bs.length≤140737488354000) :
    Calls Try.prog 117 #[.pointer (some ⟨b,6,none⟩),wnumV g] w fun e w'=>e = .returned (.tuple #[])∧WrS w' g (bs ++ encN [x0,x1,x2,x3,x4,x5,x6])∧w.grownBy w' (some g):=by
  have H0:=Lib.hid h0;have H1:=Lib.hid h1;have H2:=Lib.hid h2;have H3:=Lib.hid h3;have H4:=Lib.hid h4;have H5:=Lib.hid h5;have H6:=Lib.hid h6;have HL:=Lib.hid hl;have HNE:=Lib.hid (show (some g : Option Nat) ≠ some b by simp;omega);have hbl:=hb.lt
  have hm : ∀ w,(method 246 121 (.pointer (some ⟨g,0,none⟩)) "murmur/event.number").run Try.prog w = .ok (76,.pointer (some ⟨g,0,none⟩)) w:=fun w=>by kernel_rfl
  clear h0 h1 h2 h3 h4 h5 h6 hl hne
  have hix0 : ∀ w,(Instr.index 169 (.agg #[.pointer (some ⟨b,6,none⟩),.pointer (some ⟨b,7,none⟩),.pointer (some ⟨b,8,none⟩),.pointer (some ⟨b,9,none⟩),.pointer (some ⟨b,10,none⟩),.pointer (some ⟨b,11,none⟩),.pointer (some ⟨b,12,none⟩)]) (.int .i64 0)).run Try.prog w = .ok (.pointer (some ⟨b,6,none⟩)) w:=fun w=>by kernel_rfl
  have hix1 : ∀ w,(Instr.index 169 (.agg #[.pointer (some ⟨b,6,none⟩),.pointer (some ⟨b,7,none⟩),.pointer (some ⟨b,8,none⟩),.pointer (some ⟨b,9,none⟩),.pointer (some ⟨b,10,none⟩),.pointer (some ⟨b,11,none⟩),.pointer (some ⟨b,12,none⟩)]) (.int .i64 1)).run Try.prog w = .ok (.pointer (some ⟨b,7,none⟩)) w:=fun w=>by kernel_rfl
  have hix2 : ∀ w,(Instr.index 169 (.agg #[.pointer (some ⟨b,6,none⟩),.pointer (some ⟨b,7,none⟩),.pointer (some ⟨b,8,none⟩),.pointer (some ⟨b,9,none⟩),.pointer (some ⟨b,10,none⟩),.pointer (some ⟨b,11,none⟩),.pointer (some ⟨b,12,none⟩)]) (.int .i64 2)).run Try.prog w = .ok (.pointer (some ⟨b,8,none⟩)) w:=fun w=>by kernel_rfl
  have hix3 : ∀ w,(Instr.index 169 (.agg #[.pointer (some ⟨b,6,none⟩),.pointer (some ⟨b,7,none⟩),.pointer (some ⟨b,8,none⟩),.pointer (some ⟨b,9,none⟩),.pointer (some ⟨b,10,none⟩),.pointer (some ⟨b,11,none⟩),.pointer (some ⟨b,12,none⟩)]) (.int .i64 3)).run Try.prog w = .ok (.pointer (some ⟨b,9,none⟩)) w:=fun w=>by kernel_rfl
  have hix4 : ∀ w,(Instr.index 169 (.agg #[.pointer (some ⟨b,6,none⟩),.pointer (some ⟨b,7,none⟩),.pointer (some ⟨b,8,none⟩),.pointer (some ⟨b,9,none⟩),.pointer (some ⟨b,10,none⟩),.pointer (some ⟨b,11,none⟩),.pointer (some ⟨b,12,none⟩)]) (.int .i64 4)).run Try.prog w = .ok (.pointer (some ⟨b,10,none⟩)) w:=fun w=>by kernel_rfl
  have hix5 : ∀ w,(Instr.index 169 (.agg #[.pointer (some ⟨b,6,none⟩),.pointer (some ⟨b,7,none⟩),.pointer (some ⟨b,8,none⟩),.pointer (some ⟨b,9,none⟩),.pointer (some ⟨b,10,none⟩),.pointer (some ⟨b,11,none⟩),.pointer (some ⟨b,12,none⟩)]) (.int .i64 5)).run Try.prog w = .ok (.pointer (some ⟨b,11,none⟩)) w:=fun w=>by kernel_rfl
  have hix6 : ∀ w,(Instr.index 169 (.agg #[.pointer (some ⟨b,6,none⟩),.pointer (some ⟨b,7,none⟩),.pointer (some ⟨b,8,none⟩),.pointer (some ⟨b,9,none⟩),.pointer (some ⟨b,10,none⟩),.pointer (some ⟨b,11,none⟩),.pointer (some ⟨b,12,none⟩)]) (.int .i64 6)).run Try.prog w = .ok (.pointer (some ⟨b,12,none⟩)) w:=fun w=>by kernel_rfl
  go_enter Try.func117,Try.ntmps117
  go_wp2_with fail
  go_region
  go_wp2_with fail;have hw0 : WrS w.drew g bs:=h;have hb0 : Blk w.drew b 50 #[v0,v1,v2,v3,v4,v5,.int .i64 x0,.int .i64 x1,.int .i64 x2,.int .i64 x3,.int .i64 x4,.int .i64 x5,.int .i64 x6,v13]:=hb;have g0 : w.grownBy w.drew (some g):=⟨rfl,rfl,rfl,Nat.le_refl _,fun _ _ _=>rfl⟩;clear h hb;refine wp_loop_rounds 8 ?_;rw [rounds_succ];go_wp2_with fail;refine (wnum_any g ⟨b,6,none⟩ (bs) x0 _ hw0 (hb0.cell 6) H0.out ?_).mono ?_
  · have:=HL.out
    (try simp only [List.length_append]);omega
  rintro e w1 ⟨rfl,hw1,gg⟩;have hb1:=hb0.grown gg HNE.out;have g1:=g0.trans gg;clear hw0 hb0 g0 gg;go_wp2_with fail;rw [rounds_succ];go_wp2_with fail;refine (wnum_any g ⟨b,7,none⟩ (bs ++ Vint.enc x0) x1 _ hw1 (hb1.cell 7) H1.out ?_).mono ?_
  · have:=HL.out
    have:=enc_len6 x0;(try simp only [List.length_append]);omega
  rintro e w2 ⟨rfl,hw2,gg⟩;have hb2:=hb1.grown gg HNE.out;have g2:=g1.trans gg;clear hw1 hb1 g1 gg;go_wp2_with fail;rw [rounds_succ];go_wp2_with fail;refine (wnum_any g ⟨b,8,none⟩ (bs ++ Vint.enc x0 ++ Vint.enc x1) x2 _ hw2 (hb2.cell 8) H2.out ?_).mono ?_
  · have:=HL.out
    have:=enc_len6 x0;have:=enc_len6 x1;(try simp only [List.length_append]);omega
  rintro e w3 ⟨rfl,hw3,gg⟩;have hb3:=hb2.grown gg HNE.out;have g3:=g2.trans gg;clear hw2 hb2 g2 gg;go_wp2_with fail;rw [rounds_succ];go_wp2_with fail;refine (wnum_any g ⟨b,9,none⟩ (bs ++ Vint.enc x0 ++ Vint.enc x1 ++ Vint.enc x2) x3 _ hw3 (hb3.cell 9) H3.out ?_).mono ?_
  · have:=HL.out
    have:=enc_len6 x0;have:=enc_len6 x1;have:=enc_len6 x2;(try simp only [List.length_append]);omega
  rintro e w4 ⟨rfl,hw4,gg⟩;have hb4:=hb3.grown gg HNE.out;have g4:=g3.trans gg;clear hw3 hb3 g3 gg;go_wp2_with fail;rw [rounds_succ];go_wp2_with fail;refine (wnum_any g ⟨b,10,none⟩ (bs ++ Vint.enc x0 ++ Vint.enc x1 ++ Vint.enc x2 ++ Vint.enc x3) x4 _ hw4 (hb4.cell 10) H4.out ?_).mono ?_
  · have:=HL.out
    have:=enc_len6 x0;have:=enc_len6 x1;have:=enc_len6 x2;have:=enc_len6 x3;(try simp only [List.length_append]);omega
  rintro e w5 ⟨rfl,hw5,gg⟩;have hb5:=hb4.grown gg HNE.out;have g5:=g4.trans gg;clear hw4 hb4 g4 gg;go_wp2_with fail;rw [rounds_succ];go_wp2_with fail;refine (wnum_any g ⟨b,11,none⟩ (bs ++ Vint.enc x0 ++ Vint.enc x1 ++ Vint.enc x2 ++ Vint.enc x3 ++ Vint.enc x4) x5 _ hw5 (hb5.cell 11) H5.out ?_).mono ?_
  · have:=HL.out
    have:=enc_len6 x0;have:=enc_len6 x1;have:=enc_len6 x2;have:=enc_len6 x3;have:=enc_len6 x4;(try simp only [List.length_append]);omega
  rintro e w6 ⟨rfl,hw6,gg⟩;have hb6:=hb5.grown gg HNE.out;have g6:=g5.trans gg;clear hw5 hb5 g5 gg;go_wp2_with fail;rw [rounds_succ];go_wp2_with fail;refine (wnum_any g ⟨b,12,none⟩ (bs ++ Vint.enc x0 ++ Vint.enc x1 ++ Vint.enc x2 ++ Vint.enc x3 ++ Vint.enc x4 ++ Vint.enc x5) x6 _ hw6 (hb6.cell 12) H6.out ?_).mono ?_
  · have:=HL.out
    have:=enc_len6 x0;have:=enc_len6 x1;have:=enc_len6 x2;have:=enc_len6 x3;have:=enc_len6 x4;have:=enc_len6 x5;(try simp only [List.length_append]);omega
  rintro e w7 ⟨rfl,hw7,gg⟩;have hb7:=hb6.grown gg HNE.out;have g7:=g6.trans gg;clear hw6 hb6 g6 gg;go_wp2_with fail;rw [rounds_succ];go_wp2_with fail
  go_end0
  refine ⟨rfl,?_,g7⟩
  have e : bs ++ encN [x0,x1,x2,x3,x4,x5,x6] = bs ++ Vint.enc x0 ++ Vint.enc x1 ++ Vint.enc x2 ++ Vint.enc x3 ++ Vint.enc x4 ++ Vint.enc x5 ++ Vint.enc x6:=by simp [encN]
  rw [e];exact hw7
end Go.Proofs.Ytcgalmnllegnbaa

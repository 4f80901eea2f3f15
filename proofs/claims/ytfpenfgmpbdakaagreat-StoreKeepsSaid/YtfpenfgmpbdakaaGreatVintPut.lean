import Derived.Test.YtfpenfgmpbdakaaGreatVintMath
import Derived.Test.YtfpenfgmpbdakaaGreatClone
import Derived.Recover
import Derived.WalkLawsBesides
namespace Go.Proofs.YtfpenfgmpbdakaaGreat
set_option linter.unusedVariables false
set_option linter.unusedSimpArgs false
set_option maxRecDepth 100000
open Go.RowKit
def GiveBE (w : World) (bs : List UInt8) (x : Nat) (e : Ending) (w' : World) : Prop :=
  ∃ A n c,e = .returned (.tuple #[.slice A n c,.int .i64 (x : Nat)])∧OwnB w' w.heap.size A n c bs∧Below w.heap.size w w'
theorem u8_byte (m : Nat) : IntKind.u8.wrap (m : Int) = ((UInt8.ofNat m).toNat : Int):=by rw [IntKind.wrap_u8',Vint.toNat_ofNat];rfl
theorem u8_more (m : Nat) : bits .or .u8 ((m : Int) % 256) 128 = ((UInt8.ofNat (m % 128 + 128)).toNat : Int):=by
  have h:=u8_or_nat (m % 256) 128 (by omega) (by omega);rw [Vint.or128 ⟨m % 256,by omega⟩] at h;rw [Vint.toNat_ofNat];rw [show ((m : Int) % 256) = ((m % 256 : Nat) : Int) by omega];refine h.trans ?_
  show ((m % 256 % 128 + 128 : Nat) : Int) = _
  omega
set_option maxRecDepth 100000 in
theorem put_ok (A : Option Addr) (n c : Nat) (bs : List UInt8) (x : Nat) (B : Nat) (w : World) (hb : RdB w B A n bs) (hB : B≤w.heap.size) (hl : n≤140737488355000) (hx : x≤1099511627776) :
    Calls Tryz.prog 77 #[.slice A n c,.int .i64 x] w (GiveBE w (bs ++ Vint.enc x) 0):=by
  have hd : decide ((x : Int) < 0) = false:=decide_eq_false (by omega)
  have hd1 : decide (1099511627776 < (x : Int)) = false:=by simp;omega
  go_enter Tryz.func77,Tryz.ntmps77
  go_wp2_with (go_at_call 35;refine (clone_any _ _ _ _ _ _ hb hB (by omega)).mono ?_;rintro e w1 ⟨A1,n1,c1,rfl,ho,hbl⟩)
  clear hd hd1;have hn1:=ho.1
  have hl1 : bs.length≤140737488355000:=by rw [← hb.1];exact hl
  go_loopw [1,6] (fun i v wr=>∃ (m f : Nat) (pre : List UInt8) (A' : Option Addr) (n' c' : Nat),i = .int .i64 m∧v = .slice A' n' c'∧m < 128 ^ (f + 1)∧f≤5∧m≤1099511627776∧pre.length + f≤5∧pre ++ Vint.encF f m = Vint.enc x ∧
      OwnB wr w.heap.size A' n' c' (bs ++ pre)∧Below w.heap.size w wr) (fun i _ _=>(intOf i).toNat)
  case atStart => exact ⟨x, 5, [], A1, n1, c1, rfl, rfl, by have : (128 : Nat) ^ 6 = 4398046511104 := by decide
                                                            show x < 128 ^ 6;omega,by omega,hx,by simp,rfl,by simpa using ho,hbl⟩
  case round =>
    obtain ⟨m,f,pre,A',n',c',rfl,rfl,hm,hf5,hmt,hpf,hpre,hown,hbel⟩:=hrel;have hlen:=hown.1;rw [List.length_append] at hlen
    have hln : n'≤140737488355005:=by omega
    have HL:=Lib.hid hlen;have HP:=Lib.hid hpre;clear hlen hpre hn1
    by_cases hge : 128≤m
    · have hf : 1≤f:=by
        rcases Nat.eq_zero_or_pos f with h0 | h0
        · subst h0;simp at hm;omega
        · exact h0
      obtain ⟨f,rfl⟩ : ∃ f',f = f' + 1:=⟨f - 1,by omega⟩;have a1:=u8_more m
      go_wp2_with (at_builtin;refine wpList_appB rfl (.tmp 19) (.tmp 23) rfl rfl (hown.alloc _) rfl (RdB.made _ [UInt8.ofNat (m % 128 + 128)] _ _ _ ?hx1) ?hx0 ?hx2 ?_)
      case hx0=>show n' + 1≤_;omega
      case hx2=>have:=hbel.size;simp;omega
      intro A2 c2 w3 ho2 _ _ hbl2;have hbel3 : Below w.heap.size w w3:=(hbel.alloc hbel.size _).trans hbl2;go_wp2_with fail
      go_roundw
      case rel =>
        refine ⟨m / 128,f,pre ++ [UInt8.ofNat (m % 128 + 128)],_,_,_,rfl,rfl,?_,by omega,by omega,by simp;omega,?_,by simpa using ho2,hbel3⟩
        · rw [Nat.pow_succ] at hm;omega
        · rw [← HP.out]
          conv=>rhs;unfold Vint.encF
          rw [if_neg (by omega)];simp
      case measure=>simp [intOf];omega
    · have a1:=u8_byte m
      go_wp2_with (at_builtin;refine wpList_appB rfl (.tmp 25) (.tmp 28) rfl rfl (hown.alloc _) rfl (RdB.made _ [UInt8.ofNat m] _ _ _ ?hy1) ?hy0 ?hy2 ?_)
      case hy0=>show n' + 1≤_;omega
      case hy2=>have:=hbel.size;simp;omega
      intro A2 c2 w3 ho2 _ _ hbl2;have hbel3 : Below w.heap.size w w3:=(hbel.alloc hbel.size _).trans hbl2;go_wp2_with fail;go_ret2;refine ⟨_,_,_,rfl,?_,hbel3⟩
      have e : Vint.encF f m = [UInt8.ofNat m]:=by
        cases f with
        | zero=>rfl
        | succ f=>unfold Vint.encF;rw [if_pos (by omega)]
      rw [← HP.out,e]
      simpa using ho2
end Go.Proofs.YtfpenfgmpbdakaaGreat

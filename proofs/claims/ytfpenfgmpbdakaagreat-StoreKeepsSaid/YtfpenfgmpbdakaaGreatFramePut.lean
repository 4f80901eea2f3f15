import Derived.Test.YtfpenfgmpbdakaaGreatFrameMath
import Derived.Test.YtfpenfgmpbdakaaGreatCrcWalks
import Derived.Test.YtfpenfgmpbdakaaGreatVintPut
import Derived.Test.YtfpenfgmpbdakaaGreatStop
namespace Go.Proofs.YtfpenfgmpbdakaaGreat
set_option linter.unusedVariables false
set_option linter.unusedSimpArgs false
set_option maxRecDepth 100000
open Go.RowKit
namespace Frame
theorem byte_of (s k : Nat) : IntKind.u8.wrap ((s : Int) / (k : Nat)) = ((UInt8.ofNat (s / k)).toNat : Int):=by
  have h:=u8_byte (s / k);rw [← h];rfl
theorem byte_at (s k : Nat) (hk : k < 4) (z : Int) (hz : 24 - 8 * (k : Int) = z) : IntKind.u8.wrap ((s : Int) / 2 ^ z.toNat) = (((be s)[k]'hk).toNat : Int):=by
  subst hz
  match k,hk with
  | 0,_=>exact byte_of s 16777216
  | 1,_=>exact byte_of s 65536
  | 2,_=>exact byte_of s 256
  | 3,_=>exact (congrArg _ (Int.ediv_one _)).trans (u8_byte s)
set_option maxRecDepth 100000 in
theorem sum_any (A : Option Addr) (bs : List UInt8) (n c B : Nat) (w : World) (hb : RdB w B A n bs) (hB : B≤w.heap.size) (hl : n≤maxLen) :
    Calls Tryz.prog 105 #[.slice A n c] w (GiveB w (be (Crc.sum bs))):=by
  go_enter Tryz.func105,Tryz.ntmps105
  go_wp2_with fail;refine (Crc.sum_any _ _ _ _ _ _ hb hl).mono ?_;rintro e w1 ⟨rfl,rfl⟩;have hs:=Crc.sum_lt bs;obtain ⟨s,hs0⟩ : ∃ s,s = Crc.sum bs:=⟨_,rfl⟩;rw [← hs0] at hs ⊢;have HS0:=Lib.hid hs0;clear hs0;go_wp2_with fail
  go_loopw [4,5] (fun v i wr=>∃ (k : Nat) (A' : Option Addr) (n' c' : Nat),k≤4∧i = .int .i64 (24 - 8 * (k : Int))∧v = .slice A' n' c'∧OwnB wr w.heap.size A' n' c' ((be s).take k)∧Below w.heap.size w wr) (fun _ i _=>(intOf i + 8).toNat)
  case atStart=>exact ⟨0,none,0,0,by omega,rfl,rfl,OwnB.nil _ _,Below.refl _ _⟩
  case round =>
    obtain ⟨k,A',n',c',hk,rfl,rfl,hown,hbel⟩:=hrel;have hn:=hown.1
    have hlk : n' = k:=by rw [hn,List.length_take,be_length];omega
    subst hlk
    generalize hz : 24 - 8 * (n' : Int) = z
    have HZ:=Lib.hid hz
    by_cases hlt : n' < 4
    · have hd : decide (0≤z) = true:=decide_eq_true (by omega)
      have hz0 : 0≤z:=by omega
      have hz1 : z≤24:=by omega
      obtain ⟨x,hx⟩ : ∃ x,x = (be s)[n']'hlt:=⟨_,rfl⟩;have eb:=byte_at s n' hlt z hz;rw [← hx] at eb;have HX:=Lib.hid hx;have HO:=Lib.hid hown;clear hx hown hs hn;clear hz
      go_wp2_with (at_builtin;refine wpList_appB rfl (.tmp 12) (.tmp 17) rfl rfl (HO.out.alloc _) rfl (RdB.made _ [x] _ _ _ ?hx1) ?hx0 ?hx2 ?_)
      case hx0=>show n' + 1≤_;omega
      case hx2=>have:=hbel.size;simp;omega
      intro A2 c2 w3 ho2 _ _ hbl2;have hbel3 : Below w.heap.size w w3:=(hbel.alloc hbel.size _).trans hbl2;go_wp2_with fail
      go_roundw
      case rel =>
        refine ⟨n' + 1,A2,n' + 1,c2,by omega,?_,rfl,?_,hbel3⟩
        · have:=HZ.out
          simp;omega
        · rw [HX.out] at ho2
          rw [List.take_succ_eq_append_getElem (show n' < (be s).length from hlt)];exact ho2
      case measure=>simp [intOf];omega
    · have hd : decide (0≤z) = false:=decide_eq_false (by omega)
      clear hz;go_wp2_with fail;go_ret;refine ⟨_,_,_,rfl,?_,hbel⟩;rw [List.take_of_length_le (by rw [be_length];omega)] at hown;rw [← HS0.out];exact hown
theorem put_ok (A : Option Addr) (n c : Nat) (bs : List UInt8) (B : Nat) (w : World) (hb : RdB w B A n bs) (hB : B≤w.heap.size) (hl : n≤4096) :
    Calls Tryz.prog 92 #[.slice A n c] w (GiveBE w (frm bs) 0):=by
  obtain rfl:=hb.1;have hd : decide ((4096 : Int) < (bs.length : Int)) = false:=decide_eq_false (by omega);have hel:=Vint.enc_length bs.length
  go_enter Tryz.func92,Tryz.ntmps92
  go_wp2_with fail;refine (Go.Proofs.YtfpenfgmpbdakaaGreat.put_ok _ _ _ [1] bs.length _ _ (RdB.made _ [1] _ _ _ ?hx1) (by simp) (by simp) (by omega)).mono ?_
  case hx1=>rfl
  rintro e w1 ⟨A1,n1,c1,rfl,ho1,hb1⟩;have hbl1 : Below w.heap.size w w1:=((Below.refl _ _).alloc (Nat.le_refl _) _).trans (hb1.mono (by simp));have hr1:=(hb.more hB).below hbl1;have ho1':=ho1.mono (base':=w.heap.size) (by simp);have hn1:=ho1.1;rw [List.length_append] at hn1
  simp only [List.length_cons,List.length_nil] at hn1
  have hn7 : n1≤7:=by omega
  clear ho1 hel hn1
  go_wp2_with (at_builtin;refine wpList_appB rfl (.tmp 19) (.tmp 20) rfl rfl ho1' rfl hr1 ?hy0 hbl1.size ?_)
  case hy0=>omega
  intro A2 c2 w2 ho2 _ _ hbl2;have hb2:=hbl1.trans hbl2;have hd2 : OwnB w2 w.heap.size A2 (n1 + bs.length) c2 (head bs):=ho2;clear ho2;go_wp2_with fail;refine (sum_any _ _ _ _ _ _ hd2.rd (Nat.le_refl _) (by unfold maxLen;omega)).mono ?_;rintro e w3 ⟨A3,n3,c3,rfl,ho3,hb3⟩;have hd3:=hd2.below hb3 (Nat.le_refl _);have hb3':=hb2.trans (hb3.mono hb2.size);have hn3:=ho3.1;rw [be_length] at hn3;subst hn3
  go_wp2_with (at_builtin;refine wpList_appB rfl (.tmp 22) (.tmp 24) rfl rfl hd3 rfl ho3.rd ?hz0 hb3'.size ?_)
  case hz0=>omega
  intro A4 c4 w4 ho4 _ _ hbl4;go_wp2_with fail;go_ret2;exact ⟨_,_,_,rfl,ho4,hb3'.trans hbl4⟩
theorem put_long (A : Option Addr) (n c : Nat) (w : World) (hl : 4096 < n) :
    Calls Tryz.prog 92 #[.slice A n c] w fun e w'=>e = .returned (.tuple #[.slice none 0 0,.int .i64 6])∧w = w':=by
  have hd : decide ((4096 : Int) < (n : Int)) = true:=decide_eq_true (by omega)
  go_enter Tryz.func92,Tryz.ntmps92
  go_wp2_with fail;go_ret2;exact ⟨rfl,rfl⟩
end Frame
end Go.Proofs.YtfpenfgmpbdakaaGreat

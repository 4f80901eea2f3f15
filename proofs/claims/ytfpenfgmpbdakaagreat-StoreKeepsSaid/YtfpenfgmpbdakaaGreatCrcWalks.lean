import Derived.Test.YtfpenfgmpbdakaaGreatCrcMath
import Derived.Test.YtfpenfgmpbdakaaGreatMem
import Derived.Test.YtfpenfgmpbdakaaGreatChecked
import Derived.WalkKit
import Derived.Lib.SlBytesConst
namespace Go.Proofs.YtfpenfgmpbdakaaGreat.Crc
set_option linter.unusedVariables false
set_option linter.unusedSimpArgs false
set_option maxRecDepth 100000
open Go.RowKit
theorem and_one (q : Nat) (h : q < 4294967296) : bits .and .u32 (q : Int) 1 = ((q % 2 : Nat) : Int):=by
  have:=u32_and_nat q 1 h (by omega)
  rw [Nat.and_one_is_mod] at this;exact this
theorem and_D0 : bits .and .u32 3988292384 0 = 0:=by decide +kernel
theorem and_D1 : bits .and .u32 3988292384 4294967295 = 3988292384:=by decide +kernel
theorem xor_D (q : Nat) (h : q < 4294967296) : bits .xor .u32 (q / 2 : Int) 3988292384 = ((q / 2 ^^^ D : Nat) : Int):=u32_xor_nat (q / 2) 3988292384 (by omega) (by omega)
theorem xor_0 (q : Nat) (h : q < 4294967296) : bits .xor .u32 (q / 2 : Int) 0 = ((q / 2 : Nat) : Int):=by
  have:=u32_xor_nat (q / 2) 0 (by omega) (by omega)
  rw [Nat.xor_zero] at this;exact this
theorem step_of1 {q : Nat} (h : q % 2 = 1) : step q = q / 2 ^^^ D:=if_pos h
theorem step_of0 {q : Nat} (h : q % 2 = 0) : step q = q / 2:=if_neg (by omega)
theorem eat_any (r : Nat) (c : UInt8) (w : World) (hr : r < 4294967296) :
    Calls Tryz.prog 137 #[.int .u32 r,.int .u8 c.toNat] w fun e w'=>e = .returned (.int .u32 (eat r c : Nat))∧w = w':=by
  have hc:=c.toNat_lt;have h0 : r ^^^ c.toNat < 4294967296:=Nat.xor_lt_two_pow (n:=32) (by omega) (by omega);have e0:=u32_xor_nat r c.toNat hr (by omega);have E0:=Lib.hid e0
  go_enter Tryz.func137,Tryz.ntmps137
  go_wp2
  clear e0
  go_loop [0,10] (fun x i=>∃ k : Nat,k≤8∧i = .int .i64 k∧x = .int .u32 (steps k (r ^^^ c.toNat) : Nat)) (fun _ i=>8 - (intOf i).toNat)
  case atStart=>exact ⟨0,by omega,rfl,rfl⟩
  case round =>
    obtain ⟨k,hk,rfl,rfl⟩:=hrel;have hq:=steps_lt h0 k
    by_cases hlt : k < 8
    · obtain ⟨q,hqq⟩ : ∃ q,q = steps k (r ^^^ c.toNat):=⟨_,rfl⟩
      rw [← hqq] at hq;have HQ:=Lib.hid hqq;rw [← hqq];clear hqq;have a1:=and_one q hq
      rcases Nat.mod_two_eq_zero_or_one q with hm | hm
      · rw [hm] at a1
        have HM:=Lib.hid hm;clear hm;have a2:=and_D0;have a3:=xor_0 q hq
        go_wp2
        go_round
        case rel=>exact ⟨k + 1,by omega,by go_num,by rw [show steps (k + 1) (r ^^^ c.toNat) = step (steps k (r ^^^ c.toNat)) from rfl,← HQ.out,step_of0 HM.out];rfl⟩
        case measure=>simp [intOf];omega
      · rw [hm] at a1
        have HM:=Lib.hid hm;clear hm;have a2:=and_D1;have a3:=xor_D q hq
        go_wp2
        go_round
        case rel=>exact ⟨k + 1,by omega,by go_num,by rw [show steps (k + 1) (r ^^^ c.toNat) = step (steps k (r ^^^ c.toNat)) from rfl,← HQ.out,step_of1 HM.out]⟩
        case measure=>simp [intOf];omega
    · go_wp2
      go_ret;exact ⟨by rw [show k = 8 by omega];rfl,rfl⟩
theorem turn_any (r : Nat) (c : UInt8) (w : World) (hr : r < 4294967296) :
    Calls Tryz.prog 127 #[.int .u32 r,.int .u8 c.toNat] w fun e w'=>e = .returned (.int .u32 (eat r c : Nat))∧w = w':=by
  have hc:=c.toNat_lt;have h0 : r ^^^ c.toNat < 4294967296:=Nat.xor_lt_two_pow (n:=32) (by omega) (by omega);have e0:=u32_xor_nat r c.toNat hr (by omega)
  go_enter Tryz.func127,Tryz.ntmps127
  go_wp2
  clear e0
  go_loop [0,5] (fun x i=>∃ k : Nat,k≤8∧i = .int .i64 k∧x = .int .u32 (steps k (r ^^^ c.toNat) : Nat)) (fun _ i=>8 - (intOf i).toNat)
  case atStart=>exact ⟨0,by omega,rfl,rfl⟩
  case round =>
    obtain ⟨k,hk,rfl,rfl⟩:=hrel;have hq:=steps_lt h0 k
    by_cases hlt : k < 8
    · obtain ⟨q,hqq⟩ : ∃ q,q = steps k (r ^^^ c.toNat):=⟨_,rfl⟩
      rw [← hqq] at hq;have HQ:=Lib.hid hqq;rw [← hqq];clear hqq
      rcases Nat.mod_two_eq_zero_or_one q with hm | hm
      · have HM:=Lib.hid hm
        have a1 : ((q : Int) % 2 == 1) = false:=by simp;omega
        clear hm
        go_wp2
        go_round
        case rel=>exact ⟨k + 1,by omega,by go_num,by rw [show steps (k + 1) (r ^^^ c.toNat) = step (steps k (r ^^^ c.toNat)) from rfl,← HQ.out,step_of0 HM.out];rfl⟩
        case measure=>simp [intOf];omega
      · have HM:=Lib.hid hm
        have a1 : ((q : Int) % 2 == 1) = true:=by simp;omega
        have a3:=xor_D q hq;clear hm
        go_wp2
        go_round
        case rel=>exact ⟨k + 1,by omega,by go_num,by rw [show steps (k + 1) (r ^^^ c.toNat) = step (steps k (r ^^^ c.toNat)) from rfl,← HQ.out,step_of1 HM.out]⟩
        case measure=>simp [intOf];omega
    · go_wp2
      go_ret;exact ⟨by rw [show k = 8 by omega];rfl,rfl⟩
theorem more_any (s : Nat) (A : Option Addr) (bs : List UInt8) (n cap B : Nat) (w : World) (hs : s < 4294967296) (hb : RdB w B A n bs) (hl : n≤maxLen) :
    Calls Tryz.prog 128 #[.int .u32 s,.slice A n cap] w fun e w'=>e = .returned (.int .u32 (more s bs : Nat))∧w = w':=by
  obtain rfl:=hb.1
  unfold maxLen at hl
  have e0 : bits .xor .u32 (s : Int) 4294967295 = ((s ^^^ ones : Nat) : Int):=u32_xor_nat s ones hs (by decide);have h0 : s ^^^ ones < 4294967296:=Nat.xor_lt_two_pow (n:=32) (by omega) (by decide)
  go_enter Tryz.func128,Tryz.ntmps128
  go_wp2
  clear e0
  go_loop [5,12] (fun x i=>∃ k : Nat,k≤bs.length∧i = .int .i64 k∧x = .int .u32 (run (s ^^^ ones) (bs.take k) : Nat)) (fun _ i=>bs.length - (intOf i).toNat)
  case atStart=>exact ⟨0,by omega,rfl,rfl⟩
  case round =>
    obtain ⟨k,hk,rfl,rfl⟩:=hrel;have hq:=run_lt h0 (bs.take k)
    by_cases hlt : k < bs.length
    · obtain ⟨a,rfl,_,hc⟩:=hb.at_ hlt
      have HS:=Lib.hid (take_snoc bs hlt)
      go_wp2_with (go_at_call 137;refine (eat_any _ _ _ hq).mono ?_;rintro e w' ⟨rfl,rfl⟩)
      go_round
      case rel=>exact ⟨k + 1,by omega,by go_num,by rw [HS.out,run_snoc]⟩
      case measure=>simp [intOf];omega
    · have e0 : bits .xor .u32 ((run (s ^^^ ones) (bs.take k) : Nat) : Int) 4294967295 = ((run (s ^^^ ones) (bs.take k) ^^^ ones : Nat) : Int):=u32_xor_nat _ ones hq (by decide)
      go_wp2
      go_ret;exact ⟨by rw [List.take_of_length_le (by omega)];rfl,rfl⟩
theorem sum_any (A : Option Addr) (bs : List UInt8) (n cap B : Nat) (w : World) (hb : RdB w B A n bs) (hl : n≤maxLen) :
    Calls Tryz.prog 117 #[.slice A n cap] w fun e w'=>e = .returned (.int .u32 (sum bs : Nat))∧w = w':=by
  go_enter Tryz.func117,Tryz.ntmps117
  go_wp2_with (go_at_call 128;refine (more_any 0 _ _ _ _ _ _ (by omega) hb hl).mono ?_;rintro e w' ⟨rfl,rfl⟩)
  go_ret;exact ⟨rfl,rfl⟩
theorem rmore_any (s : Nat) (A : Option Addr) (bs : List UInt8) (n cap B : Nat) (w : World) (hs : s < 4294967296) (hb : RdB w B A n bs) (hl : n≤maxLen) :
    Calls Tryz.prog 115 #[.int .u32 s,.slice A n cap] w fun e w'=>e = .returned (.int .u32 (more s bs : Nat))∧w = w':=by
  obtain rfl:=hb.1
  unfold maxLen at hl
  have e0 : bits .xor .u32 (s : Int) 4294967295 = ((s ^^^ ones : Nat) : Int):=u32_xor_nat s ones hs (by decide);have h0 : s ^^^ ones < 4294967296:=Nat.xor_lt_two_pow (n:=32) (by omega) (by decide)
  go_enter Tryz.func115,Tryz.ntmps115
  go_wp2
  clear e0
  go_loop [5,12] (fun x i=>∃ k : Nat,k≤bs.length∧i = .int .i64 k∧x = .int .u32 (run (s ^^^ ones) (bs.take k) : Nat)) (fun _ i=>bs.length - (intOf i).toNat)
  case atStart=>exact ⟨0,by omega,rfl,rfl⟩
  case round =>
    obtain ⟨k,hk,rfl,rfl⟩:=hrel;have hq:=run_lt h0 (bs.take k)
    by_cases hlt : k < bs.length
    · obtain ⟨a,rfl,_,hc⟩:=hb.at_ hlt
      have HS:=Lib.hid (take_snoc bs hlt)
      go_wp2_with (go_at_call 127;refine (turn_any _ _ _ hq).mono ?_;rintro e w' ⟨rfl,rfl⟩)
      go_round
      case rel=>exact ⟨k + 1,by omega,by go_num,by rw [HS.out,run_snoc]⟩
      case measure=>simp [intOf];omega
    · have e0 : bits .xor .u32 ((run (s ^^^ ones) (bs.take k) : Nat) : Int) 4294967295 = ((run (s ^^^ ones) (bs.take k) ^^^ ones : Nat) : Int):=u32_xor_nat _ ones hq (by decide)
      go_wp2
      go_ret;exact ⟨by rw [List.take_of_length_le (by omega)];rfl,rfl⟩
theorem rsum_any (A : Option Addr) (bs : List UInt8) (n cap B : Nat) (w : World) (hb : RdB w B A n bs) (hl : n≤maxLen) :
    Calls Tryz.prog 99 #[.slice A n cap] w fun e w'=>e = .returned (.int .u32 (sum bs : Nat))∧w = w':=by
  go_enter Tryz.func99,Tryz.ntmps99
  go_wp2_with (go_at_call 115;refine (rmore_any 0 _ _ _ _ _ _ (by omega) hb hl).mono ?_;rintro e w' ⟨rfl,rfl⟩)
  go_ret;exact ⟨rfl,rfl⟩
end Go.Proofs.YtfpenfgmpbdakaaGreat.Crc

import Derived.Test.YtfpenfgmpbdakaaGreatStpDb
import Derived.Test.YtfpenfgmpbdakaaGreatLogOps
import Derived.Lib.SlBytesConst
import Derived.Test.YtfpenfgmpbdakaaGreatBytes
import Derived.Test.YtfpenfgmpbdakaaGreatStop
import Derived.Test.YtfpenfgmpbdakaaGreatVintMath
import Derived.Test.YtfpenfgmpbdakaaGreatFrameRead
import Derived.Test.YtfpenfgmpbdakaaGreatEvNoP
import Derived.Test.YtfpenfgmpbdakaaGreatStep
import Derived.Deep.RegionHeld3
import Derived.Test.YtfpenfgmpbdakaaGreatFrameAll
import Derived.Test.YtfpenfgmpbdakaaGreatSls
import Derived.Test.YtfpenfgmpbdakaaGreatFramePut
import Derived.Test.YtfpenfgmpbdakaaGreatVintWalks
import Derived.Laws.CopyOwn
import Derived.Test.YtfpenfgmpbdakaaGreatDiskMath
import Derived.Test.YtfpenfgmpbdakaaGreatDisk2
import Derived.Test.YtfpenfgmpbdakaaGreatDiskWords
import Derived.Test.YtfpenfgmpbdakaaGreatStepG
import Derived.Test.YtfpenfgmpbdakaaGreatFoot
import Derived.Test.YtfpenfgmpbdakaaGreatFactsD
import Derived.Test.YtfpenfgmpbdakaaGreatVintRead
import Derived.Test.YtfpenfgmpbdakaaGreatEvMath
import Derived.Test.YtfpenfgmpbdakaaGreatEvMem
import Derived.Test.YtfpenfgmpbdakaaGreatDotRow
import Derived.Test.YtfpenfgmpbdakaaGreatStoWalks
namespace Go.Proofs.YtfpenfgmpbdakaaGreat
set_option linter.unusedVariables false
set_option linter.unusedSimpArgs false
set_option maxRecDepth 100000
open Go.RowKit
open Disk
namespace Sto.Stp
open _root_.Go.Proofs.YtfpenfgmpbdakaaGreat.Log (writeM LogEnd lwrite_any)
open _root_.Go.Proofs.YtfpenfgmpbdakaaGreat.Frame (frm frms frms_nil frms_cons frms_snoc frms_append frm_length frm_pos Parts AllF)
structure Sd where
  b : Db
  used : Nat
  upto : Nat
  inc : Nat
def StoAt (w : World) (F : Nat→Prop) (b g size : Nat) (S : Sd) (E : Value) : Prop:=DiskD w F g size S.b∧Blk w b 88 (sc g S.used S.upto S.inc E)∧¬ F b
def StoOp (w : World) (F : Nat→Prop) (b g size : Nat) (S : Sd) (E : Value) (w' : World) : Prop:=∃ F',StoAt w' F' b g size S E∧Only (fun k=>F k∨k = b) w w'∧Grows F F' w
structure SW (w : World) (F : Nat→Prop) (b g size : Nat) (S : Sd) (E : Value) (F1 : Nat→Prop) (w1 : World) : Prop where
  disk : DiskD w1 F1 g size S.b
  blk : Blk w1 b 88 (sc g S.used S.upto S.inc E)
  only : Only (fun k=>F k∨k = b) w w1
  grows : Grows F F1 w
  nf : ¬ F b
  lt : b < w.heap.size
  fl : ∀ k,F k→k < w.heap.size
section
variable {w w0 w1 w2 : World} {F F1 : Nat→Prop} {b g size : Nat} {S : Sd} {E : Value} {l : Db}
theorem StoAt.sw (h : StoAt w F b g size S E) : SW w F b g size S E F w:=⟨h.1,h.2.1,Only.refl _ _,Grows.refl _ _,h.2.2,h.2.1.lt,h.1.lt⟩
theorem StoAt.below (h : StoAt w F b g size S E) (hb : Below w.heap.size w w1) : StoAt w1 F b g size S E:=⟨h.1.below hb,h.2.1.below hb h.2.1.lt,h.2.2⟩
theorem SW.nb (h : SW w F b g size S E F1 w1) : ¬ F1 b:=fun hk=>by
  rcases h.grows _ hk with q | q
  · exact h.nf q
  · have:=h.lt;omega
theorem SW.below (h : SW w F b g size S E F1 w1) (hb : Below w1.heap.size w1 w2) : SW w F b g size S E F1 w2 :=
  ⟨h.disk.below hb,h.blk.below hb h.blk.lt,h.only.then_below (hb.mono h.only.size),h.grows,h.nf,h.lt,h.fl⟩
theorem SW.op (h : SW w F b g size S E F1 w1) (ho : DiskOpD w1 F1 g size l w2) : ∃ F2,SW w F b g size { S with b:=l } E F2 w2:=by
  obtain ⟨F2,o1,o2,o3⟩:=ho;refine ⟨F2,o1,h.blk.only o2 h.nb,?_,?_,h.nf,h.lt,h.fl⟩
  · refine h.only.trans (o2.mono (G:=fun k=>F1 k∨k = b) fun k hk=>.inl (.inl hk)) fun k hk=>?_
    rcases hk with hk | hk
    · rcases h.grows k hk with q | q
      · exact .inl (.inl q)
      · exact .inr q
    · exact .inl (.inr hk)
  · exact h.grows.trans o3 h.only.size
theorem SW.set_ {u' v' i' : Nat} (h : SW w F b g size S E F1 w1) {i : Nat} {x : Value} (hk : Blk (w1.setCell ⟨b,i,none⟩ x) b 88 (sc g u' v' i' E)) : SW w F b g size ⟨S.b,u',v',i'⟩ E F1 (w1.setCell ⟨b,i,none⟩ x) :=
  ⟨h.disk.keep ⟨by simp [World.setCell],fun k hk=>Below.heap_setCell w1 _ _ k (fun e=>h.nb (by have e : k = b:=e;rw [← e];exact hk))⟩,hk,h.only.setCell (.inl (.inr rfl)) x,h.grows,h.nf,h.lt,h.fl⟩
theorem SW.drew (h : SW w F b g size S E F1 w1) : SW w F b g size S E F1 w1.drew:=h.below (Below.refl _ _).drew
theorem SW.drewN (h : SW w F b g size S E F1 w1) (n : Nat) : SW w F b g size S E F1 (w1.drewN n):=h.below (below_drewN (Below.refl _ _) n)
theorem SW.nk (h : SW w F b g size S E F1 w1) {k : Nat} (hk : k < w.heap.size) (hF : ¬ F k) : ¬ F1 k:=fun q=>by
  rcases h.grows _ q with x | x
  · exact hF x
  · omega
theorem SW.err (h : SW w0 F b g size S E F1 w1) (hb : Below w.heap.size w w0) (hs : w.heap.size < w0.heap.size) (hl : b < w.heap.size) (hf : ∀ k,F k→k < w.heap.size) (i : Nat) (x : Value) : StoOp w F b g size S E (w1.setCell ⟨w.heap.size,i,none⟩ x):=by
  have hn : ¬ F1 w.heap.size:=fun hk=>by
    rcases h.grows _ hk with q | q
    · have:=hf _ q;omega
    · omega
  refine ⟨F1,⟨h.disk.keep ⟨by simp [World.setCell],fun k hk=>Below.heap_setCell w1 _ _ k (fun e=>hn (by have e : k = w.heap.size:=e;rw [← e];exact hk))⟩,h.blk.far (by show b ≠ w.heap.size;omega) x,h.nb⟩,
    ((Only.of_below _ hb).trans h.only (Grows.refl _ _)).setCell (.inr (Nat.le_refl _)) x,fun k hk=>(h.grows k hk).imp id fun q=>by have:=hb.size;omega⟩
theorem SW.keeps {t : TypeId} {cs : Array Value} (h : SW w0 F b g size S E F1 w1) {k : Nat} (kb : Blk w0 k t cs) (hk : k ≠ b) (hf : ¬ F k) : Blk w1 k t cs:=kb.only h.only (by rintro (q | q);exact hf q;exact hk q)
end
theorem write_any (A : Option Addr) (n c B : Nat) (bs : List UInt8) (F : Nat→Prop) (b g size u v i : Nat) (lasts : Db) (E : Value) (w : World) (h0 : Blk w b 88 (sc g u v i E)) (hD : DiskD w F g size lasts) (hm : lasts.length≤16384) (hs : size≤16384)
    (hb : RdB w B A n bs) (hB : B≤w.heap.size) (hc : n≤c) (hcm : c≤maxLen) :
    Calls Tryz.prog 48 #[.pointer (some ⟨b,0,none⟩),.slice A n c] w fun e w'=>(e = if (writeD size lasts bs).1 = 0 then .returned (.tuple #[]) else .panicked [{ v:=flt ((writeD size lasts bs).1 : Nat),recovered:=false }])∧DiskOpD w F g size (writeD size lasts bs).2 w':=by
  have c0 : w.cell? ⟨b,0,none⟩ = some (.pointer (some ⟨g,0,none⟩)):=h0.cell 0;have hw:=lwriteD_any A n c B bs F g size lasts w hD hs hb hB hc hcm
  unfold DLogEnd at hw
  generalize writeD size lasts bs = r at *
  obtain ⟨k,l1⟩:=r
  simp only at hw ⊢
  have HW:=Lib.hid hw;clear hw hD hb hc hm h0
  by_cases h : k = 0
  · subst h
    rw [if_pos rfl]
    go_enter Tryz.func48,Tryz.ntmps48
    go_wp2_with fail;refine HW.out.mono ?_;rintro e w1 ⟨rfl,h1⟩;have H1:=Lib.hid h1;clear h1;go_wp2_with fail;refine (must_yes (by first | with_reducible rfl | assumption | (simp;done) | (simp;omega)) _ _).mono ?_;rintro e w2 ⟨rfl,rfl⟩;go_wp2_with fail
    go_end0
    exact ⟨rfl,H1.out⟩
  · rw [if_neg h]
    have hq : ((k : Int) == 0) = false:=by rw [beq_eq_false_iff_ne];omega
    go_enter Tryz.func48,Tryz.ntmps48
    go_wp2_with fail;refine HW.out.mono ?_;rintro e w1 ⟨rfl,h1⟩;have H1:=Lib.hid h1;clear h1;go_wp2_with fail;refine (must_no (by first | with_reducible rfl | assumption | (simp;done) | (simp;omega)) _ _).mono ?_;rintro e w2 ⟨rfl,rfl⟩;go_wp2_with fail;exact ⟨rfl,rfl,H1.out⟩
theorem told_lit (kd : UInt8) (z m : Int) (n : Nat) (hz : (kd.toNat : Int) = z) (hm : m = (n : Nat)) (hn : n≤1099511627776) (w : World) :
    Calls Tryz.prog 49 #[.int .u8 z,.int .i64 m] w (GiveB w (told kd n)):=by
  subst hz hm;exact told_any kd n hn w
theorem told_write {size : Nat} {b : Db} {kd : UInt8} {n : Nat} : writeD size b (told kd n) = if b.length + (frm (told kd n)).length≤size then (0,b ++ frm (told kd n)) else (7,b):=by
  unfold writeD
  have:=told_len kd n
  rw [if_neg (by omega)]
def nextD (size : Nat) (S : Sd) : Nat × Nat × Sd :=
  if S.used < S.upto then (S.used + 1,0,⟨S.b,S.used + 1,S.upto,S.inc⟩)
  else if 96≤S.upto then (0,7,S)
  else if S.b.length + (frm (told 1 (min (S.upto + 8) 96))).length≤size then (S.used + 1,0,⟨S.b ++ frm (told 1 (min (S.upto + 8) 96)),S.used + 1,min (S.upto + 8) 96,S.inc⟩)
  else (0,7,S)
def bumpD (size : Nat) (S : Sd) : Nat × Nat × Sd :=
  if 1099511627776≤S.inc then (0,7,S)
  else if S.b.length + (frm (told 2 (S.inc + 1))).length≤size then (S.inc + 1,0,⟨S.b ++ frm (told 2 (S.inc + 1)),S.used,S.upto,S.inc + 1⟩)
  else (0,7,S)
def NumOp (w : World) (F : Nat→Prop) (b g size : Nat) (E : Value) (r : Nat × Nat × Sd) (e : Ending) (w' : World) : Prop:=e = .returned (.tuple #[.int .i64 (r.1 : Nat),.int .i64 (r.2.1 : Nat)])∧StoOp w F b g size r.2.2 E w'
theorem next_nil (w : World) :
    Calls Tryz.prog 14 #[.pointer none] w fun e w'=>e = .returned (.tuple #[.int .i64 0,.int .i64 1])∧Below w.heap.size w w':=by
  have k0:=(Blk.new w 27 #[.int .i64 0]).set_ 0 (.int .i64 1);have c0 : World.cell? _ _ = some (.int .i64 1):=k0.cell 0;have f0:=(Blk.new w 27 #[.int .i64 0]).free 0;have hbw : Below w.heap.size w (w.alloc (.cells #[.int .i64 1] 27)):=(Below.refl _ _).alloc (Nat.le_refl _) _;have HB:=Lib.hid hbw;clear hbw k0
  go_enter_defers Tryz.func14,Tryz.ntmps14
  go_wp2_with fail;refine ⟨.tuple #[.int .i64 0,.int .i64 1],by simp [results,Tryz.results14,go_sem,c0],rfl,HB.out⟩
theorem upto_any (b g used u i : Nat) (E : Value) (w : World) (h0 : Blk w b 88 (sc g used u i E)) :
    Calls Tryz.prog 32 #[.pointer (some ⟨b,0,none⟩)] w fun e w'=>e = .returned (.int .i64 (u : Nat))∧w = w':=by
  have c0:=h0.cell 2
  go_enter Tryz.func32,Tryz.ntmps32
  go_wp2_with fail;go_ret;exact ⟨rfl,rfl⟩
end Sto.Stp
end Go.Proofs.YtfpenfgmpbdakaaGreat

namespace Go.Proofs.YtfpenfgmpbdakaaGreat
set_option linter.unusedVariables false
set_option linter.unusedSimpArgs false
set_option maxRecDepth 100000
open Go.RowKit
open Disk
namespace Log
open _root_.Go.Proofs.YtfpenfgmpbdakaaGreat.Frame (frm frms frms_nil frms_cons frms_snoc frms_append frm_length frm_pos Parts AllF)
theorem LogEnd.at_ {w w' : World} {F : Nat→Prop} {g size x : Nat} {r : Res} {e : Ending} {b : List UInt8} {ws : List W} (h : LogEnd w F g size r e w') (hr : r = (x,b,ws)) : e = .returned (.int .i64 (x : Nat))∧DiskOp w F g size b ws w':=by subst hr;exact h
theorem frm1 (x : UInt8) : (frm [x]).length = 7:=by rw [frm_length];rfl
theorem frms1 (x : UInt8) : frms [[x]] = frm [x]:=by rw [frms_cons,frms_nil,List.append_nil]
theorem al1 : writeM 100 [] [] [97] = (0,frms [[97]],[]):=by
  unfold writeM
  rw [if_neg (by simp),if_pos (by rw [frm1];simp [readL,afterL]),frms1]
  rfl
theorem al2 : writeM 100 (frms [[97]]) [] [98] = (0,frms [[97],[98]],[]):=by
  unfold writeM
  have e : readL (frms [[97]]) [] = frms [[97]]:=rfl;rw [if_neg (by simp),e,frms1,if_pos (by rw [frm1,frm1];omega),frms_cons,frms1]
theorem al_len2 : (frms [[97],[98]]).length = 14:=by rw [frms_cons,frms1,List.length_append,frm1,frm1]
theorem al3 : afterL (frms [[97],[98]]) ([] ++ [(false,[1,1,99])]) 2 = frms [[97],[98]] ++ [1,1]:=by simp [afterL,units,doW]
theorem dec11 : Frame.dec [1,1] = .error 3:=Frame.dec_short (k:=1) (r:=[]) (Vint.dec_enc (n:=1) (by decide) []) (by omega) (by simp)
theorem al4 : Parts (readL (frms [[97],[98]] ++ [1,1]) []) [[97],[98]] [1,1]:=⟨rfl,by simp,3,dec11⟩
theorem al5 : mendM (frms [[97],[98]] ++ [1,1]) [] [[97],[98]] = (0,frms [[97],[98]],[]):=by
  unfold mendM
  rw [if_pos (by show _ < (frms [[97],[98]] ++ [1,1]).length;rw [List.length_append];simp)]
theorem al6 : writeM 100 (frms [[97],[98]]) [] [99] = (0,frms [[97],[98],[99]],[]):=by
  unfold writeM
  have e : readL (frms [[97],[98]]) [] = frms [[97],[98]]:=rfl;rw [if_neg (by simp),e,if_pos (by rw [frm1,al_len2];omega),show [[97],[98],[99]] = [[97],[98]] ++ [[(99 : UInt8)]] from rfl,frms_snoc]
end Log
end Go.Proofs.YtfpenfgmpbdakaaGreat

namespace Go.Proofs.YtfpenfgmpbdakaaGreat
set_option linter.unusedVariables false
set_option linter.unusedSimpArgs false
set_option maxRecDepth 100000
open Go.RowKit
namespace Vint
theorem decF_nil {i n : Nat} (hi : i < 6) : decF (6 - i) i n [] = .error 3:=by
  obtain ⟨k,hk⟩ : ∃ k,6 - i = k + 1:=⟨5 - i,by omega⟩;rw [hk];rfl
theorem decF_more {i n : Nat} (hi : i < 6) {c : UInt8} (r : List UInt8) (hc : 128≤c.toNat) : decF (6 - i) i n (c :: r) = decF (6 - (i + 1)) (i + 1) (n + (c.toNat % 128) * 128 ^ i) r:=by
  obtain ⟨k,hk⟩ : ∃ k,6 - i = k + 1:=⟨5 - i,by omega⟩;rw [hk,show 6 - (i + 1) = k by omega]
  conv=>lhs;unfold decF
  rw [if_pos hc]
theorem decF_bad {i n : Nat} (hi : i < 6) {c : UInt8} (r : List UInt8) (hc : c.toNat < 128) (h : top < n + c.toNat * 128 ^ i∨(c.toNat = 0∧0 < i)) : decF (6 - i) i n (c :: r) = .error 4:=by
  obtain ⟨k,hk⟩ : ∃ k,6 - i = k + 1:=⟨5 - i,by omega⟩;rw [hk]
  unfold decF
  rw [if_neg (by omega),if_pos h]
theorem decF_good {i n : Nat} (hi : i < 6) {c : UInt8} (r : List UInt8) (hc : c.toNat < 128) (h1 : n + c.toNat * 128 ^ i≤top) (h2 : c.toNat ≠ 0∨i = 0) : decF (6 - i) i n (c :: r) = .ok (n + c.toNat * 128 ^ i,r):=by
  obtain ⟨k,hk⟩ : ∃ k,6 - i = k + 1:=⟨5 - i,by omega⟩;rw [hk]
  unfold decF
  rw [if_neg (by omega),if_neg (by omega)]
theorem pow128 {i : Nat} (hi : i < 6) : 1≤128 ^ i∧128 ^ i≤34359738368:=by
  match i,hi with
  | 0,_=>decide
  | 1,_=>decide
  | 2,_=>decide
  | 3,_=>decide
  | 4,_=>decide
  | 5,_=>decide
end Vint
def RRd (w : World) (g : Nat) (A : Option Addr) (n c at' e : Nat) : Prop:=Blk w g 100 #[.slice A n c,.int .i64 (at' : Nat),.int .i64 (e : Nat)]
def RInt (w : World) (g : Nat) (A : Option Addr) (n c at' : Nat) (bs : List UInt8) (e : Ending) (w' : World) : Prop :=
  w.grownBy w' (some g)∧match Vint.dec (bs.drop at') with
    | .ok (m,r)=>e = .returned (.int .i64 (m : Nat))∧RRd w' g A n c (n - r.length) 0
    | .error x=>e = .returned (.int .i64 0)∧RRd w' g A n c at' x
theorem RInt.good {w w' : World} {g : Nat} {A : Option Addr} {n c at' : Nat} {bs : List UInt8} {e : Ending} {m : Nat} {r : List UInt8} (hd : Vint.dec (bs.drop at') = .ok (m,r)) (he : e = .returned (.int .i64 (m : Nat))) (hr : RRd w' g A n c (n - r.length) 0) (hg : w.grownBy w' (some g)) : RInt w g A n c at' bs e w':=by
  refine ⟨hg,?_⟩;rw [hd];exact ⟨he,hr⟩
theorem RInt.bad {w w' : World} {g : Nat} {A : Option Addr} {n c at' : Nat} {bs : List UInt8} {e : Ending} {x : Nat} (hd : Vint.dec (bs.drop at') = .error x) (he : e = .returned (.int .i64 0)) (hr : RRd w' g A n c at' x) (hg : w.grownBy w' (some g)) : RInt w g A n c at' bs e w':=by
  refine ⟨hg,?_⟩;rw [hd];exact ⟨he,hr⟩
set_option maxRecDepth 100000 in
set_option maxHeartbeats 1000000 in
theorem rint_any (g : Nat) (A : Option Addr) (n c at' : Nat) (bs : List UInt8) (B : Nat) (w : World) (hR : RRd w g A n c at' 0) (hb : RdB w B A n bs) (ha : at'≤n) (hn : n≤1000000000000) :
    Calls Tryz.prog 46 #[.pointer (some ⟨g,0,none⟩)] w (RInt w g A n c at' bs):=by
  have c0 : w.cell? ⟨g,0,none⟩ = some (.slice A n c):=hR.cell 0;have c1 : w.cell? ⟨g,1,none⟩ = some (.int .i64 (at' : Nat)):=hR.cell 1;have c2 : w.cell? ⟨g,2,none⟩ = some (.int .i64 0):=hR.cell 2;have f1:=hR.free 1;have f2:=hR.free 2;obtain rfl:=hb.1
  go_enter Tryz.func46,Tryz.ntmps46
  go_wp2_with fail
  go_loopw [3,4,5,6] (fun v p s j wr=>∃ (i m nn P : Nat),i≤6∧j = .int .i64 i∧v = .int .i64 nn∧p = .int .i64 P∧s = .int .i64 0∧P = 128 ^ i∧nn < P∧at' + i≤bs.length∧Vint.dec (bs.drop at') = Vint.decF (6 - i) i nn (bs.drop (at' + i))∧wr = w.drewN m) (fun _ _ _ j _=>6 - (intOf j).toNat)
  case atStart=>exact ⟨0,0,0,1,by omega,rfl,rfl,rfl,rfl,rfl,by omega,ha,rfl,rfl⟩
  case round =>
    obtain ⟨i,m,nn,P,hi,rfl,rfl,rfl,rfl,hP,hnn,hai,hdec,rfl⟩:=hrel;have HP:=Lib.hid hP;have HD:=Lib.hid hdec;clear hP hdec;obtain ⟨q,hq⟩ : ∃ q,at' + i = q:=⟨_,rfl⟩
    by_cases h6 : i < 6
    · have hPb:=Vint.pow128 h6
      rw [← HP.out] at hPb;have hP1:=hPb.1;have hP2:=hPb.2;clear hPb
      have ew : IntKind.i64.wrap ((at' : Int) + (i : Int)) = (q : Int):=by rw [IntWalk.i64_in _ (by omega)];omega
      by_cases hql : q < bs.length
      · obtain ⟨a,rfl,_,hcell⟩:=hb.at_ hql
        obtain ⟨x,hx⟩ : ∃ x,x = bs[q]:=⟨_,rfl⟩;rw [← hx] at hcell
        have hdr : bs.drop q = x :: bs.drop (q + 1):=by rw [hx];exact List.drop_eq_getElem_cons hql
        have HDR:=Lib.hid hdr;have HQ:=Lib.hid hq;clear hx hdr hq;have hxb:=x.toNat_lt;have hd6 : decide ((i : Int) < 6) = true:=decide_eq_true (by omega);have hdq : decide (bs.length≤q) = false:=decide_eq_false (by omega);obtain ⟨V,hV⟩ : ∃ V,V = x.toNat % 128 * P:=⟨_,rfl⟩
        have hVb : V≤127 * P:=by rw [hV];exact Nat.mul_le_mul_right _ (by omega)
        have em : IntKind.i64.wrap ((x.toNat : Int) % 128 * (P : Int)) = (V : Int):=by
          have e : (x.toNat : Int) % 128 * (P : Int) = (V : Int):=by rw [hV];push_cast;rfl
          rw [e,IntWalk.i64_in _ (by omega)]
        have HV:=Lib.hid hV;clear hV
        by_cases hc : 128≤x.toNat
        · have hd : decide ((x.toNat : Int) < 128) = false:=decide_eq_false (by omega)
          go_wp2_with fail
          go_quiet (fail)
          go_wp2_with fail
          go_quiet (fail)
          go_wp2_with fail
          go_roundw
          case rel =>
            refine ⟨i + 1,_,nn + V,P * 128,by omega,by go_num,by go_num,by go_num,rfl,by rw [HP.out,Nat.pow_succ],by omega,by have:=HQ.out;omega,?_,rfl⟩;rw [HD.out,show at' + (i + 1) = q + 1 by have:=HQ.out;omega,HQ.out,HDR.out,Vint.decF_more h6 _ hc,← HP.out,← HV.out]
          case measure=>simp [intOf];omega
        have hd : decide ((x.toNat : Int) < 128) = true:=decide_eq_true (by omega)
        have hVx : V = x.toNat * P:=by rw [HV.out,Nat.mod_eq_of_lt (by omega)]
        have HVX:=Lib.hid hVx;clear hVx;obtain ⟨N,hN⟩ : ∃ N,N = nn + V:=⟨_,rfl⟩
        have eN : IntKind.i64.wrap ((nn : Int) + (V : Int)) = (N : Int):=by rw [IntWalk.i64_in _ (by omega)];omega
        have HN:=Lib.hid hN;clear hN
        have hs0 : ((i : Int) + 1 == 0) = false:=by rw [beq_eq_false_iff_ne];omega
        by_cases hbig : Vint.top < N
        · have hdt : decide ((1099511627776 : Int) < (N : Int)) = true:=decide_eq_true (by unfold Vint.top at hbig;omega)
          have hdec : Vint.dec (bs.drop at') = .error 4:=by
            rw [HD.out,HQ.out,HDR.out];exact Vint.decF_bad h6 _ (by omega) (.inl (by rw [← HP.out,← HVX.out,← HN.out];exact hbig))
          have HDD:=Lib.hid hdec;clear hdec hbig;go_wp2_with fail
          go_quiet (fail)
          go_wp2_with fail
          go_quiet (fail)
          go_wp2_with fail
          go_quiet (fail)
          go_wp2_with fail;go_ret;exact RInt.bad HDD.out rfl (hR.set_ 2 (.int .i64 4)) (only_set (only_drewN (World.grownBy.refl _ _) _) _)
        have hdt : decide ((1099511627776 : Int) < (N : Int)) = false:=decide_eq_false (by unfold Vint.top at hbig;omega);obtain ⟨q1,hq1⟩ : ∃ q1,q1 = q + 1:=⟨_,rfl⟩
        have e1 : IntKind.i64.wrap ((at' : Int) + ((i : Int) + 1)) = (q1 : Int):=by rw [IntWalk.i64_in _ (by omega)];have:=HQ.out;omega
        have e2 : IntKind.i64.wrap ((q1 : Int) - 1) = (q : Int):=by rw [IntWalk.i64_in _ (by omega)];omega
        have hfin : bs.length - (bs.drop (q + 1)).length = q1:=by rw [List.length_drop];omega
        have HF:=Lib.hid hfin;have HQ1:=Lib.hid hq1;clear hfin hq1
        by_cases hgood : x.toNat ≠ 0∨i = 0
        · have hdec : Vint.dec (bs.drop at') = .ok (N,bs.drop (q + 1)):=by
            rw [HD.out,HQ.out,HDR.out,HN.out,HVX.out,HP.out];exact Vint.decF_good h6 _ (by omega) (by rw [← HP.out,← HVX.out,← HN.out];omega) hgood
          have HDD:=Lib.hid hdec;clear hdec hbig
          by_cases hi0 : i = 0
          · subst hi0
            clear hgood
            have hqa : at' = q:=by have:=HQ.out;omega
            subst hqa
            have e1' : IntKind.i64.wrap ((at' : Int) + 1) = (q1 : Int):=by rw [IntWalk.i64_in _ (by omega)];have:=HQ1.out;omega
            go_wp2_with fail
            go_quiet (fail)
            go_wp2_with fail
            go_quiet (fail)
            go_wp2_with fail
            go_quiet (fail)
            go_wp2_with fail;go_ret;have hs:=hR.set_ 1 (.int .i64 (q1 : Nat));refine RInt.good HDD.out rfl ?_ (only_set (only_drewN (World.grownBy.refl _ _) _) _);rw [HF.out];exact hs
          · have hx0 : x.toNat ≠ 0:=by omega
            have hi1 : 0 < i:=by omega
            have hi2 : decide ((1 : Int) < (i : Int) + 1) = true:=decide_eq_true (by omega);have hi3 : decide (0 < (i : Int)) = true:=decide_eq_true (by omega);have hi4 : decide (0 < i) = true:=decide_eq_true (by omega)
            have hxq : ((x.toNat : Int) == 0) = false:=by rw [beq_eq_false_iff_ne];omega
            clear hgood;go_wp2_with fail
            go_quiet (fail)
            go_wp2_with fail
            go_quiet (fail)
            go_wp2_with fail
            go_quiet (fail)
            go_wp2_with fail;go_ret;have hs:=hR.set_ 1 (.int .i64 (q1 : Nat));refine RInt.good HDD.out rfl ?_ (only_set (only_drewN (World.grownBy.refl _ _) _) _);rw [HF.out];exact hs
        · have hx0 : x.toNat = 0:=by omega
          have hi1 : 0 < i:=by omega
          have hi2 : decide ((1 : Int) < (i : Int) + 1) = true:=decide_eq_true (by omega);have hi3 : decide (0 < (i : Int)) = true:=decide_eq_true (by omega);have hi4 : decide (0 < i) = true:=decide_eq_true (by omega)
          have hdec : Vint.dec (bs.drop at') = .error 4:=by
            rw [HD.out,HQ.out,HDR.out];exact Vint.decF_bad h6 _ (by omega) (.inr ⟨hx0,hi1⟩)
          have HDD:=Lib.hid hdec
          have hxq : ((x.toNat : Int) == 0) = true:=by rw [beq_iff_eq];omega
          clear hdec hbig hgood hx0;go_wp2_with fail
          go_quiet (fail)
          go_wp2_with fail
          go_quiet (fail)
          go_wp2_with fail
          go_quiet (fail)
          go_wp2_with fail;go_ret;exact RInt.bad HDD.out rfl (hR.set_ 2 (.int .i64 4)) (only_set (only_drewN (World.grownBy.refl _ _) _) _)
      · have hqe : bs.length≤q:=by omega
        have hdec : Vint.dec (bs.drop at') = .error 3:=by
          rw [HD.out,List.drop_eq_nil_of_le (by omega),Vint.decF_nil h6]
        have HDD:=Lib.hid hdec;clear hdec hq;have hd6 : decide ((i : Int) < 6) = true:=decide_eq_true (by omega);have hdq : decide (bs.length≤q) = true:=decide_eq_true (by omega);go_wp2_with fail
        go_quiet (fail)
        go_wp2_with fail;go_ret;exact RInt.bad HDD.out rfl (hR.set_ 2 (.int .i64 3)) (only_set (only_drewN (World.grownBy.refl _ _) _) _)
    · obtain rfl : i = 6:=by omega
      have hdec : Vint.dec (bs.drop at') = .error 4:=HD.out;have HDD:=Lib.hid hdec;clear hdec hq;go_wp2_with fail
      go_quiet (fail)
      go_wp2_with fail;go_ret;exact RInt.bad HDD.out rfl (hR.set_ 2 (.int .i64 4)) (only_set (only_drewN (World.grownBy.refl _ _) _) _)
end Go.Proofs.YtfpenfgmpbdakaaGreat

namespace Go.Proofs.YtfpenfgmpbdakaaGreat
set_option linter.unusedVariables false
set_option linter.unusedSimpArgs false
set_option maxRecDepth 100000
open Go.RowKit
namespace Frame
def RGetF (w : World) (bs : List UInt8) (e : Ending) (w' : World) : Prop :=
  Below w.heap.size w w'∧match dec bs with
    | .ok (x,r)=>∃ A1 c1 A2 c2,e = .returned (.tuple #[.slice A1 x.length c1,.slice A2 r.length c2,.int .i64 0])∧OwnB w' w.heap.size A1 x.length c1 x∧OwnB w' w.heap.size A2 r.length c2 r
    | .error y=>e = .returned (.tuple #[.slice none 0 0,.slice none 0 0,.int .i64 (y : Nat)])
theorem RGetF.bad {w w' : World} {bs : List UInt8} {e : Ending} {y : Nat} (h : dec bs = .error y) (he : e = .returned (.tuple #[.slice none 0 0,.slice none 0 0,.int .i64 (y : Nat)])) (hb : Below w.heap.size w w') : RGetF w bs e w':=by
  unfold RGetF
  rw [h];exact ⟨hb,he⟩
theorem RGetF.good {w w' : World} {bs x r : List UInt8} {e : Ending} {A5 A6 : Option Addr} {n5 n6 c5 c6 base : Nat} (hd : dec bs = .ok (x,r)) (hbase : w.heap.size≤base) (h5 : OwnB w' base A5 n5 c5 x) (h6 : OwnB w' base A6 n6 c6 r) (he : e = .returned (.tuple #[.slice A5 n5 c5,.slice A6 n6 c6,.int .i64 0])) (hb : Below w.heap.size w w') : RGetF w bs e w':=by
  unfold RGetF
  rw [hd];obtain rfl:=h5.1;obtain rfl:=h6.1;exact ⟨hb,A5,c5,A6,c6,he,h5.mono hbase,h6.mono hbase⟩
theorem apart_last {w : World} {base n c s : Nat} {A : Option Addr} {bs : List UInt8} (h : OwnB w base A n c bs) (hs : w.heap.size = s) : A.map (·.block) = none∨A.map (·.block) ≠ some s:=.inr fun e=>by have:=(h.lt _ e).2;omega
theorem apart_moved {A : Option Addr} {b s g : Nat} (h : Moved A (some b) s) (h1 : b ≠ g) (h2 : s ≠ g) : A.map (·.block) = none∨A.map (·.block) ≠ some g:=.inr fun e=>by
  rcases h with h | h
  · rw [h] at e;injection e with e;exact h1 e
  · rw [h] at e;injection e with e;exact h2 e
theorem addNZ (a : Addr) (n : Nat) (hn : n ≠ 0) : a.add n = ⟨a.block,a.off + n,none⟩:=by unfold Addr.add;rw [if_neg hn]
theorem blk_at {w : World} {g : Nat} {t : TypeId} {cs : Array Value} (h : w.heap.size = g) : Blk (w.alloc (.cells cs t)) g t cs:=h ▸ Blk.new w t cs
theorem bnext {a w : World} (h : Below a.heap.size a w) (o : Obj) : Below a.heap.size a (w.alloc o):=h.alloc h.size o
theorem own_emp {w : World} {g base : Nat} (h : Blk w g 5 #[]) (hb : base≤g) : OwnB w base (some ⟨g,0,none⟩) 0 0 [] :=
  ⟨rfl,rfl,.inr ⟨g,0,#[],rfl,hb,h,Nat.le_refl _,Nat.zero_le _,rfl,rfl⟩⟩
theorem four {l : List UInt8} {E : Nat} {z0 z1 z2 z3 : UInt8} (h0 : l[E]? = some z0) (h1 : l[E + 1]? = some z1) (h2 : l[E + 2]? = some z2) (h3 : l[E + 3]? = some z3) : (l.drop E).take 4 = [z0,z1,z2,z3]:=by
  apply List.ext_getElem?
  intro i;rw [List.getElem?_take]
  match i with
  | 0=>simpa using h0
  | 1=>simpa using h1
  | 2=>simpa using h2
  | 3=>simpa using h3
  | i + 4 =>
    rw [if_neg (by omega)]
    rfl
theorem be_four {S : Nat} {z0 z1 z2 z3 : UInt8} (hS : S < 4294967296) : ([z0,z1,z2,z3] = be S)↔((z0.toNat : Int) = (S : Int) / 16777216∧(z1.toNat : Int) = (S : Int) / 65536 % 256∧(z2.toNat : Int) = (S : Int) / 256 % 256∧(z3.toNat : Int) = (S : Int) % 256):=by
  unfold be
  simp only [List.cons.injEq,and_true,← UInt8.toNat_inj,Vint.toNat_ofNat]
  constructor
  · rintro ⟨a,b,c,d⟩;omega
  · rintro ⟨a,b,c,d⟩;omega
set_option maxRecDepth 100000 in
set_option maxHeartbeats 1000000 in
theorem rget_any (A : Option Addr) (n c : Nat) (bs : List UInt8) (B : Nat) (w : World) (hb : RdB w B A n bs) (hB : B≤w.heap.size) (hl : n≤1000000000000) (hc : n≤c) (hm : c≤maxLen) :
    Calls Tryz.prog 97 #[.slice A n c] w (RGetF w bs):=by
  obtain rfl:=hb.1
  unfold maxLen at hm
  rcases bs with _ | ⟨v,t⟩
  · go_enter Tryz.func97,Tryz.ntmps97
    go_wp2_with fail;go_ret3;exact RGetF.bad dec_nil rfl (Below.refl _ _)
  have hd0 : (((v :: t).length : Int) == 0) = false:=by rw [beq_eq_false_iff_ne];simp;omega
  obtain ⟨a,rfl,hab,hv0⟩:=hb.at_ (k:=0) (by simp)
  have hv1 : w.cell? a = some (bv v):=by simpa [go_sem] using hv0
  clear hv0;obtain ⟨L,hL⟩ : ∃ L,L = (v :: t).length:=⟨_,rfl⟩;rw [← hL] at hb hl hc hd0 ⊢
  have hLt : t.length + 1 = L:=by rw [hL];simp
  have hd1 : 0 < L:=by omega
  clear hL
  by_cases hv : v ≠ 1
  · have hq : ((v.toNat : Int) != 1) = true:=by
      rw [bne_iff_ne];intro e;exact hv (UInt8.toNat_inj.1 (by show v.toNat = 1;omega))
    go_enter Tryz.func97,Tryz.ntmps97
    go_wp2_with fail;go_ret3;exact RGetF.bad (dec_form hv) rfl (Below.refl _ _)
  have hv:=Decidable.not_not.1 hv
  have hq : ((v.toNat : Int) != 1) = false:=by rw [hv];rfl
  have HV:=Lib.hid hv;clear hv
  go_enter Tryz.func97,Tryz.ntmps97
  go_wp2_with fail;refine (rint_any _ _ _ _ 1 (v :: t) B _ (Blk.new _ _ _) (hb.alloc hB _) (by omega) (by omega)).mono ?_;rintro e w2 ⟨hg2,hm2⟩;have hb2 : Below w.heap.size w w2:=((Below.refl _ _).alloc (Nat.le_refl _) _).trans (only_Below hg2 (Nat.le_refl _) (by simp));rw [show (v :: t).drop 1 = t from rfl] at hm2;clear hg2
  rcases hdt : Vint.dec t with x | ⟨k,r⟩
  · rw [hdt] at hm2
    simp only at hm2
    obtain ⟨rfl,hR2⟩:=hm2
    have hx : x ≠ 0:=by have:=Vint.dec_err hdt;omega
    have hq0 : ((x : Int) != 0) = true:=by rw [bne_iff_ne];omega
    have c2 : w2.cell? ⟨w.heap.size,2,none⟩ = some (.int .i64 (x : Nat)):=hR2.cell 2;have HD:=Lib.hid hdt;clear hdt;go_wp2_with fail
    go_quiet (fail)
    go_wp2_with fail;go_ret3;refine RGetF.bad (y:=x) ?_ rfl (below_drewN hb2 _);rw [HV.out];exact dec_int HD.out
  rw [hdt] at hm2
  simp only at hm2
  obtain ⟨rfl,hR2⟩:=hm2;have hkt:=(Vint.dec_ok hdt).2;have hrl:=(Vint.dec_ok_lt hdt).1
  unfold Vint.top at hkt
  obtain ⟨q,hq9⟩ : ∃ q,q = r.length:=⟨_,rfl⟩;rw [← hq9] at hR2 hrl;have HQ:=Lib.hid hq9;have HD:=Lib.hid hdt;clear hdt hq9;obtain ⟨H,hH⟩ : ∃ H,H = L - q:=⟨_,rfl⟩;rw [← hH] at hR2
  have hHq : H + q = L:=by omega
  have HH:=Lib.hid hHq
  have hHL : H≤L:=by omega
  have c1 : w2.cell? ⟨w.heap.size,1,none⟩ = some (.int .i64 (H : Nat)):=hR2.cell 1;have c2 : w2.cell? ⟨w.heap.size,2,none⟩ = some (.int .i64 0):=hR2.cell 2;clear hH hHq
  by_cases hk : 4096 < k
  · have hdk : decide ((4096 : Int) < (k : Int)) = true:=decide_eq_true (by omega)
    go_wp2_with fail;go_ret3;refine RGetF.bad (y:=6) ?_ rfl hb2;rw [HV.out];exact dec_size HD.out hk
  have hdk : decide ((4096 : Int) < (k : Int)) = false:=decide_eq_false (by omega);obtain ⟨E,hE⟩ : ∃ E,H + k = E:=⟨_,rfl⟩
  have eE : IntKind.i64.wrap ((H : Int) + (k : Int)) = (E : Int):=by rw [IntWalk.i64_in _ (by omega)];omega
  have HE:=Lib.hid hE
  have hEb : E≤1000000005000:=by omega
  clear hE
  by_cases hs : L < E + 4
  · have hdk : decide ((L : Int) < (E : Int) + 4) = true:=decide_eq_true (by omega)
    go_wp2_with fail;go_ret3;refine RGetF.bad (y:=3) ?_ rfl hb2;rw [HV.out];exact dec_short HD.out (by omega) (by rw [← HQ.out];have:=HE.out;have:=HH.out;omega)
  have hdk : decide ((L : Int) < (E : Int) + 4) = false:=decide_eq_false (by omega)
  have hEL : E + 4≤L:=by omega
  have hcE : E≤c:=by omega
  have hbw : RdB w2 B (some a) L (v :: t):=hb.below (hb2.mono hB);have rdP : RdB w2 B (some a) E ((v :: t).take E):=hbw.take (by omega);go_wp2_with fail;refine (Crc.rsum_any _ _ _ _ _ _ rdP (by unfold maxLen;omega)).mono ?_;rintro e w3 ⟨rfl,rfl⟩;have hsl:=Crc.sum_lt ((v :: t).take E);obtain ⟨S,hS⟩ : ∃ S,S = Crc.sum ((v :: t).take E):=⟨_,rfl⟩;rw [← hS] at hsl ⊢;have HS:=Lib.hid hS;clear hS
  have hcell : ∀ i,i < 4→∃ z,(v :: t)[E + i]? = some z∧w2.cell? (a.add (E + i)) = some (bv z):=by
    intro i hi;obtain ⟨a',e,_,hc⟩:=hbw.at_ (k:=E + i) (by have:=hbw.1;omega)
    injection e with e
    subst e;exact ⟨_,List.getElem?_eq_getElem (by have:=hbw.1;omega),hc⟩
  obtain ⟨z0,p0,q0⟩:=hcell 0 (by omega);obtain ⟨z1,p1,q1⟩:=hcell 1 (by omega);obtain ⟨z2,p2,q2⟩:=hcell 2 (by omega);obtain ⟨z3,p3,q3⟩:=hcell 3 (by omega);rw [Nat.add_zero] at p0 q0;rw [addNZ a _ (by omega)] at q1 q2 q3;have HP0:=Lib.hid p0;have HP1:=Lib.hid p1;have HP2:=Lib.hid p2;have HP3:=Lib.hid p3;clear p0 p1 p2 p3 hcell
  have hdrop : ((v :: t).drop E).take 4 = (r.drop k).take 4:=by
    have e1:=(Vint.dec_ok HD.out).1;have l1:=congrArg List.length e1;rw [List.length_append,← HQ.out] at l1;rw [← HE.out,← List.drop_drop]
    congr 2
    have e2 : v :: t = (v :: Vint.enc k) ++ r:=by rw [e1];rfl
    have:=HH.out
    rw [e2,show H = (v :: Vint.enc k).length by rw [List.length_cons];omega,List.drop_left]
  have hsum : (v :: t).length - r.length + k = E:=by
    rw [← HQ.out,List.length_cons,hLt]
    have:=HH.out
    have:=HE.out
    omega
  have hbad : ¬ [z0,z1,z2,z3] = be S→dec (v :: t) = .error 5:=by
    intro h;rw [HV.out];refine dec_sum HD.out (by omega) (by rw [← HQ.out];have:=HH.out;have:=HE.out;omega) ?_;rw [← hdrop,four HP0.out HP1.out HP2.out HP3.out,← HV.out,hsum,← HS.out];exact h
  have hgood : [z0,z1,z2,z3] = be S→dec (v :: t) = .ok (r.take k,r.drop (k + 4)):=by
    intro h;rw [HV.out];refine dec_good HD.out (by omega) (by rw [← HQ.out];have:=HH.out;have:=HE.out;omega) ?_;rw [← hdrop,four HP0.out HP1.out HP2.out HP3.out,← HV.out,hsum,← HS.out];exact h
  rw [be_four hsl] at hbad hgood;have HB:=Lib.hid hbad;have HG:=Lib.hid hgood;clear hdrop hsum hbad hgood
  go_upto_region 15 with fail
  by_cases e0 : (z0.toNat : Int) = (S : Int) / 16777216
  case neg =>
    have t0 : ((z0.toNat : Int) != (S : Int) / 16777216) = true:=by rw [bne_iff_ne];exact e0
    have HZ:=Lib.hid e0;clear e0;go_wp2_with fail;go_ret3;exact RGetF.bad (HB.out fun h=>HZ.out h.1) rfl hb2
  have t0 : ((z0.toNat : Int) != (S : Int) / 16777216) = false:=by rw [bne_eq_false_iff_eq];exact e0
  have H0:=Lib.hid e0;clear e0
  by_cases e1 : (z1.toNat : Int) = (S : Int) / 65536 % 256
  case neg =>
    have t1 : ((z1.toNat : Int) != (S : Int) / 65536 % 256) = true:=by rw [bne_iff_ne];exact e1
    have HZ:=Lib.hid e1;clear e1;go_wp2_with fail;go_ret3;exact RGetF.bad (HB.out fun h=>HZ.out h.2.1) rfl hb2
  have t1 : ((z1.toNat : Int) != (S : Int) / 65536 % 256) = false:=by rw [bne_eq_false_iff_eq];exact e1
  have H1:=Lib.hid e1;clear e1
  by_cases e2 : (z2.toNat : Int) = (S : Int) / 256 % 256
  case neg =>
    have t2 : ((z2.toNat : Int) != (S : Int) / 256 % 256) = true:=by rw [bne_iff_ne];exact e2
    have HZ:=Lib.hid e2;clear e2;go_wp2_with fail;go_ret3;exact RGetF.bad (HB.out fun h=>HZ.out h.2.2.1) rfl hb2
  have t2 : ((z2.toNat : Int) != (S : Int) / 256 % 256) = false:=by rw [bne_eq_false_iff_eq];exact e2
  have H2:=Lib.hid e2;clear e2
  by_cases e3 : (z3.toNat : Int) = (S : Int) % 256
  case neg =>
    have t3 : ((z3.toNat : Int) != (S : Int) % 256) = true:=by rw [bne_iff_ne];exact e3
    have HZ:=Lib.hid e3;clear e3;go_wp2_with fail;go_ret3;exact RGetF.bad (HB.out fun h=>HZ.out h.2.2.2) rfl hb2
  have t3 : ((z3.toNat : Int) != (S : Int) % 256) = false:=by rw [bne_eq_false_iff_eq];exact e3
  have hdec:=HG.out ⟨H0.out,H1.out,H2.out,e3⟩;have HDE:=Lib.hid hdec;clear e3 hdec;go_wp2_with fail;obtain ⟨E4,hE4⟩ : ∃ E4,E4 = E + 4:=⟨_,rfl⟩;obtain ⟨m,hm⟩ : ∃ m,m = L - E4:=⟨_,rfl⟩;obtain ⟨A2,hA2⟩ : ∃ A2,A2 = (if c = E4 then some a else some (a.add E4)):=⟨_,rfl⟩;have hA3:=hA2.symm
  have rdX : ∀ w',Below w2.heap.size w2 w'→RdB w' B (some (a.add H)) k (r.take k):=fun w' hb'=>by
    have e1:=(Vint.dec_ok HD.out).1;have l1:=congrArg List.length e1;rw [List.length_append,← HQ.out] at l1
    have e2 : (v :: t).drop H = r:=by
      have e2 : v :: t = (v :: Vint.enc k) ++ r:=by rw [e1];rfl
      have:=HH.out
      rw [e2,show H = (v :: Vint.enc k).length by rw [List.length_cons];omega,List.drop_left]
    have:=((hbw.below (hb'.mono (Nat.le_trans hB hb2.size))).drop H).take (k:=k) (by have:=HH.out;have:=HE.out;omega)
    rw [e2] at this;exact this
  have rdY : ∀ w',Below w2.heap.size w2 w'→RdB w' B A2 m (r.drop (k + 4)):=fun w' hb'=>by
    have e1:=(Vint.dec_ok HD.out).1;have l1:=congrArg List.length e1;rw [List.length_append,← HQ.out] at l1
    have e2 : (v :: t).drop E4 = r.drop (k + 4):=by
      have e2 : v :: t = (v :: Vint.enc k) ++ r:=by rw [e1];rfl
      have:=HH.out
      have:=HE.out
      rw [e2,show E4 = (v :: Vint.enc k).length + (k + 4) by rw [List.length_cons];omega,← List.drop_drop,List.drop_left]
    have:=(hbw.below (hb'.mono (Nat.le_trans hB hb2.size))).drop E4
    rw [e2,← hm] at this;rw [hA2]
    split
    · have h0 : m = 0:=by omega
      rw [h0] at this ⊢;have : r.drop (k + 4) = []:=List.eq_nil_of_length_eq_zero this.1.symm;rw [this];exact RdB.nil _ _ _
    · exact this
  have RX:=Lib.hid rdX;have RY:=Lib.hid rdY
  have eE5 : (E : Int) + 4 = (E4 : Int):=by omega
  have ew5 : IntKind.i64.wrap (E4 : Int) = (E4 : Int):=IntWalk.i64_in _ (by omega)
  have le1 : E4≤c:=by omega
  have le2 : E4≤L:=by omega
  have le3 : L - E4 = m:=hm.symm
  have le4 : H≤E:=by have:=HE.out;omega
  have le5 : E≤c:=by omega
  have le6 : E - H = k:=by have:=HE.out;omega
  have le7 : ¬ c = H:=by have:=HE.out;omega
  have hml : m≤1000000000000:=by omega
  have hB2 : w.heap.size < w2.heap.size:=by have:=hR2.lt;exact this
  clear rdX rdY hm hA2 hE4
  go_region_held3 (fun w'=>w'.cell? ⟨w.heap.size,1,none⟩ = some (.int .i64 (H : Nat)))
    (first
      | go_keep
      | (rw [below5.cell (p:=⟨w.heap.size,1,none⟩) hB2];go_keep)
      | (rw [below6.cell (p:=⟨w.heap.size,1,none⟩) hB2];go_keep)
      | (rw [below5.cell (p:=⟨w.heap.size,1,none⟩) hB2];assumption)
      | (rw [below6.cell (p:=⟨w.heap.size,1,none⟩) hB2];assumption))
    (first
      | ((refine step_appB rfl (.tmp 87) (.tmp 94) rfl (by rfl) (own_emp (base:=w2.heap.size) (by first | exact Blk.new _ _ _ | exact (Blk.new _ _ _).drew | exact ((Blk.new _ _ _).alloc _).drew | exact (blk_at (by simp)).drew | exact blk_at (by simp) | exact (((Blk.new _ _ _).alloc _).drew).grown grown6 (by simp) | exact ((blk_at (by simp)).drew).grown grown6 (by simp) | exact ((Blk.new _ _ _).drew).grown grown6 (by simp)) (by first | exact Nat.le_refl _ | (simp;done) | (simp;omega) | (have:=below6.size;simp at this ⊢;omega))) (by rfl) (RX.out _ (by first | exact (bnext (Below.refl _ _) _).drew | exact (bnext (bnext (Below.refl _ _) _) _).drew | exact bnext (((bnext (Below.refl _ _) _).drew).trans below6) _ | exact ((bnext (bnext (Below.refl _ _) _) _).drew).trans below6)) (by omega) (by first | exact Nat.le_refl _ | (simp;done) | (simp;omega) | (have:=below6.size;simp at this ⊢;omega)) ?_;intro A5 c5 w5 own5 grown5 moved5 below5;rw [Nat.zero_add,List.nil_append] at own5))
      | ((refine step_appB rfl (.tmp 96) (.tmp 100) rfl (by rfl) (own_emp (base:=w2.heap.size) (by first | exact Blk.new _ _ _ | exact (Blk.new _ _ _).drew | exact ((Blk.new _ _ _).alloc _).drew | exact (blk_at (by simp)).drew | exact blk_at (by simp) | exact (((Blk.new _ _ _).alloc _).drew).grown grown5 (by simp) | exact ((blk_at (by simp)).drew).grown grown5 (by simp) | exact ((Blk.new _ _ _).drew).grown grown5 (by simp)) (by first | exact Nat.le_refl _ | (simp;done) | (simp;omega) | (have:=below5.size;simp at this ⊢;omega))) (by rfl) (RY.out _ (by first | exact (bnext (Below.refl _ _) _).drew | exact (bnext (bnext (Below.refl _ _) _) _).drew | exact bnext (((bnext (Below.refl _ _) _).drew).trans below5) _ | exact ((bnext (bnext (Below.refl _ _) _) _).drew).trans below5)) (by omega) (by first | exact Nat.le_refl _ | (simp;done) | (simp;omega) | (have:=below5.size;simp at this ⊢;omega)) ?_;intro A6 c6 w6 own6 grown6 moved6 below6;rw [Nat.zero_add,List.nil_append] at own6)))
  all_goals
    go_wp2_with fail;go_ret3
    refine RGetF.good HDE.out (Nat.le_of_lt hB2) (base:=w2.heap.size) (by first
      | exact own5
      | exact own5.grown grown6 (apart_moved moved5 (by simp <;> omega) (by simp <;> omega))
      | exact (own5.alloc _).grown grown6 (apart_last own5 (by simp))) (by first
      | exact own6
      | exact own6.grown grown5 (apart_moved moved6 (by simp <;> omega) (by simp <;> omega))
      | exact (own6.alloc _).grown grown5 (apart_last own6 (by simp))) rfl ?_
    refine hb2.trans (Below.mono ?_ (Nat.le_of_lt hB2))
    first
      | exact (bnext (((bnext (Below.refl _ _) _).drew).trans below5) _).trans below6
      | exact (bnext (((bnext (Below.refl _ _) _).drew).trans below6) _).trans below5
      | exact (((bnext (bnext (Below.refl _ _) _) _).drew).trans below5).trans below6
      | exact (((bnext (bnext (Below.refl _ _) _) _).drew).trans below6).trans below5
end Frame
end Go.Proofs.YtfpenfgmpbdakaaGreat

namespace Go.Proofs.YtfpenfgmpbdakaaGreat
set_option linter.unusedVariables false
set_option linter.unusedSimpArgs false
set_option maxRecDepth 100000
open Go.RowKit
namespace Frame
set_option maxRecDepth 100000 in
set_option maxHeartbeats 400000 in
theorem rall_any (A : Option Addr) (n c : Nat) (bs : List UInt8) (B : Nat) (w : World) (hb : RdB w B A n bs) (hB : B≤w.heap.size) (hl : n≤1000000000000) (hc : n≤c) (hm : c≤maxLen) :
    Calls Tryz.prog 72 #[.slice A n c] w (AllF w bs):=by
  obtain rfl:=hb.1
  go_enter Tryz.func72,Tryz.ntmps72
  go_wp2_with fail
  go_loopw [4,5] (fun v q wr=>∃ (l : List (List UInt8)) (r : List UInt8) (A' : Option Addr) (c' : Nat) (D : Option Addr) (d : Nat),bs = frms l ++ r∧(∀ x ∈ l,x.length≤4096)∧v = .slice A' l.length c'∧q = .slice D r.length d∧Bods wr w.heap.size A' l.length c' l∧RdB wr wr.heap.size D r.length r∧r.length≤d∧d≤maxLen∧Below w.heap.size w wr) (fun _ q _=>match q with | .slice _ k _=>k | _=>0)
  case atStart=>exact ⟨[],bs,none,0,A,c,rfl,by simp,rfl,rfl,Bods.nil _ _,hb.size,hc,hm,Below.refl _ _⟩
  case round =>
    obtain ⟨l,r,A',c',D,d,hbs,hxl,rfl,rfl,hbo,hrd,hrc,hdm,hbel⟩:=hrel
    have hlen : (frms l).length + r.length = bs.length:=by rw [hbs,List.length_append]
    obtain ⟨m,hmm⟩ : ∃ m,m = (frms l).length:=⟨_,rfl⟩;rw [← hmm] at hlen;have HM:=Lib.hid hmm;have HBS:=Lib.hid hbs
    have hlw : l.length≤bs.length:=by
      have : l.length≤(frms l).length:=by
        clear hlen hxl hbo HM HBS hbs hmm
        induction l with
        | nil=>simp
        | cons x l ih=>rw [frms_cons,List.length_append,List.length_cons];have:=frm_pos x;omega
      omega
    clear hmm hbs;obtain ⟨R,hR⟩ : ∃ R,R = r.length:=⟨_,rfl⟩;rw [← hR] at hlen hrd hrc ⊢;have HR:=Lib.hid hR;clear hR
    rcases hd : dec r with y | ⟨x,z⟩
    · have hy:=dec_err hd
      have hy0 : ((y : Int) != 0) = true:=by rw [bne_iff_ne];omega
      have HD:=Lib.hid hd;clear hd hy
      have hw : IntKind.i64.wrap ((bs.length : Int) - (R : Int)) = (m : Int):=by rw [IntWalk.i64_in _ (by omega)];omega
      go_wp2_with fail;refine (rget_any _ _ _ r _ _ hrd (Nat.le_refl _) (by omega) hrc hdm).mono ?_;rintro e w1 ⟨hb1,he⟩;rw [HD.out] at he
      simp only at he
      subst he;have hbo1:=hbo.below hb1 (Nat.le_refl _);have hbel1:=hbel.trans (hb1.mono hbel.size);go_wp2_with fail;go_ret2;exact ⟨l,r,A',c',⟨HBS.out,hxl,y,HD.out⟩,by (show Ending.returned (.tuple #[.slice A' l.length c',.int .i64 (m : Nat)]) = _);rw [HM.out],hbo1,hbel1⟩
    · have HD:=Lib.hid hd
      obtain ⟨hfx,hx4⟩:=dec_ok hd
      have hfl : (frm x).length + z.length = r.length:=by rw [hfx,List.length_append]
      have hpos:=frm_pos x;rw [← HR.out] at hfl;have HF:=Lib.hid hfx;clear hd hfx;go_wp2_with fail;refine (rget_any _ _ _ r _ _ hrd (Nat.le_refl _) (by omega) hrc hdm).mono ?_;rintro e w1 ⟨hb1,he⟩;rw [HD.out] at he
      simp only at he
      obtain ⟨A1,c1,A2,c2,rfl,ho1,ho2⟩:=he;have hbo1:=hbo.below hb1 (Nat.le_refl _);have hbel1:=hbel.trans (hb1.mono hbel.size);have hs1:=hbel1.size
      go_wp2_with (at_builtin;refine wpList_appS2 rfl (.tmp 24) (.tmp 26) rfl rfl (hbo1.below ((Below.refl _ _).alloc (Nat.le_refl _) _) (Nat.le_refl _)) (e:=(A1,x.length,c1)) rfl (Rd.made _ _ _ _) ((ho1.alloc _).mono hbel.size) (by omega) ?hz1 ?_)
      case hz1=>simp;omega
      intro A5 c5 w3 hbo5 hb5 hkeep;have ho3:=hkeep _ _ _ _ _ (ho2.alloc _);have hle:=ownsRow_le ho3.2;have hbel5:=(hbel1.alloc hs1 _).trans hb5;go_wp2_with fail
      go_roundw
      case rel =>
        refine ⟨l ++ [x],z,A5,c5,A2,c2,?_,?_,?_,rfl,?_,ho3.rd,hle.1,hle.2,hbel5⟩
        · rw [frms_snoc,List.append_assoc,← HF.out]
          exact HBS.out
        · intro y hy
          rw [List.mem_append,List.mem_singleton] at hy
          rcases hy with hy | rfl
          · exact hxl y hy
          · exact hx4
        · simp
        · simpa using hbo5
      case measure=>simp;omega
end Frame
end Go.Proofs.YtfpenfgmpbdakaaGreat

namespace Go.Proofs.YtfpenfgmpbdakaaGreat
set_option linter.unusedVariables false
set_option linter.unusedSimpArgs false
set_option maxRecDepth 100000
open Go.RowKit
namespace Frame
theorem rput_long (A : Option Addr) (n c : Nat) (w : World) (hl : 4096 < n) :
    Calls Tryz.prog 78 #[.slice A n c] w fun e w'=>e = .returned (.tuple #[.slice none 0 0,.int .i64 6])∧w = w':=by
  have hd : decide ((4096 : Int) < (n : Int)) = true:=decide_eq_true (by omega)
  go_enter Tryz.func78,Tryz.ntmps78
  go_wp2_with fail;go_ret2;exact ⟨rfl,rfl⟩
theorem rput_ok (A : Option Addr) (n c : Nat) (bs : List UInt8) (B : Nat) (w : World) (hb : RdB w B A n bs) (hB : B≤w.heap.size) (hl : n≤4096) :
    Calls Tryz.prog 78 #[.slice A n c] w (GiveBE w (frm bs) 0):=by
  obtain rfl:=hb.1;have hd : decide ((4096 : Int) < (bs.length : Int)) = false:=decide_eq_false (by omega);have hel:=Vint.enc_length bs.length
  go_enter Tryz.func78,Tryz.ntmps78
  go_wp2_with fail;refine (Go.Proofs.YtfpenfgmpbdakaaGreat.rput_ok _ _ _ [1] bs.length _ _ (RdB.made _ [1] _ _ _ ?hx1) (by simp) (by simp) (by omega)).mono ?_
  case hx1=>rfl
  rintro e w1 ⟨A1,n1,c1,rfl,ho1,hb1⟩;have hbl1 : Below w.heap.size w w1:=((Below.refl _ _).alloc (Nat.le_refl _) _).trans (hb1.mono (by simp));have hr1:=(hb.more hB).below hbl1;have ho1':=ho1.mono (base':=w.heap.size) (by simp);have hn1:=ho1.1;rw [List.length_append] at hn1
  simp only [List.length_cons,List.length_nil] at hn1
  have hn7 : n1≤7:=by omega
  clear ho1 hel hn1
  go_wp2_with (at_builtin;refine wpList_appB rfl (.tmp 17) (.tmp 18) rfl rfl ho1' rfl hr1 ?hy0 hbl1.size ?_)
  case hy0=>omega
  intro A2 c2 w2 ho2 _ _ hbl2;have hb2:=hbl1.trans hbl2;have hd2 : OwnB w2 w.heap.size A2 (n1 + bs.length) c2 (head bs):=ho2;clear ho2;go_wp2_with fail;refine (Crc.rsum_any _ _ _ _ _ _ hd2.rd (by unfold maxLen;omega)).mono ?_;rintro e w3 ⟨rfl,rfl⟩;have hs:=Crc.sum_lt (head bs);obtain ⟨s,hs0⟩ : ∃ s,s = Crc.sum (head bs):=⟨_,rfl⟩;rw [← hs0] at hs ⊢;have HS0:=Lib.hid hs0;clear hs0
  go_wp2_with (at_builtin;refine wpList_appB rfl (.tmp 22) (.tmp 34) rfl rfl (hd2.alloc _) rfl (RdB.made _ (be s) _ _ _ ?hz1) ?hz0 ?hz2 ?_)
  case hz1=>simp [be,bv,Vint.toNat_ofNat];omega
  case hz0=>show n1 + bs.length + 4≤_;omega
  case hz2=>have:=hb2.size;simp;omega
  intro A4 c4 w4 ho4 _ _ hbl4;have hb4:=(hb2.alloc hb2.size _).trans hbl4;go_wp2_with fail;go_ret2;refine ⟨_,_,_,rfl,?_,hb4⟩;rw [HS0.out] at ho4;exact ho4
end Frame
end Go.Proofs.YtfpenfgmpbdakaaGreat

namespace Go.Proofs.YtfpenfgmpbdakaaGreat.Disk
set_option linter.unusedVariables false
set_option linter.unusedSimpArgs false
set_option maxRecDepth 100000
inductive U where
  | byte (c : UInt8)
  | swap (b : List UInt8)
def doU (out : List UInt8) : U→List UInt8
  | .byte c=>out ++ [c]
  | .swap b=>b
def afterU (b : List UInt8) (us : List U) : List UInt8:=us.foldl doU b
def exp : List W→List U
  | []=>[]
  | (true,b) :: r=>.swap b :: exp r
  | (false,b) :: r=>b.map .byte ++ exp r
def massU : List U→Nat
  | []=>0
  | .byte _ :: r=>1 + massU r
  | .swap b :: r=>b.length + massU r
theorem massU_append (a b : List U) : massU (a ++ b) = massU a + massU b:=by
  induction a with
  | nil=>simp [massU]
  | cons x r ih=>cases x <;> simp [massU,ih] <;> omega
theorem massU_bytes (b : List UInt8) : massU (b.map .byte) = b.length:=by
  induction b with
  | nil=>rfl
  | cons c r ih=>simp [massU,ih];omega
theorem exp_append (a b : List W) : exp (a ++ b) = exp a ++ exp b:=by
  induction a with
  | nil=>rfl
  | cons x r ih =>
    obtain ⟨s,y⟩:=x
    cases s <;> simp [exp,ih]
theorem exp_length (ws : List W) : (exp ws).length = pend ws:=by
  induction ws with
  | nil=>rfl
  | cons x r ih =>
    obtain ⟨s,y⟩:=x
    cases s <;> simp [exp,pend,units,ih] <;> omega
theorem exp_mass (ws : List W) : massU (exp ws) = mass ws:=by
  induction ws with
  | nil=>rfl
  | cons x r ih =>
    obtain ⟨s,y⟩:=x
    cases s
    · simp only [exp,mass,massU_append,massU_bytes,ih]
    · simp only [exp,mass,massU,ih]
theorem afterU_append (b : List UInt8) (a c : List U) : afterU b (a ++ c) = afterU (afterU b a) c:=List.foldl_append ..
theorem afterU_bytes (b x : List UInt8) : afterU b (x.map .byte) = b ++ x:=by
  induction x generalizing b with
  | nil=>simp [afterU]
  | cons c r ih =>
    have:=ih (b ++ [c])
    simp only [afterU,List.map_cons,List.foldl_cons,doU] at this ⊢
    rw [this];simp
theorem after_exp (b : List UInt8) (ws : List W) (n : Nat) : afterU b ((exp ws).take n) = afterL b ws n:=by
  induction ws generalizing b n with
  | nil=>simp [exp,afterU,afterL]
  | cons x r ih =>
    obtain ⟨s,y⟩:=x
    cases s
    · simp only [exp,afterL,units,doW]
      rw [List.take_append,afterU_append,← List.map_take,afterU_bytes,ih]
      simp
      have e1 : n - min n y.length = n - y.length:=by omega
      rw [e1,← List.take_take,List.take_length]
      by_cases h : 0 < min n y.length
      · rw [if_pos h]
      · rw [if_neg h]
        have : y.take n = []:=by
          rw [List.take_eq_nil_iff]
          by_cases h2 : n = 0
          · exact .inl h2
          · exact .inr (List.length_eq_zero_iff.1 (by omega))
        rw [this,List.append_nil]
    · simp only [exp,afterL,units,doW]
      cases n with
      | zero=>simp [afterU,after_zero]
      | succ n =>
        have e1 : min (n + 1) 1 = 1:=by omega
        simp only [if_true,e1]
        simp
        exact ih y n
theorem afterU_len (b : List UInt8) (us : List U) : (afterU b us).length≤b.length + massU us:=by
  induction us generalizing b with
  | nil=>simp [afterU,massU]
  | cons x r ih =>
    have:=ih (doU b x)
    cases x with
    | byte c=>simp [afterU,massU,doU] at *;omega
    | swap y=>simp [afterU,massU,doU] at *;omega
theorem massU_take (us : List U) (k : Nat) : massU (us.take k)≤massU us:=by
  conv=>rhs;rw [← List.take_append_drop k us,massU_append]
  omega
end Go.Proofs.YtfpenfgmpbdakaaGreat.Disk

namespace Go.Proofs.YtfpenfgmpbdakaaGreat
set_option linter.unusedVariables false
set_option linter.unusedSimpArgs false
set_option maxRecDepth 100000
open Go.RowKit
open Disk
def ucell : U × (Option Addr × Nat)→List Value
  | (.byte c,_)=>[.int .u8 (c.toNat : Int),.bool false,.slice none 0 0]
  | (.swap b,(A,c))=>[.int .u8 0,.bool true,.slice A b.length c]
def ucells (es : List (U × (Option Addr × Nat))) : List Value:=es.flatMap ucell
theorem ucell_len (e : U × (Option Addr × Nat)) : (ucell e).length = 3:=by
  obtain ⟨x,A,c⟩:=e
  cases x <;> rfl
theorem ucells_append (a b : List (U × (Option Addr × Nat))) : ucells (a ++ b) = ucells a ++ ucells b:=by simp [ucells]
theorem ucells_at (es : List (U × (Option Addr × Nat))) (i : Nat) (e : U × (Option Addr × Nat)) (h : es[i]? = some e) (j : Nat) (hj : j < 3) : (ucells es)[i * 3 + j]? = (ucell e)[j]?:=by
  induction es generalizing i with
  | nil=>simp at h
  | cons e0 r ih =>
    have hl:=ucell_len e0
    cases i with
    | zero =>
      simp at h;subst h
      simp only [ucells,List.flatMap_cons]
      rw [List.getElem?_append_left (by omega)]
      simp
    | succ i =>
      have:=ih i (by simpa using h)
      simp only [ucells,List.flatMap_cons] at this ⊢
      rw [List.getElem?_append_right (by omega),hl,show (i + 1) * 3 + j - 3 = i * 3 + j by omega];exact this
def UAt (w : World) (F : Nat→Prop) : U × (Option Addr × Nat)→Prop
  | (.byte _,_)=>True
  | (.swap b,(A,c))=>FB w F A b.length c b
structure RefE (w : World) (F : Nat→Prop) (g size : Nat) (lasts : List UInt8) (es : List (U × (Option Addr × Nat))) (AL : Option Addr) (cL : Nat) (AW : Option Addr) (cW : Nat) : Prop where
  mine : F g
  blk : Blk w g 78 #[.int .i64 (size : Nat),.slice AL lasts.length cL,.slice AW es.length cW]
  lasts : FB w F AL lasts.length cL lasts
  row : w.ownsRow 0 83 3 (.slice AW es.length cW) es.length (ucells es)
  rowF : ∀ k,AW.map (·.block) = some k→F k
  ents : ∀ e ∈ es,UAt w F e
  lt : ∀ k,F k→k < w.heap.size
def RefAt (w : World) (F : Nat→Prop) (g size : Nat) (lasts : List UInt8) (us : List U) : Prop:=∃ es AL cL AW cW,es.map (·.1) = us∧RefE w F g size lasts es AL cL AW cW
section
variable {w w' : World} {F F' : Nat→Prop} {g size n c cL cW : Nat} {A AL AW : Option Addr} {lasts bs : List UInt8} {es : List (U × (Option Addr × Nat))} {us : List U}
theorem UAt.keep {e : U × (Option Addr × Nat)} (h : UAt w F e) (hk : Keeps F w w') : UAt w' F e:=by
  obtain ⟨x,A,c⟩:=e
  cases x with
  | byte c=>trivial
  | swap b=>exact FB.keep h hk
theorem UAt.mono {e : U × (Option Addr × Nat)} (h : UAt w F e) (hF : ∀ k,F k→F' k) : UAt w F' e:=by
  obtain ⟨x,A,c⟩:=e
  cases x with
  | byte c=>trivial
  | swap b=>exact FB.mono h hF
theorem RefE.keep (h : RefE w F g size lasts es AL cL AW cW) (hk : Keeps F w w') : RefE w' F g size lasts es AL cL AW cW :=
  ⟨h.mine,(hk.block _ h.mine).trans h.blk,h.lasts.keep hk,ownsRow_keep h.row fun k hA=>hk.block k (h.rowF k hA),h.rowF,fun e he=>(h.ents e he).keep hk,fun k hF=>Nat.lt_of_lt_of_le (h.lt k hF) hk.size⟩
theorem RefAt.keep (h : RefAt w F g size lasts us) (hk : Keeps F w w') : RefAt w' F g size lasts us:=by
  obtain ⟨es,AL,cL,AW,cW,h1,h2⟩:=h;exact ⟨es,AL,cL,AW,cW,h1,h2.keep hk⟩
theorem RefAt.lt (h : RefAt w F g size lasts us) : ∀ k,F k→k < w.heap.size:=by
  obtain ⟨es,AL,cL,AW,cW,h1,h2⟩:=h;exact h2.lt
theorem RefAt.below (h : RefAt w F g size lasts us) (hb : Below w.heap.size w w') : RefAt w' F g size lasts us:=h.keep (Keeps.of_below hb h.lt)
theorem RefE.cell (h : RefE w F g size lasts es AL cL AW cW) {i : Nat} {e : U × (Option Addr × Nat)} (hi : es[i]? = some e) :
    ∃ q,AW = some ⟨q,0,none⟩∧q < w.heap.size∧w.cell? ⟨q,i * 3,none⟩ = (ucell e)[0]?∧w.cell? ⟨q,i * 3 + 1,none⟩ = (ucell e)[1]?∧w.cell? ⟨q,i * 3 + 2,none⟩ = (ucell e)[2]?:=by
  have hlt : i < es.length:=by
    false_or_by_contra
    rw [List.getElem?_eq_none (by omega)] at hi;cases hi
  rcases h.row.2 with ⟨hv,h0⟩ | ⟨q,cap,cur,hv,hb,hh,_⟩
  · omega
  · injection hv with hA
    subst hA;refine ⟨q,rfl,lt_of_block hh,?_,?_,?_⟩
    · have hl:=ucell_len e
      have c:=ucells_at es i e hi 0 (by omega);rw [List.getElem?_eq_getElem (by omega : 0 < (ucell e).length)] at c ⊢;have r:=h.row.cells (g:=q) rfl _ _ c;rw [add_mk,Nat.zero_add] at r;exact r
    · have hl:=ucell_len e
      have c:=ucells_at es i e hi 1 (by omega);rw [List.getElem?_eq_getElem (by omega : 1 < (ucell e).length)] at c ⊢;have r:=h.row.cells (g:=q) rfl _ _ c;rw [add_mk,Nat.zero_add] at r;exact r
    · have hl:=ucell_len e
      have c:=ucells_at es i e hi 2 (by omega);rw [List.getElem?_eq_getElem (by omega : 2 < (ucell e).length)] at c ⊢;have r:=h.row.cells (g:=q) rfl _ _ c;rw [add_mk,Nat.zero_add] at r;exact r
end
theorem RdB.made_at (w : World) (bs : List UInt8) (cs : Array Value) (t : TypeId) (H n : Nat) (h : cs.toList = bs.map bv) (hH : w.heap.size = H) (hn : n = bs.length) : RdB (w.alloc (.cells cs t)) (H + 1) (some ⟨H,0,none⟩) n bs:=by
  subst hH hn;exact RdB.made w bs cs t (0,0) h
theorem OwnB.made_at (w : World) (base : Nat) (cs : Array Value) (H : Nat) (h : cs = #[]) (hH : w.heap.size = H) (hb : base≤w.heap.size) : OwnB (w.alloc (.cells cs 5)) base (some ⟨H,0,none⟩) 0 0 []:=by
  subst hH h;exact OwnB.made w base [] #[] 0 rfl rfl hb (by decide)
set_option maxRecDepth 100000 in
set_option maxHeartbeats 1000000 in
theorem rafter_any (n : Nat) (F : Nat→Prop) (g size : Nat) (lasts : List UInt8) (us : List U) (w : World) (hD : RefAt w F g size lasts us) (hn : n≤us.length) (hm : lasts.length + massU us≤1099511627776) :
    Calls Tryz.prog 61 #[.pointer (some ⟨g,0,none⟩),.int .i64 n] w (GiveB w (afterU lasts (us.take n))):=by
  obtain ⟨es,AL,cL,AW,cW,rfl,hE⟩:=hD;have c1:=hE.blk.cell 1;have c2:=hE.blk.cell 2;have hlt:=hE.blk.lt;have hcw:=ownsRow_le hE.row;rw [List.length_map] at hn
  have hncw : n≤cW:=by omega
  unfold maxLen at hcw
  go_enter Tryz.func61,Tryz.ntmps61
  go_wp2_with (at_builtin;refine wpList_appB rfl (.tmp 8) (.tmp 12) rfl (by rfl) (OwnB.made w w.heap.size [] #[] 0 rfl rfl (Nat.le_refl _) (by decide)) (by rfl) (hE.lasts.1.rd.alloc (Nat.le_refl _) _) (by omega) (by simp) ?_)
  intro A1 c1' w1 ho1 _ _ h1;have hE1:=hE.keep (Keeps.of_below (((Below.refl w.heap.size w).alloc (Nat.le_refl _) _).trans h1) hE.lt);have c2':=hE1.blk.cell 2;have h1':=((Below.refl w.heap.size w).alloc (Nat.le_refl _) (.cells #[] 5)).trans h1;clear h1;go_wp2_with fail
  go_loopw [5,21] (fun b i wr=>∃ (k : Nat) (A : Option Addr) (nb cb : Nat),k≤n∧i = .int .i64 k∧b = .slice A nb cb∧OwnB wr w.heap.size A nb cb (afterU lasts ((es.map (·.1)).take k))∧Below w.heap.size w wr) (fun _ i _=>n - (intOf i).toNat)
  case atStart=>exact ⟨0,A1,_,c1',by omega,rfl,rfl,ho1,h1'⟩
  case round =>
    obtain ⟨k,A,nb,cb,hk,rfl,rfl,hO,hbel⟩:=hrel
    by_cases hlt2 : k < n
    · have hEr:=hE.keep (Keeps.of_below hbel hE.lt)
      obtain ⟨x,hx⟩ : ∃ x,es[k] = x:=⟨_,rfl⟩
      have hxe : es[k]? = some x:=by rw [List.getElem?_eq_getElem (by omega),hx]
      obtain ⟨a,rfl,hab,q0,q1,q2⟩:=hEr.cell hxe;have hu:=hEr.ents _ (List.mem_of_getElem? hxe)
      have hwx : (es.map (·.1))[k]? = some x.1:=by rw [List.getElem?_map,hxe];rfl
      have htk : afterU lasts ((es.map (·.1)).take (k + 1)) = doU (afterU lasts ((es.map (·.1)).take k)) x.1:=by
        rw [take_snoc _ (by simp;omega),afterU_append];rw [List.getElem?_eq_getElem (by simp;omega)] at hwx
        injection hwx with hwx
        rw [hwx];rfl
      have hml:=afterU_len lasts ((es.map (·.1)).take k);have hml2:=massU_take (es.map (·.1)) k;have hml3:=massU_take (es.map (·.1)) (k + 1)
      have hml4 : massU ((es.map (·.1)).take (k + 1)) = massU ((es.map (·.1)).take k) + massU [x.1]:=by
        rw [take_snoc _ (by simp;omega),massU_append];rw [List.getElem?_eq_getElem (by simp;omega)] at hwx
        injection hwx with hwx
        rw [hwx]
      have HT:=Lib.hid htk
      have hnb : nb≤1099511627776:=by rw [hO.1];omega
      clear htk hwx;obtain ⟨x,Ax,cx⟩:=x
      cases x with
      | byte c =>
        simp only [ucell] at q0 q1 q2
        have hm1 : massU [U.byte c] = 1:=rfl
        have hs0 : (wr.alloc (.cells #[.int .u8 (c.toNat : Int),.bool false,.slice none 0 0] 83)).heap.size = wr.heap.size + 1:=by simp
        have hrd:=RdB.made_at (wr.alloc (.cells #[.int .u8 (c.toNat : Int),.bool false,.slice none 0 0] 83)) [c] #[.int .u8 (c.toNat : Int)] 5 _ 1 rfl hs0 rfl;have hO2:=(hO.alloc (.cells #[.int .u8 (c.toNat : Int),.bool false,.slice none 0 0] 83)).alloc (.cells #[.int .u8 (c.toNat : Int)] 5);have hbel2:=(hbel.alloc hbel.size (.cells #[.int .u8 (c.toNat : Int),.bool false,.slice none 0 0] 83)).alloc (by have:=hbel.size;simp;omega) (.cells #[.int .u8 (c.toNat : Int)] 5)
        go_wp2_with (at_builtin;refine wpList_appB rfl (.tmp 31) (.tmp 34) rfl (by rfl) hO2 (by rfl) hrd (by omega) hbel2.size ?_)
        intro A3 c3 w3 ho3 _ _ h3;go_wp2_with fail
        go_roundw
        case rel=>exact ⟨k + 1,A3,_,c3,by omega,by go_num,rfl,by rw [HT.out];exact ho3,hbel2.trans h3⟩
        case measure=>simp [intOf];omega
      | swap b =>
        simp only [ucell] at q0 q1 q2
        have hm1 : massU [U.swap b] = b.length:=by simp [massU]
        have hs0 : (wr.alloc (.cells #[.int .u8 0,.bool true,.slice Ax b.length cx] 83)).heap.size = wr.heap.size + 1:=by simp
        have hown:=OwnB.made_at (wr.alloc (.cells #[.int .u8 0,.bool true,.slice Ax b.length cx] 83)) w.heap.size #[] _ rfl hs0 (by have:=hbel.size;omega);have hrd:=(hu.1.rd.alloc (Nat.le_refl _) (.cells #[.int .u8 0,.bool true,.slice Ax b.length cx] 83)).alloc (by simp) (.cells #[] 5);have hbel2:=(hbel.alloc hbel.size (.cells #[.int .u8 0,.bool true,.slice Ax b.length cx] 83)).alloc (by have:=hbel.size;simp;omega) (.cells #[] 5)
        have hbb : 0 + b.length≤140737488355328:=by simp only [massU] at hml4;omega
        go_wp2_with (at_builtin;refine wpList_appB rfl (.tmp 27) (.tmp 29) rfl (by rfl) hown (by rfl) hrd hbb hbel2.size ?_)
        intro A3 c3 w3 ho3 _ _ h3;go_wp2_with fail
        go_roundw
        case rel=>exact ⟨k + 1,A3,_,c3,by omega,by go_num,rfl,by rw [HT.out];exact ho3,hbel2.trans h3⟩
        case measure=>simp [intOf];omega
    · go_wp2_with fail
      go_ret
      obtain rfl : k = n:=by omega
      exact ⟨_,_,_,rfl,hO,hbel⟩
end Go.Proofs.YtfpenfgmpbdakaaGreat

namespace Go.Proofs.YtfpenfgmpbdakaaGreat
set_option linter.unusedVariables false
set_option linter.unusedSimpArgs false
set_option maxRecDepth 100000
open Go.RowKit
open Disk
theorem rread_any (F : Nat→Prop) (g size : Nat) (lasts : List UInt8) (us : List U) (w : World) (hD : RefAt w F g size lasts us) (hm : lasts.length + massU us≤1099511627776) :
    Calls Tryz.prog 28 #[.pointer (some ⟨g,0,none⟩)] w (GiveB w (afterU lasts us)):=by
  have hD0:=hD;obtain ⟨es,AL,cL,AW,cW,he,hE⟩:=hD0;have c2:=hE.blk.cell 2
  have hel : es.length = us.length:=by rw [← he];simp
  have HE:=Lib.hid hel;clear hel he
  go_enter Tryz.func28,Tryz.ntmps28
  go_wp2_with fail;refine (rafter_any es.length F g size lasts us w hD (by rw [HE.out];omega) hm).mono ?_;rw [HE.out,List.take_length];rintro e w1 ⟨A,n,c,rfl,h2,h3⟩;go_wp2_with fail;go_ret;exact ⟨_,_,_,rfl,h2,h3⟩
def RefOp (w : World) (F : Nat→Prop) (g size : Nat) (lasts : List UInt8) (us : List U) (w' : World) : Prop :=
  ∃ F',RefAt w' F' g size lasts us∧Only F w w'∧Grows F F' w
theorem RefOp.of_below {w w1 w' : World} {F : Nat→Prop} {g size : Nat} {lasts : List UInt8} {us : List U} (hb : Below w.heap.size w w1) (h : RefOp w1 F g size lasts us w') : RefOp w F g size lasts us w':=by
  obtain ⟨F',h1,h2,h3⟩:=h;exact ⟨F',h1,(Only.of_below F hb).trans h2 (Grows.refl _ _),fun k hk=>by rcases h3 k hk with h | h;exact .inl h;right;have:=hb.size;omega⟩
theorem RefOp.refl {w w' : World} {F : Nat→Prop} {g size : Nat} {lasts : List UInt8} {us : List U} (h : RefAt w F g size lasts us) (hb : Below w.heap.size w w') : RefOp w F g size lasts us w':=⟨F,h.below hb,Only.of_below F hb,Grows.refl _ _⟩
theorem RefOp.trans {w w1 w2 : World} {F F1 : Nat→Prop} {g size : Nat} {l2 : List UInt8} {us2 : List U} (h1 : Only F w w1) (hg : Grows F F1 w) (h : RefOp w1 F1 g size l2 us2 w2) : RefOp w F g size l2 us2 w2:=by
  obtain ⟨F',k1,k2,k3⟩:=h;exact ⟨F',k1,h1.trans k2 hg,hg.trans k3 h1.size⟩
theorem infoU : (Tryz.prog.info? 83).map (fun i=>(i.zero,i.size,i.bytes)) = some (some (.agg #[.int .u8 0,.bool false,.slice none 0 0]),3,32):=by kernel_rfl
theorem FB.safe2 {w w' : World} {F : Nat→Prop} {A : Option Addr} {n c : Nat} {bs : List UInt8} (h : FB w F A n c bs) (hall : ∀ k cur t,k < w.heap.size→w.heap[k]? = some (.cells cur t (0,0))→t ≠ 78→t ≠ 83→w'.heap[k]? = w.heap[k]?) : FB w' F A n c bs :=
  ⟨⟨h.1.1,ownsRow_keep h.1.2 fun k hA=>by
    obtain ⟨cur,hc⟩:=ownsRow_type h.1.2 hA
    exact hall k cur _ (lt_of_block hc) hc (by decide) (by decide)⟩,h.2⟩
theorem UAt.safe {w w' : World} {F : Nat→Prop} {e : U × (Option Addr × Nat)} (h : UAt w F e) (hall : ∀ k cur t,k < w.heap.size→w.heap[k]? = some (.cells cur t (0,0))→t ≠ 78→t ≠ 83→w'.heap[k]? = w.heap[k]?) : UAt w' F e:=by
  obtain ⟨x,A,c⟩:=e
  cases x with
  | byte c=>trivial
  | swap b=>exact FB.safe2 h hall
theorem RefE.add {w w3 : World} {F G : Nat→Prop} {g size : Nat} {lasts : List UInt8} {es : List (U × (Option Addr × Nat))} {AL AW : Option Addr} {cL cW : Nat} (hE : RefE w F g size lasts es AL cL AW cW) {e : U × (Option Addr × Nat)} {A' : Option Addr} {c' : Nat}
    (hG : ∀ k,G k→k < w.heap.size) (hu : UAt w (fun k=>F k∨G k) e) (hsz : w.heap.size≤w3.heap.size)
    (hall : ∀ k,k < w.heap.size→k ≠ g→AW.map (·.block) ≠ some k→w3.heap[k]? = w.heap[k]?)
    (hblk : Blk w3 g 78 #[.int .i64 (size : Nat),.slice AL lasts.length cL,.slice A' (es ++ [e]).length c'])
    (hrow : w3.ownsRow 0 83 3 (.slice A' (es ++ [e]).length c') (es ++ [e]).length (ucells (es ++ [e])))
    (hmv : ∀ k,A'.map (·.block) = some k→AW.map (·.block) = some k∨w.heap.size≤k) :
    RefE w3 (fun k=>F k∨(w.heap.size≤k∧A'.map (·.block) = some k)∨G k) g size lasts (es ++ [e]) AL cL A' c':=by
  have hs : ∀ k cur t,k < w.heap.size→w.heap[k]? = some (.cells cur t (0,0))→t ≠ 78→t ≠ 83→w3.heap[k]? = w.heap[k]?:=by
    intro k cur t hk hc h1 h2;refine hall k hk (fun e=>?_) (fun e=>?_)
    · have h4:=hE.blk
      unfold Blk at h4
      rw [← e,hc] at h4
      injection h4 with h4
      injection h4 with _ h5
      exact h1 h5
    · obtain ⟨cur2,h4⟩:=ownsRow_type hE.row e
      rw [hc] at h4
      injection h4 with h4
      injection h4 with _ h5
      exact h2 h5
  refine ⟨.inl hE.mine,hblk,(hE.lasts.safe2 hs).mono fun k hk=>.inl hk,hrow,fun k hk=>?_,fun e' he=>?_,fun k hk=>?_⟩
  · rcases hmv k hk with h1 | h1
    · exact .inl (hE.rowF k h1)
    · exact .inr (.inl ⟨h1,hk⟩)
  · rcases List.mem_append.1 he with h1 | h1
    · exact ((hE.ents e' h1).safe hs).mono fun k hk=>.inl hk
    · simp at h1
      subst h1
      exact (hu.safe hs).mono fun k hk=>by
        rcases hk with h | h
        · exact .inl h
        · exact .inr (.inr h)
  · rcases hk with h1 | ⟨_,h1⟩ | h1
    · exact Nat.lt_of_lt_of_le (hE.lt k h1) hsz
    · exact ownsRow_lt hrow h1
    · exact Nat.lt_of_lt_of_le (hG k h1) hsz
theorem RefE.push {w w1 w2 : World} {F G : Nat→Prop} {g size : Nat} {lasts : List UInt8} {es : List (U × (Option Addr × Nat))} {AL AW : Option Addr} {cL cW : Nat} (hE : RefE w F g size lasts es AL cL AW cW) {e : U × (Option Addr × Nat)} {A' : Option Addr} {c' : Nat}
    (hG : ∀ k,G k→k < w.heap.size) (hu : UAt w (fun k=>F k∨G k) e) (h0 : Below w.heap.size w w1) (hs1 : w.heap.size < w1.heap.size)
    (h1 : w2.ownsRow 0 83 3 (.slice A' (es.length + 1) c') (es.length + 1) (ucells es ++ ucell e)) (h2 : w1.grownBy w2 (Value.slice AW es.length cW).ownBlock) (h3 : Moved A' (Value.slice AW es.length cW).ownBlock w1.heap.size) :
    RefE (w2.setCell ⟨g,2,none⟩ (.slice A' (es.length + 1) c')) (fun k=>F k∨(w.heap.size≤k∧A'.map (·.block) = some k)∨G k) g size lasts (es ++ [e]) AL cL A' c'∧Only F w (w2.setCell ⟨g,2,none⟩ (.slice A' (es.length + 1) c')) ∧
      w2.cell? ⟨g,2,none⟩ = some (.slice AW es.length cW)∧w2.frozen? ⟨g,2,none⟩ = false:=by
  have hlt:=hE.blk.lt
  have hrow : (Value.slice AW es.length cW).ownBlock = AW.map (·.block):=by cases AW <;> rfl
  rw [hrow] at h2 h3
  have hk : ∀ k,k < w.heap.size→AW.map (·.block) ≠ some k→w2.heap[k]? = w.heap[k]?:=fun k hk hne=>(h2.block k (by omega) (fun e=>hne e.symm)).trans (h0.block k hk)
  have hgw : AW.map (·.block) ≠ some g:=fun e=>by
    obtain ⟨cur,h4⟩:=ownsRow_type hE.row e;have h5:=hE.blk
    unfold Blk at h5
    rw [h4] at h5
    injection h5 with h5
    injection h5 with _ h5
    exact absurd h5 (by decide)
  have hb2 : Blk w2 g 78 #[.int .i64 (size : Nat),.slice AL lasts.length cL,.slice AW es.length cW]:=(hk g hlt hgw).trans hE.blk;have b3:=hb2.set_ 2 (.slice A' (es.length + 1) c')
  have hgw' : A'.map (·.block) ≠ some g:=fun e=>by
    rcases h3 with h3 | h3
    · rw [h3] at e;exact hgw e
    · rw [h3] at e;injection e;omega
  refine ⟨hE.add hG hu ?_ ?_ ?_ ?_ ?_,?_,hb2.cell 2,hb2.free 2⟩
  · have:=h2.size;simp [World.setCell];omega
  · intro k h4 h5 h6
    exact (Below.heap_setCell w2 _ _ k h5).trans (hk k h4 h6)
  · rw [List.length_append];exact b3
  · rw [List.length_append,ucells_append]
    refine ownsRow_setCell_other ?_ ?_ _
    · have e1 : ucells [e] = ucell e:=by simp [ucells]
      rw [e1];exact h1
    · rcases A' with _ | a'
      · simp [Value.ownBlock]
      · simpa [Value.ownBlock] using hgw'
  · intro k h4
    rcases h3 with h3 | h3
    · rw [h3] at h4;exact .inl h4
    · rw [h3] at h4;injection h4 with h4;right;omega
  · exact Only.setCell ⟨h2.os.trans h0.os,h2.tape.trans h0.tape,h2.output.trans h0.output,Nat.le_trans h0.size h2.size,fun k h4 h5=>hk k h4 (fun e=>h5 (hE.rowF k e))⟩ (.inl hE.mine) _
def RefEnd (w : World) (F : Nat→Prop) (g size : Nat) (lasts : List UInt8) (us : List U) (x : Nat) (e : Ending) (w' : World) : Prop:=e = .returned (.int .i64 (x : Nat))∧RefOp w F g size lasts us w'
theorem RefAt.blk0 {w : World} {F : Nat→Prop} {g size : Nat} {lasts : List UInt8} {us : List U} (hD : RefAt w F g size lasts us) : w.cell? ⟨g,0,none⟩ = some (.int .i64 (size : Nat))∧g < w.heap.size:=by
  obtain ⟨es,AL,cL,AW,cW,rfl,hE⟩:=hD;exact ⟨hE.blk.cell 0,hE.blk.lt⟩
end Go.Proofs.YtfpenfgmpbdakaaGreat

namespace Go.Proofs.YtfpenfgmpbdakaaGreat
set_option linter.unusedVariables false
set_option linter.unusedSimpArgs false
set_option maxRecDepth 100000
open Go.RowKit
open Disk
theorem rappend_full (A : Option Addr) (n c : Nat) (F : Nat→Prop) (g size : Nat) (lasts : List UInt8) (us : List U) (w : World) (hD : RefAt w F g size lasts us) (hm : lasts.length + massU us≤1099511627776) (hn2 : n≤140737488355328)
    (hn : size < (afterU lasts us).length + n) :
    Calls Tryz.prog 11 #[.pointer (some ⟨g,0,none⟩),.slice A n c] w fun e w'=>e = .returned (.int .i64 7)∧Below w.heap.size w w':=by
  have hD' : RefAt w.drew F g size lasts us:=hD.below (Below.refl _ _).drew;have c0:=hD.blk0.1;have hlt:=hD.blk0.2;have hul:=Nat.le_trans (afterU_len lasts us) hm;have ew : IntKind.i64.wrap (((afterU lasts us).length : Int) + (n : Int)) = ((afterU lasts us).length : Int) + (n : Int):=IntWalk.i64_in _ (by omega);have hd : decide ((size : Int) < ((afterU lasts us).length : Int) + (n : Int)) = true:=decide_eq_true (by omega)
  go_enter Tryz.func11,Tryz.ntmps11
  go_wp2_with fail
  go_region_with (go_at_call 28;refine (rread_any F g size lasts us _ hD' hm).mono ?_;rintro e w1 ⟨A1,n1,c1,rfl,h2,h3⟩;have hn1:=h2.1;subst hn1;have q0:=(h3.cell (p:=⟨g,0,none⟩) hlt).trans c0)
  all_goals
    go_wp2_with fail;go_ret;exact ⟨rfl,(Below.refl _ _).drew.trans h3⟩
set_option maxRecDepth 100000 in
set_option maxHeartbeats 1000000 in
theorem rappend_gen (A : Option Addr) (n c : Nat) (bs : List UInt8) (F : Nat→Prop) (g size : Nat) (lasts : List UInt8) (us : List U) (w : World) (hD : RefAt w F g size lasts us) (hm : lasts.length + massU us≤1099511627776) (hul : us.length≤1099511627776)
    (hbw : ∀ w',Only F w w'→∃ B,RdB w' B A n bs) (hs : size≤16384) (hn : (afterU lasts us).length + n≤size) :
    Calls Tryz.prog 11 #[.pointer (some ⟨g,0,none⟩),.slice A n c] w (RefEnd w F g size lasts (us ++ bs.map .byte) 0):=by
  have hD' : RefAt w.drew F g size lasts us:=hD.below (Below.refl _ _).drew;have c0:=hD.blk0.1;have hlt:=hD.blk0.2;have hbn:=Lib.hid (hbw w (Only.refl F w)).choose_spec.1;obtain ⟨i0,hi,hz0,hz1,hz2⟩:=info_parts infoU;have ew : IntKind.i64.wrap (((afterU lasts us).length : Int) + (n : Int)) = ((afterU lasts us).length : Int) + (n : Int):=IntWalk.i64_in _ (by omega);have hd : decide ((size : Int) < ((afterU lasts us).length : Int) + (n : Int)) = false:=decide_eq_false (by omega)
  go_enter Tryz.func11,Tryz.ntmps11
  go_wp2_with fail
  go_region_with (go_at_call 28;refine (rread_any F g size lasts us _ hD' hm).mono ?_;rintro e w1 ⟨A1,n1,c1,rfl,h2,h3⟩;have hn1:=h2.1;subst hn1;have q0:=(h3.cell (p:=⟨g,0,none⟩) hlt).trans c0)
  all_goals
    have h1:=(Below.refl w.heap.size w).drew.trans h3;go_wp2_with fail
    go_loopw [20] (fun i wr=>∃ (k : Nat) (F1 : Nat→Prop),k≤n∧i = .int .i64 k∧RefAt wr F1 g size lasts (us ++ (bs.take k).map .byte)∧Only F w wr∧Grows F F1 w) (fun i _=>n - (intOf i).toNat)
    case atStart=>exact ⟨0,F,by omega,rfl,by simpa using hD.below h1,Only.of_below F h1,Grows.refl _ _⟩
    case round =>
      obtain ⟨k,F1,hk,rfl,hR,hO,hG⟩:=hrel
      by_cases hlt2 : k < n
      · have hkb : k < bs.length:=by rw [← hbn.out];exact hlt2
        obtain ⟨B,hbr⟩:=hbw wr hO;obtain ⟨ad,rfl,_,hc⟩:=hbr.at_ hkb
        have htk : us ++ (bs.take (k + 1)).map U.byte = (us ++ (bs.take k).map U.byte) ++ [U.byte bs[k]]:=by
          rw [take_snoc _ hkb,List.map_append,← List.append_assoc];rfl
        have HT:=Lib.hid htk;clear htk
        generalize bs[k] = x at hc HT
        obtain ⟨es,AL,cL,AW,cW,he,hE⟩:=hR;have HE:=Lib.hid he
        have hel : es.length≤1099511627776 + 16384:=by
          have : es.length = us.length + min k bs.length:=by rw [← List.length_map (f:=(·.1)),he];simp
          omega
        clear he;have c2:=hE.blk.cell 2;have h0 : Below wr.heap.size wr (wr.alloc (.cells #[.int .u8 (x.toNat : Int),.bool false,.slice none 0 0] 83)):=(Below.refl _ _).alloc (Nat.le_refl _) _
        have hs1 : wr.heap.size < (wr.alloc (.cells #[.int .u8 (x.toNat : Int),.bool false,.slice none 0 0] 83)).heap.size:=by simp
        have hs0 : (wr.alloc (.cells #[.int .u8 (x.toNat : Int),.bool false,.slice none 0 0] 83)).heap.size = wr.heap.size + 1:=by simp
        have hw1 : ∀ u ∈ [Value.int .u8 (x.toNat : Int),.bool false,.slice none 0 0],u.oneCell' = true:=by
          intro u hu
          simp at hu
          rcases hu with rfl | rfl | rfl <;> rfl
        have HW1:=Lib.hid hw1;clear hw1
        go_wp2_with (at_builtin;refine wpList_app _ rfl (.tmp 28) (.tmp 31) 76 rfl 0 83 i0 (.agg #[.int .u8 0,.bool false,.slice none 0 0]) 3 32 Tryz.underlying76 hi hz0 hz1 hz2 rfl (by decide) _ _ _ rfl (hE.row.alloc _) _ _ 1 1 _ rfl (Rd.made _ _ _ _) rfl HW1.out ?h63 ?hby (Nat.zero_le _) ?_)
        case h63=>unfold maxLen;omega
        case hby=>omega
        intro A' c' w2 k1 k2 k3;obtain ⟨p1,p2,p3,p4⟩:=hE.push (e:=(U.byte x,(none,0))) (G:=fun _=>False) (fun _ h=>h.elim) trivial h0 hs1 k1 k2 (by rw [hs0];exact k3)
        have hR2 : RefAt (w2.setCell ⟨g,2,none⟩ (.slice A' (es.length + 1) c')) (fun k=>F1 k∨(wr.heap.size≤k∧A'.map (·.block) = some k)∨False) g size lasts ((us ++ (bs.take k).map U.byte) ++ [U.byte x]) :=
          ⟨es ++ [(U.byte x,(none,0))],AL,cL,A',c',by rw [List.map_append,HE.out];rfl,by rw [show es.length + 1 = (es ++ [(U.byte x,((none : Option Addr),0))]).length by simp] at p1 ⊢;exact p1⟩
        rw [← HT.out] at hR2;have HR:=Lib.hid hR2;have hO2:=Lib.hid (hO.trans p2 hG)
        have hG1 : Grows F (fun k=>F1 k∨(wr.heap.size≤k∧A'.map (·.block) = some k)∨False) w:=fun k hk=>by
          rcases hk with h | ⟨h,_⟩ | h
          · exact hG k h
          · right;have:=hO.size;omega
          · exact h.elim
        have hG2:=Lib.hid hG1;clear hR2 hG1 p1 p2 k1 k2 k3 hE hbr hO hG h0 hs1 hs0;go_wp2_with fail
        go_roundw
        case rel=>exact ⟨k + 1,_,by omega,by go_num,HR.out,hO2.out,hG2.out⟩
        case measure=>simp [intOf];omega
      · obtain rfl : k = n:=by omega
        have htk : bs.take k = bs:=List.take_of_length_le (by rw [← hbn.out];omega);rw [htk] at hR;have HR:=Lib.hid hR;clear hR htk;go_wp2_with fail;go_ret;exact ⟨rfl,F1,HR.out,hO,hG⟩
end Go.Proofs.YtfpenfgmpbdakaaGreat

namespace Go.Proofs.YtfpenfgmpbdakaaGreat
set_option linter.unusedVariables false
set_option linter.unusedSimpArgs false
set_option maxRecDepth 100000
open Go.RowKit
open Disk
theorem rswap_full (A : Option Addr) (n c : Nat) (F : Nat→Prop) (g size : Nat) (lasts : List UInt8) (us : List U) (w : World) (hD : RefAt w F g size lasts us) (hn : size < n) :
    Calls Tryz.prog 73 #[.pointer (some ⟨g,0,none⟩),.slice A n c] w fun e w'=>e = .returned (.int .i64 7)∧w = w':=by
  have c0:=hD.blk0.1;have hd : decide (size < n) = true:=decide_eq_true hn
  go_enter Tryz.func73,Tryz.ntmps73
  go_wp2_with fail;go_ret;exact ⟨rfl,rfl⟩
theorem one3 (A : Option Addr) (n c : Nat) : ∀ u ∈ [Value.int .u8 0,.bool true,.slice A n c],u.oneCell' = true:=by
  intro u hu
  simp at hu
  rcases hu with rfl | rfl | rfl <;> rfl
theorem uat_own {w : World} {F : Nat→Prop} {base n c : Nat} {A : Option Addr} {bs : List UInt8} (h : OwnB w base A n c bs) : UAt w (fun k=>F k∨A.map (·.block) = some k) (U.swap bs,(A,c)) :=
  ⟨⟨rfl,by have:=ownsRow_base h.2 (Nat.zero_le _);rwa [h.1] at this⟩,fun k hk=>.inr hk⟩
set_option maxRecDepth 100000 in
set_option maxHeartbeats 2000000 in
theorem rswap_any (A : Option Addr) (n c B : Nat) (bs : List UInt8) (F : Nat→Prop) (g size : Nat) (lasts : List UInt8) (us : List U) (w : World) (hD : RefAt w F g size lasts us) (hul : us.length≤1099511627776)
    (hb : RdB w B A n bs) (hn : n≤size) (hs : size≤16384) :
    Calls Tryz.prog 73 #[.pointer (some ⟨g,0,none⟩),.slice A n c] w (RefEnd w F g size lasts (us ++ [.swap bs]) 0):=by
  have c0:=hD.blk0.1;have hlt:=hD.blk0.2;have hd : decide (size < n) = false:=decide_eq_false (by omega);obtain ⟨i0,hi,hz0,hz1,hz2⟩:=info_parts infoU;obtain rfl:=hb.1;obtain ⟨es,AL,cL,AW,cW,he,hE⟩:=hD
  have hel : es.length≤1099511627776:=by rw [← he,List.length_map] at hul;exact hul
  have HE:=Lib.hid he;clear he;have c2:=hE.blk.cell 2
  have h63 : es.length + 1≤maxLen:=by unfold maxLen;omega
  have hby : (es.length + 1) * 32≤140737488355328:=by omega
  have O0:=(OwnB.made w w.heap.size [] #[] 0 rfl rfl (Nat.le_refl _) (by decide)).drew;have B0:=((Below.refl w.heap.size w).alloc (Nat.le_refl _) (.cells #[] 5)).drew
  go_enter Tryz.func73,Tryz.ntmps73
  go_wp2_with fail
  go_region_law (first
    | (refine step_appB rfl (.tmp 17) (.tmp 18) rfl (by rfl) O0 (by rfl) (hb.size.below B0) (by omega) (by simp) ?_;intro A1 c1 w1 own _ _ below;have B1:=B0.trans below;have q2:=(B1.cell (p:=⟨g,2,none⟩) hlt).trans c2;rw [Nat.zero_add,List.nil_append] at own;have hE1:=hE.keep (Keeps.of_below B1 hE.lt);have q3:=(hE1.blk.alloc (.cells #[.int .u8 0,.bool true,.slice A1 bs.length c1] 83)).cell 2)
    | (refine step_app rfl (.tmp 16) (.tmp 21) 76 rfl 0 83 i0 (.agg #[.int .u8 0,.bool false,.slice none 0 0]) 3 32 Tryz.underlying76 hi hz0 hz1 hz2 rfl (by decide) _ _ _ (by rfl) (hE1.row.alloc _) _ _ 1 1 _ (by rfl) (Rd.made _ _ _ _) rfl (one3 _ _ _) h63 hby (Nat.zero_le _) ?_;intro A' c' w2 k1 k2 k3;obtain ⟨p1,p2,p3,p4⟩:=hE1.push (e:=(U.swap bs,(A1,c1))) (G:=fun k=>A1.map (·.block) = some k) (fun k hk=>(own.lt k hk).2) (uat_own own) ((Below.refl _ _).alloc (Nat.le_refl _) (.cells #[.int .u8 0,.bool true,.slice A1 bs.length c1] 83)) (by simp) k1 k2 k3))
  all_goals
    have hfin : RefOp w F g size lasts (us ++ [U.swap bs]) (w2.setCell ⟨g,2,none⟩ (.slice A' (es.length + 1) c')):=by
      refine ⟨_,⟨es ++ [(U.swap bs,(A1,c1))],AL,cL,A',c',by rw [List.map_append,HE.out];rfl,p1⟩,(Only.of_below F B1).trans p2 (Grows.refl _ _),fun k hk=>?_⟩
      rcases hk with h | ⟨h,_⟩ | h
      · exact .inl h
      · right;have:=B1.size;omega
      · right;exact (own.lt k h).1
    have HF:=Lib.hid hfin;clear hfin p1 p2 k1 k2 k3;go_wp2_with fail;go_ret;exact ⟨rfl,HF.out⟩
set_option maxRecDepth 100000 in
theorem rcrash_nat (m : Nat) (F : Nat→Prop) (g size : Nat) (lasts : List UInt8) (us : List U) (w : World) (hD : RefAt w F g size lasts us) (hm : lasts.length + massU us≤1099511627776) (hul : us.length≤1099511627776) (z : Int) (hz : z.toNat = m) (hz1 : -9223372036854775808≤z) (hz2 : z≤9223372036854775807) :
    Calls Tryz.prog 25 #[.pointer (some ⟨g,0,none⟩),.int .i64 z] w fun e w'=>e = .returned (.tuple #[])∧RefOp w F g size (afterU lasts (us.take m)) [] w':=by
  have hD0:=hD;obtain ⟨es,AL,cL,AW,cW,he,hE⟩:=hD0;have c2:=hE.blk.cell 2
  have hel : es.length = us.length:=by rw [← he];simp
  obtain ⟨j,hj⟩ : ∃ j,j = min m us.length:=⟨_,rfl⟩
  have htk : us.take m = us.take j:=by rw [hj,← List.take_take,List.take_length]
  rw [htk]
  have hjl : j≤us.length:=by omega
  obtain ⟨q,e1⟩ : ∃ q : Int,(if (es.length : Int) < z then (es.length : Int) else z) = q:=⟨_,rfl⟩
  have e2 : (if 0 < q then q else 0) = (j : Int):=by rw [← e1];split <;> split <;> omega
  have HH:=Lib.hid (show es.length≤1099511627776 by omega);have hra:=rafter_any j F g size lasts us w hD hjl hm
  generalize afterU lasts (us.take j) = X at hra ⊢
  clear htk hj hel he
  go_enter Tryz.func25,Tryz.ntmps25
  go_wp2_with fail;refine hra.mono ?_;rintro e w1 ⟨A1,n1,c1,rfl,ho,h1⟩;have hn1:=ho.1;subst hn1;have hb1:=hE.blk.below h1 hE.blk.lt;have q1:=hb1.cell 1;have q1':=hb1.free 1;have hb2:=hb1.set_ 1 (.slice A1 X.length c1);have q2:=hb2.cell 2;have q2':=hb2.free 2;have hb3:=hb2.set_ 2 (.slice none 0 0);have hon : Only F w ((w1.setCell ⟨g,1,none⟩ (.slice A1 X.length c1)).setCell ⟨g,2,none⟩ (.slice none 0 0)):=((Only.of_below F h1).setCell (.inl hE.mine) _).setCell (.inl hE.mine) _
  have hgA : A1.map (·.block) ≠ some g:=fun e=>by have:=(ho.lt g e).1;have:=hE.blk.lt;omega
  have ho3:=(ho.setFar (p:=⟨g,1,none⟩) hgA (.slice A1 X.length c1)).setFar (p:=⟨g,2,none⟩) hgA (.slice none 0 0)
  have hEc : RefE ((w1.setCell ⟨g,1,none⟩ (.slice A1 X.length c1)).setCell ⟨g,2,none⟩ (.slice none 0 0)) (fun k=>F k∨(w.heap.size≤k∧A1.map (·.block) = some k)) g size X [] A1 c1 none 0 :=
    ⟨.inl hE.mine,hb3,⟨⟨rfl,ownsRow_base ho3.2 (Nat.zero_le _)⟩,fun k hk=>.inr ⟨(ho.lt k hk).1,hk⟩⟩,World.ownsRow_nil _ _ _ _,(fun k hk=>by cases hk),fun e he=>absurd he (by simp),fun k hk=>Or.elim hk (fun h=>Nat.lt_of_lt_of_le (hE.lt k h) (by have:=h1.size;simp [World.setCell];omega)) (fun h=>(ho3.lt k h.2).2)⟩
  have HP:=Lib.hid (show RefOp w F g size X [] _ from ⟨_,⟨[],_,_,_,_,rfl,hEc⟩,hon,fun k hk=>by rcases hk with h | ⟨h,_⟩;exact .inl h;exact .inr h⟩);clear hEc hon ho3 hb3 hb2 hb1;go_wp2_with fail
  go_end0
  exact ⟨rfl,HP.out⟩
end Go.Proofs.YtfpenfgmpbdakaaGreat

namespace Go.Proofs.YtfpenfgmpbdakaaGreat
set_option linter.unusedVariables false
set_option linter.unusedSimpArgs false
set_option maxRecDepth 100000
open Go.RowKit
open Disk
theorem rsync_any (F : Nat→Prop) (g size : Nat) (lasts : List UInt8) (us : List U) (w : World) (hD : RefAt w F g size lasts us) (hm : lasts.length + massU us≤1099511627776) (hul : us.length≤1099511627776) :
    Calls Tryz.prog 74 #[.pointer (some ⟨g,0,none⟩)] w fun e w'=>e = .returned (.tuple #[])∧RefOp w F g size (afterU lasts us) [] w':=by
  have hD0:=hD;obtain ⟨es,AL,cL,AW,cW,he,hE⟩:=hD0;have c2:=hE.blk.cell 2
  have hel : es.length = us.length:=by rw [← he];simp
  have hc:=rcrash_nat us.length F g size lasts us w hD hm hul (es.length : Int) (by omega) (by omega) (by omega);rw [List.take_length] at hc;clear hel he
  go_enter Tryz.func74,Tryz.ntmps74
  go_wp2_with fail;refine hc.mono ?_;rintro e w1 ⟨rfl,h⟩;have HP:=Lib.hid h;clear h;go_wp2_with fail
  go_end0
  exact ⟨rfl,HP.out⟩
section
variable {w w1 w2 : World} {F G E : Nat→Prop} {g r size : Nat} {lasts l2 l3 : List UInt8} {ws ws3 : List W} {us us3 : List U}
end
theorem after_all (lasts : List UInt8) (ws : List W) : afterU lasts (exp ws) = readL lasts ws:=by
  have:=after_exp lasts ws (pend ws)
  rw [← exp_length,List.take_length,exp_length] at this;exact this
theorem exp_app (ws : List W) (bs : List UInt8) : exp (ws ++ [(false,bs)]) = exp ws ++ bs.map U.byte:=by rw [exp_append];simp [exp]
theorem exp_swap (ws : List W) (bs : List UInt8) : exp (ws ++ [(true,bs)]) = exp ws ++ [U.swap bs]:=by rw [exp_append];simp [exp]
end Go.Proofs.YtfpenfgmpbdakaaGreat

namespace Go.Proofs.YtfpenfgmpbdakaaGreat
set_option linter.unusedVariables false
set_option linter.unusedSimpArgs false
set_option maxRecDepth 100000
open Go.RowKit
open Disk
namespace Log
open _root_.Go.Proofs.YtfpenfgmpbdakaaGreat.Frame (frm frms frms_nil frms_cons frms_snoc frms_append frm_length frm_pos Parts AllF)
def RLogEnd (w : World) (F : Nat→Prop) (g size : Nat) (r : Res) (e : Ending) (w' : World) : Prop:=e = .returned (.int .i64 (r.1 : Nat))∧RefOp w F g size r.2.1 (exp r.2.2) w'
theorem rlread_any (F : Nat→Prop) (g size : Nat) (lasts : List UInt8) (ws : List W) (w : World) (hD : RefAt w F g size lasts (exp ws)) (hm : lasts.length + mass ws≤500000000000) :
    Calls Tryz.prog 43 #[.pointer (some ⟨g,0,none⟩)] w (ReadL w (readL lasts ws)):=by
  have hrl : (readL lasts ws).length≤500000000000:=Nat.le_trans (after_len _ _ _) hm
  go_enter Tryz.func43,Tryz.ntmps43
  go_wp2_with fail;refine (rread_any F g size lasts (exp ws) w hD (by rw [exp_mass];omega)).mono ?_;rintro e w1 ⟨A,n,c,rfl,o1,h1⟩;rw [after_all] at o1;have hle:=ownsRow_le o1.2;have hrd:=o1.rd;have hn:=o1.1;obtain ⟨b,hb⟩ : ∃ b,b = readL lasts ws:=⟨_,rfl⟩;rw [← hb] at hn hrl hrd;have HBQ:=Lib.hid hb;have HN:=Lib.hid hn
  have hnl : n≤500000000000:=by omega
  clear hb o1 hn;go_wp2_with fail;refine (Frame.rall_any A n c b _ w1 hrd (Nat.le_refl _) (by omega) hle.1 hle.2).mono ?_;rintro e w2 ⟨l,r,A2,c2,hp,rfl,hbo,h2⟩;obtain ⟨M,hM⟩ : ∃ M,M = (frms l).length:=⟨_,rfl⟩;rw [← hM];have HM:=Lib.hid hM;have HP:=Lib.hid hp;clear hM hp;go_wp2_with fail;go_ret2;rw [← HBQ.out];refine ⟨l,r,A2,c2,HP.out,?_,hbo.mono h1.size,h1.trans (h2.mono h1.size)⟩;rw [← HM.out,← HN.out]
  first | rfl | (simp;done)
set_option maxRecDepth 100000 in
theorem rlwrite_any (A : Option Addr) (n c B : Nat) (bs : List UInt8) (F : Nat→Prop) (g size : Nat) (lasts : List UInt8) (ws : List W) (w : World) (hD : RefAt w F g size lasts (exp ws)) (hm : lasts.length + mass ws≤500000000000) (hp : pend ws≤500000000000) (hs : size≤16384)
    (hb : RdB w B A n bs) (hB : B≤w.heap.size) :
    Calls Tryz.prog 50 #[.pointer (some ⟨g,0,none⟩),.slice A n c] w (RLogEnd w F g size (writeM size lasts ws bs)):=by
  obtain rfl:=hb.1
  by_cases h4 : bs.length≤4096
  · go_enter Tryz.func50,Tryz.ntmps50
    go_wp2_with fail;refine (Frame.rput_ok _ _ _ bs _ _ hb hB h4).mono ?_;rintro e w1 ⟨A1,n1,c1,rfl,o1,h1⟩;obtain rfl:=o1.1;have hD1:=hD.below h1;have hF1 : ∀ k,F k→k < w.heap.size:=hD.lt
    by_cases hroom : (readL lasts ws).length + (frm bs).length≤size
    · have hw : writeM size lasts ws bs = (0,readL lasts ws ++ frm bs,[]):=by
        unfold writeM
        rw [if_neg (by omega),if_pos hroom]
      have HW:=Lib.hid hw;clear hw
      have hbw : ∀ w',Only F w1 w'→∃ B,RdB w' B A1 (frm bs).length (frm bs):=fun w' ho=>⟨_,(o1.only ho hF1).rd⟩
      have HBW:=Lib.hid hbw;clear hbw;go_wp2_with fail;refine (rappend_gen _ _ _ (frm bs) F g size lasts (exp ws) _ hD1 (by rw [exp_mass];omega) (by rw [exp_length];omega) HBW.out hs (by rw [after_all];exact hroom)).mono ?_;rintro e w2 ⟨rfl,F2,d1,d2,d3⟩;rw [← exp_app] at d1;go_wp2_with fail;refine (rsync_any F2 g size _ _ _ d1 (by rw [exp_mass,mass_append];simp [mass];omega) (by rw [exp_length,pend_append];simp [pend,units];omega)).mono ?_;rintro e w3 ⟨rfl,d4⟩;rw [after_all,read_app] at d4;have d5:=RefOp.of_below h1 (RefOp.trans d2 d3 d4);have HD:=Lib.hid d5;clear d5 d4 d3 d2 d1;go_wp2_with fail;go_ret;rw [HW.out];exact ⟨rfl,HD.out⟩
    · have hw : writeM size lasts ws bs = (7,lasts,ws):=by
        unfold writeM
        rw [if_neg (by omega),if_neg hroom]
      have HW:=Lib.hid hw;have hfl:=frm_length bs;have hve:=Vint.enc_length bs.length;clear hw;go_wp2_with fail;refine (rappend_full _ _ _ F g size lasts (exp ws) _ hD1 (by rw [exp_mass];omega) (by omega) (by rw [after_all];omega)).mono ?_;rintro e w2 ⟨rfl,h2⟩;have h12:=h1.trans (h2.mono h1.size);clear hfl hve;go_wp2_with fail;go_ret;rw [HW.out];exact ⟨rfl,RefOp.refl hD h12⟩
  · have hw : writeM size lasts ws bs = (6,lasts,ws):=by
      unfold writeM
      rw [if_pos (by omega)]
    have HW:=Lib.hid hw;clear hw
    go_enter Tryz.func50,Tryz.ntmps50
    go_wp2_with fail;refine (Frame.rput_long _ _ _ _ (by omega)).mono ?_;rintro e w1 ⟨rfl,rfl⟩;go_wp2_with fail;go_ret;rw [HW.out];exact ⟨rfl,RefOp.refl hD (Below.refl _ _)⟩
def RMendEnd (w : World) (F : Nat→Prop) (g size : Nat) (b : List UInt8) (ws : List W) (e : Ending) (w' : World) : Prop :=
  ∃ l r,Parts (readL b ws) l r∧e = .returned (.tuple #[])∧RefOp w F g size (mendM b ws l).2.1 (exp (mendM b ws l).2.2) w'
set_option maxRecDepth 100000 in
theorem rlmend_any (F : Nat→Prop) (g size : Nat) (lasts : List UInt8) (ws : List W) (w : World) (hD : RefAt w F g size lasts (exp ws)) (hm : lasts.length + mass ws≤500000000000) (hp : pend ws≤500000000000) (hs : size≤16384) (hfit : (readL lasts ws).length≤size) :
    Calls Tryz.prog 42 #[.pointer (some ⟨g,0,none⟩)] w (RMendEnd w F g size lasts ws):=by
  go_enter Tryz.func42,Tryz.ntmps42
  go_wp2_with fail;refine (rread_any F g size lasts (exp ws) w hD (by rw [exp_mass];omega)).mono ?_;rintro e w1 ⟨A,n,c,rfl,o1,h1⟩;rw [after_all] at o1;have hle:=ownsRow_le o1.2;have hrd:=o1.rd;have hn:=o1.1;have HN:=Lib.hid hn
  have hnl : n≤size:=by omega
  clear hn;go_wp2_with fail;refine (Frame.rall_any A n c (readL lasts ws) _ w1 hrd (Nat.le_refl _) (by omega) hle.1 hle.2).mono ?_;rintro e w2 ⟨l,r,A2,c2,hp',rfl,hbo,h2⟩;have h12:=h1.trans (h2.mono h1.size)
  have hlen : (frms l).length≤n:=by rw [HN.out,hp'.1,List.length_append];omega
  have htake : (readL lasts ws).take (frms l).length = frms l:=by rw [hp'.1,List.take_left]
  have hD2:=hD.below h12;have hr2:=((o1.below h2 (Nat.le_refl _)).rd).take (k:=(frms l).length) hlen;rw [htake] at hr2;have HP:=Lib.hid hp';obtain ⟨M,hM⟩ : ∃ M,M = (frms l).length:=⟨_,rfl⟩;rw [← hM] at hlen hr2 ⊢;have HM:=Lib.hid hM
  have hMc : M≤c:=by omega
  clear hM hp' htake o1 hrd
  by_cases htorn : M < n
  · have hw : mendM lasts ws l = (0,frms l,[]):=by unfold mendM;rw [if_pos (by rw [← HM.out,← HN.out];exact htorn)]
    have HW:=Lib.hid hw;have hdt : decide (M < n) = true:=decide_eq_true htorn;clear hw;go_wp2_with fail;refine (rswap_any _ _ _ _ (frms l) F g size lasts (exp ws) _ hD2 (by rw [exp_length];omega) hr2 (by omega) hs).mono ?_;rintro e w3 ⟨rfl,F2,d1,d2,d3⟩;rw [← exp_swap] at d1
    have hfm : (frms l).length≤16384:=by rw [← HM.out];omega
    go_wp2_with fail;refine (rsync_any F2 g size _ _ _ d1 (by rw [exp_mass,mass_append];simp [mass];omega) (by rw [exp_length,pend_append];simp [pend,units];omega)).mono ?_;rintro e w4 ⟨rfl,d4⟩;rw [after_all,read_swap] at d4;have d5:=RefOp.of_below h12 (RefOp.trans d2 d3 d4);have HD:=Lib.hid d5;clear d5 d4 d3 d2 d1;go_wp2_with fail
    go_end0
    refine ⟨l,r,HP.out,rfl,?_⟩;rw [HW.out];exact HD.out
  · have hw : mendM lasts ws l = (0,lasts,ws):=by unfold mendM;rw [if_neg (by rw [← HM.out,← HN.out];exact htorn)]
    have HW:=Lib.hid hw;have hdt : decide (M < n) = false:=decide_eq_false htorn;clear hw;go_wp2_with fail
    go_end0
    refine ⟨l,r,HP.out,rfl,?_⟩;rw [HW.out];exact RefOp.refl hD h12
set_option maxRecDepth 100000 in
set_option maxHeartbeats 400000 in
theorem rlrewrite_any (A : Option Addr) (n c B : Nat) (ls : List (List UInt8)) (F : Nat→Prop) (g size : Nat) (lasts : List UInt8) (ws : List W) (w : World) (hD : RefAt w F g size lasts (exp ws)) (hm : lasts.length + mass ws≤500000000000) (hp : pend ws≤500000000000) (hs : size≤16384)
    (hb : RdS w B A n ls) (hB : B≤w.heap.size) (hn : n≤1000000) :
    Calls Tryz.prog 59 #[.pointer (some ⟨g,0,none⟩),.slice A n c] w (RLogEnd w F g size (rewriteM size lasts ws ls)):=by
  obtain rfl:=hb.len
  go_enter Tryz.func59,Tryz.ntmps59
  go_wp2_with fail
  go_loopw [5,13] (fun v i wr=>∃ (k : Nat) (A' : Option Addr) (n' c' : Nat),k≤ls.length∧i = .int .i64 k∧v = .slice A' n' c'∧OwnB wr w.heap.size A' n' c' (frms (ls.take k))∧(∀ x ∈ ls.take k,x.length≤4096)∧Below w.heap.size w wr) (fun _ i _=>ls.length - (intOf i).toNat)
  case atStart=>exact ⟨0,none,0,0,by omega,rfl,rfl,OwnB.nil _ _,by simp,Below.refl _ _⟩
  case round =>
    obtain ⟨k,A',n',c',hk,rfl,rfl,ho,hsm,hbel⟩:=hrel;have hbd:=frms_bound _ hsm;have hnn:=ho.1
    have htk : (ls.take k).length≤1000000:=by rw [List.length_take];omega
    have hn7 : n'≤5000000000:=by omega
    clear hbd hnn htk;have HS:=Lib.hid hsm;clear hsm
    by_cases hlt : k < ls.length
    · obtain ⟨a,D,m,d,rfl,hab,hcell,hrd,hmc,hcm⟩:=(hb.below (hbel.mono hB)).at_ hlt
      have hml:=hrd.1;obtain ⟨x,hx⟩ : ∃ x,x = ls[k]:=⟨_,rfl⟩;rw [← hx] at hrd hml;have HX:=Lib.hid hx;have HML:=Lib.hid hml;clear hx hml
      by_cases h3 : 4096 < m
      · have hno : ls.all (·.length≤4096) = false:=by
          rw [List.all_eq_false];exact ⟨ls[k],List.getElem_mem _,by rw [← HX.out];simp;have:=HML.out;omega⟩
        have hw : rewriteM size lasts ws ls = (6,lasts,ws):=by
          unfold rewriteM
          rw [if_neg (by rw [hno];simp)]
        have HW:=Lib.hid hw;clear hno hw;go_wp2_with fail;refine (Frame.rput_long _ _ _ _ h3).mono ?_;rintro e w2 ⟨rfl,rfl⟩;go_wp2_with fail;go_ret;rw [HW.out];exact ⟨rfl,RefOp.refl hD hbel⟩
      · go_wp2_with fail
        refine (Frame.rput_ok _ _ _ x _ _ hrd (Nat.le_trans hB hbel.size) (by omega)).mono ?_;rintro e w2 ⟨A2,n2,c2,rfl,ho2,h2⟩;have hb2:=hbel.trans (h2.mono hbel.size);have hob2:=ho.below h2 (Nat.le_refl _)
        have hn2 : n2≤5000:=by
          have:=ho2.1
          have:=frm_length x
          have:=Vint.enc_length x.length
          have:=HML.out
          omega
        go_wp2_with (at_builtin;refine wpList_appB rfl (.tmp 25) (.tmp 26) rfl rfl hob2 rfl ho2.rd ?hx0 hb2.size ?_)
        case hx0=>omega
        intro A3 c3 w3 ho3 hg3 _ hbl3;have hb3:=hb2.trans hbl3;go_wp2_with fail
        go_roundw
        case rel =>
          refine ⟨k + 1,A3,n' + n2,c3,by omega,by go_num,rfl,?_,?_,hb3⟩
          · rw [take_snoc ls hlt,frms_snoc,← HX.out]
            exact ho3
          · intro y hy
            rw [take_snoc ls hlt,List.mem_append,List.mem_singleton] at hy
            rcases hy with hy | rfl
            · exact HS.out y hy
            · rw [← HX.out,← HML.out];omega
        case measure=>simp [intOf];omega
    · obtain rfl : k = ls.length:=by omega
      rw [List.take_length] at ho
      have hyes : ls.all (·.length≤4096) = true:=by
        rw [List.all_eq_true];intro x hx
        have:=HS.out x (by rw [List.take_length];exact hx)
        simpa using this
      have hD1:=hD.below hbel;obtain rfl:=ho.1
      by_cases hroom : (frms ls).length≤size
      · have hw : rewriteM size lasts ws ls = (0,frms ls,[]):=by
          unfold rewriteM
          rw [if_pos hyes,if_pos hroom]
        have HW:=Lib.hid hw;clear hw hyes;go_wp2_with fail;refine (rswap_any _ _ _ _ (frms ls) F g size lasts (exp ws) _ hD1 (by rw [exp_length];omega) ho.rd hroom hs).mono ?_;rintro e w3 ⟨rfl,F2,d1,d2,d3⟩;rw [← exp_swap] at d1;go_wp2_with fail;refine (rsync_any F2 g size _ _ _ d1 (by rw [exp_mass,mass_append];simp [mass];omega) (by rw [exp_length,pend_append];simp [pend,units];omega)).mono ?_;rintro e w4 ⟨rfl,d4⟩;rw [after_all,read_swap] at d4;have d5:=RefOp.of_below hbel (RefOp.trans d2 d3 d4);have HD:=Lib.hid d5;clear d5 d4 d3 d2 d1;go_wp2_with fail;go_ret;rw [HW.out];exact ⟨rfl,HD.out⟩
      · have hw : rewriteM size lasts ws ls = (7,lasts,ws):=by
          unfold rewriteM
          rw [if_pos hyes,if_neg hroom]
        have HW:=Lib.hid hw;clear hw hyes;go_wp2_with fail;refine (rswap_full _ _ _ F g size lasts (exp ws) _ hD1 (by omega)).mono ?_;rintro e w3 ⟨rfl,rfl⟩;go_wp2_with fail;go_ret;rw [HW.out];exact ⟨rfl,RefOp.refl hD hbel⟩
end Log
end Go.Proofs.YtfpenfgmpbdakaaGreat

namespace Go.Proofs.YtfpenfgmpbdakaaGreat
set_option linter.unusedVariables false
set_option linter.unusedSimpArgs false
set_option maxRecDepth 100000
open Go.RowKit
open Disk
namespace Sto.Stp
open _root_.Go.Proofs.YtfpenfgmpbdakaaGreat.Log (writeM rewriteM mendM RLogEnd RMendEnd rlwrite_any rlrewrite_any rlmend_any rlread_any ReadL)
open _root_.Go.Proofs.YtfpenfgmpbdakaaGreat.Frame (frm frms frms_nil frms_cons frms_snoc frms_append frm_length frm_pos Parts AllF)
def RefD (w : World) (F : Nat→Prop) (g size : Nat) (d : Db) : Prop:=RefAt w F g size d.lasts (exp d.ws)∧d.ok
def RefOpD (w : World) (F : Nat→Prop) (g size : Nat) (d : Db) (w' : World) : Prop:=∃ F',RefD w' F' g size d∧Only F w w'∧Grows F F' w
section
variable {w w1 : World} {F : Nat→Prop} {g size : Nat} {d : Db}
theorem RefD.lt (h : RefD w F g size d) : ∀ k,F k→k < w.heap.size:=h.1.lt
theorem RefD.keep (h : RefD w F g size d) (hk : Keeps F w w1) : RefD w1 F g size d:=⟨h.1.keep hk,h.2⟩
theorem RefD.below (h : RefD w F g size d) (hb : Below w.heap.size w w1) : RefD w1 F g size d:=⟨h.1.below hb,h.2⟩
theorem RefOpD.of (h : RefOp w F g size d.lasts (exp d.ws) w1) (ok : d.ok) : RefOpD w F g size d w1:=by
  obtain ⟨F',h1,h2,h3⟩:=h;exact ⟨F',⟨h1,ok⟩,h2,h3⟩
theorem RefOpD.kept {k : Nat} {t : TypeId} {cs : Array Value} (h : RefOpD w F g size d w1) (kb : Blk w k t cs) (hn : ¬ F k) : Blk w1 k t cs:=by
  obtain ⟨F',_,o,_⟩:=h;exact kb.only o hn
end
end Sto.Stp
end Go.Proofs.YtfpenfgmpbdakaaGreat

namespace Go.Proofs.YtfpenfgmpbdakaaGreat
set_option linter.unusedVariables false
set_option linter.unusedSimpArgs false
set_option maxRecDepth 100000
open Go.RowKit
section
variable {w w' : World} {B B' base n c : Nat} {A : Option Addr} {ls ms : List (List UInt8)} {es fs : List Sl}
end
section
variable {w w' : World} {B base n c : Nat} {A : Option Addr} {ls ms : List (List UInt8)}
theorem only_row {row : Option Nat} (hg : w.grownBy w' row) : Only (fun k=>row = some k) w w':=⟨hg.os,hg.tape,hg.output,hg.size,fun k hk hn=>hg.block k hk fun e=>hn e.symm⟩
end
end Go.Proofs.YtfpenfgmpbdakaaGreat

namespace Go.Proofs.YtfpenfgmpbdakaaGreat
set_option linter.unusedVariables false
set_option linter.unusedSimpArgs false
set_option maxRecDepth 100000
open Go.RowKit
open Dot Evt
open Disk
namespace Sto.Stp
open _root_.Go.Proofs.YtfpenfgmpbdakaaGreat.Log (writeM LogEnd lwrite_any)
open _root_.Go.Proofs.YtfpenfgmpbdakaaGreat.Frame (frm frms frms_nil frms_cons frms_snoc frms_append frm_length frm_pos Parts AllF)
structure EvsAt (w : World) (F : Nat→Prop) (b base : Nat) (A : Option Addr) (n c : Nat) (xs : List EvV) : Prop where
  row : OwnEv w base A n c xs
  own : ∀ x ∈ xs,EvOwn w base x
  nf : ∀ k,A.map (·.block) = some k→¬ F k∧k ≠ b
  nfx : ∀ x ∈ xs,∀ k,x.A.map (·.block) = some k→¬ F k∧k ≠ b
section
variable {w w0 w1 w2 : World} {F F1 G : Nat→Prop} {b g size base n c : Nat} {A : Option Addr} {xs : List EvV} {S : Sd} {l : Db}
theorem EvsAt.lt (h : EvsAt w F b base A n c xs) : (∀ k,A.map (·.block) = some k→k < w.heap.size)∧∀ x ∈ xs,∀ k,x.A.map (·.block) = some k→k < w.heap.size :=
  ⟨fun k hk=>(h.row.lt k hk).2,fun x hx k hk=>((h.own x hx).2.1.lt k hk).2⟩
theorem EvsAt.only (h : EvsAt w F b base A n c xs) (ho : Only G w w1) (hg : Grows F F1 w) (hG : ∀ k,G k→F k∨k = b∨w.heap.size≤k) : EvsAt w1 F1 b base A n c xs:=by
  obtain ⟨l1,l2⟩:=h.lt
  have key : ∀ k,k < w.heap.size→¬ F k∧k ≠ b→w1.heap[k]? = w.heap[k]?:=fun k hk hn=>ho.block k hk (fun q=>by
    rcases hG k q with q | q | q
    · exact hn.1 q
    · exact hn.2 q
    · omega)
  have grow : ∀ k,k < w.heap.size→¬ F k∧k ≠ b→¬ F1 k∧k ≠ b:=fun k hk hn=>⟨fun q=>by
    rcases hg k q with q | q
    · exact hn.1 q
    · omega,hn.2⟩
  exact ⟨⟨h.row.1,ownsRow_keep h.row.2 fun k hk=>key k (l1 k hk) (h.nf k hk)⟩,
    fun x hx=>⟨(h.own x hx).1,⟨(h.own x hx).2.1.1,ownsRow_keep (h.own x hx).2.1.2 fun k hk=>key k (l2 x hx k hk) (h.nfx x hx k hk)⟩,(h.own x hx).2.2⟩,
    fun k hk=>grow k (l1 k hk) (h.nf k hk),fun x hx k hk=>grow k (l2 x hx k hk) (h.nfx x hx k hk)⟩
theorem EvsAt.below (h : EvsAt w F b base A n c xs) (hb : Below w.heap.size w w1) : EvsAt w1 F b base A n c xs :=
  h.only (Only.of_below (fun _=>False) hb) (Grows.refl _ _) (fun k q=>q.elim)
theorem EvsAt.setT (h : EvsAt w F b base A n c xs) {q : Nat} {T : TypeId} {cs : Array Value} (hq : Blk w q T cs) (h1 : T ≠ 47) (h2 : T ≠ 42) (j : Nat) (v : Value) : EvsAt (w.setCell ⟨q,j,none⟩ v) F b base A n c xs :=
  ⟨⟨h.row.1,ownsRow_keep h.row.2 fun k hk=>Below.heap_setCell w ⟨q,j,none⟩ v k (fun e=>own_ne h.row.2 hq h1 (by rw [hk,e]))⟩,
    fun x hx=>⟨(h.own x hx).1,(h.own x hx).2.1.setFar (p:=⟨q,j,none⟩) (own_ne (h.own x hx).2.1.2 hq h2) v,(h.own x hx).2.2⟩,h.nf,h.nfx⟩
def EvF (A : Option Addr) (xs : List EvV) (k : Nat) : Prop:=A.map (·.block) = some k∨∃ x ∈ xs,x.A.map (·.block) = some k
def EOp (w : World) (F : Nat→Prop) (b g size base : Nat) (A : Option Addr) (xs : List EvV) (S : Sd) (evs : List Ev) (w' : World) : Prop :=
  ∃ F' A' n' c' xs',StoAt w' F' b g size S (.slice A' n' c')∧EvsAt w' F' b base A' n' c' xs'∧xs'.map (·.e) = evs∧Only (fun k=>F k∨k = b∨A.map (·.block) = some k) w w'∧Grows F F' w∧∀ k,EvF A' xs' k→EvF A xs k∨w.heap.size≤k
structure SE (w : World) (F : Nat→Prop) (b g size : Nat) (S : Sd) (base : Nat) (A : Option Addr) (n c : Nat) (xs : List EvV) (F1 : Nat→Prop) (w1 : World) : Prop where
  sw : SW w F b g size S (.slice A n c) F1 w1
  ev : EvsAt w1 F1 b base A n c xs
theorem SE.start (h : StoAt w F b g size S (.slice A n c)) (he : EvsAt w F b base A n c xs) : SE w F b g size S base A n c xs F w:=⟨h.sw,he⟩
theorem SE.below (h : SE w F b g size S base A n c xs F1 w1) (hb : Below w1.heap.size w1 w2) : SE w F b g size S base A n c xs F1 w2:=⟨h.sw.below hb,h.ev.below hb⟩
theorem SE.op (h : SE w F b g size S base A n c xs F1 w1) (ho : DiskOpD w1 F1 g size l w2) : ∃ F2,SE w F b g size { S with b:=l } base A n c xs F2 w2:=by
  have hs:=h.sw;obtain ⟨F2,o1,o2,o3⟩:=ho;refine ⟨F2,⟨o1,hs.blk.only o2 hs.nb,?_,?_,hs.nf,hs.lt,hs.fl⟩,h.ev.only o2 o3 (fun k q=>.inl q)⟩
  · refine hs.only.trans (o2.mono (G:=fun k=>F1 k∨k = b) fun k hk=>.inl (.inl hk)) fun k hk=>?_
    rcases hk with hk | hk
    · rcases hs.grows k hk with q | q
      · exact .inl (.inl q)
      · exact .inr q
    · exact .inl (.inr hk)
  · exact hs.grows.trans o3 hs.only.size
theorem SE.fail (h : SE w0 F b g size S base A n c xs F1 w1) (hb : Below w.heap.size w w0) (hl : b < w.heap.size) (hf : ∀ k,F k→k < w.heap.size) {q : Nat} {cs : Array Value} (hq : Blk w1 q 27 cs) (h1 : w.heap.size≤q) (h2 : q < w0.heap.size) (j : Nat) (v : Value) :
    EOp w F b g size base A xs S (xs.map (·.e)) (w1.setCell ⟨q,j,none⟩ v):=by
  have hs:=h.sw
  have hn : ¬ F1 q:=fun hk=>by
    rcases hs.grows _ hk with x | x
    · have:=hf _ x;omega
    · omega
  refine ⟨F1,A,n,c,xs,⟨hs.disk.keep ⟨by simp [World.setCell],fun k hk=>Below.heap_setCell w1 _ _ k (fun e=>hn (by have e : k = q:=e;rw [← e];exact hk))⟩,hs.blk.far (by show b ≠ q;omega) v,hs.nb⟩,h.ev.setT hq (by decide) (by decide) j v,rfl,?_,fun k hk=>(hs.grows k hk).imp id fun x=>by have:=hb.size;omega,fun k hk=>.inl hk⟩;exact (((Only.of_below _ hb).trans hs.only (Grows.refl _ _)).setCell (.inr h1) v).mono (fun k hk=>.inl (by rcases hk with x | x;exact .inl x;exact .inr (.inl x)))
end
def KpRow (wd w : World) (base : Nat) (A : Option Addr) (n : Nat) (xs : List EvV) (x : Ev) (v : Value) : Prop :=
  ∃ A9 c9 z,v = .slice A9 (n + 1) c9∧OwnEv w base A9 (n + 1) c9 (xs ++ [z])∧z.e = x∧(∀ y ∈ xs ++ [z],EvOwn w base y)∧(A9.map (·.block) = A.map (·.block)∨∀ k,A9.map (·.block) = some k→wd.heap.size≤k)∧∀ k,z.A.map (·.block) = some k→wd.heap.size≤k
theorem step_appE {w : World} {o : Oper} {a : Act} {K : Act→World→Prop} {Q : Exit→Act→World→Prop} (s x : Operand)
    (ho : o.op = .call { callee:=.builtin .append,args:=#[s,x],argTypes:=#[48,48] })
    {base : Nat} {A : Option Addr} {n c : Nat} {bs : List EvV} (hs : a.eval s = .slice A n c) (hown : OwnEv w base A n c bs)
    {B : Nat} {D : Option Addr} {m d : Nat} {news : List EvV} (hx : a.eval x = .slice D m d) (hr : Rd w B D (ecsL news)) (hm : m = news.length)
    (hbytes : n + m≤1000000000000) (hbase : base≤w.heap.size)
    (h : ∀ A' c' w',OwnEv w' base A' (n + m) c' (bs ++ news)→w.grownBy w' (A.map (·.block))→Moved A' (A.map (·.block)) w.heap.size→Below base w w' →
      K (a.put o.dst (.slice A' (n + m) c')) w') : Oper.wp Tryz.prog o a w K Q:=by
  obtain ⟨i0,hi,hz0,hz1,hz2⟩:=info_parts infoEv
  have hob : (Value.slice A n c).ownBlock = A.map (·.block):=by cases A <;> rfl
  obtain ⟨v',w',hrun,h2,h3,h4⟩:=run_app (P:=Tryz.prog) w base 48 o.type 47 i0 (.agg (cT 0)) 14 128 Tryz.underlying48 hi hz0 hz1 hz2 rfl (by decide) (.slice A n c) n _ hown.2 B D m d (ecsL news) hr (by rw [ecsL_len,hm]) (ecsL_one _) (by unfold maxLen;omega) (by omega) hbase
  unfold Oper.wp execOp
  simp only [ho,resolve,invoke,builtin,Sem.run_bind,Sem.run_pure,Result.andThen_ok,List.map_toArray,List.map_cons,List.map_nil,hs,hx,hrun]
  have hv : ∃ A' c',v' = .slice A' (n + m) c'∧v'.ownBlock = A'.map (·.block):=by
    rcases h2.2 with ⟨rfl,h0⟩ | ⟨g,cap,cur,rfl,_⟩
    · exact ⟨none,0,by rw [h0],rfl⟩
    · exact ⟨_,_,rfl,rfl⟩
  obtain ⟨A',c',rfl,hb⟩:=hv;rw [hb] at h4;rw [hob] at h3 h4;exact h _ _ _ ⟨by rw [List.length_append,hown.1,hm],by rw [ecsL_app];exact h2⟩ h3 h4 ((Below.refl _ _).grown h3 hbase (fun g hg=>(hown.lt g hg).1))
theorem Blk.rdMg {w : World} {g : Nat} {T : TypeId} {cs : Array Value} (h : Blk w g T cs) : Rd w (g + 1) (some ⟨g,0,none⟩) cs.toList:=fun j u hu=>⟨_,rfl,Nat.lt_succ_self _,by rw [add_mk,Nat.zero_add,h.cell,← hu];exact (Array.getElem?_toList ..).symm⟩
theorem ev_dot {w : World} {g : Nat} {T : TypeId} {cs : Array Value} (k : Blk w g T cs) {x y : Int} (h0 : cs[0]? = some (.int .i64 x)) (h1 : cs[1]? = some (.int .i64 y)) : w.rangeAt g 0 (#[Value.int .i64 x,.int .i64 y] : Array Value).toList:=fun j v hv=>by
  rw [Nat.zero_add,k.cell]
  match j,hv with
  | 0,hv=>rw [h0,← hv];rfl
  | 1,hv=>rw [h1,← hv];rfl
  | j + 2,hv=>simp at hv
theorem rowDt2 : RowT Tryz.prog 42 2:=⟨_,Tryz.underlying42,rfl,by kernel_rfl⟩
def keepD (size : Nat) (S : Sd) (evs : List Ev) (x : Ev) : Nat × Sd × List Ev :=
  if rightE x = false then (2,S,evs) else if hasE evs x.d = true then (9,S,evs)
  else if S.b.length + (frm (told3 x)).length≤size then (0,{ S with b:=S.b ++ frm (told3 x) },evs ++ [x]) else (7,S,evs)
def KeepEnd (w : World) (F : Nat→Prop) (b g size base : Nat) (A : Option Addr) (xs : List EvV) (r : Nat × Sd × List Ev) (e : Ending) (w' : World) : Prop:=e = .returned (.int .i64 (r.1 : Nat))∧EOp w F b g size base A xs r.2.1 r.2.2 w'
theorem told3_len {x : Ev} (hp : x.p.length = 7) (hr : rightE x = true) : (told3 x).length≤1231:=by
  unfold told3 putE
  rw [hr,if_pos rfl,List.length_cons]
  have:=encE_len hp hr
  simp only
  omega
theorem told3_write {size : Nat} {bs : Db} {x : Ev} (hp : x.p.length = 7) (hr : rightE x = true) : writeD size bs (told3 x) = if bs.length + (frm (told3 x)).length≤size then (0,bs ++ frm (told3 x)) else (7,bs):=by
  unfold writeD
  have:=told3_len hp hr
  rw [if_neg (by omega)]
set_option maxHeartbeats 8000000 in
theorem keep_any (x : EvV) (S : Sd) (F : Nat→Prop) (b g size base : Nat) (A : Option Addr) (n c : Nat) (xs : List EvV) (ws : World) (h : StoAt ws F b g size S (.slice A n c)) (he : EvsAt ws F b base A n c xs) (hx : ∀ w',Only (fun k=>F k∨k = b) ws w'→EvOk w' w'.heap.size x) (hm : x.m≤100000) (hn : n≤100000) (hB : base≤ws.heap.size) (hs0 : size≤16384) (hl : S.b.length≤16384) :
    Calls Tryz.prog 18 #[.pointer (some ⟨b,0,none⟩),.agg x.cs] ws (KeepEnd ws F b g size base A xs (keepD size S (xs.map (·.e)) x.e)):=by
  have hlt : b < ws.heap.size:=h.2.1.lt;have hf : ∀ k,F k→k < ws.heap.size:=h.1.lt;obtain ⟨cs,hcs⟩ : ∃ cs,cs = x.cs:=⟨_,rfl⟩;have SZ:=Lib.hid (show cs.size = 14 by rw [hcs];rfl);have X0:=Lib.hid (show cs[0]? = some (.int .i64 x.e.d.1) by rw [hcs];rfl);have X1:=Lib.hid (show cs[1]? = some (.int .i64 x.e.d.2) by rw [hcs];rfl);have HCS:=Lib.hid hcs;rw [← hcs];obtain ⟨w0,hw0⟩ : ∃ w0,w0 = (ws.alloc (.cells cs 47)).alloc (.cells #[.int .i64 0] 27):=⟨_,rfl⟩
  have hbw : Below ws.heap.size ws w0:=by rw [hw0];exact ((Below.refl _ _).alloc (Nat.le_refl _) _).alloc (by simp) _
  have kE : Blk w0 ws.heap.size 47 cs:=by rw [hw0];exact (Blk.new ws _ _).alloc _
  have k0 : Blk w0 (ws.heap.size + 1) 27 #[.int .i64 0]:=by
    have h:=Blk.new (ws.alloc (.cells cs 47)) 27 #[.int .i64 0];rw [hw0]
    simpa using h
  have s0:=SE.start (h.below hbw) (he.below hbw)
  have HX:=Lib.hid fun (w' : World) (hb : Below ws.heap.size ws w')=>hx w' (Only.of_below _ hb)
  have HXO:=Lib.hid hx
  have hnF : ¬ F (ws.heap.size + 1):=fun q=>by have:=hf _ q;omega
  have hnFe : ¬ F ws.heap.size:=fun q=>by have:=hf _ q;omega
  have HXM:=Lib.hid hm;have HP7:=Lib.hid (hx ws (Only.refl _ _)).1;have hsz : ws.heap.size + 1 < w0.heap.size:=k0.lt;have HNX:=Lib.hid he.row.1;have HAL:=Lib.hid he.lt.1;clear h he hx hm hcs
  go_enter_defers Tryz.func18,Tryz.ntmps18
  go_upto_region 4 with fail
  rw [← hw0];have HW0:=Lib.hid hw0;clear hw0
  cases hr : rightE x.e
  case false =>
    have hd : keepD size S (xs.map (·.e)) x.e = (2,S,xs.map (·.e)):=by unfold keepD;rw [hr];rfl
    have HD:=Lib.hid hd;have HT:=Lib.hid (by have:=told3_bad x w0 (HX.out w0 hbw) hr;rw [← HCS.out] at this;exact this);clear hd hr
    go_wp2_with ((with_reducible refine wpList_ld rowE kE SZ.out ?_ ?_);rotate_left;(rfl))
    refine HT.out.mono ?_;rintro e w1 ⟨rfl,b1⟩;have k1:=k0.below b1 k0.lt;have s1:=s0.below b1;go_wp2_with fail;refine leaves_cons (f:=38) (args:=#[.pointer (some ⟨ws.heap.size + 1,0,none⟩)]) (by simp) (by simp [go_sem]) ?_;refine (caught_panic (ws.heap.size + 1) 2 [] (.int .i64 0) _ (k1.cell 0) (k1.free 0)).mono ?_;rintro e u' w'' ⟨rfl,rfl,rfl⟩;have k8:=k1.alloc (.cells #[.int .i64 2] 113);have c9 : World.cell? _ _ = some (.int .i64 2):=(k8.set_ 0 (.int .i64 2)).cell 0;have s9:=(s1.below ((Below.refl _ _).alloc (Nat.le_refl _) (.cells #[.int .i64 2] 113))).fail hbw hlt hf k8 (by omega) hsz 0 (.int .i64 2);refine ⟨.int .i64 2,by simp [results,Tryz.results18,go_sem,c9],?_⟩;rw [HD.out];exact ⟨rfl,s9⟩
  obtain ⟨R,hR⟩ : ∃ R,R = hasE (xs.map (·.e)) x.e.d:=⟨_,rfl⟩;have HR:=Lib.hid (And.intro hr hR);have HT:=Lib.hid (by have:=told3_any x w0 (HX.out w0 hbw) hr;rw [← HCS.out] at this;exact this);clear hr hR
  go_wp2_with ((with_reducible refine wpList_ld rowE kE SZ.out ?_ ?_);rotate_left;(rfl))
  refine HT.out.mono ?_;rintro e w1 ⟨A2,n2,c2',rfl,o2,b2⟩;have k1:=k0.below b2 k0.lt;have kE1:=kE.below b2 kE.lt;have s1:=s0.below b2;have HO2:=Lib.hid o2;have c4 : w1.cell? ⟨b,4,none⟩ = some (.slice A n c):=s1.sw.blk.cell 4;have hlb:=s1.sw.blk.lt;have HS1:=Lib.hid s1
  have HHAS:=Lib.hid fun (w' : World) (hb : Below w1.heap.size w1 w')=>(by
    have hs:=HS1.out.below hb
    have:=shas_any A n c xs x.e.d.1 x.e.d.2 w' (hs.ev.row.row (fun y hy=>(hs.ev.own y hy).ok)) (by omega)
    rw [show ((x.e.d.1,x.e.d.2) : Dt) = x.e.d from rfl,← HR.out.2] at this
    exact this : Calls Tryz.prog 53 #[.slice A n c,.agg #[.int .i64 x.e.d.1,.int .i64 x.e.d.2]] w' fun e w''=>e = .returned (.bool R)∧Below w'.heap.size w' w'')
  have HD2:=Lib.hid (ev_dot (w:=w1) kE1 X0.out X1.out);have hlE:=kE1.lt;clear o2 b2 HT kE k0 s0 s1
  go_upto_region 5 with fail
  refine wp_region_tailF 9 8 (fun L v w=>v 0 = .pointer (some ⟨b,0,none⟩)∧v 3 = .pointer (some ⟨ws.heap.size,0,none⟩)∧Below w1.heap.size w1 w∧(L 0 = true→v 10 = .pointer (some ⟨b,0,none⟩))∧(L 1 = true→v 11 = .pointer (some ⟨b,0,none⟩))∧(L 2 = true→v 12 = .pointer (some ⟨b,4,none⟩))∧(L 3 = true→v 13 = .slice A n c)∧(L 4 = true→v 14 = .pointer (some ⟨ws.heap.size,0,none⟩))∧(L 5 = true→v 15 = .agg #[.int .i64 x.e.d.1,.int .i64 x.e.d.2])∧(L 6 = true→v 16 = .bool R)∧(L 7 = true→v 17 = .bool (!R))) [10,11,12,13,14,15,16,17] (by kernel_rfl) (by kernel_rfl) (by kernel_rfl) (by kernel_rfl) (by kernel_rfl) (by kernel_rfl) ?h0 ?hst ?hend
  case h0 =>
    intro L h0;have h0 : ∀ i,i < 8→L i = false:=h0;exact ⟨rfl,rfl,(Below.refl _ _).drew,offF h0 (i:=0) (by decide),offF h0 (i:=1) (by decide),offF h0 (i:=2) (by decide),offF h0 (i:=3) (by decide),offF h0 (i:=4) (by decide),offF h0 (i:=5) (by decide),offF h0 (i:=6) (by decide),offF h0 (i:=7) (by decide)⟩
  case hst =>
    show FactSteps _ _ _ _ [0,1,2,3,4,5,6,7]
    refine @FactSteps.cons _ _ _ _ 0 _ [] _ rfl (by kernel_rfl) ?s0 ?_;rotate_left;refine @FactSteps.cons _ _ _ _ 1 _ [0] _ rfl (by kernel_rfl) ?s1 ?_;rotate_left;refine @FactSteps.cons _ _ _ _ 2 _ [1] _ rfl (by kernel_rfl) ?s2 ?_;rotate_left;refine @FactSteps.cons _ _ _ _ 3 _ [2] _ rfl (by kernel_rfl) ?s3 ?_;rotate_left;refine @FactSteps.cons _ _ _ _ 4 _ [] _ rfl (by kernel_rfl) ?s4 ?_;rotate_left;refine @FactSteps.cons _ _ _ _ 5 _ [4] _ rfl (by kernel_rfl) ?s5 ?_;rotate_left;refine @FactSteps.cons _ _ _ _ 6 _ [3,5] _ rfl (by kernel_rfl) ?s6 ?_;rotate_left;refine @FactSteps.cons _ _ _ _ 7 _ [6] _ rfl (by kernel_rfl) ?s7 ?_;rotate_left;exact FactSteps.nil
    case s0 =>
      rintro L a v w hv hg hL hd hcl ⟨e0,e3,hb,f0,f1,f2,f3,f4,f5,f6,f7⟩ K hK;refine step_do rfl ?_;clear hv;go_simp;exact hK.out _ _ ⟨e0,e3,hb,fun _=>rfl,f1,f2,f3,f4,f5,f6,f7⟩
    case s1 =>
      rintro L a v w hv hg hL hd hcl ⟨e0,e3,hb,f0,f1,f2,f3,f4,f5,f6,f7⟩ K hK;have g0:=f0 (hd 0 (by decide));have g0:=f0 (hd 0 (by decide));refine step_do rfl ?_;clear hv;go_simp;exact hK.out _ _ ⟨e0,e3,hb,f0,fun _=>rfl,f2,f3,f4,f5,f6,f7⟩
    case s2 =>
      rintro L a v w hv hg hL hd hcl ⟨e0,e3,hb,f0,f1,f2,f3,f4,f5,f6,f7⟩ K hK;have g1:=f1 (hd 1 (by decide));have g1:=f1 (hd 1 (by decide));refine step_do rfl ?_;clear hv;go_simp;exact hK.out _ _ ⟨e0,e3,hb,f0,f1,fun _=>rfl,f3,f4,f5,f6,f7⟩
    case s3 =>
      rintro L a v w hv hg hL hd hcl ⟨e0,e3,hb,f0,f1,f2,f3,f4,f5,f6,f7⟩ K hK;have g2:=f2 (hd 2 (by decide));have g2:=f2 (hd 2 (by decide));have cs4 : w.cell? ⟨b,4,none⟩ = some (.slice A n c):=(hb.cell (p:=⟨b,4,none⟩) hlb).trans c4;refine step_do rfl ?_;clear hv;go_simp;exact hK.out _ _ ⟨e0,e3,hb,f0,f1,f2,fun _=>rfl,f4,f5,f6,f7⟩
    case s4 =>
      rintro L a v w hv hg hL hd hcl ⟨e0,e3,hb,f0,f1,f2,f3,f4,f5,f6,f7⟩ K hK;refine step_do rfl ?_;clear hv;go_simp;exact hK.out _ _ ⟨e0,e3,hb,f0,f1,f2,f3,fun _=>rfl,f5,f6,f7⟩
    case s5 =>
      rintro L a v w hv hg hL hd hcl ⟨e0,e3,hb,f0,f1,f2,f3,f4,f5,f6,f7⟩ K hK;have g4:=f4 (hd 4 (by decide));refine step_do rfl ?_;refine wp_ldr rowDt2 (.tmp 14) rfl ((hv 14).trans g4) (range_keep HD2.out hb hlE) rfl ?_;exact hK.out _ _ ⟨e0,e3,hb,f0,f1,f2,f3,f4,fun _=>rfl,f6,f7⟩
    case s6 =>
      rintro L a v w hv hg hL hd hcl ⟨e0,e3,hb,f0,f1,f2,f3,f4,f5,f6,f7⟩ K hK;have g3:=f3 (hd 3 (by decide));have g5:=f5 (hd 5 (by decide));have hh:=HHAS.out w hb;refine step_do rfl ?_;clear hv;go_simp;refine hh.mono ?_;rintro e wy ⟨rfl,bb⟩;exact hK.out _ _ ⟨e0,e3,(hb.trans (bb.mono hb.size)),f0,f1,f2,f3,f4,f5,fun _=>rfl,f7⟩
    case s7 =>
      rintro L a v w hv hg hL hd hcl ⟨e0,e3,hb,f0,f1,f2,f3,f4,f5,f6,f7⟩ K hK;refine step_do rfl ?_;clear hv;go_simp;exact hK.out _ _ ⟨e0,e3,hb,f0,f1,f2,f3,f4,f5,f6,fun _=>rfl⟩
  case hend =>
  rintro L v w2 hall ⟨e0,e3,hb,f0,f1,f2,f3,f4,f5,f6,f7⟩;have hL : ∀ i,i < 8→L i = true:=hall;have f0:=f0 (hL 0 (by decide));have f1:=f1 (hL 1 (by decide));have f2:=f2 (hL 2 (by decide));have f3:=f3 (hL 3 (by decide));have f4:=f4 (hL 4 (by decide));have f5:=f5 (hL 5 (by decide));have f6:=f6 (hL 6 (by decide));have f7:=f7 (hL 7 (by decide))
  simp only [finA,List.foldl_cons,List.foldl_nil,Act.put,List.setIfInBounds_toArray,List.set_cons_succ,List.set_cons_zero,f0,f1,f2,f3,f4,f7,f5,f6]
  have k2:=k1.below hb k1.lt;have kE2:=kE1.below hb kE1.lt;have s2:=HS1.out.below hb;have HO2:=Lib.hid (HO2.out.below hb (Nat.le_refl _));clear e0 e3 f0 f1 f2 f3 f4 f5 f6 f7 hL hall hb
  show wpList _ _ _ [_] _ _
  have HS2:=Lib.hid s2;clear HHAS c4 hlb HD2 hlE HS1 s2 k1 kE1
  cases R
  case true =>
    have hd : keepD size S (xs.map (·.e)) x.e = (9,S,xs.map (·.e)):=by unfold keepD;rw [if_neg (by rw [HR.out.1];decide),if_pos HR.out.2.symm]
    have HD:=Lib.hid hd;clear hd;go_wp2_with fail;refine (must_bad _ _).mono ?_;rintro e w3 ⟨rfl,rfl⟩;go_wp2_with fail;refine leaves_cons (f:=38) (args:=#[.pointer (some ⟨ws.heap.size + 1,0,none⟩)]) (by simp) (by simp [go_sem]) ?_;refine (caught_panic (ws.heap.size + 1) 9 [] (.int .i64 0) _ (k2.cell 0) (k2.free 0)).mono ?_;rintro e u' w'' ⟨rfl,rfl,rfl⟩;have k8:=k2.alloc (.cells #[.int .i64 9] 113);have c9 : World.cell? _ _ = some (.int .i64 9):=(k8.set_ 0 (.int .i64 9)).cell 0;have s9:=(HS2.out.below ((Below.refl _ _).alloc (Nat.le_refl _) (.cells #[.int .i64 9] 113))).fail hbw hlt hf k8 (by omega) hsz 0 (.int .i64 9);refine ⟨.int .i64 9,by simp [results,Tryz.results18,go_sem,c9],?_⟩;rw [HD.out];exact ⟨rfl,s9⟩
  have hle:=ownsRow_le HO2.out.2;have hwr:=write_any A2 n2 c2' _ (told3 x.e) _ b g size S.used S.upto S.inc S.b (.slice A n c) w2 HS2.out.sw.blk HS2.out.sw.disk hl hs0 HO2.out.rd (Nat.le_refl _) hle.1 hle.2;rw [told3_write HP7.out HR.out.1] at hwr
  by_cases hroom : S.b.length + (frm (told3 x.e)).length≤size
  case neg =>
    have hd : keepD size S (xs.map (·.e)) x.e = (7,S,xs.map (·.e)):=by unfold keepD;rw [if_neg (by rw [HR.out.1];decide),if_neg (by rw [← HR.out.2];decide),if_neg hroom]
    have HD:=Lib.hid hd;rw [if_neg hroom] at hwr;have HWR:=Lib.hid hwr;clear hd hwr hroom hle;go_wp2_with fail;refine (must_ok _ _).mono ?_;rintro e w3 ⟨rfl,rfl⟩;go_wp2_with fail;refine HWR.out.mono ?_;rintro e w3 ⟨he,d3⟩;obtain rfl : e = .panicked [{ v:=flt ((7 : Nat) : Int),recovered:=false }]:=he;have k3:=d3.kept k2 hnF;obtain ⟨F3,s3⟩:=HS2.out.op d3;go_wp2_with fail;refine leaves_cons (f:=38) (args:=#[.pointer (some ⟨ws.heap.size + 1,0,none⟩)]) (by simp) (by simp [go_sem]) ?_;refine (caught_panic (ws.heap.size + 1) 7 [] (.int .i64 0) _ (k3.cell 0) (k3.free 0)).mono ?_;rintro e u' w'' ⟨rfl,rfl,rfl⟩;have k8:=k3.alloc (.cells #[.int .i64 7] 113);have c9 : World.cell? _ _ = some (.int .i64 7):=(k8.set_ 0 (.int .i64 7)).cell 0;have s9:=(s3.below ((Below.refl _ _).alloc (Nat.le_refl _) (.cells #[.int .i64 7] 113))).fail hbw hlt hf k8 (by omega) hsz 0 (.int .i64 7);refine ⟨.int .i64 7,by simp [results,Tryz.results18,go_sem,c9],?_⟩;rw [HD.out];exact ⟨rfl,s9⟩
  have hd : keepD size S (xs.map (·.e)) x.e = (0,{ S with b:=S.b ++ frm (told3 x.e) },xs.map (·.e) ++ [x.e]):=by unfold keepD;rw [if_neg (by rw [HR.out.1];decide),if_neg (by rw [← HR.out.2];decide),if_pos hroom]
  have HD:=Lib.hid hd;rw [if_pos hroom] at hwr;have HWR:=Lib.hid hwr;clear hd hwr hroom hle;go_wp2_with fail;refine (must_ok _ _).mono ?_;rintro e w3 ⟨rfl,rfl⟩;go_wp2_with fail;refine HWR.out.mono ?_;rintro e w3 ⟨he,d3⟩;obtain rfl : e = .returned (.tuple #[]):=he;have k3:=d3.kept k2 hnF;have kE3:=d3.kept kE2 hnFe
  have hbw3 : Only (fun k=>F k∨k = b) ws w3:=by
    obtain ⟨F3,s3⟩:=HS2.out.op d3;exact (Only.of_below _ hbw).trans s3.sw.only (Grows.refl _ _)
  obtain ⟨F3,s3⟩:=HS2.out.op d3;have HS3:=Lib.hid s3;have c4 : w3.cell? ⟨b,4,none⟩ = some (.slice A n c):=s3.sw.blk.cell 4;have kS3:=s3.sw.blk
  have hnEA : ¬ A.map (·.block) = some ws.heap.size:=fun e=>Nat.lt_irrefl _ (HAL.out _ e)
  have hnkA : ¬ A.map (·.block) = some (ws.heap.size + 1):=own_ne s3.ev.row.2 k3 (by decide);have hnbA : ¬ A.map (·.block) = some b:=own_ne s3.ev.row.2 kS3 (by decide);have hbase : base≤w3.heap.size:=Nat.le_trans hB hbw3.size
  have HOW:=Lib.hid fun (w : World) (hb : Below w3.heap.size w3 w)=>(by
    have:=own_any x w (HXO.out w (hbw3.then_below (hb.mono hbw3.size))) HXM.out
    rw [← HCS.out] at this
    exact this : Calls Tryz.prog 54 #[.agg cs] w fun e w'=>∃ z : EvV,e = .returned (.agg z.cs)∧z.e = x.e∧EvOwn w' w.heap.size z∧Below w.heap.size w w')
  clear d3 k2 kE2 HWR HO2 HS2 s3
  go_upto_region 7 with fail
  refine wp_region_tailF 12 9 (fun L v w=>v 3 = .pointer (some ⟨ws.heap.size,0,none⟩)∧v 0 = .pointer (some ⟨b,0,none⟩)∧Only (fun k=>A.map (·.block) = some k) w3 w∧(L 8 = false→Below w3.heap.size w3 w)∧(L 0 = true→v 22 = .pointer (some ⟨b,0,none⟩))∧(L 1 = true→v 23 = .pointer (some ⟨b,0,none⟩))∧(L 2 = true→v 24 = .pointer (some ⟨b,0,none⟩))∧(L 3 = true→v 25 = .pointer (some ⟨b,4,none⟩))∧(L 4 = true→v 26 = .slice A n c)∧(L 5 = true→v 27 = .agg cs)∧(L 6 = true→(L 8 = false→∃ z : EvV,v 28 = .agg z.cs∧z.e = x.e∧EvOwn w w3.heap.size z))∧(L 7 = true→(L 8 = false→∃ (z : EvV) (gB : Nat),v 29 = .slice (some ⟨gB,0,none⟩) 1 1∧z.e = x.e∧EvOwn w w3.heap.size z∧Blk w gB 47 z.cs))∧(L 8 = true→KpRow w3 w base A n xs x.e (v 30))) [22,23,24,25,26,27,28,29,30] (by kernel_rfl) (by kernel_rfl) (by kernel_rfl) (by kernel_rfl) (by kernel_rfl) (by kernel_rfl) ?h0 ?hst ?hend
  case h0 =>
    intro L h0;have h0 : ∀ i,i < 9→L i = false:=h0;exact ⟨rfl,rfl,(Only.of_below _ (Below.refl _ _).drew),(fun _=>(Below.refl _ _).drew),offF h0 (i:=0) (by decide),offF h0 (i:=1) (by decide),offF h0 (i:=2) (by decide),offF h0 (i:=3) (by decide),offF h0 (i:=4) (by decide),offF h0 (i:=5) (by decide),offF h0 (i:=6) (by decide),offF h0 (i:=7) (by decide),offF h0 (i:=8) (by decide)⟩
  case hst =>
    show FactSteps _ _ _ _ [0,1,2,3,4,5,6,7,8]
    refine @FactSteps.cons _ _ _ _ 0 _ [] _ rfl (by kernel_rfl) ?s0 ?_;rotate_left;refine @FactSteps.cons _ _ _ _ 1 _ [] _ rfl (by kernel_rfl) ?s1 ?_;rotate_left;refine @FactSteps.cons _ _ _ _ 2 _ [1] _ rfl (by kernel_rfl) ?s2 ?_;rotate_left;refine @FactSteps.cons _ _ _ _ 3 _ [2] _ rfl (by kernel_rfl) ?s3 ?_;rotate_left;refine @FactSteps.cons _ _ _ _ 4 _ [3] _ rfl (by kernel_rfl) ?s4 ?_;rotate_left;refine @FactSteps.cons _ _ _ _ 5 _ [] _ rfl (by kernel_rfl) ?s5 ?_;rotate_left;refine @FactSteps.cons _ _ _ _ 6 _ [5] _ rfl (by kernel_rfl) ?s6 ?_;rotate_left;refine @FactSteps.cons _ _ _ _ 7 _ [6] _ rfl (by kernel_rfl) ?s7 ?_;rotate_left;refine @FactSteps.cons _ _ _ _ 8 _ [4,7,6] _ rfl (by kernel_rfl) ?s8 ?_;rotate_left;exact FactSteps.nil
    case s0 =>
      rintro L a v w hv hg hL hd hcl ⟨e3,e0,ho,hb8,f0,f1,f2,f3,f4,f5,f6,f7,f8⟩ K hK;refine step_do rfl ?_;clear hv;go_simp;exact hK.out _ _ ⟨e3,e0,ho,hb8,fun _=>rfl,f1,f2,f3,f4,f5,f6,f7,f8⟩
    case s1 =>
      rintro L a v w hv hg hL hd hcl ⟨e3,e0,ho,hb8,f0,f1,f2,f3,f4,f5,f6,f7,f8⟩ K hK;refine step_do rfl ?_;clear hv;go_simp;exact hK.out _ _ ⟨e3,e0,ho,hb8,f0,fun _=>rfl,f2,f3,f4,f5,f6,f7,f8⟩
    case s2 =>
      rintro L a v w hv hg hL hd hcl ⟨e3,e0,ho,hb8,f0,f1,f2,f3,f4,f5,f6,f7,f8⟩ K hK;have g1:=f1 (hd 1 (by decide));have g1:=f1 (hd 1 (by decide));refine step_do rfl ?_;clear hv;go_simp;exact hK.out _ _ ⟨e3,e0,ho,hb8,f0,f1,fun _=>rfl,f3,f4,f5,f6,f7,f8⟩
    case s3 =>
      rintro L a v w hv hg hL hd hcl ⟨e3,e0,ho,hb8,f0,f1,f2,f3,f4,f5,f6,f7,f8⟩ K hK;have g2:=f2 (hd 2 (by decide));have g2:=f2 (hd 2 (by decide));refine step_do rfl ?_;clear hv;go_simp;exact hK.out _ _ ⟨e3,e0,ho,hb8,f0,f1,f2,fun _=>rfl,f4,f5,f6,f7,f8⟩
    case s4 =>
      rintro L a v w hv hg hL hd hcl ⟨e3,e0,ho,hb8,f0,f1,f2,f3,f4,f5,f6,f7,f8⟩ K hK;have g3:=f3 (hd 3 (by decide));have g3:=f3 (hd 3 (by decide));have cs4 : w.cell? ⟨b,4,none⟩ = some (.slice A n c):=(kS3.only ho hnbA).cell 4;refine step_do rfl ?_;clear hv;go_simp;exact hK.out _ _ ⟨e3,e0,ho,hb8,f0,f1,f2,f3,fun _=>rfl,f5,f6,f7,f8⟩
    case s5 =>
      rintro L a v w hv hg hL hd hcl ⟨e3,e0,ho,hb8,f0,f1,f2,f3,f4,f5,f6,f7,f8⟩ K hK;refine step_do rfl ?_;refine wp_ld rowE (.tmp 3) rfl ((hv 3).trans e3) (kE3.only ho hnEA) SZ.out ?_;exact hK.out _ _ ⟨e3,e0,ho,hb8,f0,f1,f2,f3,f4,fun _=>rfl,f6,f7,f8⟩
    case s6 =>
      rintro L a v w hv hg hL hd hcl ⟨e3,e0,ho,hb8,f0,f1,f2,f3,f4,f5,f6,f7,f8⟩ K hK;have g5:=f5 (hd 5 (by decide));have c8 : L 8 = false:=off_of hcl (j:=8) (by kernel_rfl : waitsAt _ 8 = [4,7,6]) (d:=6) (by decide) hL;have how:=HOW.out w (hb8 c8);refine step_do rfl ?_;clear hv;go_simp;refine how.mono ?_;rintro e wy ⟨z,rfl,hz,oz,bb⟩;exact hK.out _ _ ⟨e3,e0,(ho.then_below (bb.mono ho.size)),(fun _=>(hb8 c8).trans (bb.mono (hb8 c8).size)),f0,f1,f2,f3,f4,f5,fun _ _=>⟨z,rfl,hz,oz.1,oz.2.1.mono (hb8 c8).size,oz.2.2⟩,(fun h h8=>(by obtain ⟨z,gB,e,hz,o,k⟩:=f7 h h8;exact ⟨z,gB,e,hz,⟨o.1,o.2.1.below bb (Nat.le_refl _),o.2.2⟩,k.below bb k.lt⟩)),(offC c8)⟩
    case s7 =>
      rintro L a v w hv hg hL hd hcl ⟨e3,e0,ho,hb8,f0,f1,f2,f3,f4,f5,f6,f7,f8⟩ K hK;have c8 : L 8 = false:=off_of hcl (j:=8) (by kernel_rfl : waitsAt _ 8 = [4,7,6]) (d:=7) (by decide) hL;obtain ⟨z,q6,hz,oz⟩:=f6 (hd 6 (by decide)) c8;have q6:=(hv 28).trans q6;have bb : Below w.heap.size w (w.alloc (.cells z.cs 47)):=(Below.refl _ _).alloc (Nat.le_refl _) _;refine step_do rfl ?_;refine step_bs (v:=.slice (some ⟨w.heap.size,0,none⟩) 1 1) (w':=w.alloc (.cells z.cs 47)) 48 1 #[(0,.tmp 28)] rfl (by simp only [List.map_toArray,List.map_cons,List.map_nil,q6];exact buildE1 z w) ?_;exact hK.out _ _ ⟨e3,e0,(ho.then_below (bb.mono ho.size)),(fun _=>(hb8 c8).trans (bb.mono (hb8 c8).size)),f0,f1,f2,f3,f4,f5,(fun h h8=>(by obtain ⟨z,e,hz,o⟩:=f6 h h8;exact ⟨z,e,hz,o.1,o.2.1.below bb (Nat.le_refl _),o.2.2⟩)),fun _ _=>⟨z,w.heap.size,rfl,hz,⟨oz.1,oz.2.1.below bb (Nat.le_refl _),oz.2.2⟩,Blk.new w _ _⟩,(offC c8)⟩
    case s8 =>
      rintro L a v w hv hg hL hd hcl ⟨e3,e0,ho,hb8,f0,f1,f2,f3,f4,f5,f6,f7,f8⟩ K hK;have g4:=f4 (hd 4 (by decide));obtain ⟨z,gB,q7,hz,oz,kB⟩:=f7 (hd 7 (by decide)) hL;have hbx:=hb8 hL;have evx:=HS3.out.ev.below hbx;refine step_do rfl ?_;refine step_appE (.tmp 26) (.tmp 29) rfl ((hv 26).trans g4) evx.row ((hv 29).trans q7) (news:=[z]) (B:=gB + 1) (by rw [show ecsL [z] = z.cs.toList by simp [ecsL]];exact Blk.rdMg kB) rfl (by omega) (Nat.le_trans hbase hbx.size) ?_;intro A9 c9 w9 o9 g9 m9 b9
      have kp : KpRow w3 w9 base A n xs x.e (.slice A9 (n + 1) c9):=⟨A9,c9,z,rfl,o9,hz,fun y hy=>(by
          rcases List.mem_append.1 hy with q | q
          · exact ⟨(evx.own y q).1,(evx.own y q).2.1.grown g9 (own2_ne (evx.own y q).2.1.2 evx.row.2 (by decide)),(evx.own y q).2.2⟩
          · rw [List.mem_singleton.1 q];exact ⟨oz.1,(oz.2.1.mono hbase).grown g9 (own2_ne oz.2.1.2 evx.row.2 (by decide)),oz.2.2⟩),(by
          rcases m9 with q | q
          · exact .inl q
          · exact .inr (fun k hk=>by rw [q] at hk;injection hk with hk;rw [← hk];exact hbx.size)),fun k hk=>(oz.2.1.lt k hk).1⟩
      exact hK.out _ _ ⟨e3,e0,(ho.trans (only_row g9) (Grows.refl _ _)),(fun h=>(by cases h)),f0,f1,f2,f3,f4,f5,(fun _ h=>(by cases h)),(fun _ h=>(by cases h)),fun _=>kp⟩
  case hend =>
  rintro L v we hall ⟨e3,e0,ho,hb8,f0,f1,f2,f3,f4,f5,f6,f7,f8⟩;have hL : ∀ i,i < 9→L i = true:=hall;have f0:=f0 (hL 0 (by decide));have f1:=f1 (hL 1 (by decide));have f2:=f2 (hL 2 (by decide));have f3:=f3 (hL 3 (by decide));have f4:=f4 (hL 4 (by decide));have f5:=f5 (hL 5 (by decide));have f6:=f6 (hL 6 (by decide));have f7:=f7 (hL 7 (by decide));have f8:=f8 (hL 8 (by decide));obtain ⟨A9,c9,z,q8,o9,hz,hown,hmv,hzb⟩:=f8
  simp only [finA,List.foldl_cons,List.foldl_nil,Act.put,List.setIfInBounds_toArray,List.set_cons_succ,List.set_cons_zero,f0,f1,f2,f3,f4,f5,q8]
  have kS:=kS3.only ho hnbA;have ke:=k3.only ho hnkA;have HO:=Lib.hid ho;clear e3 e0 f0 f1 f2 f3 f4 f5 f6 f7 hL hall ho hb8 q8
  show wpList _ _ _ [_,_,_] _ _
  have c4e : we.cell? ⟨b,4,none⟩ = some (.slice A n c):=kS.cell 4;have u4e:=kS.free 4;have hlb:=kS.lt
  have hEb : ws.heap.size + 1 ≠ b:=by omega
  have k10:=kS.set_ 4 (.slice A9 (n + 1) c9);have ke10:=ke.far (p:=⟨b,4,none⟩) hEb (.slice A9 (n + 1) c9);have c0e : World.cell? _ ⟨ws.heap.size + 1,0,none⟩ = some (.int .i64 0):=ke10.cell 0;have u0e:=ke10.free 0;have ce0 : we.cell? ⟨ws.heap.size + 1,0,none⟩ = some (.int .i64 0):=ke.cell 0;have ue0:=ke.free 0;have hle0:=ke.lt
  have hnF3e : ¬ F3 (ws.heap.size + 1):=fun q=>by
    rcases HS3.out.sw.grows _ q with y | y
    · exact hnF y
    · omega
  have hfin : EOp ws F b g size base A xs { S with b:=S.b ++ frm (told3 x.e) } (xs.map (·.e) ++ [x.e]) ((we.setCell ⟨b,4,none⟩ (.slice A9 (n + 1) c9)).setCell ⟨ws.heap.size + 1,0,none⟩ (.int .i64 0)):=by
    have s3:=HS3.out;have hl3:=s3.ev.lt;have hd3 : Keeps F3 w3 we:=HO.out.keeps (fun k hk q=>(s3.ev.nf k q).1 hk) s3.sw.disk.lt
    have hev : EvsAt we F3 b base A9 (n + 1) c9 (xs ++ [z]):=⟨o9,hown,fun k hk=>by
      rcases hmv with q | q
      · exact s3.ev.nf k (by rw [← q];exact hk)
      · have h9:=q k hk
        exact ⟨fun y=>by have:=s3.sw.disk.lt k y;omega,by have:=kS3.lt;omega⟩,fun y hy k hk=>by
      rcases List.mem_append.1 hy with q | q
      · exact s3.ev.nfx y q k hk
      · rw [List.mem_singleton.1 q] at hk
        have h9:=hzb k hk
        exact ⟨fun y=>by have:=s3.sw.disk.lt k y;omega,by have:=kS3.lt;omega⟩⟩
    have hbF : ∀ k,F3 k→k ≠ b:=fun k hk e=>s3.sw.nb (by rw [← e];exact hk)
    refine ⟨F3,A9,n + 1,c9,xs ++ [z],⟨((s3.sw.disk.keep hd3).keep ⟨by simp [World.setCell],fun k hk=>Below.heap_setCell we _ _ k (hbF k hk)⟩).keep ⟨by simp [World.setCell],fun k hk=>Below.heap_setCell _ _ _ k (fun e=>hnF3e (by have e : k = ws.heap.size + 1:=e;rw [← e];exact hk))⟩,k10.far (p:=⟨ws.heap.size + 1,0,none⟩) (fun e=>hEb e.symm) _,s3.sw.nb⟩,(hev.setT kS (by decide) (by decide) 4 _).setT ke10 (by decide) (by decide) 0 _,by rw [List.map_append,List.map_cons,List.map_nil,hz],?_,fun k hk=>(s3.sw.grows k hk).imp id fun q=>by have:=hbw.size;omega,fun k hk=>by
      rcases hk with q | ⟨y,hy,q⟩
      · rcases hmv with e | e
        · exact .inl (.inl (by rw [← e];exact q))
        · exact .inr (by have:=e k q;have:=hbw3.size;omega)
      · rcases List.mem_append.1 hy with e | e
        · exact .inl (.inr ⟨y,e,q⟩)
        · rw [List.mem_singleton.1 e] at q
          exact .inr (by have:=hzb k q;have:=hbw3.size;omega)⟩
    refine Only.setCell (Only.setCell ?_ (.inl (.inr (.inl rfl))) _) (.inr (by show ws.heap.size≤ws.heap.size + 1;omega)) _;exact (hbw3.mono (G:=fun k=>F k∨k = b∨A.map (·.block) = some k) fun k hk=>.inl (by rcases hk with q | q;exact .inl q;exact .inr (.inl q))).trans (HO.out.mono (G:=fun k=>F k∨k = b∨A.map (·.block) = some k) fun k hk=>.inl (.inr (.inr hk))) (Grows.refl _ _)
  have HFIN:=Lib.hid hfin;have HKE:=Lib.hid ke10;clear hfin k10 ke10 o9 hz hown hmv hzb HOW c4 hnF3e kS ke;go_wp2_with fail;have c9 : World.cell? _ _ = some (.int .i64 0):=(HKE.out.set_ 0 (.int .i64 0)).cell 0;refine leaves_cons (f:=38) (args:=#[.pointer (some ⟨ws.heap.size + 1,0,none⟩)]) (by simp) (by simp [go_sem]) ?_;refine (caught_none _ _).mono ?_;rintro e u' w'' ⟨rfl,rfl,rfl⟩;refine ⟨.int .i64 0,by simp [results,Tryz.results18,go_sem,c9],?_⟩;rw [HD.out];exact ⟨rfl,HFIN.out⟩
end Sto.Stp
end Go.Proofs.YtfpenfgmpbdakaaGreat

namespace Go.Proofs.YtfpenfgmpbdakaaGreat
set_option linter.unusedVariables false
set_option linter.unusedSimpArgs false
set_option maxRecDepth 100000
open Go.RowKit
open Dot Evt
theorem rdfail_any (g : Nat) (x : Int) (w : World) :
    Calls Tryz.prog 123 #[.agg #[.pointer (some ⟨g,0,none⟩)],.int .i64 x] w fun e w'=>e = .panicked [{ v:=eflt x,recovered:=false }]∧Below w.heap.size w w':=by
  go_enter Tryz.func123,Tryz.ntmps123
  go_wp2_with fail;exact ⟨rfl,rfl,(Below.refl _ _).alloc (Nat.le_refl _) _⟩
theorem rdend_any (g : Nat) (A : Option Addr) (n c : Nat) (bs : List UInt8) (b : Bool) (w : World) (hR : Rdr w g A n c bs 0) :
    Calls Tryz.prog 113 #[.agg #[.pointer (some ⟨g,0,none⟩)],.bool b] w fun e w'=>(e = if bs = []∧b = true then .returned (.tuple #[]) else .panicked [{ v:=eflt 4,recovered:=false }])∧Below w.heap.size w w':=by
  have hn:=hR.2.1.1;have hR1 : Rdr (w.alloc (.cells #[.pointer (some ⟨g,0,none⟩)] 160)) g A n c bs 0:=hR.below ((Below.refl _ _).alloc (by have:=hR.lt;omega) _);have HR:=Lib.hid hR1;have hb0 : Below w.heap.size w (w.alloc (.cells #[.pointer (some ⟨g,0,none⟩)] 160)):=(Below.refl _ _).alloc (Nat.le_refl _) _
  by_cases h0 : n = 0
  · have hbs : bs = []:=List.eq_nil_of_length_eq_zero (by omega)
    subst h0
    cases b
    case true =>
      rw [if_pos ⟨hbs,rfl⟩];clear hn hR1 hbs hR
      go_enter Tryz.func113,Tryz.ntmps113
      go_wp2_with fail;refine (left_any g A 0 c bs 0 _ HR.out).mono ?_;rintro e w1 ⟨rfl,rfl⟩;go_wp2_with fail
      go_end0
      exact ⟨rfl,hb0⟩
    case false =>
      rw [if_neg (by simp)];clear hn hR1 hbs hR
      go_enter Tryz.func113,Tryz.ntmps113
      go_wp2_with fail;refine (left_any g A 0 c bs 0 _ HR.out).mono ?_;rintro e w1 ⟨rfl,rfl⟩;go_wp2_with fail;refine (rdfail_any g 4 _).mono ?_;rintro e w2 ⟨rfl,b2⟩;go_wp2_with fail;exact ⟨rfl,rfl,hb0.trans (b2.mono hb0.size)⟩
  · have hbs : ¬ bs = []:=fun e=>h0 (by rw [hn,e];rfl)
    have hd : decide (0 < (n : Int)) = true:=decide_eq_true (by omega);have hd2 : decide (0 < n) = true:=decide_eq_true (by omega);rw [if_neg (fun h=>hbs h.1)];clear hn hR1 hbs hR h0
    go_enter Tryz.func113,Tryz.ntmps113
    go_wp2_with fail;refine (left_any g A n c bs 0 _ HR.out).mono ?_;rintro e w1 ⟨rfl,rfl⟩;go_wp2_with fail;refine (rdfail_any g 4 _).mono ?_;rintro e w2 ⟨rfl,b2⟩;go_wp2_with fail;exact ⟨rfl,rfl,hb0.trans (b2.mono hb0.size)⟩
def GB (g b : Nat) : Nat→Prop:=fun k=>k = g∨k = b
def RNum (w : World) (g b : Nat) (T : TypeId) (cs : Array Value) (i : Nat) (bs : List UInt8) (e : Ending) (w' : World) : Prop :=
  Only (GB g b) w w'∧match Vint.dec bs with
    | .ok (x,r)=>e = .returned (.tuple #[])∧(∃ A c,Rdr w' g A r.length c r 0)∧Blk w' b T (cs.setIfInBounds i (.int .i64 (x : Nat)))
    | .error x=>e = .panicked [{ v:=eflt (x : Nat),recovered:=false }]
theorem RNum.good {w w' : World} {g b : Nat} {T : TypeId} {cs : Array Value} {i : Nat} {bs : List UInt8} {e : Ending} (h : RNum w g b T cs i bs e w') {x : Nat} {r : List UInt8} (hd : Vint.dec bs = .ok (x,r)) :
    e = .returned (.tuple #[])∧(∃ A c,Rdr w' g A r.length c r 0)∧Blk w' b T (cs.setIfInBounds i (.int .i64 (x : Nat)))∧Only (GB g b) w w':=by
  obtain ⟨h1,h2⟩:=h;rw [hd] at h2;exact ⟨h2.1,h2.2.1,h2.2.2,h1⟩
theorem RNum.bad {w w' : World} {g b : Nat} {T : TypeId} {cs : Array Value} {i : Nat} {bs : List UInt8} {e : Ending} (h : RNum w g b T cs i bs e w') {x : Nat} (hd : Vint.dec bs = .error x) :
    e = .panicked [{ v:=eflt (x : Nat),recovered:=false }]∧Only (GB g b) w w':=by
  obtain ⟨h1,h2⟩:=h;rw [hd] at h2;exact ⟨h2,h1⟩
theorem rdnum_any (g b : Nat) (T : TypeId) (cs : Array Value) (i : Nat) (A : Option Addr) (n c : Nat) (bs : List UInt8) (w : World) (hR : Rdr w g A n c bs 0) (hb : Blk w b T cs) (hgb : g < b) (hi : i < cs.size) :
    Calls Tryz.prog 163 #[.agg #[.pointer (some ⟨g,0,none⟩)],.pointer (some ⟨b,i,none⟩)] w (RNum w g b T cs i bs):=by
  obtain ⟨W,hW⟩ : ∃ W,W = w.alloc (.cells #[.pointer (some ⟨g,0,none⟩)] 160):=⟨_,rfl⟩;obtain ⟨s,hs⟩ : ∃ s,s = w.heap.size:=⟨_,rfl⟩
  have hBW : Below w.heap.size w W:=by rw [hW];exact (Below.refl _ _).alloc (Nat.le_refl _) _
  have hRW : Rdr W g A n c bs 0:=hR.below (hBW.mono (by have:=hR.lt;omega));have hbW:=hb.below hBW hb.lt
  have ks : Blk W s 160 #[.pointer (some ⟨g,0,none⟩)]:=by rw [hW,hs];exact Blk.new _ _ _
  have hbs : b < s:=by rw [hs];exact hb.lt
  have o0 : Only (GB g b) w W:=Only.of_below _ hBW;have HW:=Lib.hid hW;have HS:=Lib.hid hs;have HI:=Lib.hid hi;have ib:=int_any g A n c bs 0 W hRW;have HIB:=Lib.hid ib;clear hW hs hi hR hb ib;have hc0:=ks.cell 0
  go_enter Tryz.func163,Tryz.ntmps163
  go_upto_region 1 with fail
  rw [← HW.out,← HS.out];have hc0 : W.cell? ⟨s,0,none⟩ = some (.pointer (some ⟨g,0,none⟩)):=ks.cell 0;go_wp2_with fail;refine HIB.out.mono ?_;rintro e w1 ⟨rfl,g1,A1,c1,r1⟩;have b1:=hbW.grown g1 (by simp;omega);have s1:=ks.grown g1 (by simp;omega);have o1:=o0.trans (Only.of_grown (F:=GB g b) g1 (.inl rfl)) (Grows.refl _ _);have HI1:=HI.out
  have cb : w1.cell? ⟨b,i,none⟩ = some cs[i]:=by rw [b1.cell];exact Array.getElem?_eq_getElem HI1
  have fb:=b1.free i;have b2:=b1.set_ i (.int .i64 ((Vint.intM bs 0).1 : Nat));have s2:=s1.far (p:=⟨b,i,none⟩) (by simp;omega) (.int .i64 ((Vint.intM bs 0).1 : Nat));have r2:=r1.below (w':=w1.setCell ⟨b,i,none⟩ (.int .i64 ((Vint.intM bs 0).1 : Nat))) ((Below.refl _ _).setCell (by show g + 1≤b;omega) _);have o2:=o1.setCell (p:=⟨b,i,none⟩) (.inl (.inr rfl)) (.int .i64 ((Vint.intM bs 0).1 : Nat));clear hbW o0 o1 g1 r1 s1 HIB hBW hRW ks hc0
  generalize cs[i] = v at cb
  cases hd : Vint.dec bs with
  | ok p =>
    obtain ⟨x,r⟩:=p;have hI:=Vint.intM_ok hd;rw [hI] at b2 s2 r2 o2 ⊢;have HD:=Lib.hid hd;clear hd hI
    go_upto_region 2 with fail
    refine nameW ?_;intro w2 hw2;rw [← hw2] at b2 s2 r2 o2;have c2 : w2.cell? ⟨s,0,none⟩ = some (.pointer (some ⟨g,0,none⟩)):=s2.cell 0;clear hw2 cb fb b1;go_wp2_with fail;refine (err_any g A1 r.length c1 r 0 w2 r2).mono ?_;rintro e w3 ⟨rfl,rfl⟩;go_wp2_with fail
    go_end0
    refine ⟨o2,?_⟩;rw [HD.out];exact ⟨rfl,⟨A1,c1,r2⟩,b2⟩
  | error x =>
    have hI:=Vint.intM_bad hd;have hx:=Vint.dec_err hd;rw [hI] at b2 s2 r2 o2 ⊢;rw [show ((0 : Nat) : Int) = 0 from rfl] at b2 s2 r2 o2;have HD:=Lib.hid hd
    have hne : (((x : Nat) : Int) == 0) = false:=by rw [beq_eq_false_iff_ne];omega
    have hne2 : (((x : Nat) : Int) != 0) = true:=by rw [bne_iff_ne];omega
    clear hd hI hx
    go_upto_region 2 with fail
    refine nameW ?_;intro w2 hw2;rw [← hw2] at b2 s2 r2 o2;have c2 : w2.cell? ⟨s,0,none⟩ = some (.pointer (some ⟨g,0,none⟩)):=s2.cell 0;clear hw2 cb fb b1;go_wp2_with fail;refine (err_any g A1 _ c1 bs x w2 r2).mono ?_;rintro e w3 ⟨rfl,rfl⟩;go_wp2_with fail;refine (rdfail_any g x _).mono ?_;rintro e w4 ⟨rfl,b4⟩;go_wp2_with fail;refine ⟨rfl,o2.then_below (b4.mono o2.size),?_⟩;rw [HD.out]
end Go.Proofs.YtfpenfgmpbdakaaGreat

namespace Go.Proofs.YtfpenfgmpbdakaaGreat.Evt
set_option linter.unusedVariables false
set_option linter.unusedSimpArgs false
set_option maxRecDepth 100000
open Dot
def decs : Nat→List UInt8→Except Nat (List Nat × List UInt8)
  | 0,l=>.ok ([],l)
  | k + 1,l=>match Vint.dec l with
    | .error x=>.error x
    | .ok (n,r)=>match decs k r with
      | .error x=>.error x
      | .ok (ns,r')=>.ok (n :: ns,r')
def decD : Nat→List UInt8→Except Nat (List Dt × List UInt8)
  | 0,l=>.ok ([],l)
  | k + 1,l=>match decD k l with
    | .error x=>.error x
    | .ok (ds,r)=>match Vint.dec r with
      | .error x=>.error x
      | .ok (n,r1)=>match Vint.dec r1 with
        | .error x=>.error x
        | .ok (q,r2)=>.ok (ds ++ [((n : Int),(q : Int))],r2)
def decL (l : List UInt8) : Except Nat (List Dt × List UInt8) :=
  match Vint.dec l with
  | .error x=>.error x
  | .ok (m,r)=>if 96 < m then .error 6 else decD m r
def decK (n q t k wk : Nat) (l : List UInt8) : Except Nat (Ev × List UInt8) :=
  if k = 1 then
    match Vint.dec l with
    | .error x=>.error x
    | .ok (v,r)=>.ok (⟨((n : Int),(q : Int)),t,k,wk,v,p0,[]⟩,r)
  else if k = 2 then
    match decs 7 l with
    | .error x=>.error x
    | .ok (p,r)=>match decL r with
      | .error x=>.error x
      | .ok (ds,r')=>.ok (⟨((n : Int),(q : Int)),t,k,wk,0,p.map fun x : Nat=>(x : Int),ds⟩,r')
  else
    match decL l with
    | .error x=>.error x
    | .ok (ds,r')=>.ok (⟨((n : Int),(q : Int)),t,k,wk,0,p0,ds⟩,r')
def decE (l : List UInt8) : Except Nat (Ev × List UInt8) :=
  match Vint.dec l with
  | .error x=>.error x
  | .ok (n,l1)=>match Vint.dec l1 with
    | .error x=>.error x
    | .ok (q,l2)=>match Vint.dec l2 with
      | .error x=>.error x
      | .ok (t,l3)=>match Vint.dec l3 with
        | .error x=>.error x
        | .ok (k,l4)=>if 1≤k∧k≤3 then
            match Vint.dec l4 with
            | .error x=>.error x
            | .ok (wk,l5)=>decK n q t k wk l5
          else .error 4
theorem decs_len : ∀ (k : Nat) (l : List UInt8) (ns : List Nat) (r : List UInt8),decs k l = .ok (ns,r)→ns.length = k:=by
  intro k
  induction k with
  | zero=>intro l ns r h;simp [decs] at h;rw [h.1];rfl
  | succ k ih =>
    intro l ns r h
    unfold decs at h
    split at h
    · cases h
    · split at h
      · cases h
      · rename_i h2
        injection h with h
        injection h with h _
        rw [← h,List.length_cons,ih _ _ _ h2]
theorem decs_enc : ∀ (ns : List Nat) (r : List UInt8),(∀ n ∈ ns,n≤Vint.top)→decs ns.length (ns.flatMap Vint.enc ++ r) = .ok (ns,r):=by
  intro ns
  induction ns with
  | nil=>intro r _;rfl
  | cons n ns ih =>
    intro r h;rw [List.length_cons,decs,List.flatMap_cons,List.append_assoc,Vint.dec_enc (h n (by simp))]
    simp only [ih r fun x hx=>h x (by simp [hx])]
theorem decD_err {k : Nat} {l : List UInt8} {x : Nat} (h : decD k l = .error x) : ∀ m,k≤m→decD m l = .error x:=by
  intro m
  induction m with
  | zero => intro hk; obtain rfl : k = 0 := by omega
            exact h
  | succ m ih =>
    intro hk
    by_cases e : k = m + 1
    · rw [← e];exact h
    · rw [decD,ih (by omega)]
theorem decD_len : ∀ (k : Nat) (l : List UInt8) (ds : List Dt) (r : List UInt8),decD k l = .ok (ds,r)→ds.length = k:=by
  intro k
  induction k with
  | zero=>intro l ds r h;simp [decD] at h;rw [h.1];rfl
  | succ k ih =>
    intro l ds r h
    unfold decD at h
    split at h
    · cases h
    · rename_i h1
      split at h
      · cases h
      · split at h
        · cases h
        · injection h with h
          injection h with h _
          rw [← h,List.length_append,ih _ _ _ h1]
          rfl
def encD (l : List Dt) : List UInt8:=l.flatMap fun d=>Vint.enc d.1.toNat ++ Vint.enc d.2.toNat
theorem decD_enc (l : List Dt) (h : ∀ d ∈ l,(0≤d.1∧d.1≤top)∧0≤d.2∧d.2≤top) : ∀ k,k≤l.length→∀ r,decD k (encD (l.take k) ++ r) = .ok (l.take k,r):=by
  intro k
  induction k with
  | zero=>intro _ r;rfl
  | succ k ih =>
    intro hk r
    have hkl : k < l.length:=by omega
    have hd:=h _ (List.getElem_mem hkl);have t1 : Vint.top = 1099511627776:=rfl;have t2 : top = 1099511627776:=rfl;have ht : l.take (k + 1) = l.take k ++ [l[k]]:=List.take_succ_eq_append_getElem hkl;have h1:=ih (by omega) (Vint.enc l[k].1.toNat ++ (Vint.enc l[k].2.toNat ++ r))
    have e : encD (l.take (k + 1)) ++ r = encD (l.take k) ++ (Vint.enc l[k].1.toNat ++ (Vint.enc l[k].2.toNat ++ r)):=by rw [ht];simp only [encD,List.flatMap_append,List.flatMap_cons,List.flatMap_nil,List.append_nil,List.append_assoc]
    rw [e,decD,h1]
    simp only [Vint.dec_enc (show l[k].1.toNat≤Vint.top by omega),Vint.dec_enc (show l[k].2.toNat≤Vint.top by omega)]
    rw [ht]
    have e1 : ((l[k].1.toNat : Nat) : Int) = l[k].1:=by omega
    have e2 : ((l[k].2.toNat : Nat) : Int) = l[k].2:=by omega
    rw [e1,e2]
theorem decL_enc (l : List Dt) (hl : l.length≤96) (h : ∀ d ∈ l,(0≤d.1∧d.1≤top)∧0≤d.2∧d.2≤top) (r : List UInt8) : decL (Vint.enc l.length ++ (encD l ++ r)) = .ok (l,r):=by
  have t1 : Vint.top = 1099511627776:=rfl
  unfold decL
  rw [Vint.dec_enc (by omega)]
  simp only
  rw [if_neg (by omega)]
  have:=decD_enc l h l.length (Nat.le_refl _) r
  rwa [List.take_length] at this
end Go.Proofs.YtfpenfgmpbdakaaGreat.Evt

namespace Go.Proofs.YtfpenfgmpbdakaaGreat
set_option linter.unusedVariables false
set_option linter.unusedSimpArgs false
set_option maxRecDepth 100000
open Go.RowKit
open Dot Evt
abbrev rnumV (g : Nat) : Value:=.func (.method "murmur/event.number") #[.iface 160 (.agg #[.pointer (some ⟨g,0,none⟩)])] #[]
theorem gb_trans {g b : Nat} {w w1 w2 : World} (h : Only (GB g b) w w1) (k : Only (GB g b) w1 w2) : Only (GB g b) w w2:=h.trans k (Grows.refl _ _)
theorem gb_new {g b r : Nat} {w w1 w2 : World} (h : Only (GB g b) w w1) (k : Only (GB g r) w1 w2) (hr : w.heap.size≤r) : Only (GB g b) w w2:=h.trans k fun i hi=>by
  rcases hi with rfl | rfl
  · exact .inl (.inl rfl)
  · exact .inr hr
def PolR (w : World) (g b : Nat) (v0 v1 v2 v3 v4 v5 v13 : Value) (bs : List UInt8) (e : Ending) (w' : World) : Prop :=
  Only (GB g b) w w'∧((∃ x0 x1 x2 x3 x4 x5 x6 r,decs 7 bs = .ok ([x0,x1,x2,x3,x4,x5,x6],r)∧e = .returned (.tuple #[])∧(∃ A c,Rdr w' g A r.length c r 0) ∧
      Blk w' b 47 #[v0,v1,v2,v3,v4,v5,.int .i64 (x0 : Nat),.int .i64 (x1 : Nat),.int .i64 (x2 : Nat),.int .i64 (x3 : Nat),.int .i64 (x4 : Nat),.int .i64 (x5 : Nat),.int .i64 (x6 : Nat),v13])
   ∨∃ x,decs 7 bs = .error x∧e = .panicked [{ v:=eflt (x : Nat),recovered:=false }])
set_option maxRecDepth 100000 in
set_option maxHeartbeats 2000000 in
theorem polr_any (b g : Nat) (v0 v1 v2 v3 v4 v5 u0 u1 u2 u3 u4 u5 u6 v13 : Value) (A0 : Option Addr) (n0 c0 : Nat) (bs : List UInt8) (w : World) (h : Rdr w g A0 n0 c0 bs 0) (hb : Blk w b 47 #[v0,v1,v2,v3,v4,v5,u0,u1,u2,u3,u4,u5,u6,v13]) (hne : g < b) :
    Calls Tryz.prog 122 #[.pointer (some ⟨b,6,none⟩),rnumV g] w (PolR w g b v0 v1 v2 v3 v4 v5 v13 bs):=by
  have HGB:=Lib.hid hne;have hbl:=hb.lt
  have hm : ∀ w,(method 246 160 (.agg #[.pointer (some ⟨g,0,none⟩)]) "murmur/event.number").run Tryz.prog w = .ok (163,.agg #[.pointer (some ⟨g,0,none⟩)]) w:=fun w=>by kernel_rfl
  clear hne
  have hix0 : ∀ w,(Instr.index 188 (.agg #[.pointer (some ⟨b,6,none⟩),.pointer (some ⟨b,7,none⟩),.pointer (some ⟨b,8,none⟩),.pointer (some ⟨b,9,none⟩),.pointer (some ⟨b,10,none⟩),.pointer (some ⟨b,11,none⟩),.pointer (some ⟨b,12,none⟩)]) (.int .i64 0)).run Tryz.prog w = .ok (.pointer (some ⟨b,6,none⟩)) w:=fun w=>by kernel_rfl
  have hix1 : ∀ w,(Instr.index 188 (.agg #[.pointer (some ⟨b,6,none⟩),.pointer (some ⟨b,7,none⟩),.pointer (some ⟨b,8,none⟩),.pointer (some ⟨b,9,none⟩),.pointer (some ⟨b,10,none⟩),.pointer (some ⟨b,11,none⟩),.pointer (some ⟨b,12,none⟩)]) (.int .i64 1)).run Tryz.prog w = .ok (.pointer (some ⟨b,7,none⟩)) w:=fun w=>by kernel_rfl
  have hix2 : ∀ w,(Instr.index 188 (.agg #[.pointer (some ⟨b,6,none⟩),.pointer (some ⟨b,7,none⟩),.pointer (some ⟨b,8,none⟩),.pointer (some ⟨b,9,none⟩),.pointer (some ⟨b,10,none⟩),.pointer (some ⟨b,11,none⟩),.pointer (some ⟨b,12,none⟩)]) (.int .i64 2)).run Tryz.prog w = .ok (.pointer (some ⟨b,8,none⟩)) w:=fun w=>by kernel_rfl
  have hix3 : ∀ w,(Instr.index 188 (.agg #[.pointer (some ⟨b,6,none⟩),.pointer (some ⟨b,7,none⟩),.pointer (some ⟨b,8,none⟩),.pointer (some ⟨b,9,none⟩),.pointer (some ⟨b,10,none⟩),.pointer (some ⟨b,11,none⟩),.pointer (some ⟨b,12,none⟩)]) (.int .i64 3)).run Tryz.prog w = .ok (.pointer (some ⟨b,9,none⟩)) w:=fun w=>by kernel_rfl
  have hix4 : ∀ w,(Instr.index 188 (.agg #[.pointer (some ⟨b,6,none⟩),.pointer (some ⟨b,7,none⟩),.pointer (some ⟨b,8,none⟩),.pointer (some ⟨b,9,none⟩),.pointer (some ⟨b,10,none⟩),.pointer (some ⟨b,11,none⟩),.pointer (some ⟨b,12,none⟩)]) (.int .i64 4)).run Tryz.prog w = .ok (.pointer (some ⟨b,10,none⟩)) w:=fun w=>by kernel_rfl
  have hix5 : ∀ w,(Instr.index 188 (.agg #[.pointer (some ⟨b,6,none⟩),.pointer (some ⟨b,7,none⟩),.pointer (some ⟨b,8,none⟩),.pointer (some ⟨b,9,none⟩),.pointer (some ⟨b,10,none⟩),.pointer (some ⟨b,11,none⟩),.pointer (some ⟨b,12,none⟩)]) (.int .i64 5)).run Tryz.prog w = .ok (.pointer (some ⟨b,11,none⟩)) w:=fun w=>by kernel_rfl
  have hix6 : ∀ w,(Instr.index 188 (.agg #[.pointer (some ⟨b,6,none⟩),.pointer (some ⟨b,7,none⟩),.pointer (some ⟨b,8,none⟩),.pointer (some ⟨b,9,none⟩),.pointer (some ⟨b,10,none⟩),.pointer (some ⟨b,11,none⟩),.pointer (some ⟨b,12,none⟩)]) (.int .i64 6)).run Tryz.prog w = .ok (.pointer (some ⟨b,12,none⟩)) w:=fun w=>by kernel_rfl
  go_enter Tryz.func122,Tryz.ntmps122
  go_wp2_with fail
  go_region
  go_wp2_with fail;have h0 : Rdr w.drew g A0 n0 c0 bs 0:=h;have b0 : Blk w.drew b 47 #[v0,v1,v2,v3,v4,v5,u0,u1,u2,u3,u4,u5,u6,v13]:=hb;have o0 : Only (GB g b) w w.drew:=⟨rfl,rfl,rfl,Nat.le_refl _,fun _ _ _=>rfl⟩;have l0e : bs = bs:=rfl;clear h hb l0e;refine wp_loop_rounds 8 ?_;rw [rounds_succ];go_wp2_with fail;refine (rdnum_any g b 47 _ 6 A0 n0 c0 bs _ h0 b0 HGB.out (by simp)).mono ?_;intro e w1 hn
  rcases hd : Vint.dec bs with x | ⟨x0,l1⟩
  · obtain ⟨rfl,oo⟩:=hn.bad hd
    have HE:=Lib.hid (show decs 7 bs = .error x by simp [decs,hd]);have HO:=Lib.hid (gb_trans o0 oo);clear hd hn oo;go_wp2_with fail;exact ⟨rfl,HO.out,.inr ⟨x,HE.out,rfl⟩⟩
  obtain ⟨rfl,⟨A1,c1,h1⟩,bb,oo⟩:=hn.good hd;have b1 : Blk w1 b 47 #[v0,v1,v2,v3,v4,v5,.int .i64 (x0 : Nat),u1,u2,u3,u4,u5,u6,v13]:=bb;have o1:=gb_trans o0 oo;have HD0:=Lib.hid hd;clear hd hn oo bb h0 b0 o0;go_wp2_with fail;rw [rounds_succ];go_wp2_with fail;refine (rdnum_any g b 47 _ 7 A1 _ c1 l1 _ h1 b1 HGB.out (by simp)).mono ?_;intro e w2 hn
  rcases hd : Vint.dec l1 with x | ⟨x1,l2⟩
  · obtain ⟨rfl,oo⟩:=hn.bad hd
    have HE:=Lib.hid (show decs 7 bs = .error x by simp [decs,HD0.out,hd]);have HO:=Lib.hid (gb_trans o1 oo);clear hd hn oo;go_wp2_with fail;exact ⟨rfl,HO.out,.inr ⟨x,HE.out,rfl⟩⟩
  obtain ⟨rfl,⟨A2,c2,h2⟩,bb,oo⟩:=hn.good hd;have b2 : Blk w2 b 47 #[v0,v1,v2,v3,v4,v5,.int .i64 (x0 : Nat),.int .i64 (x1 : Nat),u2,u3,u4,u5,u6,v13]:=bb;have o2:=gb_trans o1 oo;have HD1:=Lib.hid hd;clear hd hn oo bb h1 b1 o1;go_wp2_with fail;rw [rounds_succ];go_wp2_with fail;refine (rdnum_any g b 47 _ 8 A2 _ c2 l2 _ h2 b2 HGB.out (by simp)).mono ?_;intro e w3 hn
  rcases hd : Vint.dec l2 with x | ⟨x2,l3⟩
  · obtain ⟨rfl,oo⟩:=hn.bad hd
    have HE:=Lib.hid (show decs 7 bs = .error x by simp [decs,HD0.out,HD1.out,hd]);have HO:=Lib.hid (gb_trans o2 oo);clear hd hn oo;go_wp2_with fail;exact ⟨rfl,HO.out,.inr ⟨x,HE.out,rfl⟩⟩
  obtain ⟨rfl,⟨A3,c3,h3⟩,bb,oo⟩:=hn.good hd;have b3 : Blk w3 b 47 #[v0,v1,v2,v3,v4,v5,.int .i64 (x0 : Nat),.int .i64 (x1 : Nat),.int .i64 (x2 : Nat),u3,u4,u5,u6,v13]:=bb;have o3:=gb_trans o2 oo;have HD2:=Lib.hid hd;clear hd hn oo bb h2 b2 o2;go_wp2_with fail;rw [rounds_succ];go_wp2_with fail;refine (rdnum_any g b 47 _ 9 A3 _ c3 l3 _ h3 b3 HGB.out (by simp)).mono ?_;intro e w4 hn
  rcases hd : Vint.dec l3 with x | ⟨x3,l4⟩
  · obtain ⟨rfl,oo⟩:=hn.bad hd
    have HE:=Lib.hid (show decs 7 bs = .error x by simp [decs,HD0.out,HD1.out,HD2.out,hd]);have HO:=Lib.hid (gb_trans o3 oo);clear hd hn oo;go_wp2_with fail;exact ⟨rfl,HO.out,.inr ⟨x,HE.out,rfl⟩⟩
  obtain ⟨rfl,⟨A4,c4,h4⟩,bb,oo⟩:=hn.good hd;have b4 : Blk w4 b 47 #[v0,v1,v2,v3,v4,v5,.int .i64 (x0 : Nat),.int .i64 (x1 : Nat),.int .i64 (x2 : Nat),.int .i64 (x3 : Nat),u4,u5,u6,v13]:=bb;have o4:=gb_trans o3 oo;have HD3:=Lib.hid hd;clear hd hn oo bb h3 b3 o3;go_wp2_with fail;rw [rounds_succ];go_wp2_with fail;refine (rdnum_any g b 47 _ 10 A4 _ c4 l4 _ h4 b4 HGB.out (by simp)).mono ?_;intro e w5 hn
  rcases hd : Vint.dec l4 with x | ⟨x4,l5⟩
  · obtain ⟨rfl,oo⟩:=hn.bad hd
    have HE:=Lib.hid (show decs 7 bs = .error x by simp [decs,HD0.out,HD1.out,HD2.out,HD3.out,hd]);have HO:=Lib.hid (gb_trans o4 oo);clear hd hn oo;go_wp2_with fail;exact ⟨rfl,HO.out,.inr ⟨x,HE.out,rfl⟩⟩
  obtain ⟨rfl,⟨A5,c5,h5⟩,bb,oo⟩:=hn.good hd;have b5 : Blk w5 b 47 #[v0,v1,v2,v3,v4,v5,.int .i64 (x0 : Nat),.int .i64 (x1 : Nat),.int .i64 (x2 : Nat),.int .i64 (x3 : Nat),.int .i64 (x4 : Nat),u5,u6,v13]:=bb;have o5:=gb_trans o4 oo;have HD4:=Lib.hid hd;clear hd hn oo bb h4 b4 o4;go_wp2_with fail;rw [rounds_succ];go_wp2_with fail;refine (rdnum_any g b 47 _ 11 A5 _ c5 l5 _ h5 b5 HGB.out (by simp)).mono ?_;intro e w6 hn
  rcases hd : Vint.dec l5 with x | ⟨x5,l6⟩
  · obtain ⟨rfl,oo⟩:=hn.bad hd
    have HE:=Lib.hid (show decs 7 bs = .error x by simp [decs,HD0.out,HD1.out,HD2.out,HD3.out,HD4.out,hd]);have HO:=Lib.hid (gb_trans o5 oo);clear hd hn oo;go_wp2_with fail;exact ⟨rfl,HO.out,.inr ⟨x,HE.out,rfl⟩⟩
  obtain ⟨rfl,⟨A6,c6,h6⟩,bb,oo⟩:=hn.good hd;have b6 : Blk w6 b 47 #[v0,v1,v2,v3,v4,v5,.int .i64 (x0 : Nat),.int .i64 (x1 : Nat),.int .i64 (x2 : Nat),.int .i64 (x3 : Nat),.int .i64 (x4 : Nat),.int .i64 (x5 : Nat),u6,v13]:=bb;have o6:=gb_trans o5 oo;have HD5:=Lib.hid hd;clear hd hn oo bb h5 b5 o5;go_wp2_with fail;rw [rounds_succ];go_wp2_with fail;refine (rdnum_any g b 47 _ 12 A6 _ c6 l6 _ h6 b6 HGB.out (by simp)).mono ?_;intro e w7 hn
  rcases hd : Vint.dec l6 with x | ⟨x6,l7⟩
  · obtain ⟨rfl,oo⟩:=hn.bad hd
    have HE:=Lib.hid (show decs 7 bs = .error x by simp [decs,HD0.out,HD1.out,HD2.out,HD3.out,HD4.out,HD5.out,hd]);have HO:=Lib.hid (gb_trans o6 oo);clear hd hn oo;go_wp2_with fail;exact ⟨rfl,HO.out,.inr ⟨x,HE.out,rfl⟩⟩
  obtain ⟨rfl,⟨A7,c7,h7⟩,bb,oo⟩:=hn.good hd;have b7 : Blk w7 b 47 #[v0,v1,v2,v3,v4,v5,.int .i64 (x0 : Nat),.int .i64 (x1 : Nat),.int .i64 (x2 : Nat),.int .i64 (x3 : Nat),.int .i64 (x4 : Nat),.int .i64 (x5 : Nat),.int .i64 (x6 : Nat),v13]:=bb;have o7:=gb_trans o6 oo;have HD6:=Lib.hid hd;clear hd hn oo bb h6 b6 o6;go_wp2_with fail;rw [rounds_succ];go_wp2_with fail
  go_end0
  exact ⟨o7,.inl ⟨x0,x1,x2,x3,x4,x5,x6,l7,by simp [decs,HD0.out,HD1.out,HD2.out,HD3.out,HD4.out,HD5.out,HD6.out],rfl,⟨A7,c7,h7⟩,b7⟩⟩
def dzs (ds : List Dt) (m : Nat) : Array Value:=(dcs ds ++ List.replicate ((m - ds.length) * 2) (Value.int .i64 0)).toArray
theorem dzs_size {ds : List Dt} {m : Nat} (h : ds.length≤m) : (dzs ds m).size = m * 2:=by
  unfold dzs
  rw [List.size_toArray,List.length_append,dcs_len,List.length_replicate]
  omega
theorem dzs_full {ds : List Dt} {m : Nat} (h : ds.length = m) : dzs ds m = (dcs ds).toArray:=by
  unfold dzs
  rw [show (m - ds.length) * 2 = 0 by omega]
  simp
theorem dzs_set (ds : List Dt) (m : Nat) (x y : Int) (h : ds.length < m) : ((dzs ds m).setIfInBounds (ds.length * 2) (.int .i64 x)).setIfInBounds (ds.length * 2 + 1) (.int .i64 y) = dzs (ds ++ [(x,y)]) m:=by
  apply Array.toList_inj.1
  rw [Array.toList_setIfInBounds,Array.toList_setIfInBounds]
  show ((dcs ds ++ List.replicate ((m - ds.length) * 2) (Value.int .i64 0)).set (ds.length * 2) _).set (ds.length * 2 + 1) _ = dcs (ds ++ [(x,y)]) ++ List.replicate ((m - (ds ++ [(x,y)]).length) * 2) (.int .i64 0)
  obtain ⟨k,hk⟩ : ∃ k,(m - ds.length) * 2 = k + 1 + 1:=⟨(m - ds.length) * 2 - 2,by omega⟩
  have hk2 : (m - (ds ++ [(x,y)]).length) * 2 = k:=by rw [List.length_append];simp;omega
  rw [hk,hk2,dcs_app,List.replicate_succ,List.replicate_succ,List.set_append,if_neg (by rw [dcs_len];omega),dcs_len,Nat.sub_self,List.set_cons_zero,List.set_append,if_neg (by rw [dcs_len];omega),dcs_len,show ds.length * 2 + 1 - ds.length * 2 = 0 + 1 by omega,List.set_cons_succ,List.set_cons_zero]
  simp [dcs]
theorem run_makeD (W : World) (m : Nat) (hm : m≤1000000) : (Instr.makeSlice 45 (.int .i64 (m : Int)) (.int .i64 (m : Int))).run Tryz.prog W = .ok (.slice (some ⟨W.heap.size,0,none⟩) m m) (W.alloc (.cells (dzs [] m) 42)):=by
  obtain ⟨i0,hi,hz0,hz1,hz2⟩:=info_parts infoD;have h:=run_make (P:=Tryz.prog) (w:=W) 45 42 i0 (.agg #[.int .i64 0,.int .i64 0]) Tryz.underlying45 hi hz0 .i64 .i64 m m (by omega) (by omega) (by rw [hz2];omega) (by omega);rw [hz1] at h
  simp only [Int.toNat_natCast] at h
  rw [h]
  have e : madeCells (Value.agg #[.int .i64 0,.int .i64 0]).cells (m * 2) = dzs [] m:=by
    have hz:=dzs_size (ds:=[]) (m:=m) (Nat.zero_le _)
    apply Array.ext_getElem?
    intro i
    by_cases hi : i < m * 2
    · have h2 : (dzs [] m)[i]? = some (.int .i64 0):=by
        show ((dcs [] ++ List.replicate ((m - 0) * 2) (Value.int .i64 0)).toArray)[i]? = _
        rw [List.getElem?_toArray]
        simp [dcs,hi]
      rw [h2]
      unfold madeCells
      rw [Array.getElem?_map,Array.getElem?_range,if_pos hi,Option.map_some]
      have h3 : i % 2 = 0∨i % 2 = 1:=by omega
      show some ((#[Value.int .i64 0,Value.int .i64 0] : Array Value)[i % 2]!) = _
      rcases h3 with h3 | h3 <;> rw [h3] <;> rfl
    · rw [Array.getElem?_eq_none (by rw [size_madeCells];omega),Array.getElem?_eq_none (by rw [hz];omega)]
  rw [e]
theorem own_dzs {w : World} {base d m : Nat} {ds : List Dt} (h : Blk w d 42 (dzs ds m)) (hl : ds.length = m) (hb : base≤d) (hm : m≤1000000) : OwnD w base (some ⟨d,0,none⟩) m m ds:=by
  rw [dzs_full hl] at h;refine ⟨hl.symm,by rw [dcs_len,hl],.inr ⟨d,m,_,rfl,hb,h,Nat.le_refl _,by unfold maxLen;omega,?_,?_⟩⟩
  · rw [List.size_toArray,dcs_len,hl]
  · exact List.take_of_length_le (by rw [dcs_len,hl];omega)
def ThrR (w : World) (g b : Nat) (bs : List UInt8) (e : Ending) (w' : World) : Prop :=
  Only (GB g b) w w'∧((∃ x r,decE bs = .ok (x,r)∧e = .returned (.tuple #[])∧(∃ A c,Rdr w' g A r.length c r 0)∧∃ A' m' c',Blk w' b 47 (ec x (.slice A' m' c'))∧OwnD w' w.heap.size A' m' c' x.l)
   ∨∃ x,decE bs = .error x∧e = .panicked [{ v:=eflt (x : Nat),recovered:=false }])
set_option maxRecDepth 100000 in
set_option maxHeartbeats 4000000 in
theorem thrr_any (b g : Nat) (A0 : Option Addr) (n0 c0 : Nat) (bs : List UInt8) (w : World) (h : Rdr w g A0 n0 c0 bs 0) (hb : Blk w b 47 #[.int .i64 0,.int .i64 0,.int .i64 0,.int .i64 0,.int .i64 0,.int .i64 0,.int .i64 0,.int .i64 0,.int .i64 0,.int .i64 0,.int .i64 0,.int .i64 0,.int .i64 0,.slice none 0 0]) (hne : g < b) :
    Calls Tryz.prog 112 #[.pointer (some ⟨b,0,none⟩),.iface 160 (.agg #[.pointer (some ⟨g,0,none⟩)])] w (ThrR w g b bs):=by
  have HGB:=Lib.hid hne;have hbl:=hb.lt;have HBL:=Lib.hid hbl
  have hm : ∀ w,(method 246 160 (.agg #[.pointer (some ⟨g,0,none⟩)]) "murmur/event.number").run Tryz.prog w = .ok (163,.agg #[.pointer (some ⟨g,0,none⟩)]) w:=fun w=>by kernel_rfl
  have hmF : ∀ w,(method 246 160 (.agg #[.pointer (some ⟨g,0,none⟩)]) "murmur/event.fail").run Tryz.prog w = .ok (123,.agg #[.pointer (some ⟨g,0,none⟩)]) w:=fun w=>by kernel_rfl
  have hmf : ∀ (fn : Fn) (first cap : Array Value) (w : World),(Instr.makeFunc fn first cap).run Tryz.prog w = .ok (.func fn first cap) w:=fun _ _ _ _=>rfl
  clear hne
  have hix0 : ∀ w,(Instr.index 174 (.agg #[.pointer (some ⟨b,0,none⟩),.pointer (some ⟨b,1,none⟩),.pointer (some ⟨b,2,none⟩),.pointer (some ⟨b,3,none⟩)]) (.int .i64 0)).run Tryz.prog w = .ok (.pointer (some ⟨b,0,none⟩)) w:=fun w=>by kernel_rfl
  have hix1 : ∀ w,(Instr.index 174 (.agg #[.pointer (some ⟨b,0,none⟩),.pointer (some ⟨b,1,none⟩),.pointer (some ⟨b,2,none⟩),.pointer (some ⟨b,3,none⟩)]) (.int .i64 1)).run Tryz.prog w = .ok (.pointer (some ⟨b,1,none⟩)) w:=fun w=>by kernel_rfl
  have hix2 : ∀ w,(Instr.index 174 (.agg #[.pointer (some ⟨b,0,none⟩),.pointer (some ⟨b,1,none⟩),.pointer (some ⟨b,2,none⟩),.pointer (some ⟨b,3,none⟩)]) (.int .i64 2)).run Tryz.prog w = .ok (.pointer (some ⟨b,2,none⟩)) w:=fun w=>by kernel_rfl
  have hix3 : ∀ w,(Instr.index 174 (.agg #[.pointer (some ⟨b,0,none⟩),.pointer (some ⟨b,1,none⟩),.pointer (some ⟨b,2,none⟩),.pointer (some ⟨b,3,none⟩)]) (.int .i64 3)).run Tryz.prog w = .ok (.pointer (some ⟨b,3,none⟩)) w:=fun w=>by kernel_rfl
  go_enter Tryz.func112,Tryz.ntmps112
  go_wp2_with fail
  go_region
  go_wp2_with fail;have h0 : Rdr w.drew g A0 n0 c0 bs 0:=h;have b0 : Blk w.drew b 47 #[.int .i64 0,.int .i64 0,.int .i64 0,.int .i64 0,.int .i64 0,.int .i64 0,.int .i64 0,.int .i64 0,.int .i64 0,.int .i64 0,.int .i64 0,.int .i64 0,.int .i64 0,.slice none 0 0]:=hb;have o0 : Only (GB g b) w w.drew:=⟨rfl,rfl,rfl,Nat.le_refl _,fun _ _ _=>rfl⟩;clear h hb;refine wp_loop_rounds 5 ?_;rw [rounds_succ];go_wp2_with fail;refine (rdnum_any g b 47 _ 0 A0 n0 c0 bs _ h0 b0 HGB.out (by simp)).mono ?_;intro e w1 hn
  rcases hd : Vint.dec bs with x | ⟨n,l1⟩
  · obtain ⟨rfl,oo⟩:=hn.bad hd
    have HE:=Lib.hid (show decE bs = .error x by simp [decE,decK,hd]);have HO:=Lib.hid (gb_trans o0 oo);clear hd hn oo;go_wp2_with fail;exact ⟨rfl,HO.out,.inr ⟨x,HE.out,rfl⟩⟩
  obtain ⟨rfl,⟨A1,c1,h1⟩,bb,oo⟩:=hn.good hd;have b1 : Blk w1 b 47 #[.int .i64 (n : Nat),.int .i64 0,.int .i64 0,.int .i64 0,.int .i64 0,.int .i64 0,.int .i64 0,.int .i64 0,.int .i64 0,.int .i64 0,.int .i64 0,.int .i64 0,.int .i64 0,.slice none 0 0]:=bb;have o1:=gb_trans o0 oo;have HD0:=Lib.hid hd;clear hd hn oo bb h0 b0 o0;go_wp2_with fail;rw [rounds_succ];go_wp2_with fail;refine (rdnum_any g b 47 _ 1 A1 _ c1 l1 _ h1 b1 HGB.out (by simp)).mono ?_;intro e w2 hn
  rcases hd : Vint.dec l1 with x | ⟨q,l2⟩
  · obtain ⟨rfl,oo⟩:=hn.bad hd
    have HE:=Lib.hid (show decE bs = .error x by simp [decE,decK,HD0.out,hd]);have HO:=Lib.hid (gb_trans o1 oo);clear hd hn oo;go_wp2_with fail;exact ⟨rfl,HO.out,.inr ⟨x,HE.out,rfl⟩⟩
  obtain ⟨rfl,⟨A2,c2,h2⟩,bb,oo⟩:=hn.good hd;have b2 : Blk w2 b 47 #[.int .i64 (n : Nat),.int .i64 (q : Nat),.int .i64 0,.int .i64 0,.int .i64 0,.int .i64 0,.int .i64 0,.int .i64 0,.int .i64 0,.int .i64 0,.int .i64 0,.int .i64 0,.int .i64 0,.slice none 0 0]:=bb;have o2:=gb_trans o1 oo;have HD1:=Lib.hid hd;clear hd hn oo bb h1 b1 o1;go_wp2_with fail;rw [rounds_succ];go_wp2_with fail;refine (rdnum_any g b 47 _ 2 A2 _ c2 l2 _ h2 b2 HGB.out (by simp)).mono ?_;intro e w3 hn
  rcases hd : Vint.dec l2 with x | ⟨t,l3⟩
  · obtain ⟨rfl,oo⟩:=hn.bad hd
    have HE:=Lib.hid (show decE bs = .error x by simp [decE,decK,HD0.out,HD1.out,hd]);have HO:=Lib.hid (gb_trans o2 oo);clear hd hn oo;go_wp2_with fail;exact ⟨rfl,HO.out,.inr ⟨x,HE.out,rfl⟩⟩
  obtain ⟨rfl,⟨A3,c3,h3⟩,bb,oo⟩:=hn.good hd;have b3 : Blk w3 b 47 #[.int .i64 (n : Nat),.int .i64 (q : Nat),.int .i64 (t : Nat),.int .i64 0,.int .i64 0,.int .i64 0,.int .i64 0,.int .i64 0,.int .i64 0,.int .i64 0,.int .i64 0,.int .i64 0,.int .i64 0,.slice none 0 0]:=bb;have o3:=gb_trans o2 oo;have HD2:=Lib.hid hd;clear hd hn oo bb h2 b2 o2;go_wp2_with fail;rw [rounds_succ];go_wp2_with fail;refine (rdnum_any g b 47 _ 3 A3 _ c3 l3 _ h3 b3 HGB.out (by simp)).mono ?_;intro e w4 hn
  rcases hd : Vint.dec l3 with x | ⟨k,l4⟩
  · obtain ⟨rfl,oo⟩:=hn.bad hd
    have HE:=Lib.hid (show decE bs = .error x by simp [decE,decK,HD0.out,HD1.out,HD2.out,hd]);have HO:=Lib.hid (gb_trans o3 oo);clear hd hn oo;go_wp2_with fail;exact ⟨rfl,HO.out,.inr ⟨x,HE.out,rfl⟩⟩
  obtain ⟨rfl,⟨A4,c4,h4⟩,bb,oo⟩:=hn.good hd;have b4 : Blk w4 b 47 #[.int .i64 (n : Nat),.int .i64 (q : Nat),.int .i64 (t : Nat),.int .i64 (k : Nat),.int .i64 0,.int .i64 0,.int .i64 0,.int .i64 0,.int .i64 0,.int .i64 0,.int .i64 0,.int .i64 0,.int .i64 0,.slice none 0 0]:=bb;have o4:=gb_trans o3 oo;have HD3:=Lib.hid hd;clear hd hn oo bb h3 b3 o3;go_wp2_with fail;rw [rounds_succ];have ck : w4.cell? ⟨b,3,none⟩ = some (.int .i64 (k : Nat)):=b4.cell 3;go_wp2_with fail;refine (within_any _ _ _ _).mono ?_;rintro e w4' ⟨rfl,rfl⟩
  by_cases hk : 1≤k∧k≤3
  case neg =>
    have HE:=Lib.hid (show decE bs = .error 4 by simp only [decE,HD0.out,HD1.out,HD2.out,HD3.out];rw [if_neg hk]);rw [show inB (k : Int) 1 3 = false by rw [← Bool.not_eq_true,inB_iff];omega];clear hk;go_wp2_with fail;refine (rdfail_any g 4 _).mono ?_;rintro e w5 ⟨rfl,b5⟩;go_wp2_with fail;exact ⟨rfl,o4.then_below (b5.mono o4.size),.inr ⟨4,HE.out,rfl⟩⟩
  have HK:=Lib.hid hk;rw [show inB (k : Int) 1 3 = true by rw [inB_iff];omega];clear hk;go_wp2_with fail;refine (rdnum_any g b 47 _ 4 A4 _ c4 l4 _ h4 b4 HGB.out (by simp)).mono ?_;intro e w5 hn
  rcases hd : Vint.dec l4 with x | ⟨wk,l5⟩
  · obtain ⟨rfl,oo⟩:=hn.bad hd
    have HE:=Lib.hid (show decE bs = .error x by simp [decE,decK,HD0.out,HD1.out,HD2.out,HD3.out,HK.out.1,HK.out.2,hd]);have HO:=Lib.hid (gb_trans o4 oo);clear hd hn oo;go_wp2_with fail;exact ⟨rfl,HO.out,.inr ⟨x,HE.out,rfl⟩⟩
  obtain ⟨rfl,⟨A5,c5,h5⟩,bb,oo⟩:=hn.good hd;have b5 : Blk w5 b 47 #[.int .i64 (n : Nat),.int .i64 (q : Nat),.int .i64 (t : Nat),.int .i64 (k : Nat),.int .i64 (wk : Nat),.int .i64 0,.int .i64 0,.int .i64 0,.int .i64 0,.int .i64 0,.int .i64 0,.int .i64 0,.int .i64 0,.slice none 0 0]:=bb;have o5:=gb_trans o4 oo;have HD4:=Lib.hid hd;clear hd hn oo bb h4 b4 o4
  have hdK : decE bs = decK n q t k wk l5:=by simp [decE,HD0.out,HD1.out,HD2.out,HD3.out,HK.out.1,HK.out.2,HD4.out]
  have HDK:=Lib.hid hdK;clear hdK ck;have ck : w5.cell? ⟨b,3,none⟩ = some (.int .i64 (k : Nat)):=b5.cell 3
  by_cases hk1 : k = 1
  · have hq1 : ((k : Int) == 1) = true:=by rw [beq_iff_eq];omega
    have HK1:=Lib.hid hk1;clear hk1;go_wp2_with fail;refine (rdnum_any g b 47 _ 5 A5 _ c5 l5 _ h5 b5 HGB.out (by simp)).mono ?_;intro e w6 hn
    rcases hd : Vint.dec l5 with x | ⟨v,l6⟩
    · obtain ⟨rfl,oo⟩:=hn.bad hd
      have HE:=Lib.hid (show decE bs = .error x by simp [HDK.out,decK,HK1.out,hd]);have HO:=Lib.hid (gb_trans o5 oo);clear hd hn oo;go_wp2_with fail;exact ⟨rfl,HO.out,.inr ⟨x,HE.out,rfl⟩⟩
    obtain ⟨rfl,⟨A6,c6,h6⟩,bb,oo⟩:=hn.good hd;have b6 : Blk w6 b 47 #[.int .i64 (n : Nat),.int .i64 (q : Nat),.int .i64 (t : Nat),.int .i64 (k : Nat),.int .i64 (wk : Nat),.int .i64 (v : Nat),.int .i64 0,.int .i64 0,.int .i64 0,.int .i64 0,.int .i64 0,.int .i64 0,.int .i64 0,.slice none 0 0]:=bb;have o6:=gb_trans o5 oo;have HD5:=Lib.hid hd;clear hd hn oo bb h5 b5 o5;have HE:=Lib.hid (show decE bs = .ok (⟨((n : Int),(q : Int)),(t : Nat),(k : Nat),(wk : Nat),(v : Nat),Evt.p0,[]⟩,l6) by simp [HDK.out,decK,HK1.out,HD5.out]);go_wp2_with fail
    (try simp only [Exit.inBlock,Exit.then])
    refine bodyPost_ret (results_none rfl _ _ _) rfl ?_;exact ⟨o6,.inl ⟨_,_,HE.out,rfl,⟨A6,c6,h6⟩,none,0,0,b6,OwnD.nil _ _⟩⟩
  have hq1 : ((k : Int) == 1) = false:=by rw [beq_eq_false_iff_ne];omega
  have HK1:=Lib.hid hk1;clear hk1
  by_cases hk2 : k = 2
  · have hq2 : ((k : Int) == 2) = true:=by rw [beq_iff_eq];omega
    have HK2:=Lib.hid hk2;clear hk2;go_wp2_with fail;refine (polr_any b g _ _ _ _ _ _ _ _ _ _ _ _ _ _ A5 _ c5 l5 _ h5 b5 HGB.out).mono ?_;rintro e w6 ⟨oo,⟨x0,x1,x2,x3,x4,x5,x6,l6,hd,rfl,⟨A6,c6,h6⟩,b6⟩ | ⟨x,hd,rfl⟩⟩
    case inr =>
      have HE:=Lib.hid (show decE bs = .error x by simp [HDK.out,decK,HK2.out,hd]);have HO:=Lib.hid (gb_trans o5 oo);clear hd oo;go_wp2_with fail;exact ⟨rfl,HO.out,.inr ⟨x,HE.out,rfl⟩⟩
    have o6:=gb_trans o5 oo;have HD5:=Lib.hid hd;clear hd oo h5 b5 o5;have cs : w6.cell? ⟨b,13,none⟩ = some (.slice none 0 0):=b6.cell 13
    go_upto_region 15 with fail
    refine nameW ?_;intro wa hwa;obtain ⟨r,hr⟩ : ∃ r,r = w6.heap.size:=⟨_,rfl⟩;rw [← hr]
    have ka : Blk wa r 3 #[.int .i64 0]:=by rw [hwa,hr];exact Blk.new _ _ _
    have ha : Rdr wa g A6 l6.length c6 l6 0:=by rw [hwa];exact h6.below ((Below.refl _ _).alloc (by have:=h6.lt;omega) _)
    have ba : Blk wa b 47 #[.int .i64 (n : Nat),.int .i64 (q : Nat),.int .i64 (t : Nat),.int .i64 (k : Nat),.int .i64 (wk : Nat),.int .i64 0,.int .i64 (x0 : Nat),.int .i64 (x1 : Nat),.int .i64 (x2 : Nat),.int .i64 (x3 : Nat),.int .i64 (x4 : Nat),.int .i64 (x5 : Nat),.int .i64 (x6 : Nat),.slice none 0 0]:=by rw [hwa];exact b6.alloc _
    have oa : Only (GB g b) w wa:=by rw [hwa];exact o6.alloc _
    have hrw : w.heap.size≤r:=by rw [hr];exact o6.size
    have hgr : g < r:=by have:=h6.lt;omega
    have hbr : b < r:=by have:=b6.lt;omega
    have HR3:=Lib.hid (show w.heap.size≤r∧g < r∧b < r from ⟨hrw,hgr,hbr⟩);clear hwa hr h6 b6 o6 cs hgr ck hbr hrw;go_wp2_with fail;refine (rdnum_any g r 3 _ 0 A6 _ c6 l6 _ ha ka HR3.out.2.1 (by simp)).mono ?_;intro e wc hn
    rcases hd : Vint.dec l6 with x | ⟨m,lm⟩
    · obtain ⟨rfl,oo⟩:=hn.bad hd
      have HE:=Lib.hid (show decE bs = .error x by simp [HDK.out,decK,decL,HK2.out,HD5.out,hd]);have HO:=Lib.hid (gb_new oa oo HR3.out.1);clear hd hn oo;go_wp2_with fail;exact ⟨rfl,HO.out,.inr ⟨x,HE.out,rfl⟩⟩
    obtain ⟨rfl,⟨Am,cm,hM⟩,bb,oo⟩:=hn.good hd;have kc : Blk wc r 3 #[.int .i64 (m : Nat)]:=bb;have bC : Blk wc b 47 #[.int .i64 (n : Nat),.int .i64 (q : Nat),.int .i64 (t : Nat),.int .i64 (k : Nat),.int .i64 (wk : Nat),.int .i64 0,.int .i64 (x0 : Nat),.int .i64 (x1 : Nat),.int .i64 (x2 : Nat),.int .i64 (x3 : Nat),.int .i64 (x4 : Nat),.int .i64 (x5 : Nat),.int .i64 (x6 : Nat),.slice none 0 0]:=(oo.block b ba.lt (by rintro (h | h);have:=HGB.out;omega;have:=HR3.out.2.2;omega)).trans ba;have oC:=gb_new oa oo HR3.out.1;have HDM:=Lib.hid hd;have cr : wc.cell? ⟨r,0,none⟩ = some (.int .i64 (m : Nat)):=kc.cell 0;clear hd hn oo bb ha ba oa ka
    by_cases hm96 : 96 < m
    · have hmd : decide ((96 : Int) < (m : Int)) = true:=decide_eq_true (by omega)
      have HE:=Lib.hid (show decE bs = .error 6 by simp [HDK.out,decK,decL,HK2.out,HD5.out,HDM.out,hm96]);clear hm96;go_wp2_with fail;refine (rdfail_any g 6 _).mono ?_;rintro e w8 ⟨rfl,b8⟩;go_wp2_with fail;exact ⟨rfl,oC.then_below (b8.mono oC.size),.inr ⟨6,HE.out,rfl⟩⟩
    have hmd : decide ((96 : Int) < (m : Int)) = false:=decide_eq_false (by omega);have H96:=Lib.hid (show m≤96 by omega)
    have HDD:=Lib.hid (show ∀ j x,j≤m→decD j lm = .error x→decE bs = .error x from fun j x hj hx=>by
      have hx2:=decD_err hx m hj
      simp [HDK.out,decK,decL,HK2.out,HD5.out,HDM.out,hm96,hx2])
    have HDK2:=Lib.hid (show ∀ ds lr,decD m lm = .ok (ds,lr)→decE bs = .ok (⟨((n : Int),(q : Int)),(t : Nat),(k : Nat),(wk : Nat),0,[x0,x1,x2,x3,x4,x5,x6].map fun x : Nat=>(x : Int),ds⟩,lr) from fun ds lr hx=>by
      simp [HDK.out,decK,decL,HK2.out,HD5.out,HDM.out,hm96,hx])
    clear hm96;have cs : wc.cell? ⟨b,13,none⟩ = some (.slice none 0 0):=bC.cell 13
    go_upto_region 18 with fail
    by_cases hm0 : m = 0
    · subst hm0
      have HF:=HDK2.out [] lm rfl;have HFF:=Lib.hid HF;clear HF
      go_region
      go_wp2_with fail;refine wp_loop_rounds 1 ?_;rw [rounds_succ];go_wp2_with fail
      go_end0
      exact ⟨oC.drewN 1,.inl ⟨_,_,HFF.out,rfl,⟨Am,cm,hM⟩,none,0,0,bC,OwnD.nil _ _⟩⟩
    have hmn : ((0 : Int) != (m : Int)) = true:=by rw [bne_iff_ne];omega
    have hmk:=run_makeD wc.drew m (by have:=H96.out;omega);have hbw : b < wc.heap.size:=bC.lt;have fb:=bC.free 13
    go_region
    go_upto_region 20 with fail
    refine nameW ?_;intro wd hwd;obtain ⟨d,hd⟩ : ∃ d,d = wc.heap.size:=⟨_,rfl⟩;rw [← hd]
    have kd : Blk wd d 42 (dzs [] m):=by
      have h1:=Blk.new (wc.setCell ⟨b,13,none⟩ (.slice (some ⟨wc.heap.size,0,none⟩) m m)) 42 (dzs [] m);rw [show (wc.setCell ⟨b,13,none⟩ (.slice (some ⟨wc.heap.size,0,none⟩) m m)).heap.size = wc.heap.size by simp [World.setCell]] at h1;rw [hwd,hd];exact h1
    have bD : Blk wd b 47 #[.int .i64 (n : Nat),.int .i64 (q : Nat),.int .i64 (t : Nat),.int .i64 (k : Nat),.int .i64 (wk : Nat),.int .i64 0,.int .i64 (x0 : Nat),.int .i64 (x1 : Nat),.int .i64 (x2 : Nat),.int .i64 (x3 : Nat),.int .i64 (x4 : Nat),.int .i64 (x5 : Nat),.int .i64 (x6 : Nat),.slice (some ⟨d,0,none⟩) m m]:=by
      rw [hwd,hd];exact (bC.set_ 13 (.slice (some ⟨wc.heap.size,0,none⟩) m m)).alloc _
    have hD : Rdr wd g Am lm.length cm lm 0:=by
      rw [hwd];refine hM.below ?_;have h1 : Below (g + 1) wc (wc.setCell ⟨b,13,none⟩ (.slice (some ⟨wc.heap.size,0,none⟩) m m)):=(Below.refl _ _).setCell (by show g + 1≤b;have:=HGB.out;omega) _;exact (h1.alloc (by have:=hM.lt;simp [World.setCell];omega) _).drew
    have oD : Only (GB g b) w wd:=by
      rw [hwd];have h1:=(oC.setCell (p:=⟨b,13,none⟩) (.inl (.inr rfl)) (.slice (some ⟨wc.heap.size,0,none⟩) m m)).alloc (.cells (dzs [] m) 42);exact ⟨h1.os,h1.tape,h1.output,h1.size,h1.block⟩
    have hgd : g < d:=by have:=hM.lt;omega
    have hbd : b < d:=by omega
    have HGD:=Lib.hid (show g < d∧b < d∧w.heap.size≤d from ⟨hgd,hbd,by rw [hd];exact oC.size⟩);clear hwd hd hM bC kc oC cr cs hmk fb hbw hmn hgd hbd hm0;have cs : wd.cell? ⟨b,13,none⟩ = some (.slice (some ⟨d,0,none⟩) m m):=bD.cell 13;go_wp2_with fail
    go_loopw [93] (fun i wr=>∃ (j : Nat) (ds : List Dt) (lr : List UInt8) (A : Option Addr) (c : Nat),j≤m∧i = .int .i64 j∧decD j lm = .ok (ds,lr)∧Rdr wr g A lr.length c lr 0∧Blk wr b 47 #[.int .i64 (n : Nat),.int .i64 (q : Nat),.int .i64 (t : Nat),.int .i64 (k : Nat),.int .i64 (wk : Nat),.int .i64 0,.int .i64 (x0 : Nat),.int .i64 (x1 : Nat),.int .i64 (x2 : Nat),.int .i64 (x3 : Nat),.int .i64 (x4 : Nat),.int .i64 (x5 : Nat),.int .i64 (x6 : Nat),.slice (some ⟨d,0,none⟩) m m]∧Blk wr d 42 (dzs ds m)∧Only (GB g b) w wr) (fun i _=>m - (intOf i).toNat)
    case atStart=>exact ⟨0,[],lm,Am,cm,by omega,rfl,rfl,hD,bD,kd,oD⟩
    case round =>
      clear hD bD kd oD cs;obtain ⟨j,ds,lr,A,c,hj,rfl,hdj,hR,bR,kR,oR⟩:=hrel;have cs : wr.cell? ⟨b,13,none⟩ = some (.slice (some ⟨d,0,none⟩) m m):=bR.cell 13;have hdl:=decD_len _ _ _ _ hdj;have HDJ:=Lib.hid hdj;have HDL:=Lib.hid hdl;clear hdj hdl
      by_cases hlt : j < m
      · have hj0 : (0 : Int)≤(j : Int):=by omega
        have hjm : (j : Int) < (m : Int):=by omega
        have hsz:=dzs_size (ds:=ds) (m:=m) (by rw [HDL.out];omega);have HSZ:=Lib.hid hsz;clear hsz;go_wp2_with fail;refine (rdnum_any g d 42 _ (j * 2) A _ c lr _ hR kR HGD.out.1 (by rw [HSZ.out];omega)).mono ?_;intro e wx hn
        rcases hd : Vint.dec lr with x | ⟨x,lx⟩
        · obtain ⟨rfl,oo⟩:=hn.bad hd
          have HE:=Lib.hid (HDD.out (j + 1) x (by omega) (by simp [decD,HDJ.out,hd]));have HO:=Lib.hid (gb_new oR oo HGD.out.2.2);clear hd hn oo;go_wp2_with fail;exact ⟨rfl,HO.out,.inr ⟨x,HE.out,rfl⟩⟩
        obtain ⟨rfl,⟨Ax,cx,hX⟩,kX,oo⟩:=hn.good hd;have bX:=(show Blk wx b _ _ from (oo.block b bR.lt (by rintro (h | h);have:=HGB.out;omega;have:=HGD.out.2.1;omega)).trans bR);have oX:=gb_new oR oo HGD.out.2.2;have HDX:=Lib.hid hd;have cs : wx.cell? ⟨b,13,none⟩ = some (.slice (some ⟨d,0,none⟩) m m):=bX.cell 13;clear hd hn oo hR kR bR oR;go_wp2_with fail;refine (rdnum_any g d 42 _ (j * 2 + 1) Ax _ cx lx _ hX kX HGD.out.1 (by rw [Array.size_setIfInBounds,HSZ.out];omega)).mono ?_;intro e wy hn
        rcases hd : Vint.dec lx with y | ⟨y,ly⟩
        · obtain ⟨rfl,oo⟩:=hn.bad hd
          have HE:=Lib.hid (HDD.out (j + 1) y (by omega) (by simp [decD,HDJ.out,HDX.out,hd]));have HO:=Lib.hid (gb_new oX oo HGD.out.2.2);clear hd hn oo;go_wp2_with fail;exact ⟨rfl,HO.out,.inr ⟨y,HE.out,rfl⟩⟩
        obtain ⟨rfl,⟨Ay,cy,hY⟩,kY,oo⟩:=hn.good hd;have bY:=(show Blk wy b _ _ from (oo.block b bX.lt (by rintro (h | h);have:=HGB.out;omega;have:=HGD.out.2.1;omega)).trans bX);have oY:=gb_new oX oo HGD.out.2.2;have hds:=dzs_set ds m x y (by rw [HDL.out];exact hlt);rw [HDL.out] at hds;rw [hds] at kY;have HDY:=Lib.hid (show decD (j + 1) lm = .ok (ds ++ [((x : Int),(y : Int))],ly) by simp [decD,HDJ.out,HDX.out,hd]);clear hd hn oo hX kX bX oX hds;go_wp2_with fail
        go_roundw
        case rel=>exact ⟨j + 1,_,ly,Ay,cy,by omega,num_succ j (by have:=H96.out;omega),HDY.out,hY,bY,kY,oY⟩
        case measure=>exact meas_succ j m hlt (by have:=H96.out;omega)
      · obtain rfl : j = m:=by omega
        have HF:=Lib.hid (HDK2.out ds lr HDJ.out);have hkd : decide ((j : Int) < (j : Int)) = false:=decide_eq_false (by omega);go_wp2_with fail
        go_end0
        exact ⟨oR,.inl ⟨_,_,HF.out,rfl,⟨A,c,hR⟩,_,_,_,bR,own_dzs kR HDL.out HGD.out.2.2 (by have:=H96.out;omega)⟩⟩
  have hq2 : ((k : Int) == 2) = false:=by rw [beq_eq_false_iff_ne];omega
  have HK2:=Lib.hid hk2;clear hk2;have cs : w5.cell? ⟨b,13,none⟩ = some (.slice none 0 0):=b5.cell 13
  go_upto_region 15 with fail
  refine nameW ?_;intro wa hwa;obtain ⟨r,hr⟩ : ∃ r,r = w5.heap.size:=⟨_,rfl⟩;rw [← hr]
  have ka : Blk wa r 3 #[.int .i64 0]:=by rw [hwa,hr];exact Blk.new _ _ _
  have ha : Rdr wa g A5 l5.length c5 l5 0:=by rw [hwa];exact h5.below ((Below.refl _ _).alloc (by have:=h5.lt;omega) _)
  have ba : Blk wa b 47 #[.int .i64 (n : Nat),.int .i64 (q : Nat),.int .i64 (t : Nat),.int .i64 (k : Nat),.int .i64 (wk : Nat),.int .i64 0,.int .i64 0,.int .i64 0,.int .i64 0,.int .i64 0,.int .i64 0,.int .i64 0,.int .i64 0,.slice none 0 0]:=by rw [hwa];exact b5.alloc _
  have oa : Only (GB g b) w wa:=by rw [hwa];exact o5.alloc _
  have hrw : w.heap.size≤r:=by rw [hr];exact o5.size
  have hgr : g < r:=by have:=h5.lt;omega
  have hbr : b < r:=by have:=b5.lt;omega
  have HR3:=Lib.hid (show w.heap.size≤r∧g < r∧b < r from ⟨hrw,hgr,hbr⟩);clear hwa hr h5 b5 o5 cs hgr ck hbr hrw;go_wp2_with fail;refine (rdnum_any g r 3 _ 0 A5 _ c5 l5 _ ha ka HR3.out.2.1 (by simp)).mono ?_;intro e wc hn
  rcases hd : Vint.dec l5 with x | ⟨m,lm⟩
  · obtain ⟨rfl,oo⟩:=hn.bad hd
    have HE:=Lib.hid (show decE bs = .error x by simp [HDK.out,decK,decL,HK1.out,HK2.out,hd]);have HO:=Lib.hid (gb_new oa oo HR3.out.1);clear hd hn oo;go_wp2_with fail;exact ⟨rfl,HO.out,.inr ⟨x,HE.out,rfl⟩⟩
  obtain ⟨rfl,⟨Am,cm,hM⟩,bb,oo⟩:=hn.good hd;have kc : Blk wc r 3 #[.int .i64 (m : Nat)]:=bb;have bC : Blk wc b 47 #[.int .i64 (n : Nat),.int .i64 (q : Nat),.int .i64 (t : Nat),.int .i64 (k : Nat),.int .i64 (wk : Nat),.int .i64 0,.int .i64 0,.int .i64 0,.int .i64 0,.int .i64 0,.int .i64 0,.int .i64 0,.int .i64 0,.slice none 0 0]:=(oo.block b ba.lt (by rintro (h | h);have:=HGB.out;omega;have:=HR3.out.2.2;omega)).trans ba;have oC:=gb_new oa oo HR3.out.1;have HDM:=Lib.hid hd;have cr : wc.cell? ⟨r,0,none⟩ = some (.int .i64 (m : Nat)):=kc.cell 0;clear hd hn oo bb ha ba oa ka
  by_cases hm96 : 96 < m
  · have hmd : decide ((96 : Int) < (m : Int)) = true:=decide_eq_true (by omega)
    have HE:=Lib.hid (show decE bs = .error 6 by simp [HDK.out,decK,decL,HK1.out,HK2.out,HDM.out,hm96]);clear hm96;go_wp2_with fail;refine (rdfail_any g 6 _).mono ?_;rintro e w8 ⟨rfl,b8⟩;go_wp2_with fail;exact ⟨rfl,oC.then_below (b8.mono oC.size),.inr ⟨6,HE.out,rfl⟩⟩
  have hmd : decide ((96 : Int) < (m : Int)) = false:=decide_eq_false (by omega);have H96:=Lib.hid (show m≤96 by omega)
  have HDD:=Lib.hid (show ∀ j x,j≤m→decD j lm = .error x→decE bs = .error x from fun j x hj hx=>by
    have hx2:=decD_err hx m hj
    simp [HDK.out,decK,decL,HK1.out,HK2.out,HDM.out,hm96,hx2])
  have HDK2:=Lib.hid (show ∀ ds lr,decD m lm = .ok (ds,lr)→decE bs = .ok (⟨((n : Int),(q : Int)),(t : Nat),(k : Nat),(wk : Nat),0,Evt.p0,ds⟩,lr) from fun ds lr hx=>by
    simp [HDK.out,decK,decL,HK1.out,HK2.out,HDM.out,hm96,hx])
  clear hm96;have cs : wc.cell? ⟨b,13,none⟩ = some (.slice none 0 0):=bC.cell 13
  go_upto_region 18 with fail
  by_cases hm0 : m = 0
  · subst hm0
    have HF:=HDK2.out [] lm rfl;have HFF:=Lib.hid HF;clear HF
    go_region
    go_wp2_with fail;refine wp_loop_rounds 1 ?_;rw [rounds_succ];go_wp2_with fail
    go_end0
    exact ⟨oC.drewN 1,.inl ⟨_,_,HFF.out,rfl,⟨Am,cm,hM⟩,none,0,0,bC,OwnD.nil _ _⟩⟩
  have hmn : ((0 : Int) != (m : Int)) = true:=by rw [bne_iff_ne];omega
  have hmk:=run_makeD wc.drew m (by have:=H96.out;omega);have hbw : b < wc.heap.size:=bC.lt;have fb:=bC.free 13
  go_region
  go_upto_region 20 with fail
  refine nameW ?_;intro wd hwd;obtain ⟨d,hd⟩ : ∃ d,d = wc.heap.size:=⟨_,rfl⟩;rw [← hd]
  have kd : Blk wd d 42 (dzs [] m):=by
    have h1:=Blk.new (wc.setCell ⟨b,13,none⟩ (.slice (some ⟨wc.heap.size,0,none⟩) m m)) 42 (dzs [] m);rw [show (wc.setCell ⟨b,13,none⟩ (.slice (some ⟨wc.heap.size,0,none⟩) m m)).heap.size = wc.heap.size by simp [World.setCell]] at h1;rw [hwd,hd];exact h1
  have bD : Blk wd b 47 #[.int .i64 (n : Nat),.int .i64 (q : Nat),.int .i64 (t : Nat),.int .i64 (k : Nat),.int .i64 (wk : Nat),.int .i64 0,.int .i64 0,.int .i64 0,.int .i64 0,.int .i64 0,.int .i64 0,.int .i64 0,.int .i64 0,.slice (some ⟨d,0,none⟩) m m]:=by
    rw [hwd,hd];exact (bC.set_ 13 (.slice (some ⟨wc.heap.size,0,none⟩) m m)).alloc _
  have hD : Rdr wd g Am lm.length cm lm 0:=by
    rw [hwd];refine hM.below ?_;have h1 : Below (g + 1) wc (wc.setCell ⟨b,13,none⟩ (.slice (some ⟨wc.heap.size,0,none⟩) m m)):=(Below.refl _ _).setCell (by show g + 1≤b;have:=HGB.out;omega) _;exact (h1.alloc (by have:=hM.lt;simp [World.setCell];omega) _).drew
  have oD : Only (GB g b) w wd:=by
    rw [hwd];have h1:=(oC.setCell (p:=⟨b,13,none⟩) (.inl (.inr rfl)) (.slice (some ⟨wc.heap.size,0,none⟩) m m)).alloc (.cells (dzs [] m) 42);exact ⟨h1.os,h1.tape,h1.output,h1.size,h1.block⟩
  have hgd : g < d:=by have:=hM.lt;omega
  have hbd : b < d:=by omega
  have HGD:=Lib.hid (show g < d∧b < d∧w.heap.size≤d from ⟨hgd,hbd,by rw [hd];exact oC.size⟩);clear hwd hd hM bC kc oC cr cs hmk fb hbw hmn hgd hbd hm0;have cs : wd.cell? ⟨b,13,none⟩ = some (.slice (some ⟨d,0,none⟩) m m):=bD.cell 13;go_wp2_with fail
  go_loopw [93] (fun i wr=>∃ (j : Nat) (ds : List Dt) (lr : List UInt8) (A : Option Addr) (c : Nat),j≤m∧i = .int .i64 j∧decD j lm = .ok (ds,lr)∧Rdr wr g A lr.length c lr 0∧Blk wr b 47 #[.int .i64 (n : Nat),.int .i64 (q : Nat),.int .i64 (t : Nat),.int .i64 (k : Nat),.int .i64 (wk : Nat),.int .i64 0,.int .i64 0,.int .i64 0,.int .i64 0,.int .i64 0,.int .i64 0,.int .i64 0,.int .i64 0,.slice (some ⟨d,0,none⟩) m m]∧Blk wr d 42 (dzs ds m)∧Only (GB g b) w wr) (fun i _=>m - (intOf i).toNat)
  case atStart=>exact ⟨0,[],lm,Am,cm,by omega,rfl,rfl,hD,bD,kd,oD⟩
  case round =>
    clear hD bD kd oD cs;obtain ⟨j,ds,lr,A,c,hj,rfl,hdj,hR,bR,kR,oR⟩:=hrel;have cs : wr.cell? ⟨b,13,none⟩ = some (.slice (some ⟨d,0,none⟩) m m):=bR.cell 13;have hdl:=decD_len _ _ _ _ hdj;have HDJ:=Lib.hid hdj;have HDL:=Lib.hid hdl;clear hdj hdl
    by_cases hlt : j < m
    · have hj0 : (0 : Int)≤(j : Int):=by omega
      have hjm : (j : Int) < (m : Int):=by omega
      have hsz:=dzs_size (ds:=ds) (m:=m) (by rw [HDL.out];omega);have HSZ:=Lib.hid hsz;clear hsz;go_wp2_with fail;refine (rdnum_any g d 42 _ (j * 2) A _ c lr _ hR kR HGD.out.1 (by rw [HSZ.out];omega)).mono ?_;intro e wx hn
      rcases hd : Vint.dec lr with x | ⟨x,lx⟩
      · obtain ⟨rfl,oo⟩:=hn.bad hd
        have HE:=Lib.hid (HDD.out (j + 1) x (by omega) (by simp [decD,HDJ.out,hd]));have HO:=Lib.hid (gb_new oR oo HGD.out.2.2);clear hd hn oo;go_wp2_with fail;exact ⟨rfl,HO.out,.inr ⟨x,HE.out,rfl⟩⟩
      obtain ⟨rfl,⟨Ax,cx,hX⟩,kX,oo⟩:=hn.good hd;have bX:=(show Blk wx b _ _ from (oo.block b bR.lt (by rintro (h | h);have:=HGB.out;omega;have:=HGD.out.2.1;omega)).trans bR);have oX:=gb_new oR oo HGD.out.2.2;have HDX:=Lib.hid hd;have cs : wx.cell? ⟨b,13,none⟩ = some (.slice (some ⟨d,0,none⟩) m m):=bX.cell 13;clear hd hn oo hR kR bR oR;go_wp2_with fail;refine (rdnum_any g d 42 _ (j * 2 + 1) Ax _ cx lx _ hX kX HGD.out.1 (by rw [Array.size_setIfInBounds,HSZ.out];omega)).mono ?_;intro e wy hn
      rcases hd : Vint.dec lx with y | ⟨y,ly⟩
      · obtain ⟨rfl,oo⟩:=hn.bad hd
        have HE:=Lib.hid (HDD.out (j + 1) y (by omega) (by simp [decD,HDJ.out,HDX.out,hd]));have HO:=Lib.hid (gb_new oX oo HGD.out.2.2);clear hd hn oo;go_wp2_with fail;exact ⟨rfl,HO.out,.inr ⟨y,HE.out,rfl⟩⟩
      obtain ⟨rfl,⟨Ay,cy,hY⟩,kY,oo⟩:=hn.good hd;have bY:=(show Blk wy b _ _ from (oo.block b bX.lt (by rintro (h | h);have:=HGB.out;omega;have:=HGD.out.2.1;omega)).trans bX);have oY:=gb_new oX oo HGD.out.2.2;have hds:=dzs_set ds m x y (by rw [HDL.out];exact hlt);rw [HDL.out] at hds;rw [hds] at kY;have HDY:=Lib.hid (show decD (j + 1) lm = .ok (ds ++ [((x : Int),(y : Int))],ly) by simp [decD,HDJ.out,HDX.out,hd]);clear hd hn oo hX kX bX oX hds;go_wp2_with fail
      go_roundw
      case rel=>exact ⟨j + 1,_,ly,Ay,cy,by omega,num_succ j (by have:=H96.out;omega),HDY.out,hY,bY,kY,oY⟩
      case measure=>exact meas_succ j m hlt (by have:=H96.out;omega)
    · obtain rfl : j = m:=by omega
      have HF:=Lib.hid (HDK2.out ds lr HDJ.out);have hkd : decide ((j : Int) < (j : Int)) = false:=decide_eq_false (by omega);go_wp2_with fail
      go_end0
      exact ⟨oR,.inl ⟨_,_,HF.out,rfl,⟨A,c,hR⟩,_,_,_,bR,own_dzs kR HDL.out HGD.out.2.2 (by have:=H96.out;omega)⟩⟩
end Go.Proofs.YtfpenfgmpbdakaaGreat

namespace Go.Proofs.YtfpenfgmpbdakaaGreat
set_option linter.unusedVariables false
set_option linter.unusedSimpArgs false
set_option maxRecDepth 100000
open Go.RowKit
open Dot Evt
def getEv (bs : List UInt8) : Ev × Nat:=match decE bs with
  | .ok (x,r)=>if r = []∧rightE x = true then (x,0) else (exZ,4)
  | .error y=>(exZ,y)
def GetEv (w : World) (bs : List UInt8) (e : Ending) (w' : World) : Prop:=∃ A m c,e = .returned (.tuple #[.agg (ec (getEv bs).1 (.slice A m c)),.int .i64 ((getEv bs).2 : Nat)])∧OwnD w' w.heap.size A m c (getEv bs).1.l∧Below w.heap.size w w'
theorem results_cc {P : Program} {T U : TypeId} {n g : Nat} {cs : Array Value} {t : TypeId} {fn : Func} {p q : Tmp} {w : World} {tmps : Array Value} {ad : Addr} {v : Value} (h : fn.results = #[.cell p T,.cell q U]) (hR : RowT P T n) (hB : Blk w g t cs) (hn : cs.size = n) (hp : tmps.getD p undef = .pointer (some ⟨g,0,none⟩)) (hq : tmps.getD q undef = .pointer (some ad)) (hl2 : (loadVar U ad).run P w = .ok v w) : (results fn tmps).run P w = .ok (.tuple #[.agg cs,v]) w:=by
  obtain ⟨d,hu,hd,hi⟩:=hR;rw [← hn,← Array.length_toList] at hi
  have hp' : tmps[p]?.getD undef = .pointer (some ⟨g,0,none⟩):=by simpa using hp
  have hq' : tmps[q]?.getD undef = .pointer (some ad):=by simpa using hq
  have hl:=run_loadVar_mid w g 0 T cs.toList d hB.range hu hd hi;rw [Array.toArray_toList] at hl
  simp [results,h,hp',hq',asAddr,hl,hl2]
def PanicQ (K : Nat) (T0 : Array Value) (D : List Deferred) (c0 : List PanicEntry) (S : World→Prop) (Q : Exit→Act→World→Prop) : Exit→Act→World→Prop
  | .panic c,a,w=>c = c0∧(∀ i,i < K→a.tmps.getD i undef = T0.getD i undef)∧a.defers = D∧S w
  | e,a,w=>Q e a w
theorem wp_panicQ {P : Program} {c : Code} {Q : Exit→Act→World→Prop} {a : Act} {w : World} {K : Nat} {T0 : Array Value} {D : List Deferred} {c0 : List PanicEntry} {S : World→Prop}
    (hp : ∀ a w,(∀ i,i < K→a.tmps.getD i undef = T0.getD i undef)→a.defers = D→S w→Q (.panic c0) a w) (h : c.wp P (PanicQ K T0 D c0 S Q) a w) : c.wp P Q a w :=
  Code.wp_mono (fun e a w h=>by
    cases e
    case panic c =>
      obtain ⟨rfl,h1,h2,h3⟩:=h;exact hp a w h1 h2 h3
    all_goals exact h) h
theorem panicQ_put {K : Nat} {T0 : Array Value} {D : List Deferred} {c0 : List PanicEntry} {S : World→Prop} {Q : Exit→Act→World→Prop} {d : Nat} {v : Value} (hd : K≤d) (c : List PanicEntry) (a : Act) (w : World) (h : PanicQ K T0 D c0 S Q (.panic c) (a.put (some d) v) w) : PanicQ K T0 D c0 S Q (.panic c) a w:=by
  obtain ⟨h1,h2,h3,h4⟩:=h;refine ⟨h1,fun i hi=>?_,h3,h4⟩;rw [← h2 i hi]
  show _ = (a.tmps.setIfInBounds d v).getD i undef
  rw [Array.getD_eq_getD_getElem?,Array.getD_eq_getD_getElem?,Array.getElem?_setIfInBounds_ne (by omega)]
theorem PanicQ.ok {K : Nat} {T0 : Array Value} {D : List Deferred} {c0 : List PanicEntry} {S : World→Prop} {Q : Exit→Act→World→Prop} {a : Act} {w : World} (h : Q .normal a w) : PanicQ K T0 D c0 S Q .normal a w:=h
theorem rowRd : RowT Tryz.prog 160 1:=⟨_,Tryz.underlying160,rfl,by kernel_rfl⟩
theorem decE_p {l : List UInt8} {x : Ev} {r : List UInt8} (h : decE l = .ok (x,r)) : x.p.length = 7:=by
  unfold decE at h
  split at h
  · cases h
  split at h
  · cases h
  split at h
  · cases h
  split at h
  · cases h
  split at h
  case isFalse=>cases h
  split at h
  · cases h
  unfold decK at h
  split at h
  · split at h
    · cases h
    · injection h with h;injection h with h _;rw [← h];rfl
  · split at h
    · split at h
      · cases h
      · rename_i hd
        split at h
        · cases h
        · injection h with h;injection h with h _
          rw [← h]
          show (List.map _ _).length = 7
          rw [List.length_map,decs_len _ _ _ _ hd]
    · split at h
      · cases h
      · injection h with h;injection h with h _;rw [← h];rfl
theorem exZ_cs : cT 0 = ec exZ (.slice none 0 0):=by kernel_rfl
set_option maxRecDepth 100000 in
set_option maxHeartbeats 2000000 in
theorem eget_any (A : Option Addr) (n c : Nat) (bs : List UInt8) (w : World) (hb : RdB w w.heap.size A n bs) (hl : n≤1000000000) :
    Calls Tryz.prog 96 #[.slice A n c] w (GetEv w bs):=by
  have HBS:=Lib.hid fun (w' : World) (h : Below w.heap.size w w')=>hb.below h
  have HL:=Lib.hid hl;clear hb hl
  go_enter_defers Tryz.func96,Tryz.ntmps96
  go_upto_region 2 with fail
  refine nameW ?_;intro W hW;obtain ⟨B,hB⟩ : ∃ B,B = w.heap.size:=⟨_,rfl⟩;rw [← hB]
  have ke : Blk W B 47 (cT 0):=by rw [hW,hB];exact (Blk.new w _ _).alloc _
  have kf : Blk W (B + 1) 27 #[.int .i64 0]:=by
    have h:=Blk.new (w.alloc (.cells (cT 0) 47)) 27 #[.int .i64 0];rw [show (w.alloc (.cells (cT 0) 47)).heap.size = w.heap.size + 1 by simp] at h;rw [hW,hB];exact h
  have gb : Below B w W:=by rw [hW,hB];exact ((Below.refl _ _).alloc (Nat.le_refl _) _).alloc (by simp) _
  have HB:=Lib.hid hB;rw [← hB] at HBS;clear hW hB;go_wp2_with fail;refine (new_any A n c bs B W (HBS.out W gb) (by have:=kf.lt;omega) (by have:=HL.out;omega)).mono ?_;rintro e w1 ⟨A1,c1,g,rfl,hg,hR,b1⟩;have ke1:=ke.below b1 ke.lt;have kf1:=kf.below b1 kf.lt;have gb1:=gb.trans (b1.mono (by have:=ke.lt;omega))
  have hgB : B + 1 < g:=by have:=kf.lt;omega
  clear ke kf gb b1 hg
  go_upto_region 4 with fail
  refine nameW ?_;intro W2 hW2;obtain ⟨v,hv⟩ : ∃ v,v = w1.heap.size:=⟨_,rfl⟩;rw [← hv]
  have kv : Blk W2 v 160 #[.pointer (some ⟨g,0,none⟩)]:=by rw [hW2,hv];exact (Blk.new w1 _ _).alloc _
  have kx : Blk W2 (v + 1) 47 (cT 0):=by
    have h:=Blk.new (w1.alloc (.cells #[.pointer (some ⟨g,0,none⟩)] 160)) 47 (cT 0);rw [show (w1.alloc (.cells #[.pointer (some ⟨g,0,none⟩)] 160)).heap.size = w1.heap.size + 1 by simp] at h;rw [hW2,hv];exact h
  have bA : Below w1.heap.size w1 W2:=by rw [hW2];exact ((Below.refl _ _).alloc (Nat.le_refl _) _).alloc (by simp) _
  have ke2:=ke1.below bA ke1.lt;have kf2:=kf1.below bA kf1.lt;have gb2:=gb1.trans (bA.mono (by have:=ke1.lt;omega));have hR2:=hR.below (bA.mono (by have:=hR.lt;omega))
  have hgv : g < v:=by have:=hR.lt;omega
  have cv : W2.cell? ⟨v,0,none⟩ = some (.pointer (some ⟨g,0,none⟩)):=kv.cell 0;clear hW2 hv ke1 kf1 gb1 hR bA;go_wp2_with fail;refine (thrr_any (v + 1) g A1 bs.length c1 bs W2 hR2 kx (by omega)).mono ?_;rintro e w3 ⟨oo,⟨x,r,hd,rfl,⟨A3,c3,hR3⟩,A4,m4,c4,kx3,o4⟩ | ⟨y,hd,rfl⟩⟩
  case inr =>
    have ke3:=ke2.only oo (by rintro (h | h) <;> omega);have kf3:=kf2.only oo (by rintro (h | h) <;> omega);have gb3:=gb2.trans (oo.to_below (B:=B) (by rintro k (h | h) <;> omega) (by have:=ke2.lt;omega))
    have he : getEv bs = (exZ,y):=by unfold getEv;rw [hd]
    have HE:=Lib.hid he;clear hd he oo;go_wp2_with fail;refine leaves_cons (f:=100) (args:=#[.pointer (some ⟨B + 1,0,none⟩)]) (by simp) (by simp [go_sem]) ?_;refine (ecaught_panic _ _ _ _ _ (kf3.cell 0) (kf3.free 0)).mono ?_;rintro e u' w4 ⟨rfl,rfl,rfl⟩;have k4:=(kf3.alloc (.cells #[.int .i64 (y : Nat)] 166)).set_ 0 (.int .i64 (y : Nat));have e4:=(ke3.alloc (.cells #[.int .i64 (y : Nat)] 166)).far (p:=⟨B + 1,0,none⟩) (by show B ≠ B + 1;omega) (.int .i64 (y : Nat));have c4:=k4.cell 0;have g4 : Below B w ((w3.alloc (.cells #[.int .i64 (y : Nat)] 166)).setCell ⟨B + 1,0,none⟩ (.int .i64 (y : Nat))):=(gb3.alloc (by have:=gb3.size;have:=HB.out;omega) _).setCell (by show B≤B + 1;omega) _;refine ⟨.tuple #[.agg (cT 0),.int .i64 (y : Nat)],results_cc rfl rowE e4 rfl rfl rfl (by simp [go_sem,c4]),none,0,0,by rw [HE.out,exZ_cs],?_,by rw [← HB.out];exact g4⟩;rw [HE.out];exact OwnD.nil _ _
  have hp7:=decE_p hd;have ke3:=ke2.only oo (by rintro (h | h) <;> omega);have kf3:=kf2.only oo (by rintro (h | h) <;> omega);have kv3:=kv.only oo (by rintro (h | h) <;> omega);have gb3:=gb2.trans (oo.to_below (B:=B) (by rintro k (h | h) <;> omega) (by have:=ke2.lt;omega));have hs2 : B < W2.heap.size:=ke2.lt;have o3:=o4.mono (base':=B) (by omega);obtain ⟨cx,hcx⟩ : ∃ cx,cx = ec x (.slice A4 m4 c4):=⟨_,rfl⟩;have SX:=Lib.hid (show cx.size = 14 by rw [hcx];rfl);have OX:=Lib.hid (show cx.all (·.oneCell') = true by rw [hcx];exact ec_one _ _ _ _)
  have hrt:=fun (w' : World) (h : Below w3.heap.size w3 w')=>eright_any x hp7 A4 m4 c4 w' (o3.rd.below h).size
  rw [← hcx] at kx3 hrt;have HCX:=Lib.hid hcx;have HRT:=Lib.hid hrt;have HO:=Lib.hid o3;have hb0:=o3.rd
  have hre:=fun (w' : World) (h : Below w3.heap.size w3 w') (z : Bool)=>rdend_any g A3 r.length c3 r z w' (hR3.below (h.mono (by have:=hR3.lt;omega)))
  have HRE:=Lib.hid hre;clear hcx hrt hre hp7 oo o4 o3 ke2 kf2 kv kx gb2 hR2 cv hb0
  by_cases hz : r = []∧rightE x = true
  · have he : getEv bs = (x,0):=by unfold getEv;rw [hd];simp only;rw [if_pos hz]
    have HE:=Lib.hid he;have HZ:=Lib.hid hz;clear he hz hd
    go_upto_region 5 with fail
    refine wp_nopanic ?_;refine wp_region_held_drew (S:=fun w'=>Below w3.heap.size w3 w') (by kernel_rfl) (Below.refl _ _).drew (fun hS=>?_);refine wpAnyH_take (i:=0) rfl (by kernel_rfl) (by kernel_rfl) (by kernel_rfl) (fun _ _ _ h=>h) (yieldsIf_ld (by rfl) rowRd (.tmp 4) rfl rfl (fun w' h=>kv3.below h kv3.lt) rfl) hS ?_
    try simp only [Act.put,List.getElem_toArray,List.getElem_cons_zero,List.getElem_cons_succ,List.setIfInBounds_toArray,List.set_cons_succ,List.set_cons_zero]
    refine wpAnyH_take (i:=1) rfl (by kernel_rfl) (by kernel_rfl) (by kernel_rfl) (fun _ _ _ h=>h) (yieldsIf_ld (by rfl) rowE (.tmp 5) rfl rfl (fun w' h=>kx3.below h kx3.lt) SX.out) hS ?_
    try simp only [Act.put,List.getElem_toArray,List.getElem_cons_zero,List.getElem_cons_succ,List.setIfInBounds_toArray,List.set_cons_succ,List.set_cons_zero]
    refine wpAnyH_ready (rs:=[2]) (by kernel_rfl) (by simp) ?_;refine AllReadyH.cons rfl (fun K hK=>?_) .nil;go_simp;refine (HRT.out _ hS).mono ?_;rintro e w4 ⟨rfl,b4⟩;refine hK.out _ _ (hS.trans (b4.mono hS.size)) (fun hS=>?_);clear hK K b4
    try simp only [Act.put,List.getElem_toArray,List.getElem_cons_zero,List.getElem_cons_succ,List.setIfInBounds_toArray,List.set_cons_succ,List.set_cons_zero]
    refine wpAnyH_ready (rs:=[3]) (by kernel_rfl) (by simp) ?_;refine AllReadyH.cons rfl (fun K hK=>?_) .nil;go_simp;refine (HRE.out _ hS _).mono ?_;rintro e w5 ⟨he,b5⟩;rw [if_pos HZ.out] at he;subst he;refine hK.out _ _ (hS.trans (b5.mono hS.size)) (fun hS=>?_);clear hK K b5;refine wpAnyH_done (by kernel_rfl) ?_ _
    try simp only [Act.put,List.getElem_toArray,List.getElem_cons_zero,List.getElem_cons_succ,List.setIfInBounds_toArray,List.set_cons_succ,List.set_cons_zero]
    refine NoPanic.ok ?_;have ke5:=ke3.below hS ke3.lt;have kf5:=kf3.below hS kf3.lt;have kx5:=kx3.below hS kx3.lt;have o5:=HO.out.below hS (Nat.le_refl _);have gb5:=gb3.trans (hS.mono (by have:=ke3.lt;omega));have SZ:=Lib.hid (show (cT 0).size = 14 from rfl);have cf5 : w5.cell? ⟨B + 1,0,none⟩ = some (.int .i64 0):=kf5.cell 0;have ff5:=kf5.free 0;clear ke3 kf3 kx3 kv3 gb3 hS HRT HRE
    go_wp2_with first
      | ((with_reducible refine wpList_ld rowE kx5 SX.out ?_ ?_);rotate_left;(rfl))
      | ((with_reducible refine wpList_st rowE ke5 SX.out SZ.out OX.out ?_ ?_ ?_);rotate_left;(rfl);(rfl);intro w6 k6 g6 z6;have cf6 : w6.cell? ⟨B + 1,0,none⟩ = some (.int .i64 0):=(kf5.grown g6 (by simp)).cell 0;have ff6:=(kf5.grown g6 (by simp)).free 0)
    have kf6:=kf5.grown g6 (by simp);refine leaves_cons (f:=100) (args:=#[.pointer (some ⟨B + 1,0,none⟩)]) (by simp) (by simp [go_sem]) ?_;refine (ecaught_none _ _).mono ?_;rintro e u' w7 ⟨rfl,rfl,rfl⟩;have k7:=k6.far (p:=⟨B + 1,0,none⟩) (by show B ≠ B + 1;omega) (.int .i64 0);have f7:=kf6.set_ 0 (.int .i64 0);have c7:=f7.cell 0;have o6:=o5.grown g6 (.inr (own_ne o5.2 ke5 (by decide)));have o7:=o6.setFar (p:=⟨B + 1,0,none⟩) (own_ne o6.2 kf6 (by decide)) (.int .i64 0);have gb7 : Below B w (w6.setCell ⟨B + 1,0,none⟩ (.int .i64 0)):=(gb5.trans (only_Below g6 (Nat.le_refl B) (by have:=ke5.lt;omega))).setCell (by show B≤B + 1;omega) _;refine ⟨.tuple #[.agg cx,.int .i64 0],results_cc rfl rowE k7 SX.out rfl rfl (by simp [go_sem,c7]),A4,m4,c4,by rw [HE.out,HCX.out];rfl,by rw [HE.out,← HB.out];exact o7,by rw [← HB.out];exact gb7⟩
  · have he : getEv bs = (exZ,4):=by unfold getEv;rw [hd];simp only;rw [if_neg hz]
    have HE:=Lib.hid he;have HZ:=Lib.hid hz;clear he hz hd
    go_upto_region 5 with fail
    refine wp_panicQ (K:=4) (T0:=#[.slice A n c,undef,.pointer (some ⟨B,0,none⟩),.pointer (some ⟨B + 1,0,none⟩)]) (D:=[{ target:=.fn (.func 100) #[],args:=#[.pointer (some ⟨B + 1,0,none⟩)] }]) (c0:=[{ v:=eflt 4,recovered:=false }]) (S:=fun w'=>Below w3.heap.size w3 w') ?hp ?hr
    case hr =>
      refine wp_region_held_drew (S:=fun w'=>Below w3.heap.size w3 w') (by kernel_rfl) (Below.refl _ _).drew (fun hS=>?_);refine wpAnyH_take (i:=0) rfl (by kernel_rfl) (by kernel_rfl) (by kernel_rfl) (fun c a w h=>panicQ_put (d:=12) (by decide) c a w h) (yieldsIf_ld (by rfl) rowRd (.tmp 4) rfl rfl (fun w' h=>kv3.below h kv3.lt) rfl) hS ?_
      try simp only [Act.put,List.getElem_toArray,List.getElem_cons_zero,List.getElem_cons_succ,List.setIfInBounds_toArray,List.set_cons_succ,List.set_cons_zero]
      refine wpAnyH_take (i:=1) rfl (by kernel_rfl) (by kernel_rfl) (by kernel_rfl) (fun c a w h=>panicQ_put (d:=13) (by decide) c a w h) (yieldsIf_ld (by rfl) rowE (.tmp 5) rfl rfl (fun w' h=>kx3.below h kx3.lt) SX.out) hS ?_
      try simp only [Act.put,List.getElem_toArray,List.getElem_cons_zero,List.getElem_cons_succ,List.setIfInBounds_toArray,List.set_cons_succ,List.set_cons_zero]
      refine wpAnyH_ready (rs:=[2]) (by kernel_rfl) (by simp) ?_;refine AllReadyH.cons rfl (fun K hK=>?_) .nil;go_simp;refine (HRT.out _ hS).mono ?_;rintro e w4 ⟨rfl,b4⟩;refine hK.out _ _ (hS.trans (b4.mono hS.size)) (fun hS=>?_);clear hK K b4
      try simp only [Act.put,List.getElem_toArray,List.getElem_cons_zero,List.getElem_cons_succ,List.setIfInBounds_toArray,List.set_cons_succ,List.set_cons_zero]
      refine wpAnyH_ready (rs:=[3]) (by kernel_rfl) (by simp) ?_;refine AllReadyH.cons rfl (fun K hK=>?_) .nil;go_simp;refine (HRE.out _ hS _).mono ?_;rintro e w5 ⟨he,b5⟩;rw [if_neg HZ.out] at he;subst he
      exact ⟨rfl,fun i hi=>by
        rcases i with _ | _ | _ | _ | i
        all_goals first | rfl | omega,rfl,hS.trans (b5.mono hS.size)⟩
    case hp =>
      rintro ⟨tm,df⟩ w' ht hdf hS;have h2:=ht 2 (by omega);have h3:=ht 3 (by omega);subst hdf;have ke5:=ke3.below hS ke3.lt;have kf5:=kf3.below hS kf3.lt;have gb5:=gb3.trans (hS.mono (by have:=ke3.lt;omega));refine leaves_cons (f:=100) (args:=#[.pointer (some ⟨B + 1,0,none⟩)]) (by simp) (by simp [go_sem]) ?_;refine (ecaught_panic _ _ _ _ _ (kf5.cell 0) (kf5.free 0)).mono ?_;rintro e u' w4 ⟨rfl,rfl,rfl⟩;have k4:=(kf5.alloc (.cells #[.int .i64 4] 166)).set_ 0 (.int .i64 4);have e4:=(ke5.alloc (.cells #[.int .i64 4] 166)).far (p:=⟨B + 1,0,none⟩) (by show B ≠ B + 1;omega) (.int .i64 4);have c4:=k4.cell 0;have g4 : Below B w ((w'.alloc (.cells #[.int .i64 4] 166)).setCell ⟨B + 1,0,none⟩ (.int .i64 4)):=(gb5.alloc (by have:=gb5.size;have:=HB.out;omega) _).setCell (by show B≤B + 1;omega) _;refine ⟨.tuple #[.agg (cT 0),.int .i64 4],results_cc rfl rowE e4 rfl h2 h3 (by simp [go_sem,c4]),none,0,0,by rw [HE.out,exZ_cs];rfl,?_,by rw [← HB.out];exact g4⟩;rw [HE.out];exact OwnD.nil _ _
end Go.Proofs.YtfpenfgmpbdakaaGreat

namespace Go.Proofs.YtfpenfgmpbdakaaGreat
set_option linter.unusedVariables false
set_option linter.unusedSimpArgs false
set_option maxRecDepth 100000
open Go.RowKit
open Dot Evt
open Disk
namespace Sto.Stp
theorem getEv_facts (bs : List UInt8) : (getEv bs).1.p.length = 7∧(getEv bs).1.l.length≤96:=by
  have hz : exZ.p.length = 7∧exZ.l.length≤96:=⟨by decide,by decide⟩
  unfold getEv
  split
  · rename_i x r hd
    split
    · rename_i h
      have hp:=decE_p hd;exact ⟨hp,(right_facts hp h.2).2.2.1⟩
    · exact ⟨hz.1,hz.2⟩
  · exact ⟨hz.1,hz.2⟩
def addE (l : List Ev) (x : Ev) : List Ev:=if hasE l x.d = true then l else l ++ [x]
def HapE (w : World) (F : Nat→Prop) (b g used u i base : Nat) (A : Option Addr) (evs : List Ev) (x : Ev) (y : Nat) (e : Ending) (w' : World) : Prop :=
  Only (fun k=>k = b∨A.map (·.block) = some k) w w'∧if y = 0 then ∃ A' n' c' xs',e = .returned (.tuple #[])∧Blk w' b 88 (sc g used u i (.slice A' n' c'))∧EvsAt w' F b base A' n' c' xs'∧xs'.map (·.e) = addE evs x∧(∀ k,A'.map (·.block) = some k→A.map (·.block) = some k∨w.heap.size≤k)
    else e = .panicked [{ v:=flt 4,recovered:=false }]
theorem HapE.ok {w w' : World} {F : Nat→Prop} {b g used u i base : Nat} {A : Option Addr} {evs : List Ev} {x : Ev} {e : Ending} (h : Only (fun k=>k = b∨A.map (·.block) = some k) w w') (h2 : ∃ A' n' c' xs',e = .returned (.tuple #[])∧Blk w' b 88 (sc g used u i (.slice A' n' c'))∧EvsAt w' F b base A' n' c' xs'∧xs'.map (·.e) = addE evs x∧(∀ k,A'.map (·.block) = some k→A.map (·.block) = some k∨w.heap.size≤k)) : HapE w F b g used u i base A evs x 0 e w':=⟨h,by rw [if_pos rfl];exact h2⟩
def HapEnd (w : World) (F : Nat→Prop) (b g used u i base : Nat) (A : Option Addr) (evs : List Ev) (t : List UInt8) : Ending→World→Prop:=HapE w F b g used u i base A evs (getEv t).1 (getEv t).2
set_option maxHeartbeats 8000000 in
theorem happens_any (F : Nat→Prop) (b g used u i base : Nat) (A : Option Addr) (n c : Nat) (xs : List EvV) (Ab : Option Addr) (nb cb : Nat) (t : List UInt8) (ws : World) (h0 : Blk ws b 88 (sc g used u i (.slice A n c))) (he : EvsAt ws F b base A n c xs) (hF : ∀ k,F k→k < ws.heap.size) (hB : base≤ws.heap.size) (hn : n≤100000) (hb : RdB ws ws.heap.size Ab nb t) (hl : nb≤1000000000) :
    Calls Tryz.prog 71 #[.pointer (some ⟨b,0,none⟩),.slice Ab nb cb] ws (HapEnd ws F b g used u i base A (xs.map (·.e)) t):=by
  obtain ⟨gp,gl⟩:=getEv_facts t;have HGE:=Lib.hid (eget_any Ab nb cb t ws hb hl);obtain ⟨x,hx⟩ : ∃ x,x = (getEv t).1:=⟨_,rfl⟩;obtain ⟨y,hy⟩ : ∃ y,y = (getEv t).2:=⟨_,rfl⟩
  unfold GetEv at HGE
  rw [← hx,← hy] at HGE
  unfold HapEnd
  rw [← hx,← hy];rw [← hx] at gp gl;have HP:=Lib.hid (And.intro gp gl);have HEV:=Lib.hid he;have hlb:=h0.lt;clear gp gl hb he;clear hx hy
  by_cases hy0 : y = 0
  case neg =>
    have hq : ((y : Int) == 0) = false:=by rw [beq_eq_false_iff_ne];omega
    have hq2 : ¬ ((y : Nat) : Int) = 0:=by omega
    go_enter Tryz.func71,Tryz.ntmps71
    go_wp2_with fail;refine HGE.out.mono ?_;rintro e w1 ⟨Ax,m,cx,rfl,ox,b1⟩;obtain ⟨ce,hce⟩ : ∃ ce,ce = ec x (.slice Ax m cx):=⟨_,rfl⟩;have SC:=Lib.hid (show ce.size = 14 by rw [hce];rfl);have OC:=Lib.hid (show ce.all (·.oneCell') = true by rw [hce];exact ec_one _ _ _ _);rw [← hce];clear hce ox
    go_upto_region 1 with ((with_reducible refine wpList_st rowE (Blk.new _ _ _) SC.out ?_ OC.out ?_ ?_ ?_);(rfl);rotate_left;(rfl);(rfl);intro w6 k6 g6 z6)
    have b6 : Below ws.heap.size ws w6:=b1.trans ((new_below g6).mono b1.size);clear g6 z6 k6;go_wp2_with fail;refine (must_no (by first | with_reducible rfl | assumption | (simp;done) | (simp;omega)) _ _).mono ?_;rintro e w7 ⟨rfl,rfl⟩;go_wp2_with fail;exact ⟨rfl,Only.of_below _ b6,by rw [if_neg hy0]⟩
  subst hy0
  go_enter Tryz.func71,Tryz.ntmps71
  go_wp2_with fail;refine HGE.out.mono ?_;rintro e w1 ⟨Ax,m,cx,rfl,ox,b1⟩;obtain ⟨z,hz⟩ : ∃ z : EvV,z = ⟨x,Ax,m,cx⟩:=⟨_,rfl⟩
  have hzc : ec x (.slice Ax m cx) = z.cs:=by rw [hz];rfl
  rw [hzc]
  have hzo : EvOwn w1 ws.heap.size z:=by rw [hz];exact ⟨HP.out.1,ox,by show m≤_;rw [ox.1];have:=HP.out.2;omega⟩
  have hze : z.e = x:=by rw [hz]
  obtain ⟨ce,hce⟩ : ∃ ce,ce = z.cs:=⟨_,rfl⟩;have SC:=Lib.hid (show ce.size = 14 by rw [hce];rfl);have OC:=Lib.hid (show ce.all (·.oneCell') = true by rw [hce];exact z.one);have X0:=Lib.hid (show ce[0]? = some (.int .i64 x.d.1) by rw [hce,← hze];rfl);have X1:=Lib.hid (show ce[1]? = some (.int .i64 x.d.2) by rw [hce,← hze];rfl);have HCE:=Lib.hid hce;have HZE:=Lib.hid hze;have HZO:=Lib.hid hzo;rw [← hce];clear hce ox hz hzc hzo hze
  go_upto_region 1 with ((with_reducible refine wpList_st rowE (Blk.new _ _ _) SC.out ?_ OC.out ?_ ?_ ?_);(rfl);rotate_left;(rfl);(rfl);intro w6 k6 g6 z6)
  have b16 : Below w1.heap.size w1 w6:=new_below g6;have b6 : Below ws.heap.size ws w6:=b1.trans (b16.mono b1.size);obtain ⟨gE,hgE⟩ : ∃ gE,gE = w1.heap.size:=⟨_,rfl⟩;rw [← hgE] at k6 ⊢
  have hgEs : ws.heap.size≤gE:=by rw [hgE];exact b1.size
  have HZO6:=Lib.hid (⟨HZO.out.1,HZO.out.2.1.below b16 (Nat.le_refl _),HZO.out.2.2⟩ : EvOwn w6 ws.heap.size z);have kS6:=h0.below b6 hlb;have HB6:=Lib.hid b6;have ev6:=HEV.out.below b6;have HE6:=Lib.hid ev6;have c4 : w6.cell? ⟨b,4,none⟩ = some (.slice A n c):=kS6.cell 4;have hlb6:=kS6.lt;have hlE:=k6.lt;have HDT:=Lib.hid (ev_dot k6 X0.out X1.out);obtain ⟨R,hR⟩ : ∃ R,R = hasE (xs.map (·.e)) x.d:=⟨_,rfl⟩;have HR:=Lib.hid hR
  have HHAS:=Lib.hid fun (w' : World) (hb : Below w6.heap.size w6 w')=>(by
    have hs:=HE6.out.below hb
    have:=shas_any A n c xs x.d.1 x.d.2 w' (hs.row.row (fun y hy=>(hs.own y hy).ok)) (by omega)
    rw [show ((x.d.1,x.d.2) : Dt) = x.d from rfl,← HR.out] at this
    exact this : Calls Tryz.prog 53 #[.slice A n c,.agg #[.int .i64 x.d.1,.int .i64 x.d.2]] w' fun e w''=>e = .returned (.bool R)∧Below w'.heap.size w' w'')
  clear g6 z6 b1 b16 b6 hR ev6 HZO hgE;go_wp2_with fail;refine (must_yes (by first | with_reducible rfl | assumption | (simp;done) | (simp;omega)) _ _).mono ?_;rintro e w7 ⟨rfl,rfl⟩
  go_upto_region 2 with fail
  refine wp_region_facts (fun L v w=>v 0 = .pointer (some ⟨b,0,none⟩)∧v 4 = .pointer (some ⟨gE,0,none⟩)∧Below w6.heap.size w6 w∧(L 0 = true→v 14 = .pointer (some ⟨b,0,none⟩))∧(L 1 = true→v 15 = .pointer (some ⟨b,0,none⟩))∧(L 2 = true→v 16 = .pointer (some ⟨b,4,none⟩))∧(L 3 = true→v 17 = .slice A n c)∧(L 4 = true→v 18 = .pointer (some ⟨gE,0,none⟩))∧(L 5 = true→v 19 = .agg #[.int .i64 x.d.1,.int .i64 x.d.2])∧(L 6 = true→v 20 = .bool R)∧(L 7 = true→v 21 = .bool (!R))) [14,15,16,17,18,19,20,21] (by kernel_rfl) (by kernel_rfl) (by kernel_rfl) (by kernel_rfl) ?h0 ?hst ?hend
  case h0 =>
    intro L h0;have h0 : ∀ i,i < 8→L i = false:=h0;exact ⟨rfl,rfl,(Below.refl _ _).drew,offF h0 (i:=0) (by decide),offF h0 (i:=1) (by decide),offF h0 (i:=2) (by decide),offF h0 (i:=3) (by decide),offF h0 (i:=4) (by decide),offF h0 (i:=5) (by decide),offF h0 (i:=6) (by decide),offF h0 (i:=7) (by decide)⟩
  case hst =>
    show FactSteps _ _ _ _ [0,1,2,3,4,5,6,7]
    refine @FactSteps.cons _ _ _ _ 0 _ [] _ rfl (by kernel_rfl) ?s0 ?_;rotate_left;refine @FactSteps.cons _ _ _ _ 1 _ [0] _ rfl (by kernel_rfl) ?s1 ?_;rotate_left;refine @FactSteps.cons _ _ _ _ 2 _ [1] _ rfl (by kernel_rfl) ?s2 ?_;rotate_left;refine @FactSteps.cons _ _ _ _ 3 _ [2] _ rfl (by kernel_rfl) ?s3 ?_;rotate_left;refine @FactSteps.cons _ _ _ _ 4 _ [] _ rfl (by kernel_rfl) ?s4 ?_;rotate_left;refine @FactSteps.cons _ _ _ _ 5 _ [4] _ rfl (by kernel_rfl) ?s5 ?_;rotate_left;refine @FactSteps.cons _ _ _ _ 6 _ [3,5] _ rfl (by kernel_rfl) ?s6 ?_;rotate_left;refine @FactSteps.cons _ _ _ _ 7 _ [6] _ rfl (by kernel_rfl) ?s7 ?_;rotate_left;exact FactSteps.nil
    case s0 =>
      rintro L a v w hv hg hL hd hcl ⟨e0,e4,hb,f0,f1,f2,f3,f4,f5,f6,f7⟩ K hK;refine step_do rfl ?_;clear hv;go_simp;exact hK.out _ _ ⟨e0,e4,hb,fun _=>rfl,f1,f2,f3,f4,f5,f6,f7⟩
    case s1 =>
      rintro L a v w hv hg hL hd hcl ⟨e0,e4,hb,f0,f1,f2,f3,f4,f5,f6,f7⟩ K hK;have g0:=f0 (hd 0 (by decide));have g0:=f0 (hd 0 (by decide));refine step_do rfl ?_;clear hv;go_simp;exact hK.out _ _ ⟨e0,e4,hb,f0,fun _=>rfl,f2,f3,f4,f5,f6,f7⟩
    case s2 =>
      rintro L a v w hv hg hL hd hcl ⟨e0,e4,hb,f0,f1,f2,f3,f4,f5,f6,f7⟩ K hK;have g1:=f1 (hd 1 (by decide));have g1:=f1 (hd 1 (by decide));refine step_do rfl ?_;clear hv;go_simp;exact hK.out _ _ ⟨e0,e4,hb,f0,f1,fun _=>rfl,f3,f4,f5,f6,f7⟩
    case s3 =>
      rintro L a v w hv hg hL hd hcl ⟨e0,e4,hb,f0,f1,f2,f3,f4,f5,f6,f7⟩ K hK;have g2:=f2 (hd 2 (by decide));have g2:=f2 (hd 2 (by decide));have cs4 : w.cell? ⟨b,4,none⟩ = some (.slice A n c):=(hb.cell (p:=⟨b,4,none⟩) hlb6).trans c4;refine step_do rfl ?_;clear hv;go_simp;exact hK.out _ _ ⟨e0,e4,hb,f0,f1,f2,fun _=>rfl,f4,f5,f6,f7⟩
    case s4 =>
      rintro L a v w hv hg hL hd hcl ⟨e0,e4,hb,f0,f1,f2,f3,f4,f5,f6,f7⟩ K hK;refine step_do rfl ?_;clear hv;go_simp;exact hK.out _ _ ⟨e0,e4,hb,f0,f1,f2,f3,fun _=>rfl,f5,f6,f7⟩
    case s5 =>
      rintro L a v w hv hg hL hd hcl ⟨e0,e4,hb,f0,f1,f2,f3,f4,f5,f6,f7⟩ K hK;have g4:=f4 (hd 4 (by decide));refine step_do rfl ?_;refine wp_ldr rowDt2 (.tmp 18) rfl ((hv 18).trans g4) (range_keep HDT.out hb hlE) rfl ?_;exact hK.out _ _ ⟨e0,e4,hb,f0,f1,f2,f3,f4,fun _=>rfl,f6,f7⟩
    case s6 =>
      rintro L a v w hv hg hL hd hcl ⟨e0,e4,hb,f0,f1,f2,f3,f4,f5,f6,f7⟩ K hK;have g3:=f3 (hd 3 (by decide));have g5:=f5 (hd 5 (by decide));have hh:=HHAS.out w hb;refine step_do rfl ?_;clear hv;go_simp;refine hh.mono ?_;rintro e wy ⟨rfl,bb⟩;exact hK.out _ _ ⟨e0,e4,(hb.trans (bb.mono hb.size)),f0,f1,f2,f3,f4,f5,fun _=>rfl,f7⟩
    case s7 =>
      rintro L a v w hv hg hL hd hcl ⟨e0,e4,hb,f0,f1,f2,f3,f4,f5,f6,f7⟩ K hK;have g6:=f6 (hd 6 (by decide));refine step_do rfl ?_;clear hv;go_simp;exact hK.out _ _ ⟨e0,e4,hb,f0,f1,f2,f3,f4,f5,f6,fun _=>rfl⟩
  case hend =>
  rintro L v w7 hall ⟨e0,e4,hb,f0,f1,f2,f3,f4,f5,f6,f7⟩;have hL : ∀ i,i < 8→L i = true:=hall;have f0:=f0 (hL 0 (by decide));have f1:=f1 (hL 1 (by decide));have f2:=f2 (hL 2 (by decide));have f3:=f3 (hL 3 (by decide));have f4:=f4 (hL 4 (by decide));have f5:=f5 (hL 5 (by decide));have f6:=f6 (hL 6 (by decide));have f7:=f7 (hL 7 (by decide))
  simp only [finA,List.foldl_cons,List.foldl_nil,Act.put,List.setIfInBounds_toArray,List.set_cons_succ,List.set_cons_zero,f0,f1,f2,f3,f4,f7,f5,f6]
  have k7:=k6.below hb k6.lt;have kS7:=kS6.below hb kS6.lt;have e7:=HE6.out.below hb;have HZ7:=Lib.hid (⟨HZO6.out.1,HZO6.out.2.1.below hb (Nat.le_refl _),HZO6.out.2.2⟩ : EvOwn w7 ws.heap.size z);have HB7:=Lib.hid (HB6.out.trans (hb.mono HB6.out.size));clear e0 e4 f0 f1 f2 f3 f4 f5 f6 f7 hL hall hb;have HE7:=Lib.hid e7;clear HHAS HDT HE6 HB6 HZO6 c4 hlb6 hlE e7
  cases R
  case true =>
    have hadd : addE (xs.map (·.e)) x = xs.map (·.e):=by unfold addE;rw [if_pos HR.out.symm]
    have HAD:=Lib.hid hadd;clear hadd;go_wp2_with fail
    go_end0
    exact HapE.ok (Only.of_below _ HB7.out) ⟨A,n,c,xs,rfl,kS7,HE7.out,HAD.out.symm,fun k hk=>.inl hk⟩
  have hadd : addE (xs.map (·.e)) x = xs.map (·.e) ++ [x]:=by unfold addE;rw [if_neg (by rw [← HR.out];decide)]
  have HAD:=Lib.hid hadd
  have hnEA : ¬ A.map (·.block) = some gE:=fun e=>by have:=(HEV.out.row.lt gE e).2;omega
  have hnbA : ¬ A.map (·.block) = some b:=own_ne HE7.out.row.2 kS7 (by decide);have hbase : base≤w7.heap.size:=Nat.le_trans hB HB7.out.size;have HBS:=Lib.hid (fun w=>(by have:=buildE1 z w;rw [← HCE.out] at this;exact this : (Instr.buildSlice 48 1 #[(0,.agg ce)]).run Tryz.prog w = .ok (.slice (some ⟨w.heap.size,0,none⟩) 1 1) (w.alloc (.cells ce 47))));clear hadd
  go_upto_region 3 with fail
  refine wp_region_tailF 12 8 (fun L v w=>v 4 = .pointer (some ⟨gE,0,none⟩)∧v 0 = .pointer (some ⟨b,0,none⟩)∧Only (fun k=>A.map (·.block) = some k) w7 w∧(L 7 = false→Below w7.heap.size w7 w)∧(L 0 = true→v 22 = .pointer (some ⟨b,0,none⟩))∧(L 1 = true→v 23 = .pointer (some ⟨b,0,none⟩))∧(L 2 = true→v 24 = .pointer (some ⟨b,0,none⟩))∧(L 3 = true→v 25 = .pointer (some ⟨b,4,none⟩))∧(L 4 = true→v 26 = .slice A n c)∧(L 5 = true→v 27 = .agg ce)∧(L 6 = true→(L 7 = false→∃ (gB : Nat),v 28 = .slice (some ⟨gB,0,none⟩) 1 1∧Blk w gB 47 ce))∧(L 7 = true→KpRow ws w base A n xs x (v 29))) [22,23,24,25,26,27,28,29] (by kernel_rfl) (by kernel_rfl) (by kernel_rfl) (by kernel_rfl) (by kernel_rfl) (by kernel_rfl) ?h0 ?hst ?hend
  case h0 =>
    intro L h0;have h0 : ∀ i,i < 8→L i = false:=h0;exact ⟨rfl,rfl,(Only.of_below _ (Below.refl _ _).drew),(fun _=>(Below.refl _ _).drew),offF h0 (i:=0) (by decide),offF h0 (i:=1) (by decide),offF h0 (i:=2) (by decide),offF h0 (i:=3) (by decide),offF h0 (i:=4) (by decide),offF h0 (i:=5) (by decide),offF h0 (i:=6) (by decide),offF h0 (i:=7) (by decide)⟩
  case hst =>
    show FactSteps _ _ _ _ [0,1,2,3,4,5,6,7]
    refine @FactSteps.cons _ _ _ _ 0 _ [] _ rfl (by kernel_rfl) ?s0 ?_;rotate_left;refine @FactSteps.cons _ _ _ _ 1 _ [] _ rfl (by kernel_rfl) ?s1 ?_;rotate_left;refine @FactSteps.cons _ _ _ _ 2 _ [1] _ rfl (by kernel_rfl) ?s2 ?_;rotate_left;refine @FactSteps.cons _ _ _ _ 3 _ [2] _ rfl (by kernel_rfl) ?s3 ?_;rotate_left;refine @FactSteps.cons _ _ _ _ 4 _ [3] _ rfl (by kernel_rfl) ?s4 ?_;rotate_left;refine @FactSteps.cons _ _ _ _ 5 _ [] _ rfl (by kernel_rfl) ?s5 ?_;rotate_left;refine @FactSteps.cons _ _ _ _ 6 _ [5] _ rfl (by kernel_rfl) ?s6 ?_;rotate_left;refine @FactSteps.cons _ _ _ _ 7 _ [4,6] _ rfl (by kernel_rfl) ?s7 ?_;rotate_left;exact FactSteps.nil
    case s0 =>
      rintro L a v w hv hg hL hd hcl ⟨e4,e0,ho,hb7,f0,f1,f2,f3,f4,f5,f6,f7⟩ K hK;refine step_do rfl ?_;clear hv;go_simp;exact hK.out _ _ ⟨e4,e0,ho,hb7,fun _=>rfl,f1,f2,f3,f4,f5,f6,f7⟩
    case s1 =>
      rintro L a v w hv hg hL hd hcl ⟨e4,e0,ho,hb7,f0,f1,f2,f3,f4,f5,f6,f7⟩ K hK;refine step_do rfl ?_;clear hv;go_simp;exact hK.out _ _ ⟨e4,e0,ho,hb7,f0,fun _=>rfl,f2,f3,f4,f5,f6,f7⟩
    case s2 =>
      rintro L a v w hv hg hL hd hcl ⟨e4,e0,ho,hb7,f0,f1,f2,f3,f4,f5,f6,f7⟩ K hK;have g1:=f1 (hd 1 (by decide));have g1:=f1 (hd 1 (by decide));refine step_do rfl ?_;clear hv;go_simp;exact hK.out _ _ ⟨e4,e0,ho,hb7,f0,f1,fun _=>rfl,f3,f4,f5,f6,f7⟩
    case s3 =>
      rintro L a v w hv hg hL hd hcl ⟨e4,e0,ho,hb7,f0,f1,f2,f3,f4,f5,f6,f7⟩ K hK;have g2:=f2 (hd 2 (by decide));have g2:=f2 (hd 2 (by decide));refine step_do rfl ?_;clear hv;go_simp;exact hK.out _ _ ⟨e4,e0,ho,hb7,f0,f1,f2,fun _=>rfl,f4,f5,f6,f7⟩
    case s4 =>
      rintro L a v w hv hg hL hd hcl ⟨e4,e0,ho,hb7,f0,f1,f2,f3,f4,f5,f6,f7⟩ K hK;have g3:=f3 (hd 3 (by decide));have g3:=f3 (hd 3 (by decide));have cs4 : w.cell? ⟨b,4,none⟩ = some (.slice A n c):=(kS7.only ho hnbA).cell 4;refine step_do rfl ?_;clear hv;go_simp;exact hK.out _ _ ⟨e4,e0,ho,hb7,f0,f1,f2,f3,fun _=>rfl,f5,f6,f7⟩
    case s5 =>
      rintro L a v w hv hg hL hd hcl ⟨e4,e0,ho,hb7,f0,f1,f2,f3,f4,f5,f6,f7⟩ K hK;refine step_do rfl ?_;refine wp_ld rowE (.tmp 4) rfl ((hv 4).trans e4) (k7.only ho hnEA) SC.out ?_;exact hK.out _ _ ⟨e4,e0,ho,hb7,f0,f1,f2,f3,f4,fun _=>rfl,f6,f7⟩
    case s6 =>
      rintro L a v w hv hg hL hd hcl ⟨e4,e0,ho,hb7,f0,f1,f2,f3,f4,f5,f6,f7⟩ K hK;have c7 : L 7 = false:=off_of hcl (j:=7) (by kernel_rfl : waitsAt _ 7 = [4,6]) (d:=6) (by decide) hL;have q5:=(hv 27).trans (f5 (hd 5 (by decide)));have bb : Below w.heap.size w (w.alloc (.cells ce 47)):=(Below.refl _ _).alloc (Nat.le_refl _) _;refine step_do rfl ?_;refine step_bs (v:=.slice (some ⟨w.heap.size,0,none⟩) 1 1) (w':=w.alloc (.cells ce 47)) 48 1 #[(0,.tmp 27)] rfl (by simp only [List.map_toArray,List.map_cons,List.map_nil,q5];exact HBS.out w) ?_;exact hK.out _ _ ⟨e4,e0,(ho.then_below (bb.mono ho.size)),(fun _=>(hb7 c7).trans (bb.mono (hb7 c7).size)),f0,f1,f2,f3,f4,f5,fun _ _=>⟨w.heap.size,rfl,Blk.new w _ _⟩,(offC c7)⟩
    case s7 =>
      rintro L a v w hv hg hL hd hcl ⟨e4,e0,ho,hb7,f0,f1,f2,f3,f4,f5,f6,f7⟩ K hK;have g4:=f4 (hd 4 (by decide));obtain ⟨gB,q6,kB⟩:=f6 (hd 6 (by decide)) hL;have hbx:=hb7 hL;have evx:=HE7.out.below hbx;have ozx : EvOwn w ws.heap.size z:=⟨HZ7.out.1,HZ7.out.2.1.below hbx (Nat.le_refl _),HZ7.out.2.2⟩;refine step_do rfl ?_;refine step_appE (.tmp 26) (.tmp 28) rfl ((hv 26).trans g4) evx.row ((hv 28).trans q6) (news:=[z]) (B:=gB + 1) (by rw [show ecsL [z] = ce.toList by rw [HCE.out];simp [ecsL]];exact Blk.rdMg kB) rfl (by omega) (Nat.le_trans hbase hbx.size) ?_;intro A9 c9 w9 o9 g9 m9 b9
      have kp : KpRow ws w9 base A n xs x (.slice A9 (n + 1) c9):=⟨A9,c9,z,rfl,o9,HZE.out,fun y hy=>(by
          rcases List.mem_append.1 hy with q | q
          · exact ⟨(evx.own y q).1,(evx.own y q).2.1.grown g9 (own2_ne (evx.own y q).2.1.2 evx.row.2 (by decide)),(evx.own y q).2.2⟩
          · rw [List.mem_singleton.1 q];exact ⟨ozx.1,(ozx.2.1.mono hB).grown g9 (own2_ne ozx.2.1.2 evx.row.2 (by decide)),ozx.2.2⟩),(by
          rcases m9 with q | q
          · exact .inl q
          · exact .inr (fun k hk=>by rw [q] at hk;injection hk with hk;rw [← hk];exact Nat.le_trans HB7.out.size hbx.size)),fun k hk=>(ozx.2.1.lt k hk).1⟩
      exact hK.out _ _ ⟨e4,e0,(ho.trans (only_row g9) (Grows.refl _ _)),(fun h=>(by cases h)),f0,f1,f2,f3,f4,f5,(fun _ h=>(by cases h)),fun _=>kp⟩
  case hend =>
  rintro L v we hall ⟨e4,e0,ho,hb7,f0,f1,f2,f3,f4,f5,f6,f7⟩;have hL : ∀ i,i < 8→L i = true:=hall;have f0:=f0 (hL 0 (by decide));have f1:=f1 (hL 1 (by decide));have f2:=f2 (hL 2 (by decide));have f3:=f3 (hL 3 (by decide));have f4:=f4 (hL 4 (by decide));have f5:=f5 (hL 5 (by decide));have f6:=f6 (hL 6 (by decide));have f7:=f7 (hL 7 (by decide));obtain ⟨A9,c9,z9,q8,o9,hz,hown,hmv,hzb⟩:=f7
  simp only [finA,List.foldl_cons,List.foldl_nil,Act.put,List.setIfInBounds_toArray,List.set_cons_succ,List.set_cons_zero,f0,f1,f2,f3,f4,f5,q8]
  have kS:=kS7.only ho hnbA;have HO:=Lib.hid ho;clear e4 e0 f0 f1 f2 f3 f4 f5 f6 hL hall ho hb7 q8
  show wpList _ _ _ [_,_,_] _ _
  have c4e : we.cell? ⟨b,4,none⟩ = some (.slice A n c):=kS.cell 4;have u4e:=kS.free 4;have hlbe:=kS.lt;have k10:=kS.set_ 4 (.slice A9 (n + 1) c9)
  have hev : EvsAt (we.setCell ⟨b,4,none⟩ (.slice A9 (n + 1) c9)) F b base A9 (n + 1) c9 (xs ++ [z9]):=by
    have e : EvsAt we F b base A9 (n + 1) c9 (xs ++ [z9]):=⟨o9,hown,fun k hk=>by
      rcases hmv with q | q
      · exact HEV.out.nf k (by rw [← q];exact hk)
      · have h9:=q k hk
        exact ⟨fun y=>by have:=hF k y;omega,by omega⟩,fun y hy k hk=>by
      rcases List.mem_append.1 hy with q | q
      · exact HEV.out.nfx y q k hk
      · rw [List.mem_singleton.1 q] at hk
        have h9:=hzb k hk
        exact ⟨fun y=>by have:=hF k y;omega,by omega⟩⟩
    exact e.setT kS (by decide) (by decide) 4 _
  have hmv2 : ∀ k,A9.map (·.block) = some k→A.map (·.block) = some k∨ws.heap.size≤k:=fun k hk=>by
    rcases hmv with q | q
    · exact .inl (by rw [← q];exact hk)
    · exact .inr (q k hk)
  have hon : Only (fun k=>k = b∨A.map (·.block) = some k) ws (we.setCell ⟨b,4,none⟩ (.slice A9 (n + 1) c9)):=Only.setCell (((Only.of_below _ HB7.out).trans (HO.out.mono (fun k hk=>.inl (.inr hk))) (Grows.refl _ _))) (.inl (.inl rfl)) _;have HFIN:=Lib.hid (And.intro hon (And.intro k10 (And.intro hev (And.intro hz hmv2))));clear k10 hev hmv hmv2 hon hown hzb o9 hz kS;go_wp2_with fail
  go_end0
  exact HapE.ok HFIN.out.1 ⟨A9,n + 1,c9,xs ++ [z9],rfl,HFIN.out.2.1,HFIN.out.2.2.1,by rw [List.map_append,List.map_cons,List.map_nil,HFIN.out.2.2.2.1,HAD.out],HFIN.out.2.2.2.2⟩
end Sto.Stp
end Go.Proofs.YtfpenfgmpbdakaaGreat

namespace Go.Proofs.YtfpenfgmpbdakaaGreat
set_option linter.unusedVariables false
set_option linter.unusedSimpArgs false
set_option maxRecDepth 100000
open Go.RowKit
open Disk
namespace Sto
theorem SaysEnd.from_ {w0 w1 w2 : World} {b g used : Nat} {E : Value} {o : Option (Nat × Nat)} {e : Ending} (hb : Below w0.heap.size w0 w1) (h : SaysEnd w1 b g used E o e w2) : SaysEnd w0 b g used E o e w2 :=
  ⟨⟨h.1.os.trans hb.os,h.1.tape.trans hb.tape,h.1.output.trans hb.output,Nat.le_trans hb.size h.1.size,fun k hk hne=>(h.1.block k (Nat.lt_of_lt_of_le hk hb.size) hne).trans (hb.block k hk)⟩,h.2⟩
def recM (s : Nat × Nat) : List UInt8→Option (Nat × Nat)
  | []=>none
  | k :: t=>if k = 1 then (numM 96 t).map fun x=>(max s.1 x,s.2) else if k = 2 then (numM 1099511627776 t).map fun x=>(s.1,max s.2 x) else none
theorem read_nil (b g used u i : Nat) (E : Value) (A : Option Addr) (c : Nat) (w : World) (h0 : Blk w b 88 (sc g used u i E)) :
    Calls Tryz.prog 41 #[.pointer (some ⟨b,0,none⟩),.slice A 0 c] w (SaysEnd w b g used E none):=by
  go_enter Tryz.func41,Tryz.ntmps41
  go_upto_region 1 with fail
  refine nameW ?_;intro W hW
  have hbW : Below w.heap.size w W:=by rw [hW];exact (Below.refl _ _).alloc (Nat.le_refl _) _
  clear hW;go_wp2_with fail;refine (must_bad _ _).mono ?_;rintro e w2 ⟨rfl,rfl⟩;go_wp2_with fail;exact ⟨rfl,only_of_below hbW _,rfl⟩
theorem read_bad (b g used u i : Nat) (E : Value) (a : Addr) (n c : Nat) (kd : UInt8) (t : List UInt8) (B : Nat) (w : World) (h0 : Blk w b 88 (sc g used u i E)) (hb : RdB w B (some a) n (kd :: t)) (hB : B≤w.heap.size) (hk : kd.toNat < 1∨3 < kd.toNat) :
    Calls Tryz.prog 41 #[.pointer (some ⟨b,0,none⟩),.slice (some a) n c] w (SaysEnd w b g used E none):=by
  have hn1 : 1≤n:=by have:=hb.1;simp at this;omega
  obtain ⟨ad,hA,hab,hv0⟩:=hb.at_ (k:=0) (by simp)
  obtain rfl : a = ad:=by injection hA
  have hv1 : w.cell? a = some (.int .u8 (kd.toNat : Nat)):=by simpa [go_sem] using hv0
  have hd0 : decide ((0 : Int) < (n : Int)) = true:=decide_eq_true (by omega);have hd1 : decide (0 < n) = true:=decide_eq_true (by omega)
  have hn0 : (0 : Int) < (n : Int):=by omega
  generalize kd.toNat = z at *
  clear hv0 hA hb h0
  rcases hk with hk | hk
  · have hk1 : (z : Int) < 1:=by omega
    have hk2 : ¬ (1 : Int)≤(z : Int):=by omega
    go_enter Tryz.func41,Tryz.ntmps41
    go_upto_region 1 with fail
    refine nameW ?_;intro W hW
    have hbW : Below w.heap.size w W:=by rw [hW];exact (Below.refl _ _).alloc (Nat.le_refl _) _
    have hvW : W.cell? a = some (.int .u8 (z : Nat)):=(hbW.cell (Nat.lt_of_lt_of_le hab hB)).trans hv1;clear hW hv1;go_wp2_with fail;refine (must_no (by first | with_reducible rfl | (simp;done) | (simp;omega)) _ _).mono ?_;rintro e w2 ⟨rfl,rfl⟩;go_wp2_with fail;exact ⟨rfl,only_of_below hbW _,rfl⟩
  · have hk1 : (1 : Int)≤(z : Int):=by omega
    have hk2 : ¬ (z : Int)≤3:=by omega
    have hk3 : (3 : Int) < (z : Int):=by omega
    go_enter Tryz.func41,Tryz.ntmps41
    go_upto_region 1 with fail
    refine nameW ?_;intro W hW
    have hbW : Below w.heap.size w W:=by rw [hW];exact (Below.refl _ _).alloc (Nat.le_refl _) _
    have hvW : W.cell? a = some (.int .u8 (z : Nat)):=(hbW.cell (Nat.lt_of_lt_of_le hab hB)).trans hv1;clear hW hv1;go_wp2_with fail;refine (must_no (by first | with_reducible rfl | (simp;done) | (simp;omega)) _ _).mono ?_;rintro e w2 ⟨rfl,rfl⟩;go_wp2_with fail;exact ⟨rfl,only_of_below hbW _,rfl⟩
set_option maxHeartbeats 1000000 in
theorem read1_any (b g used u i : Nat) (E : Value) (ad : Addr) (n c : Nat) (t : List UInt8) (B : Nat) (w0 : World) (h0 : Blk w0 b 88 (sc g used u i E)) (hb : RdB w0 B (some ad) n (1 :: t)) (hB : B≤w0.heap.size) (hl : n≤140737488355000) (hc : n≤c) (hm : c≤maxLen) :
    Calls Tryz.prog 41 #[.pointer (some ⟨b,0,none⟩),.slice (some ad) n c] w0 (SaysEnd w0 b g used E ((numM 96 t).map fun x=>(max u x,i))):=by
  have n1 : 1≤n:=by have:=hb.1;simp at this;omega
  have hlt:=h0.lt;obtain ⟨a',hA,hab,hv0⟩:=hb.at_ (k:=0) (by simp)
  obtain rfl : ad = a':=by injection hA
  have hv2 : w0.cell? ad = some (bv 1):=by simpa [go_sem] using hv0
  have hv1 : w0.cell? ad = some (.int .u8 1):=hv2;have hbt:=hb.drop 1;rw [List.drop_one,List.tail_cons] at hbt;have hd0 : decide ((0 : Int) < (n : Int)) = true:=decide_eq_true (by omega);have hd1 : decide (0 < n) = true:=decide_eq_true (by omega)
  have hn0 : (0 : Int) < (n : Int):=by omega
  have hnl : n = t.length + 1:=by have:=hb.1;simpa using this
  unfold maxLen at hm
  have hnp : 0 < n:=n1
  have hnz : (1 : Int)≤(n : Int):=by omega
  clear hv0 hv2 hA hb hd0 hd1
  by_cases hc1 : c = 1
  · obtain rfl : n = 1:=by omega
    subst hc1;obtain rfl : t = []:=List.eq_nil_of_length_eq_zero (by omega)
    have HC0:=Lib.hid fun (w' : World) (h : Below w0.heap.size w0 w')=>reserves_any b g used u i E (some ad) 0 0 [] 0 w' (h0.below h hlt) (RdB.nil _ _ _) (by omega) (by omega)
    generalize (numM 96 []).map (fun x=>(max u x,i)) = o at *
    clear hbt h0 hnl
    go_enter Tryz.func41,Tryz.ntmps41
    go_upto_region 1 with fail
    refine nameW ?_;intro W hW;obtain ⟨G,hG⟩ : ∃ G,G = w0.heap.size:=⟨_,rfl⟩;rw [← hG]
    have hbW : Below w0.heap.size w0 W:=by rw [hW];exact (Below.refl _ _).alloc (Nat.le_refl _) _
    have cG : W.cell? ⟨G,1,none⟩ = some (.func (.func 69) #[] #[]):=by rw [hW,hG];exact (Blk.new w0 _ #[.nilFunc,.func (.func 69) #[] #[],.func (.func 70) #[] #[],.func (.func 71) #[] #[]]).cell 1
    have hGW : G < W.heap.size:=by rw [hW,hG];simp
    have hvW : W.cell? ad = some (.int .u8 1):=(hbW.cell (Nat.lt_of_lt_of_le hab hB)).trans hv1
    have habW : ad.block < W.heap.size:=by have:=hbW.size;omega
    have HC:=Lib.hid fun (w' : World) (h : Below W.heap.size W w')=>HC0.out w' (hbW.trans (h.mono hbW.size))
    clear hW hG hv1;go_wp2_with fail;refine (must_ok _ _).mono ?_;rintro e w2 ⟨rfl,rfl⟩
    go_upto_region 2 with fail
    refine wp_region_tailF 6 8 (fun L v w=>v 0 = .pointer (some ⟨b,0,none⟩)∧v 1 = .slice (some ad) 1 1∧v 4 = .pointer (some ⟨G,0,none⟩)∧Below W.heap.size W w∧(L 0 = true→v 22 = .slice (some ad) 1 1)∧(L 1 = true→v 23 = .pointer (some ad))∧(L 2 = true→v 24 = .int .u8 1)∧(L 3 = true→v 25 = .pointer (some ⟨G,1,none⟩))∧(L 4 = true→v 26 = .func (.func 69) #[] #[])∧(L 5 = true→v 27 = .pointer (some ⟨b,0,none⟩))∧(L 6 = true→v 28 = .slice (some ad) 1 1)∧(L 7 = true→v 29 = .slice (some ad) 0 0)) [22,23,24,25,26,27,28,29] (by kernel_rfl) (by kernel_rfl) (by kernel_rfl) (by kernel_rfl) (by kernel_rfl) (by kernel_rfl) ?h0 ?hst ?hend
    case h0 =>
      intro L h0;have h0 : ∀ i,i < 8→L i = false:=h0;exact ⟨rfl,rfl,rfl,(Below.refl _ _).drew,offF h0 (i:=0) (by decide),offF h0 (i:=1) (by decide),offF h0 (i:=2) (by decide),offF h0 (i:=3) (by decide),offF h0 (i:=4) (by decide),offF h0 (i:=5) (by decide),offF h0 (i:=6) (by decide),offF h0 (i:=7) (by decide)⟩
    case hst =>
      show FactSteps _ _ _ _ [0,1,2,3,4,5,6,7]
      refine @FactSteps.cons _ _ _ _ 0 _ [] _ rfl (by kernel_rfl) ?s0 ?_;rotate_left;refine @FactSteps.cons _ _ _ _ 1 _ [0] _ rfl (by kernel_rfl) ?s1 ?_;rotate_left;refine @FactSteps.cons _ _ _ _ 2 _ [1] _ rfl (by kernel_rfl) ?s2 ?_;rotate_left;refine @FactSteps.cons _ _ _ _ 3 _ [2] _ rfl (by kernel_rfl) ?s3 ?_;rotate_left;refine @FactSteps.cons _ _ _ _ 4 _ [3] _ rfl (by kernel_rfl) ?s4 ?_;rotate_left;refine @FactSteps.cons _ _ _ _ 5 _ [] _ rfl (by kernel_rfl) ?s5 ?_;rotate_left;refine @FactSteps.cons _ _ _ _ 6 _ [] _ rfl (by kernel_rfl) ?s6 ?_;rotate_left;refine @FactSteps.cons _ _ _ _ 7 _ [6] _ rfl (by kernel_rfl) ?s7 ?_;rotate_left;exact FactSteps.nil
      case s0 =>
        rintro L a v w hv hg hL hd hcl ⟨e0,e1,e4,hb,f0,f1,f2,f3,f4,f5,f6,f7⟩ K hK;refine step_do rfl ?_;clear hv;go_simp;exact hK.out _ _ ⟨e0,e1,e4,hb,fun _=>rfl,f1,f2,f3,f4,f5,f6,f7⟩
      case s1 =>
        rintro L a v w hv hg hL hd hcl ⟨e0,e1,e4,hb,f0,f1,f2,f3,f4,f5,f6,f7⟩ K hK;have g0:=f0 (hd 0 (by decide));refine step_do rfl ?_;clear hv;go_simp;exact hK.out _ _ ⟨e0,e1,e4,hb,f0,fun _=>rfl,f2,f3,f4,f5,f6,f7⟩
      case s2 =>
        rintro L a v w hv hg hL hd hcl ⟨e0,e1,e4,hb,f0,f1,f2,f3,f4,f5,f6,f7⟩ K hK;have g1:=f1 (hd 1 (by decide));have hc2:=(hb.cell habW).trans hvW;refine step_do rfl ?_;clear hv;go_simp;exact hK.out _ _ ⟨e0,e1,e4,hb,f0,f1,fun _=>rfl,f3,f4,f5,f6,f7⟩
      case s3 =>
        rintro L a v w hv hg hL hd hcl ⟨e0,e1,e4,hb,f0,f1,f2,f3,f4,f5,f6,f7⟩ K hK;have g2:=f2 (hd 2 (by decide));refine step_do rfl ?_;clear hv;go_simp;exact hK.out _ _ ⟨e0,e1,e4,hb,f0,f1,f2,fun _=>rfl,f4,f5,f6,f7⟩
      case s4 =>
        rintro L a v w hv hg hL hd hcl ⟨e0,e1,e4,hb,f0,f1,f2,f3,f4,f5,f6,f7⟩ K hK;have g3:=f3 (hd 3 (by decide));have hc4:=(hb.cell (p:=⟨G,1,none⟩) hGW).trans cG;refine step_do rfl ?_;clear hv;go_simp;exact hK.out _ _ ⟨e0,e1,e4,hb,f0,f1,f2,f3,fun _=>rfl,f5,f6,f7⟩
      case s5 =>
        rintro L a v w hv hg hL hd hcl ⟨e0,e1,e4,hb,f0,f1,f2,f3,f4,f5,f6,f7⟩ K hK;refine step_do rfl ?_;clear hv;go_simp;exact hK.out _ _ ⟨e0,e1,e4,hb,f0,f1,f2,f3,f4,fun _=>rfl,f6,f7⟩
      case s6 =>
        rintro L a v w hv hg hL hd hcl ⟨e0,e1,e4,hb,f0,f1,f2,f3,f4,f5,f6,f7⟩ K hK;refine step_do rfl ?_;clear hv;go_simp;exact hK.out _ _ ⟨e0,e1,e4,hb,f0,f1,f2,f3,f4,f5,fun _=>rfl,f7⟩
      case s7 =>
        rintro L a v w hv hg hL hd hcl ⟨e0,e1,e4,hb,f0,f1,f2,f3,f4,f5,f6,f7⟩ K hK;have g6:=f6 (hd 6 (by decide));refine step_do rfl ?_;clear hv;go_simp;exact hK.out _ _ ⟨e0,e1,e4,hb,f0,f1,f2,f3,f4,f5,f6,fun _=>rfl⟩
    case hend =>
    rintro L v wx hall ⟨e0,e1,e4,hb,f0,f1,f2,f3,f4,f5,f6,f7⟩;have hL : ∀ i,i < 8→L i = true:=hall;have f0:=f0 (hL 0 (by decide));have f1:=f1 (hL 1 (by decide));have f2:=f2 (hL 2 (by decide));have f3:=f3 (hL 3 (by decide));have f4:=f4 (hL 4 (by decide));have f5:=f5 (hL 5 (by decide));have f6:=f6 (hL 6 (by decide));have f7:=f7 (hL 7 (by decide))
    simp only [finA,List.foldl_cons,List.foldl_nil,Act.put,List.setIfInBounds_toArray,List.set_cons_succ,List.set_cons_zero,f0,f1,f2,f3,f4,f5,f6,f7]
    clear e0 e1 e4 f0 f1 f2 f3 f4 f5 f6 f7 hL hall
    show wpList _ _ _ [_] _ _
    go_wp2_with fail;refine (HC.out wx hb).mono ?_;rintro e w3 h;have h:=SaysEnd.from_ (hbW.trans (hb.mono hbW.size)) h
    rcases o with _ | ⟨u',i'⟩
    · obtain ⟨h1,rfl⟩:=h
      exact ⟨rfl,h1,rfl⟩
    · obtain ⟨h1,rfl,h2⟩:=h
      go_wp2_with fail
      go_end0
      exact ⟨h1,rfl,h2⟩
  · have HC0:=Lib.hid fun (w' : World) (h : Below w0.heap.size w0 w')=>reserves_any b g used u i E (some ⟨ad.block,ad.off + 1,none⟩) (n - 1) (c - 1) t B w' (h0.below h hlt) (hbt.below (h.mono hB)) (Nat.le_trans hB h.size) (by omega)
    generalize (numM 96 t).map (fun x=>(max u x,i)) = o at *
    have hc2' : 1≤c:=by omega
    clear hbt h0 hnl
    go_enter Tryz.func41,Tryz.ntmps41
    go_upto_region 1 with fail
    refine nameW ?_;intro W hW;obtain ⟨G,hG⟩ : ∃ G,G = w0.heap.size:=⟨_,rfl⟩;rw [← hG]
    have hbW : Below w0.heap.size w0 W:=by rw [hW];exact (Below.refl _ _).alloc (Nat.le_refl _) _
    have cG : W.cell? ⟨G,1,none⟩ = some (.func (.func 69) #[] #[]):=by rw [hW,hG];exact (Blk.new w0 _ #[.nilFunc,.func (.func 69) #[] #[],.func (.func 70) #[] #[],.func (.func 71) #[] #[]]).cell 1
    have hGW : G < W.heap.size:=by rw [hW,hG];simp
    have hvW : W.cell? ad = some (.int .u8 1):=(hbW.cell (Nat.lt_of_lt_of_le hab hB)).trans hv1
    have habW : ad.block < W.heap.size:=by have:=hbW.size;omega
    have HC:=Lib.hid fun (w' : World) (h : Below W.heap.size W w')=>HC0.out w' (hbW.trans (h.mono hbW.size))
    clear hW hG hv1;go_wp2_with fail;refine (must_ok _ _).mono ?_;rintro e w2 ⟨rfl,rfl⟩
    go_upto_region 2 with fail
    refine wp_region_tailF 6 8 (fun L v w=>v 0 = .pointer (some ⟨b,0,none⟩)∧v 1 = .slice (some ad) n c∧v 4 = .pointer (some ⟨G,0,none⟩)∧Below W.heap.size W w∧(L 0 = true→v 22 = .slice (some ad) n c)∧(L 1 = true→v 23 = .pointer (some ad))∧(L 2 = true→v 24 = .int .u8 1)∧(L 3 = true→v 25 = .pointer (some ⟨G,1,none⟩))∧(L 4 = true→v 26 = .func (.func 69) #[] #[])∧(L 5 = true→v 27 = .pointer (some ⟨b,0,none⟩))∧(L 6 = true→v 28 = .slice (some ad) n c)∧(L 7 = true→v 29 = .slice (some ⟨ad.block,ad.off + 1,none⟩) (n - 1) (c - 1))) [22,23,24,25,26,27,28,29] (by kernel_rfl) (by kernel_rfl) (by kernel_rfl) (by kernel_rfl) (by kernel_rfl) (by kernel_rfl) ?h0 ?hst ?hend
    case h0 =>
      intro L h0;have h0 : ∀ i,i < 8→L i = false:=h0;exact ⟨rfl,rfl,rfl,(Below.refl _ _).drew,offF h0 (i:=0) (by decide),offF h0 (i:=1) (by decide),offF h0 (i:=2) (by decide),offF h0 (i:=3) (by decide),offF h0 (i:=4) (by decide),offF h0 (i:=5) (by decide),offF h0 (i:=6) (by decide),offF h0 (i:=7) (by decide)⟩
    case hst =>
      show FactSteps _ _ _ _ [0,1,2,3,4,5,6,7]
      refine @FactSteps.cons _ _ _ _ 0 _ [] _ rfl (by kernel_rfl) ?s0 ?_;rotate_left;refine @FactSteps.cons _ _ _ _ 1 _ [0] _ rfl (by kernel_rfl) ?s1 ?_;rotate_left;refine @FactSteps.cons _ _ _ _ 2 _ [1] _ rfl (by kernel_rfl) ?s2 ?_;rotate_left;refine @FactSteps.cons _ _ _ _ 3 _ [2] _ rfl (by kernel_rfl) ?s3 ?_;rotate_left;refine @FactSteps.cons _ _ _ _ 4 _ [3] _ rfl (by kernel_rfl) ?s4 ?_;rotate_left;refine @FactSteps.cons _ _ _ _ 5 _ [] _ rfl (by kernel_rfl) ?s5 ?_;rotate_left;refine @FactSteps.cons _ _ _ _ 6 _ [] _ rfl (by kernel_rfl) ?s6 ?_;rotate_left;refine @FactSteps.cons _ _ _ _ 7 _ [6] _ rfl (by kernel_rfl) ?s7 ?_;rotate_left;exact FactSteps.nil
      case s0 =>
        rintro L a v w hv hg hL hd hcl ⟨e0,e1,e4,hb,f0,f1,f2,f3,f4,f5,f6,f7⟩ K hK;refine step_do rfl ?_;clear hv;go_simp;exact hK.out _ _ ⟨e0,e1,e4,hb,fun _=>rfl,f1,f2,f3,f4,f5,f6,f7⟩
      case s1 =>
        rintro L a v w hv hg hL hd hcl ⟨e0,e1,e4,hb,f0,f1,f2,f3,f4,f5,f6,f7⟩ K hK;have g0:=f0 (hd 0 (by decide));refine step_do rfl ?_;clear hv;go_simp;exact hK.out _ _ ⟨e0,e1,e4,hb,f0,fun _=>rfl,f2,f3,f4,f5,f6,f7⟩
      case s2 =>
        rintro L a v w hv hg hL hd hcl ⟨e0,e1,e4,hb,f0,f1,f2,f3,f4,f5,f6,f7⟩ K hK;have g1:=f1 (hd 1 (by decide));have hc2:=(hb.cell habW).trans hvW;refine step_do rfl ?_;clear hv;go_simp;exact hK.out _ _ ⟨e0,e1,e4,hb,f0,f1,fun _=>rfl,f3,f4,f5,f6,f7⟩
      case s3 =>
        rintro L a v w hv hg hL hd hcl ⟨e0,e1,e4,hb,f0,f1,f2,f3,f4,f5,f6,f7⟩ K hK;have g2:=f2 (hd 2 (by decide));refine step_do rfl ?_;clear hv;go_simp;exact hK.out _ _ ⟨e0,e1,e4,hb,f0,f1,f2,fun _=>rfl,f4,f5,f6,f7⟩
      case s4 =>
        rintro L a v w hv hg hL hd hcl ⟨e0,e1,e4,hb,f0,f1,f2,f3,f4,f5,f6,f7⟩ K hK;have g3:=f3 (hd 3 (by decide));have hc4:=(hb.cell (p:=⟨G,1,none⟩) hGW).trans cG;refine step_do rfl ?_;clear hv;go_simp;exact hK.out _ _ ⟨e0,e1,e4,hb,f0,f1,f2,f3,fun _=>rfl,f5,f6,f7⟩
      case s5 =>
        rintro L a v w hv hg hL hd hcl ⟨e0,e1,e4,hb,f0,f1,f2,f3,f4,f5,f6,f7⟩ K hK;refine step_do rfl ?_;clear hv;go_simp;exact hK.out _ _ ⟨e0,e1,e4,hb,f0,f1,f2,f3,f4,fun _=>rfl,f6,f7⟩
      case s6 =>
        rintro L a v w hv hg hL hd hcl ⟨e0,e1,e4,hb,f0,f1,f2,f3,f4,f5,f6,f7⟩ K hK;refine step_do rfl ?_;clear hv;go_simp;exact hK.out _ _ ⟨e0,e1,e4,hb,f0,f1,f2,f3,f4,f5,fun _=>rfl,f7⟩
      case s7 =>
        rintro L a v w hv hg hL hd hcl ⟨e0,e1,e4,hb,f0,f1,f2,f3,f4,f5,f6,f7⟩ K hK;have g6:=f6 (hd 6 (by decide));refine step_do rfl ?_;clear hv;go_simp;exact hK.out _ _ ⟨e0,e1,e4,hb,f0,f1,f2,f3,f4,f5,f6,fun _=>rfl⟩
    case hend =>
    rintro L v wx hall ⟨e0,e1,e4,hb,f0,f1,f2,f3,f4,f5,f6,f7⟩;have hL : ∀ i,i < 8→L i = true:=hall;have f0:=f0 (hL 0 (by decide));have f1:=f1 (hL 1 (by decide));have f2:=f2 (hL 2 (by decide));have f3:=f3 (hL 3 (by decide));have f4:=f4 (hL 4 (by decide));have f5:=f5 (hL 5 (by decide));have f6:=f6 (hL 6 (by decide));have f7:=f7 (hL 7 (by decide))
    simp only [finA,List.foldl_cons,List.foldl_nil,Act.put,List.setIfInBounds_toArray,List.set_cons_succ,List.set_cons_zero,f0,f1,f2,f3,f4,f5,f6,f7]
    clear e0 e1 e4 f0 f1 f2 f3 f4 f5 f6 f7 hL hall
    show wpList _ _ _ [_] _ _
    go_wp2_with fail;refine (HC.out wx hb).mono ?_;rintro e w3 h;have h:=SaysEnd.from_ (hbW.trans (hb.mono hbW.size)) h
    rcases o with _ | ⟨u',i'⟩
    · obtain ⟨h1,rfl⟩:=h
      exact ⟨rfl,h1,rfl⟩
    · obtain ⟨h1,rfl,h2⟩:=h
      go_wp2_with fail
      go_end0
      exact ⟨h1,rfl,h2⟩
set_option maxHeartbeats 1000000 in
theorem read2_any (b g used u i : Nat) (E : Value) (ad : Addr) (n c : Nat) (t : List UInt8) (B : Nat) (w0 : World) (h0 : Blk w0 b 88 (sc g used u i E)) (hb : RdB w0 B (some ad) n (2 :: t)) (hB : B≤w0.heap.size) (hl : n≤140737488355000) (hc : n≤c) (hm : c≤maxLen) :
    Calls Tryz.prog 41 #[.pointer (some ⟨b,0,none⟩),.slice (some ad) n c] w0 (SaysEnd w0 b g used E ((numM 1099511627776 t).map fun x=>(u,max i x))):=by
  have n1 : 1≤n:=by have:=hb.1;simp at this;omega
  have hlt:=h0.lt;obtain ⟨a',hA,hab,hv0⟩:=hb.at_ (k:=0) (by simp)
  obtain rfl : ad = a':=by injection hA
  have hv2 : w0.cell? ad = some (bv 2):=by simpa [go_sem] using hv0
  have hv1 : w0.cell? ad = some (.int .u8 2):=hv2;have hbt:=hb.drop 1;rw [List.drop_one,List.tail_cons] at hbt;have hd0 : decide ((0 : Int) < (n : Int)) = true:=decide_eq_true (by omega);have hd1 : decide (0 < n) = true:=decide_eq_true (by omega)
  have hn0 : (0 : Int) < (n : Int):=by omega
  have hnl : n = t.length + 1:=by have:=hb.1;simpa using this
  unfold maxLen at hm
  have hnp : 0 < n:=n1
  have hnz : (1 : Int)≤(n : Int):=by omega
  clear hv0 hv2 hA hb hd0 hd1
  by_cases hc1 : c = 1
  · obtain rfl : n = 1:=by omega
    subst hc1;obtain rfl : t = []:=List.eq_nil_of_length_eq_zero (by omega)
    have HC0:=Lib.hid fun (w' : World) (h : Below w0.heap.size w0 w')=>bumps_any b g used u i E (some ad) 0 0 [] 0 w' (h0.below h hlt) (RdB.nil _ _ _) (by omega) (by omega)
    generalize (numM 1099511627776 []).map (fun x=>(u,max i x)) = o at *
    clear hbt h0 hnl
    go_enter Tryz.func41,Tryz.ntmps41
    go_upto_region 1 with fail
    refine nameW ?_;intro W hW;obtain ⟨G,hG⟩ : ∃ G,G = w0.heap.size:=⟨_,rfl⟩;rw [← hG]
    have hbW : Below w0.heap.size w0 W:=by rw [hW];exact (Below.refl _ _).alloc (Nat.le_refl _) _
    have cG : W.cell? ⟨G,2,none⟩ = some (.func (.func 70) #[] #[]):=by rw [hW,hG];exact (Blk.new w0 _ #[.nilFunc,.func (.func 69) #[] #[],.func (.func 70) #[] #[],.func (.func 71) #[] #[]]).cell 2
    have hGW : G < W.heap.size:=by rw [hW,hG];simp
    have hvW : W.cell? ad = some (.int .u8 2):=(hbW.cell (Nat.lt_of_lt_of_le hab hB)).trans hv1
    have habW : ad.block < W.heap.size:=by have:=hbW.size;omega
    have HC:=Lib.hid fun (w' : World) (h : Below W.heap.size W w')=>HC0.out w' (hbW.trans (h.mono hbW.size))
    clear hW hG hv1;go_wp2_with fail;refine (must_ok _ _).mono ?_;rintro e w2 ⟨rfl,rfl⟩
    go_upto_region 2 with fail
    refine wp_region_tailF 6 8 (fun L v w=>v 0 = .pointer (some ⟨b,0,none⟩)∧v 1 = .slice (some ad) 1 1∧v 4 = .pointer (some ⟨G,0,none⟩)∧Below W.heap.size W w∧(L 0 = true→v 22 = .slice (some ad) 1 1)∧(L 1 = true→v 23 = .pointer (some ad))∧(L 2 = true→v 24 = .int .u8 2)∧(L 3 = true→v 25 = .pointer (some ⟨G,2,none⟩))∧(L 4 = true→v 26 = .func (.func 70) #[] #[])∧(L 5 = true→v 27 = .pointer (some ⟨b,0,none⟩))∧(L 6 = true→v 28 = .slice (some ad) 1 1)∧(L 7 = true→v 29 = .slice (some ad) 0 0)) [22,23,24,25,26,27,28,29] (by kernel_rfl) (by kernel_rfl) (by kernel_rfl) (by kernel_rfl) (by kernel_rfl) (by kernel_rfl) ?h0 ?hst ?hend
    case h0 =>
      intro L h0;have h0 : ∀ i,i < 8→L i = false:=h0;exact ⟨rfl,rfl,rfl,(Below.refl _ _).drew,offF h0 (i:=0) (by decide),offF h0 (i:=1) (by decide),offF h0 (i:=2) (by decide),offF h0 (i:=3) (by decide),offF h0 (i:=4) (by decide),offF h0 (i:=5) (by decide),offF h0 (i:=6) (by decide),offF h0 (i:=7) (by decide)⟩
    case hst =>
      show FactSteps _ _ _ _ [0,1,2,3,4,5,6,7]
      refine @FactSteps.cons _ _ _ _ 0 _ [] _ rfl (by kernel_rfl) ?s0 ?_;rotate_left;refine @FactSteps.cons _ _ _ _ 1 _ [0] _ rfl (by kernel_rfl) ?s1 ?_;rotate_left;refine @FactSteps.cons _ _ _ _ 2 _ [1] _ rfl (by kernel_rfl) ?s2 ?_;rotate_left;refine @FactSteps.cons _ _ _ _ 3 _ [2] _ rfl (by kernel_rfl) ?s3 ?_;rotate_left;refine @FactSteps.cons _ _ _ _ 4 _ [3] _ rfl (by kernel_rfl) ?s4 ?_;rotate_left;refine @FactSteps.cons _ _ _ _ 5 _ [] _ rfl (by kernel_rfl) ?s5 ?_;rotate_left;refine @FactSteps.cons _ _ _ _ 6 _ [] _ rfl (by kernel_rfl) ?s6 ?_;rotate_left;refine @FactSteps.cons _ _ _ _ 7 _ [6] _ rfl (by kernel_rfl) ?s7 ?_;rotate_left;exact FactSteps.nil
      case s0 =>
        rintro L a v w hv hg hL hd hcl ⟨e0,e1,e4,hb,f0,f1,f2,f3,f4,f5,f6,f7⟩ K hK;refine step_do rfl ?_;clear hv;go_simp;exact hK.out _ _ ⟨e0,e1,e4,hb,fun _=>rfl,f1,f2,f3,f4,f5,f6,f7⟩
      case s1 =>
        rintro L a v w hv hg hL hd hcl ⟨e0,e1,e4,hb,f0,f1,f2,f3,f4,f5,f6,f7⟩ K hK;have g0:=f0 (hd 0 (by decide));refine step_do rfl ?_;clear hv;go_simp;exact hK.out _ _ ⟨e0,e1,e4,hb,f0,fun _=>rfl,f2,f3,f4,f5,f6,f7⟩
      case s2 =>
        rintro L a v w hv hg hL hd hcl ⟨e0,e1,e4,hb,f0,f1,f2,f3,f4,f5,f6,f7⟩ K hK;have g1:=f1 (hd 1 (by decide));have hc2:=(hb.cell habW).trans hvW;refine step_do rfl ?_;clear hv;go_simp;exact hK.out _ _ ⟨e0,e1,e4,hb,f0,f1,fun _=>rfl,f3,f4,f5,f6,f7⟩
      case s3 =>
        rintro L a v w hv hg hL hd hcl ⟨e0,e1,e4,hb,f0,f1,f2,f3,f4,f5,f6,f7⟩ K hK;have g2:=f2 (hd 2 (by decide));refine step_do rfl ?_;clear hv;go_simp;exact hK.out _ _ ⟨e0,e1,e4,hb,f0,f1,f2,fun _=>rfl,f4,f5,f6,f7⟩
      case s4 =>
        rintro L a v w hv hg hL hd hcl ⟨e0,e1,e4,hb,f0,f1,f2,f3,f4,f5,f6,f7⟩ K hK;have g3:=f3 (hd 3 (by decide));have hc4:=(hb.cell (p:=⟨G,2,none⟩) hGW).trans cG;refine step_do rfl ?_;clear hv;go_simp;exact hK.out _ _ ⟨e0,e1,e4,hb,f0,f1,f2,f3,fun _=>rfl,f5,f6,f7⟩
      case s5 =>
        rintro L a v w hv hg hL hd hcl ⟨e0,e1,e4,hb,f0,f1,f2,f3,f4,f5,f6,f7⟩ K hK;refine step_do rfl ?_;clear hv;go_simp;exact hK.out _ _ ⟨e0,e1,e4,hb,f0,f1,f2,f3,f4,fun _=>rfl,f6,f7⟩
      case s6 =>
        rintro L a v w hv hg hL hd hcl ⟨e0,e1,e4,hb,f0,f1,f2,f3,f4,f5,f6,f7⟩ K hK;refine step_do rfl ?_;clear hv;go_simp;exact hK.out _ _ ⟨e0,e1,e4,hb,f0,f1,f2,f3,f4,f5,fun _=>rfl,f7⟩
      case s7 =>
        rintro L a v w hv hg hL hd hcl ⟨e0,e1,e4,hb,f0,f1,f2,f3,f4,f5,f6,f7⟩ K hK;have g6:=f6 (hd 6 (by decide));refine step_do rfl ?_;clear hv;go_simp;exact hK.out _ _ ⟨e0,e1,e4,hb,f0,f1,f2,f3,f4,f5,f6,fun _=>rfl⟩
    case hend =>
    rintro L v wx hall ⟨e0,e1,e4,hb,f0,f1,f2,f3,f4,f5,f6,f7⟩;have hL : ∀ i,i < 8→L i = true:=hall;have f0:=f0 (hL 0 (by decide));have f1:=f1 (hL 1 (by decide));have f2:=f2 (hL 2 (by decide));have f3:=f3 (hL 3 (by decide));have f4:=f4 (hL 4 (by decide));have f5:=f5 (hL 5 (by decide));have f6:=f6 (hL 6 (by decide));have f7:=f7 (hL 7 (by decide))
    simp only [finA,List.foldl_cons,List.foldl_nil,Act.put,List.setIfInBounds_toArray,List.set_cons_succ,List.set_cons_zero,f0,f1,f2,f3,f4,f5,f6,f7]
    clear e0 e1 e4 f0 f1 f2 f3 f4 f5 f6 f7 hL hall
    show wpList _ _ _ [_] _ _
    go_wp2_with fail;refine (HC.out wx hb).mono ?_;rintro e w3 h;have h:=SaysEnd.from_ (hbW.trans (hb.mono hbW.size)) h
    rcases o with _ | ⟨u',i'⟩
    · obtain ⟨h1,rfl⟩:=h
      exact ⟨rfl,h1,rfl⟩
    · obtain ⟨h1,rfl,h2⟩:=h
      go_wp2_with fail
      go_end0
      exact ⟨h1,rfl,h2⟩
  · have HC0:=Lib.hid fun (w' : World) (h : Below w0.heap.size w0 w')=>bumps_any b g used u i E (some ⟨ad.block,ad.off + 1,none⟩) (n - 1) (c - 1) t B w' (h0.below h hlt) (hbt.below (h.mono hB)) (Nat.le_trans hB h.size) (by omega)
    generalize (numM 1099511627776 t).map (fun x=>(u,max i x)) = o at *
    have hc2' : 1≤c:=by omega
    clear hbt h0 hnl
    go_enter Tryz.func41,Tryz.ntmps41
    go_upto_region 1 with fail
    refine nameW ?_;intro W hW;obtain ⟨G,hG⟩ : ∃ G,G = w0.heap.size:=⟨_,rfl⟩;rw [← hG]
    have hbW : Below w0.heap.size w0 W:=by rw [hW];exact (Below.refl _ _).alloc (Nat.le_refl _) _
    have cG : W.cell? ⟨G,2,none⟩ = some (.func (.func 70) #[] #[]):=by rw [hW,hG];exact (Blk.new w0 _ #[.nilFunc,.func (.func 69) #[] #[],.func (.func 70) #[] #[],.func (.func 71) #[] #[]]).cell 2
    have hGW : G < W.heap.size:=by rw [hW,hG];simp
    have hvW : W.cell? ad = some (.int .u8 2):=(hbW.cell (Nat.lt_of_lt_of_le hab hB)).trans hv1
    have habW : ad.block < W.heap.size:=by have:=hbW.size;omega
    have HC:=Lib.hid fun (w' : World) (h : Below W.heap.size W w')=>HC0.out w' (hbW.trans (h.mono hbW.size))
    clear hW hG hv1;go_wp2_with fail;refine (must_ok _ _).mono ?_;rintro e w2 ⟨rfl,rfl⟩
    go_upto_region 2 with fail
    refine wp_region_tailF 6 8 (fun L v w=>v 0 = .pointer (some ⟨b,0,none⟩)∧v 1 = .slice (some ad) n c∧v 4 = .pointer (some ⟨G,0,none⟩)∧Below W.heap.size W w∧(L 0 = true→v 22 = .slice (some ad) n c)∧(L 1 = true→v 23 = .pointer (some ad))∧(L 2 = true→v 24 = .int .u8 2)∧(L 3 = true→v 25 = .pointer (some ⟨G,2,none⟩))∧(L 4 = true→v 26 = .func (.func 70) #[] #[])∧(L 5 = true→v 27 = .pointer (some ⟨b,0,none⟩))∧(L 6 = true→v 28 = .slice (some ad) n c)∧(L 7 = true→v 29 = .slice (some ⟨ad.block,ad.off + 1,none⟩) (n - 1) (c - 1))) [22,23,24,25,26,27,28,29] (by kernel_rfl) (by kernel_rfl) (by kernel_rfl) (by kernel_rfl) (by kernel_rfl) (by kernel_rfl) ?h0 ?hst ?hend
    case h0 =>
      intro L h0;have h0 : ∀ i,i < 8→L i = false:=h0;exact ⟨rfl,rfl,rfl,(Below.refl _ _).drew,offF h0 (i:=0) (by decide),offF h0 (i:=1) (by decide),offF h0 (i:=2) (by decide),offF h0 (i:=3) (by decide),offF h0 (i:=4) (by decide),offF h0 (i:=5) (by decide),offF h0 (i:=6) (by decide),offF h0 (i:=7) (by decide)⟩
    case hst =>
      show FactSteps _ _ _ _ [0,1,2,3,4,5,6,7]
      refine @FactSteps.cons _ _ _ _ 0 _ [] _ rfl (by kernel_rfl) ?s0 ?_;rotate_left;refine @FactSteps.cons _ _ _ _ 1 _ [0] _ rfl (by kernel_rfl) ?s1 ?_;rotate_left;refine @FactSteps.cons _ _ _ _ 2 _ [1] _ rfl (by kernel_rfl) ?s2 ?_;rotate_left;refine @FactSteps.cons _ _ _ _ 3 _ [2] _ rfl (by kernel_rfl) ?s3 ?_;rotate_left;refine @FactSteps.cons _ _ _ _ 4 _ [3] _ rfl (by kernel_rfl) ?s4 ?_;rotate_left;refine @FactSteps.cons _ _ _ _ 5 _ [] _ rfl (by kernel_rfl) ?s5 ?_;rotate_left;refine @FactSteps.cons _ _ _ _ 6 _ [] _ rfl (by kernel_rfl) ?s6 ?_;rotate_left;refine @FactSteps.cons _ _ _ _ 7 _ [6] _ rfl (by kernel_rfl) ?s7 ?_;rotate_left;exact FactSteps.nil
      case s0 =>
        rintro L a v w hv hg hL hd hcl ⟨e0,e1,e4,hb,f0,f1,f2,f3,f4,f5,f6,f7⟩ K hK;refine step_do rfl ?_;clear hv;go_simp;exact hK.out _ _ ⟨e0,e1,e4,hb,fun _=>rfl,f1,f2,f3,f4,f5,f6,f7⟩
      case s1 =>
        rintro L a v w hv hg hL hd hcl ⟨e0,e1,e4,hb,f0,f1,f2,f3,f4,f5,f6,f7⟩ K hK;have g0:=f0 (hd 0 (by decide));refine step_do rfl ?_;clear hv;go_simp;exact hK.out _ _ ⟨e0,e1,e4,hb,f0,fun _=>rfl,f2,f3,f4,f5,f6,f7⟩
      case s2 =>
        rintro L a v w hv hg hL hd hcl ⟨e0,e1,e4,hb,f0,f1,f2,f3,f4,f5,f6,f7⟩ K hK;have g1:=f1 (hd 1 (by decide));have hc2:=(hb.cell habW).trans hvW;refine step_do rfl ?_;clear hv;go_simp;exact hK.out _ _ ⟨e0,e1,e4,hb,f0,f1,fun _=>rfl,f3,f4,f5,f6,f7⟩
      case s3 =>
        rintro L a v w hv hg hL hd hcl ⟨e0,e1,e4,hb,f0,f1,f2,f3,f4,f5,f6,f7⟩ K hK;have g2:=f2 (hd 2 (by decide));refine step_do rfl ?_;clear hv;go_simp;exact hK.out _ _ ⟨e0,e1,e4,hb,f0,f1,f2,fun _=>rfl,f4,f5,f6,f7⟩
      case s4 =>
        rintro L a v w hv hg hL hd hcl ⟨e0,e1,e4,hb,f0,f1,f2,f3,f4,f5,f6,f7⟩ K hK;have g3:=f3 (hd 3 (by decide));have hc4:=(hb.cell (p:=⟨G,2,none⟩) hGW).trans cG;refine step_do rfl ?_;clear hv;go_simp;exact hK.out _ _ ⟨e0,e1,e4,hb,f0,f1,f2,f3,fun _=>rfl,f5,f6,f7⟩
      case s5 =>
        rintro L a v w hv hg hL hd hcl ⟨e0,e1,e4,hb,f0,f1,f2,f3,f4,f5,f6,f7⟩ K hK;refine step_do rfl ?_;clear hv;go_simp;exact hK.out _ _ ⟨e0,e1,e4,hb,f0,f1,f2,f3,f4,fun _=>rfl,f6,f7⟩
      case s6 =>
        rintro L a v w hv hg hL hd hcl ⟨e0,e1,e4,hb,f0,f1,f2,f3,f4,f5,f6,f7⟩ K hK;refine step_do rfl ?_;clear hv;go_simp;exact hK.out _ _ ⟨e0,e1,e4,hb,f0,f1,f2,f3,f4,f5,fun _=>rfl,f7⟩
      case s7 =>
        rintro L a v w hv hg hL hd hcl ⟨e0,e1,e4,hb,f0,f1,f2,f3,f4,f5,f6,f7⟩ K hK;have g6:=f6 (hd 6 (by decide));refine step_do rfl ?_;clear hv;go_simp;exact hK.out _ _ ⟨e0,e1,e4,hb,f0,f1,f2,f3,f4,f5,f6,fun _=>rfl⟩
    case hend =>
    rintro L v wx hall ⟨e0,e1,e4,hb,f0,f1,f2,f3,f4,f5,f6,f7⟩;have hL : ∀ i,i < 8→L i = true:=hall;have f0:=f0 (hL 0 (by decide));have f1:=f1 (hL 1 (by decide));have f2:=f2 (hL 2 (by decide));have f3:=f3 (hL 3 (by decide));have f4:=f4 (hL 4 (by decide));have f5:=f5 (hL 5 (by decide));have f6:=f6 (hL 6 (by decide));have f7:=f7 (hL 7 (by decide))
    simp only [finA,List.foldl_cons,List.foldl_nil,Act.put,List.setIfInBounds_toArray,List.set_cons_succ,List.set_cons_zero,f0,f1,f2,f3,f4,f5,f6,f7]
    clear e0 e1 e4 f0 f1 f2 f3 f4 f5 f6 f7 hL hall
    show wpList _ _ _ [_] _ _
    go_wp2_with fail;refine (HC.out wx hb).mono ?_;rintro e w3 h;have h:=SaysEnd.from_ (hbW.trans (hb.mono hbW.size)) h
    rcases o with _ | ⟨u',i'⟩
    · obtain ⟨h1,rfl⟩:=h
      exact ⟨rfl,h1,rfl⟩
    · obtain ⟨h1,rfl,h2⟩:=h
      go_wp2_with fail
      go_end0
      exact ⟨h1,rfl,h2⟩
theorem recM_cons (s : Nat × Nat) (k : UInt8) (t : List UInt8) : recM s (k :: t) = if k = 1 then (numM 96 t).map fun x=>(max s.1 x,s.2) else if k = 2 then (numM 1099511627776 t).map fun x=>(s.1,max s.2 x) else none:=rfl
theorem read_any (b g used u i : Nat) (E : Value) (A : Option Addr) (n c : Nat) (bs : List UInt8) (B : Nat) (w : World) (h0 : Blk w b 88 (sc g used u i E)) (hb : RdB w B A n bs) (hB : B≤w.heap.size) (hl : n≤140737488355000) (hc : n≤c) (hm : c≤maxLen) (h3 : bs.head? ≠ some 3) :
    Calls Tryz.prog 41 #[.pointer (some ⟨b,0,none⟩),.slice A n c] w (SaysEnd w b g used E (recM (u,i) bs)):=by
  rcases bs with _ | ⟨kd,t⟩
  · obtain rfl : n = 0:=hb.1
    exact read_nil b g used u i E A c w h0
  · obtain ⟨a,rfl,_,_⟩:=hb.at_ (k:=0) (by simp)
    rw [recM_cons]
    by_cases k1 : kd = 1
    · subst k1
      rw [if_pos rfl];exact read1_any b g used u i E a n c t B w h0 hb hB hl hc hm
    rw [if_neg k1]
    by_cases k2 : kd = 2
    · subst k2
      rw [if_pos rfl];exact read2_any b g used u i E a n c t B w h0 hb hB hl hc hm
    rw [if_neg k2]
    have k3 : kd ≠ 3:=fun e=>h3 (by rw [e];rfl)
    refine read_bad b g used u i E a n c kd t B w h0 hb hB ?_
    have e1 : kd.toNat ≠ 1:=fun e=>k1 (UInt8.toNat_inj.1 e)
    have e2 : kd.toNat ≠ 2:=fun e=>k2 (UInt8.toNat_inj.1 e)
    have e3 : kd.toNat ≠ 3:=fun e=>k3 (UInt8.toNat_inj.1 e)
    omega
end Sto
end Go.Proofs.YtfpenfgmpbdakaaGreat

import Derived.Test.YtfpenfgmpbdakaaGreatDotRight
namespace Go.Proofs.YtfpenfgmpbdakaaGreat
set_option linter.unusedVariables false
set_option linter.unusedSimpArgs false
set_option maxRecDepth 100000
open Go.RowKit
open Dot
def gc (G : Grid) : Array Value:=((List.range 784).map fun i=>Value.bool (G (i / 98) (i % 98))).toArray
def grow (G : Grid) (n : Nat) : List Value:=(List.range 98).map fun q=>Value.bool (G n q)
theorem gc_size (G : Grid) : (gc G).size = 784:=by simp [gc]
theorem gc_at (G : Grid) {n q : Nat} (hn : n < 8) (hq : q < 98) : (gc G)[n * 98 + q]? = some (.bool (G n q)):=by
  unfold gc
  rw [List.getElem?_toArray,List.getElem?_map,List.getElem?_range (by omega)]
  simp only [Option.map_some]
  rw [show (n * 98 + q) / 98 = n by omega,show (n * 98 + q) % 98 = q by omega]
theorem gc_set (G : Grid) {n q : Nat} (hn : n < 8) (hq : q < 98) : (gc G).setIfInBounds (n * 98 + q) (.bool true) = gc (putG G ((n : Int),(q : Int))):=by
  apply Array.ext_getElem?
  intro i
  by_cases hi : i < 784
  · obtain ⟨m,p,rfl,hm,hp⟩ : ∃ m p,i = m * 98 + p∧m < 8∧p < 98:=⟨i / 98,i % 98,by omega,by omega,by omega⟩
    rw [gc_at _ hm hp]
    by_cases e : m = n∧p = q
    · obtain ⟨rfl,rfl⟩:=e
      rw [Array.getElem?_setIfInBounds_self,if_pos (by rw [gc_size];omega)]
      simp [putG]
    · rw [Array.getElem?_setIfInBounds_ne (by omega),gc_at _ hm hp]
      congr 2
      unfold putG
      have : (decide ((m : Int) = (n : Int)) && decide ((p : Int) = (q : Int))) = false:=by
        rw [← Bool.not_eq_true,Bool.and_eq_true,decide_eq_true_eq,decide_eq_true_eq]
        omega
      rw [this,Bool.or_false]
  · rw [Array.getElem?_eq_none (by rw [Array.size_setIfInBounds,gc_size];omega),Array.getElem?_eq_none (by rw [gc_size];omega)]
theorem grow_len (G : Grid) (n : Nat) : (grow G n).length = 98:=by simp [grow]
theorem grow_range {w : World} {g : Nat} {t : TypeId} {G : Grid} (h : Blk w g t (gc G)) {n : Nat} (hn : n < 8) : w.rangeAt g (n * 98) (grow G n):=fun q v hv=>by
  have hq : q < 98:=by
    have:=(List.getElem?_eq_some_iff.1 hv).1
    rwa [grow_len] at this
  rw [h.cell,gc_at G hn hq]
  unfold grow at hv
  rw [List.getElem?_map,List.getElem?_range hq] at hv
  simpa using hv
theorem zvalG (w : World) : (zeroValue 196).run Tryz.prog w = .ok (.agg (gc noG)) w:=by kernel_rfl
theorem grown_alloc (w : World) (o : Obj) (row : Option Nat) : w.grownBy (w.alloc o) row:=⟨rfl,rfl,rfl,by simp,fun k hk _=>Below.heap_alloc w o k hk⟩
theorem grown_refl (w : World) (row : Option Nat) : w.grownBy w row:=⟨rfl,rfl,rfl,Nat.le_refl _,fun _ _ _=>rfl⟩
theorem grown_trans {a b c : World} {row : Option Nat} (h1 : a.grownBy b row) (h2 : b.grownBy c row) : a.grownBy c row :=
  ⟨h2.os.trans h1.os,h2.tape.trans h1.tape,h2.output.trans h1.output,Nat.le_trans h1.size h2.size,fun k hk hne=>(h2.block k (Nat.lt_of_lt_of_le hk h1.size) hne).trans (h1.block k hk hne)⟩
theorem grown_below {a b : World} (h : Below a.heap.size a b) (row : Option Nat) : a.grownBy b row:=⟨h.os,h.tape,h.output,h.size,fun k hk _=>h.block k hk⟩
theorem below_grown {a b : World} {g B : Nat} (h : a.grownBy b (some g)) (hB : B≤g) (hB2 : B≤a.heap.size) : Below B a b:=⟨h.os,h.tape,h.output,h.size,fun k hk=>h.block k (by omega) (fun e=>by injection e with e;omega)⟩
theorem put_any (g n q : Nat) (G : Grid) (w : World) (hn : n < 8) (hq : q < 98) (hG : Blk w g 196 (gc G)) :
    Calls Tryz.prog 134 #[.pointer (some ⟨g,0,none⟩),.agg #[.int .i64 n,.int .i64 q]] w fun e w'=>e = .returned (.tuple #[])∧Blk w' g 196 (gc (putG G ((n : Int),(q : Int))))∧w.grownBy w' (some g):=by
  have hn0 : (0 : Int)≤(n : Int):=by omega
  have hn8 : (n : Int) < 8:=by omega
  have hq0 : (0 : Int)≤(q : Int):=by omega
  have hq8 : (q : Int) < 98:=by omega
  go_enter Tryz.func134,Tryz.ntmps134
  go_upto_region 1 with fail
  refine nameW ?_;intro wv hwv;obtain ⟨b,hb⟩ : ∃ b,b = w.heap.size:=⟨_,rfl⟩;rw [← hb]
  have kb : Blk wv b 42 #[.int .i64 (n : Nat),.int .i64 (q : Nat)]:=by rw [hwv,hb];exact Blk.new w _ _
  have gb : w.grownBy wv (some g):=by rw [hwv];exact grown_alloc w _ _
  have kg : Blk wv g 196 (gc G):=by rw [hwv];exact hG.alloc _
  have t0 : wv.cell? ⟨b,0,none⟩ = some (.int .i64 (n : Nat)):=kb.cell 0;have t1 : wv.cell? ⟨b,1,none⟩ = some (.int .i64 (q : Nat)):=kb.cell 1;have c0 : wv.cell? ⟨g,n * 98 + q,none⟩ = some (.bool (G n q)):=(kg.cell _).trans (gc_at G hn hq);have f0:=kg.free (n * 98 + q)
  have hgb : g ≠ b:=by have:=hG.lt;omega
  clear hwv hb
  go_region_held3 (fun w'=>w'.cell? ⟨b,0,none⟩ = some (.int .i64 (n : Nat))∧w'.cell? ⟨b,1,none⟩ = some (.int .i64 (q : Nat)))
    (first | go_keep)
    (first | fail)
  go_wp2_with fail
  go_end0
  refine ⟨rfl,?_,?_⟩
  · rw [← gc_set G hn hq]
    exact Blk.set_ kg.drew _ _
  · exact only_set (only_drew gb) _
def putsG (G : Grid) (l : List Dt) : Grid:=l.foldl putG G
theorem putsG_snoc (G : Grid) (l : List Dt) (d : Dt) : putsG G (l ++ [d]) = putG (putsG G l) d:=by unfold putsG;rw [List.foldl_append];rfl
theorem each_put (g n c : Nat) (A : Option Addr) (l : List Dt) (G : Grid) (w : World) (hG : Blk w g 196 (gc G)) (hl : RdD w g A n l) (hn : n≤768) (hm : ∀ (i : Nat) (d : Dt),l[i]? = some d→mayB d = true) :
    Calls Tryz.prog 142 #[.slice A n c,.func (.func 134) #[.pointer (some ⟨g,0,none⟩)] #[]] w fun e w'=>e = .returned (.tuple #[])∧Blk w' g 196 (gc (putsG G l))∧w.grownBy w' (some g):=by
  have hen : ∀ (args : Array Value) (w : World),(callFunc 134 args).run Tryz.prog w = .ok (.enter 134 args) w:=fun _ _=>rfl
  have HN:=Lib.hid hl.1
  go_enter Tryz.func142,Tryz.ntmps142
  go_wp2_with fail
  go_loopw [8] (fun i wr=>∃ k : Nat,k≤n∧i = .int .i64 k∧Blk wr g 196 (gc (putsG G (l.take k)))∧w.grownBy wr (some g)) (fun i _=>n - (intOf i).toNat)
  case atStart=>exact ⟨0,by omega,rfl,hG,grown_refl _ _⟩
  case round =>
    obtain ⟨k,hk,rfl,kg,gb⟩:=hrel;have hgw : g < w.heap.size:=hG.lt
    by_cases hlt : k < n
    · have hkl : k < l.length:=by rw [← HN.out];exact hlt
      obtain ⟨ad,rfl,hdt⟩:=(hl.below (below_grown gb (Nat.le_refl _) (by omega))).2 k _ (List.getElem?_eq_getElem hkl);have hmk:=hm k _ (List.getElem?_eq_getElem hkl);have htk : l.take (k + 1) = l.take k ++ [l[k]]:=take_snoc l hkl
      generalize l[k] = d at *
      obtain ⟨x,q⟩:=d;obtain ⟨q5,q0,q1⟩:=hdt
      simp only at q0 q1
      have hmi:=(may_iff _).1 hmk
      simp only at hmi
      obtain ⟨y,rfl⟩:=Int.eq_ofNat_of_zero_le hmi.1;obtain ⟨p,rfl⟩:=Int.eq_ofNat_of_zero_le (show 0≤q by omega)
      have hy : y < 8:=by omega
      have hp : p < 98:=by omega
      have hsn:=putsG_snoc G (l.take k) ((y : Int),(p : Int));rw [← htk] at hsn;have HSN:=Lib.hid hsn;clear hsn htk hmk hmi;obtain ⟨wn,hwn⟩ : ∃ wn,wn = wr.alloc (.cells #[.int .i64 (y : Nat),.int .i64 (p : Nat)] 42):=⟨_,rfl⟩
      have kg2 : Blk wn g 196 (gc (putsG G (l.take k))):=by rw [hwn];exact kg.alloc _
      have gb2 : w.grownBy wn (some g):=by rw [hwn];exact grown_trans gb (grown_alloc _ _ _)
      obtain ⟨gd,hgd⟩ : ∃ gd,gd = wr.heap.size:=⟨_,rfl⟩
      have kd : Blk wn gd 42 #[.int .i64 (y : Nat),.int .i64 (p : Nat)]:=by rw [hwn,hgd];exact Blk.new wr _ _
      have HW:=Lib.hid hwn;have HGD:=Lib.hid hgd;clear hwn hgd
      go_upto_region 3 with fail
      rw [← HW.out,← HGD.out];have t0 : wn.cell? ⟨gd,0,none⟩ = some (.int .i64 (y : Nat)):=kd.cell 0;have t1 : wn.cell? ⟨gd,1,none⟩ = some (.int .i64 (p : Nat)):=kd.cell 1;clear q0 q1 kg gb;go_wp2_with fail;refine (put_any g y p _ wn hy hp kg2).mono ?_;rw [← HSN.out];rintro e w5 ⟨rfl,k5,g5⟩;have gb5:=grown_trans gb2 g5;clear t0 t1 kd kg2 gb2 g5;go_wp2_with fail
      go_roundw
      case rel=>exact ⟨k + 1,by omega,by go_num,k5,gb5⟩
      case measure=>simp [intOf];omega
    · have hkn : k = l.length:=by have:=HN.out;omega
      rw [hkn,List.take_length] at kg;have hkd : decide ((k : Int) < (n : Int)) = false:=decide_eq_false (by omega);go_wp2_with fail
      go_end0
      exact ⟨rfl,kg,gb⟩
end Go.Proofs.YtfpenfgmpbdakaaGreat

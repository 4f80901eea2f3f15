/- string(b): bytes as a text. -/
import Derived.Test.YtpnnhghgngkboaaBytes
namespace Go.Proofs.Ytpnnhghgngkboaa
open Go.RowKit
theorem foldl_push (bs : List UInt8) : ∀ r : ByteArray, ((bs.map fun c => (c.toNat : Int)).foldl (fun r n => r.push (UInt8.ofNat n.toNat)) r) = ⟨r.data ++ bs.toArray⟩ := by
  induction bs with
  | nil => intro r; simp
  | cons c l ih =>
    intro r
    simp only [List.map_cons, List.foldl_cons, Int.toNat_natCast]
    rw [ih]
    have e : UInt8.ofNat c.toNat = c := UInt8.toNat_inj.1 (by rw [UInt8.toNat_ofNat']; have := c.toNat_lt; omega)
    rw [e]
    congr 1
    show r.data.push c ++ l.toArray = _
    apply Array.toList_inj.1
    simp
theorem run_str (w : World) (B : Nat) (A : Option Addr) (n c : Nat) (bs : List UInt8) (h : RdB w B A n bs) (hn : 0 < n) : (convert 32 9 (.slice A n c)).run Try.prog w = .ok (.string ⟨bs.toArray⟩) w := by
  rw [run_convert_bytes_string w 32 9 5 A n c Try.underlying32 Try.underlying5 Try.underlying9]
  obtain ⟨a, rfl, _, _⟩ := h.at_ (k := 0) (by have := h.1; omega)
  have hl := run_loadCells_list (P := Try.prog) (w := w) a (bs.map bv) (fun j v hj => by
    obtain ⟨_, e, _, hc⟩ := h.2 j v hj
    injection e with e
    subst e
    exact hc)
  rw [List.length_map, ← h.1] at hl
  have e : (bs.map bv).toArray = ((bs.map fun c => (c.toNat : Int)).map (Value.int .u8)).toArray := by
    rw [List.map_map]; rfl
  rw [e] at hl
  rw [run_bytesToString w a n c _ hl, foldl_push]
  congr 3
  simp
end Go.Proofs.Ytpnnhghgngkboaa

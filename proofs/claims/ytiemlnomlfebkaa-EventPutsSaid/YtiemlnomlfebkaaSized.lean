/- The reach: how much what came in weighs; what is read then is short enough to be copied. -/
import Derived.Test.YtiemlnomlfebkaaOpen
import Derived.SizedLaws
namespace Go.Proofs.Ytiemlnomlfebkaa
open Go.ChangeShapes Go.WideShapes Go.ChangeAt Go.RowKit Go.Deep

/-- What a datum weighs is within the form's reach. -/
def Sz {H : Type} (t : TypeId) (d : DataW H) : Prop := ∀ n ∈ d.weights Try.prog t, n ≤ reachBytes
theorem sz_arg {H : Type} {ts : List TypeId} {ds : List (DataW H)} (h : (DataW.weightsEach Try.prog ts ds).all (· ≤ reachBytes) = true) {j : Nat} {t : TypeId} {d : DataW H} (ht : ts[j]? = some t) (hd : ds[j]? = some d) : Sz t d := fun n hn => by
  have := List.all_eq_true.1 h n (DataW.weights_mem_each ht hd n hn)
  simpa using this
theorem weightsAll_mem {H : Type} {P : Program} {e : TypeId} {l : List (DataW H)} {d : DataW H} (hd : d ∈ l) : ∀ n ∈ d.weights P e, n ∈ DataW.weightsAll P e l := by
  induction l with
  | nil => cases hd
  | cons a r ih =>
    intro n hn
    simp only [DataW.weightsAll, List.mem_append]
    rcases List.mem_cons.1 hd with h | h
    · subst h; exact .inl hn
    · exact .inr (ih h n hn)
section
variable {H : Type} {enc : TypeId × Value → H} {W : World} {base : Nat} {sp : Nat → Bool} {held : Bool} {fuel : Nat} {cs : List Value} {x : DataW H × List MemPlace}
/-- a struct's field, as its cells; it weighs no more than the struct -/
theorem rdz_field {t : TypeId} {fs : Array Field} (ht : (Try.prog).underlying t = some (.struct fs)) (hf : DataW.trod enc Try.prog W base sp held fuel t cs = some x) (hs : Sz t x.1) (j T o m : Nat)
    (hj : (fs[j]?).map (fun f => (f.type, f.offset)) = some (T, o)) (hm : (Try.prog).cellsOf T = m) : ∃ n y, DataW.trod enc Try.prog W base sp held n T ((cs.drop o).take m) = some y ∧ Sz T y.1 := by
  obtain ⟨xs, n, _, hx, _, hxl, hg⟩ := DataW.trod_struct ht hf
  obtain ⟨f, hf1, hf2⟩ := Option.map_eq_some_iff.1 hj
  injection hf2 with h1 h2
  have hjl : j < xs.length := by
    rw [hxl]
    exact (Array.getElem?_eq_some_iff.1 hf1).1
  have h := hg j f hf1
  rw [h1, h2, hm, List.getElem?_eq_getElem hjl] at h
  refine ⟨n, _, h, fun k hk => hs k ?_⟩
  rw [hx]
  simp only [DataW.weights, ht]
  refine DataW.weights_mem_each (j := j) (t := T) (d := xs[j].1) ?_ ?_ k hk
  · rw [List.getElem?_map, Array.getElem?_toList, hf1]; simp [h1]
  · rw [List.getElem?_map, List.getElem?_eq_getElem hjl]; rfl
/-- a slice's elements, each as its cells -/
theorem rdz_slice {t e : TypeId} {m : Nat} (ht : (Try.prog).underlying t = some (.slice e)) (hm : (Try.prog).cellsOf e = m) (hf : DataW.trod enc Try.prog W base sp held fuel t cs = some x) (hs : Sz t x.1) :
    ∃ (a : Option Addr) (n cap : Nat), cs = [.slice a n cap] ∧ n ≤ cap ∧ cap ≤ maxLen ∧ n * (Try.prog).bytesOf e ≤ reachBytes ∧ ∀ i, i < n → ∃ (ad : Addr) (cs' : List Value) (fuel' : Nat) (x' : DataW H × List MemPlace), a = some ad ∧ cs'.length = m ∧ (∀ j, j < m → W.cell? ((ad.add (i * m)).add j) = cs'[j]?) ∧ DataW.trod enc Try.prog W base sp held fuel' e cs' = some x' ∧ Sz e x'.1 := by
  rcases open_slice ht hf with ⟨h0, _⟩ | ⟨a, len, cap, k, n, D, Pl, hcs, hb, hl, hc, hk, hx, hi⟩
  · exact ⟨none, 0, 0, h0, Nat.le_refl _, Nat.zero_le _, by simp, fun i h => absurd h (Nat.not_lt_zero _)⟩
  · refine ⟨some a, len, cap, hcs, hl, hc, ?_, fun i h => ?_⟩
    · have := hs ((len + (k - len)) * (Try.prog).bytesOf e) (by rw [hx]; simp [DataW.weights, ht])
      refine Nat.le_trans (Nat.mul_le_mul_right _ ?_) this
      omega
    · have hik : i < k := by rw [hk]; split <;> omega
      obtain ⟨cs', hc', ht'⟩ := hi i hik
      rw [hm] at hc'
      obtain ⟨_, hcl, hat⟩ := World.cells?_some hc'
      refine ⟨a, cs', n, _, rfl, hcl, fun j hj => hat j hj, ht', fun q hq => hs q ?_⟩
      rw [hx]
      simp only [DataW.weights, ht]
      refine List.mem_cons_of_mem _ (List.mem_append_left _ (weightsAll_mem (List.mem_map.2 ⟨i, by simpa using h, rfl⟩) q hq))
theorem bytesOf8 : (Try.prog).bytesOf 5 = 1 := by kernel_rfl
theorem rdz_bytes (hf : DataW.trod enc Try.prog W base sp held fuel 37 cs = some x) (hs : Sz 37 x.1) :
    ∃ (a : Option Addr) (n cap : Nat) (bs : List UInt8), cs = [.slice a n cap] ∧ RdB W W.heap.size a n bs ∧ n ≤ cap ∧ cap ≤ maxLen ∧ n ≤ reachBytes := by
  obtain ⟨a, n, c, bs, h1, h2, h3, h4⟩ := rd_bytes hf
  obtain ⟨a', n', c', k1, k2, k3, k4, _⟩ := rdz_slice Try.underlying37 (m := 1) (by kernel_rfl) hf hs
  rw [h1] at k1
  injection k1 with k1 _
  injection k1 with _ k1 _
  rw [bytesOf8, Nat.mul_one] at k4
  exact ⟨a, n, c, bs, h1, h2, h3, h4, by omega⟩
end
end Go.Proofs.Ytiemlnomlfebkaa

/- An argument that is a slice of bools, as a row of cells. No condition beyond those that the theorem names. -/
import Derived.Test.YtgbbhkefkpndeaaSlice
namespace Go.Proofs.Ytgbbhkefkpndeaa
open Go.RowKit Flat Go.ChangeShapes Go.Deep

/-- A row of bools. -/
def Row (w : World) (sb so n : Nat) (rq : Nat → Bool) : Prop := ∀ i, i < n → w.cell? ⟨sb, so + i, none⟩ = some (.bool (rq i))

theorem row_of {w : World} {a : Addr} {len : Nat} {f : Nat → List Value} (hp : 0 < len)
    (h : ∀ i, i < len → Fits [none] (f i) ∧ ∀ (j : Nat) (x : Value), (f i)[j]? = some x → w.cell? (a.add (i * 1 + j)) = some x) :
    ∃ sb so rq, a = ⟨sb, so, none⟩ ∧ sb < w.heap.size ∧ Row w sb so len rq := by
  have key : ∀ i, i < len → ∃ p : Bool, f i = [.bool p] := by
    intro i hi
    obtain ⟨hf, _⟩ := h i hi
    generalize f i = l at hf
    obtain ⟨_, _, rfl, ⟨x, rfl⟩, hf⟩ := hf
    simp only [Fits] at hf
    subst hf
    exact ⟨x, rfl⟩
  obtain ⟨p, hp'⟩ := choose_lt key
  have h0 : w.cell? (a.add (0 * 1 + 0)) = some (.bool (p 0)) := (h 0 hp).2 0 _ (by rw [hp' 0 hp]; rfl)
  simp only [Nat.zero_mul, Nat.add_zero, Addr.add, if_true] at h0
  have hs := World.cell?_spot h0
  obtain ⟨sb, so, spot⟩ := a
  simp only at hs
  subst hs
  refine ⟨sb, so, p, rfl, World.block_lt_of_cell? _ _ h0, fun i hi => ?_⟩
  have hc := (h i hi).2
  rw [hp' i hi] at hc
  have e : ∀ k, (⟨sb, so, none⟩ : Addr).add k = ⟨sb, so + k, none⟩ := by
    intro k
    unfold Addr.add
    split
    · rename_i hk
      subst hk
      rfl
    · rfl
  have := hc 0 _ rfl
  rw [e] at this
  simpa using this
end Go.Proofs.Ytgbbhkefkpndeaa

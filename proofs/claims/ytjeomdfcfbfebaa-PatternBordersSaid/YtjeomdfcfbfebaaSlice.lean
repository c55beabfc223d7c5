/- An argument that is a slice of structs or arrays of integers and bools: nil, or a row of cells of the known kinds. No condition beyond those that the theorem names. -/
import Derived.Test.YtjeomdfcfbfebaaFlat
namespace Go.Proofs.Ytjeomdfcfbfebaa.Flat
open Go.ChangeShapes Go.WideShapes Go.ChangeAt Go.RowKit Go.Deep

section
variable {H : Type} {enc : TypeId × Value → H} {P : Program} {w : World}

theorem arg_slice {r : Reach} {b0 : Nat} {t e : TypeId} {v : Value} {d : DataW H} {p : List MemPlace} {ks : List Kd} (n : Nat) (hs : P.underlying t = some (.slice e)) (hk : flat P n e = some ks) (hC : P.cellsOf e = ks.length)
    (hv : Value.okWide P w r b0 t v) (h : DataW.Trod enc P w 0 (fun _ => true) true t v d p) :
    v = .slice none 0 0 ∨ ∃ (a : Addr) (len cap : Nat) (f : Nat → List Value), v = .slice (some a) len cap ∧ len ≤ cap ∧ cap ≤ maxLen ∧
      ∀ i, i < len → Fits ks (f i) ∧ ∀ (j : Nat) (x : Value), (f i)[j]? = some x → w.cell? (a.add (i * ks.length + j)) = some x := by
  obtain ⟨a0, len0, cap0, rfl⟩ := okWide_slice hs hv
  obtain ⟨fuel, hf⟩ := h
  rcases open_slice hs hf with ⟨hcs, _⟩ | ⟨a, len, cap, m, n', D, Pl, hcs, hb, hl, hm, hmm, hx, hi⟩
  · left
    simp [Value.cells] at hcs
    obtain ⟨rfl, rfl, rfl⟩ := hcs
    rfl
  · right
    simp [Value.cells] at hcs
    obtain ⟨rfl, rfl, rfl⟩ := hcs
    have key : ∀ i, i < len0 → ∃ l : List Value, Fits ks l ∧ ∀ (j : Nat) (x : Value), l[j]? = some x → w.cell? (a.add (i * ks.length + j)) = some x := by
      intro i hil
      obtain ⟨cs', hc, ht'⟩ := hi i (by rw [hmm]; split <;> omega)
      refine ⟨cs', flat_fits n _ _ _ _ _ ht' hk, fun j x hj => ?_⟩
      rw [hC] at hc
      obtain ⟨_, hcl, hat⟩ := World.cells?_some hc
      have hjl : j < cs'.length := (List.getElem?_eq_some_iff.1 hj).1
      have h1 := hat j (by omega)
      rw [← Go.Deep.add_add, h1, hj]
    obtain ⟨f, hf'⟩ := choose_lt key
    exact ⟨a, len0, cap0, f, rfl, hl, hm, hf'⟩
end
end Go.Proofs.Ytjeomdfcfbfebaa.Flat

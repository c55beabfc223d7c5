/- The cells of a list of parts: how an append and a store into the last part turn them. No condition. -/
import Derived.Test.YtjeomdfcfbfebaaPatMath
import Derived.WalkKit
namespace Go.Proofs.Ytjeomdfcfbfebaa
open Go.RowKit PM

def pcell (x : Prt) : List Value := [.int .i64 x.a, .int .i64 x.b, .bool x.n.1, .bool x.n.2.1, .bool x.n.2.2]
/-- The cells of the parts, the last part first in the list. -/
def flat (r : List Prt) : List Value := r.reverse.flatMap pcell

theorem flat_length (r : List Prt) : (flat r).length = r.length * 5 := by
  unfold flat
  induction r with
  | nil => rfl
  | cons x r ih => simp [List.flatMap_append, pcell] at ih ⊢; omega
theorem flat_cons (x : Prt) (r : List Prt) : flat (x :: r) = flat r ++ pcell x := by simp [flat, List.flatMap_append]
theorem flat_nil : flat [] = [] := rfl
theorem flat_set (x : Prt) (r : List Prt) (c : Int) : (flat (x :: r)).set (r.length * 5 + 1) (.int .i64 c) = flat (⟨x.a, c, x.n⟩ :: r) := by
  rw [flat_cons, flat_cons, List.set_append_right _ _ (by rw [flat_length]; omega), flat_length]
  rw [show r.length * 5 + 1 - r.length * 5 = 1 by omega]
  rfl
theorem flat_top (x : Prt) (r : List Prt) (j : Nat) : (flat (x :: r))[r.length * 5 + j]? = (pcell x)[j]? := by
  rw [flat_cons, List.getElem?_append_right (by rw [flat_length]; omega), flat_length, show r.length * 5 + j - r.length * 5 = j by omega]
/-- Part i of the list, the first one first. -/
theorem flat_at : ∀ (r : List Prt) (i : Nat) (x : Prt) (j : Nat), r.reverse[i]? = some x → j < 5 → (flat r)[i * 5 + j]? = (pcell x)[j]?
  | [], i, x, j, h, _ => by simp at h
  | y :: r, i, x, j, h, hj => by
    rw [List.reverse_cons] at h
    by_cases hi : i < r.length
    · rw [List.getElem?_append_left (by simpa using hi)] at h
      rw [flat_cons, List.getElem?_append_left (by rw [flat_length]; omega)]
      exact flat_at r i x j h hj
    · by_cases he : i = r.length
      · subst he
        rw [List.getElem?_append_right (by simp)] at h
        simp at h
        subst h
        exact flat_top y r j
      · rw [List.getElem?_eq_none (by simp; omega)] at h
        cases h
theorem pcell_len (x : Prt) : (pcell x).length = 5 := rfl
theorem flat_one (r : List Prt) : ∀ u ∈ flat r, u.oneCell' = true := by
  intro u hu
  unfold flat at hu
  rw [List.mem_flatMap] at hu
  obtain ⟨x, _, hx⟩ := hu
  simp only [pcell, List.mem_cons, List.not_mem_nil, or_false] at hx
  rcases hx with rfl | rfl | rfl | rfl | rfl <;> rfl
end Go.Proofs.Ytjeomdfcfbfebaa

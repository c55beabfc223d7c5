/- What holds of the list of parts, part by part: they meet, neighbours differ, and each leg is on in as many counts as it covers. No condition beyond those that a theorem names. -/
import Derived.Test.YtjeomdfcfbfebaaPatMath
namespace Go.Proofs.Ytjeomdfcfbfebaa.PM

def endAt (r : List Prt) : Nat → Int
  | 0 => 0
  | k + 1 => match r.reverse[k]? with
    | some x => x.b
    | none => 0

theorem endAt_cons (x : Prt) (l : List Prt) {k : Nat} (h : k ≤ l.length) : endAt (x :: l) k = endAt l k := by
  cases k with
  | zero => rfl
  | succ j =>
    simp only [endAt]
    rw [List.reverse_cons, List.getElem?_append_left (by simp; omega)]
theorem endAt_top (x : Prt) (l : List Prt) : endAt (x :: l) (l.length + 1) = x.b := by
  simp only [endAt]
  rw [List.reverse_cons, List.getElem?_append_right (by simp)]
  simp

theorem segs_end {f : Int → B3} : ∀ {r : List Prt} {e : Int}, Segs f e r → endAt r r.length = e
  | [], e, h => by simp only [Segs] at h; subst h; rfl
  | x :: l, e, h => by rw [List.length_cons, endAt_top]; exact h.1

theorem segs_at {f : Int → B3} : ∀ {r : List Prt} {e : Int}, Segs f e r → ∀ k, k < r.length → ∃ x, r.reverse[k]? = some x ∧ (0 ≤ x.a ∧ x.a < x.b ∧ x.b ≤ e) ∧ (∀ t, x.a ≤ t → t < x.b → f t = x.n) ∧ x.a = endAt r k ∧ endAt r (k + 1) = x.b
  | [], e, h, k, hk => by simp at hk
  | y :: l, e, h, k, hk => by
    obtain ⟨h1, h2, h3, h4, h5, h6⟩ := h
    by_cases hkl : k < l.length
    · obtain ⟨x, e1, ⟨a1, a2, a3⟩, e3, e4, e5⟩ := segs_at h6 k hkl
      refine ⟨x, ?_, ⟨a1, a2, by omega⟩, e3, ?_, ?_⟩
      · rw [List.reverse_cons, List.getElem?_append_left (by simpa using hkl)]
        exact e1
      · rw [endAt_cons y l (by omega)]; exact e4
      · rw [endAt_cons y l (by omega)]; exact e5
    · have hkl' : k = l.length := by simp at hk; omega
      subst hkl'
      refine ⟨y, ?_, ⟨h2, h3, by omega⟩, h4, ?_, endAt_top y l⟩
      · rw [List.reverse_cons, List.getElem?_append_right (by simp)]
        simp
      · rw [endAt_cons y l (Nat.le_refl _), segs_end h6]

theorem segs_differ {f : Int → B3} : ∀ {r : List Prt} {e : Int}, Segs f e r → ∀ k x y, r.reverse[k]? = some x → r.reverse[k + 1]? = some y → x.n ≠ y.n
  | [], e, h, k, x, y, hx, hy => by simp at hx
  | z :: l, e, h, k, x, y, hx, hy => by
    obtain ⟨h1, h2, h3, h4, h5, h6⟩ := h
    rw [List.reverse_cons] at hx hy
    by_cases hkl : k + 1 < l.length
    · rw [List.getElem?_append_left (by simp; omega)] at hx hy
      exact segs_differ h6 k x y hx hy
    · have hk1 : k + 1 ≤ l.length := by
        have := (List.getElem?_eq_some_iff.1 hy).1
        simp at this
        omega
      have hk2 : k + 1 = l.length := by omega
      rw [List.getElem?_append_right (by simp; omega)] at hy
      rw [List.getElem?_append_left (by simp; omega)] at hx
      simp only [List.length_reverse, hk2, Nat.sub_self, List.getElem?_cons_zero, Option.some.injEq] at hy
      subst hy
      refine h5 x ?_
      rw [List.getElem?_reverse (by omega)] at hx
      rw [show l.length - 1 - k = 0 by omega] at hx
      rw [List.head?_eq_getElem?]
      exact hx

theorem segs_len {f : Int → B3} : ∀ {r : List Prt} {e : Int}, Segs f e r → (r.length : Int) ≤ e
  | [], e, h => by simp only [Segs] at h; subst h; simp
  | x :: l, e, h => by
    obtain ⟨h1, h2, h3, h4, h5, h6⟩ := h
    have := segs_len h6
    rw [List.length_cons]
    omega

/-- How many of the first e counts a leg is on. -/
def Lg.cnt (l : Lg) (e : Int) : Int := max 0 (min l.b e - l.a)
theorem cnt_zero {l : Lg} {per : Int} (h : l.In per) : l.cnt 0 = 0 := by
  obtain ⟨h1, h2, h3⟩ := h
  unfold Lg.cnt
  omega
theorem cnt_all {l : Lg} {per : Int} (h : l.In per) : l.cnt per = l.b - l.a := by
  obtain ⟨h1, h2, h3⟩ := h
  unfold Lg.cnt
  omega
theorem cnt_bd {l : Lg} {per e : Int} (h : l.In per) : 0 ≤ l.cnt e ∧ l.cnt e ≤ per := by
  obtain ⟨h1, h2, h3⟩ := h
  unfold Lg.cnt
  omega
theorem cnt_step {l : Lg} {per a b : Int} (h : l.In per) (hab : a < b) (n : Bool) (hn : ∀ t, a ≤ t → t < b → l.on t = n) : l.cnt b = (if n then l.cnt a + (b - a) else l.cnt a) := by
  obtain ⟨h1, h2, h3⟩ := h
  have k1 := hn a (Int.le_refl _) hab
  have k2 := hn (b - 1) (by omega) (by omega)
  cases n
  · simp only [Lg.on, Bool.and_eq_false_iff, decide_eq_false_iff_not] at k1 k2
    have key : b ≤ l.a ∨ l.b ≤ a ∨ l.b ≤ l.a := by
      by_cases hla : l.a ≤ a
      · right; left; omega
      · by_cases hlb : l.a < b
        · have k3 := hn l.a (by omega) hlb
          simp only [Lg.on, Bool.and_eq_false_iff, decide_eq_false_iff_not] at k3
          omega
        · omega
    simp only [Bool.false_eq_true, if_false]
    unfold Lg.cnt
    omega
  · simp only [Lg.on, Bool.and_eq_true, decide_eq_true_eq] at k1 k2
    simp only [if_true]
    unfold Lg.cnt
    omega
end Go.Proofs.Ytjeomdfcfbfebaa.PM

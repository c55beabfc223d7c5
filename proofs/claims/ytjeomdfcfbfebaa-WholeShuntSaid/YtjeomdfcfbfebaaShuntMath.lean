/- Plain reckoning of the shunt: the two parts at whose ends it is sampled, and the currents of two samples. No condition beyond those that a theorem names. -/
import Derived.Test.YtjeomdfcfbfebaaPatK
namespace Go.Proofs.Ytjeomdfcfbfebaa.PM

theorem segs_some {f : Int → B3} : ∀ n : Nat, ∃ R, Segs f n R
  | 0 => ⟨[], rfl⟩
  | n + 1 => by
    obtain ⟨R, h⟩ := segs_some (f := f) n
    exact ⟨push R n (n + 1 : Nat) (f n), h.push (by omega) (fun t h1 h2 => by rw [show t = (n : Int) by omega])⟩
theorem segs_ex {f : Int → B3} {e : Int} (h : 0 ≤ e) : ∃ R, Segs f e R := by
  obtain ⟨n, rfl⟩ : ∃ n : Nat, e = n := ⟨e.toNat, by omega⟩
  exact segs_some n

def cntOn (n : B3) : Int := (if n.1 then 1 else 0) + (if n.2.1 then 1 else 0) + (if n.2.2 then 1 else 0)
/-- The only leg that is on, or the only one that is off. -/
def oddOf (n : B3) : Int :=
  match n with
  | (true, false, false) => 0
  | (false, true, true) => 0
  | (false, true, false) => 1
  | (true, false, true) => 1
  | (false, false, true) => 2
  | (true, true, false) => 2
  | _ => 0
def hit (s : Int) (a b : Prt) : Bool := decide (cntOn a.n = 1) && decide (cntOn b.n = 2) && decide (s < a.b - a.a) && decide (s < b.b - b.a) && !decide (oddOf a.n = oddOf b.n)
def find (s : Int) (l : List Prt) : Option (Prt × Prt) := l.findSome? fun a => (l.find? (hit s a)).map (fun b => (a, b))

theorem find_at_aux (s : Int) (a b : Prt) (L : List Prt) (hb : L.find? (hit s a) = some b) : ∀ (l : List Prt) (i : Nat), l[i]? = some a → (∀ i' a', i' < i → l[i']? = some a' → L.find? (hit s a') = none) →
    l.findSome? (fun a => (L.find? (hit s a)).map (fun b => (a, b))) = some (a, b)
  | [], i, h, _ => by simp at h
  | x :: l, 0, h, _ => by
    simp at h
    subst h
    simp [List.findSome?, hb]
  | x :: l, i + 1, h, hn => by
    have h0 := hn 0 x (by omega) (by simp)
    rw [List.findSome?_cons, h0]
    simp only [Option.map_none]
    exact find_at_aux s a b L hb l i (by simpa using h) (fun i' a' hi h' => hn (i' + 1) a' (by omega) (by simpa using h'))
theorem find?_at {q : Prt → Bool} {b : Prt} (hq : q b = true) : ∀ (l : List Prt) (j : Nat), l[j]? = some b → (∀ j' b', j' < j → l[j']? = some b' → q b' = false) → l.find? q = some b
  | [], j, h, _ => by simp at h
  | x :: l, 0, h, _ => by
    simp at h
    subst h
    simp [hq]
  | x :: l, j + 1, h, hn => by
    have h0 := hn 0 x (by omega) (by simp)
    rw [List.find?_cons, h0]
    exact find?_at hq l j (by simpa using h) (fun j' b' hj h' => hn (j' + 1) b' (by omega) (by simpa using h'))
theorem find?_no {q : Prt → Bool} {l : List Prt} (h : ∀ (j : Nat) b, l[j]? = some b → q b = false) : l.find? q = none := by
  rw [List.find?_eq_none]
  intro x hx
  obtain ⟨j, hj, rfl⟩ := List.getElem_of_mem hx
  rw [h j _ (List.getElem?_eq_getElem hj)]
  simp
theorem find_at {s : Int} {l : List Prt} {i j : Nat} {a b : Prt} (hi : l[i]? = some a) (hj : l[j]? = some b) (h : hit s a b = true)
    (h1 : ∀ i' a', i' < i → l[i']? = some a' → ∀ (j' : Nat) b', l[j']? = some b' → hit s a' b' = false) (h2 : ∀ j' b', j' < j → l[j']? = some b' → hit s a b' = false) : find s l = some (a, b) :=
  find_at_aux s a b l (find?_at h l j hj h2) l i hi (fun i' a' hi' h' => find?_no (h1 i' a' hi' h'))
theorem find_no {s : Int} {l : List Prt} (h : ∀ (i : Nat) a, l[i]? = some a → ∀ (j : Nat) b, l[j]? = some b → hit s a b = false) : find s l = none := by
  unfold find
  rw [List.findSome?_eq_none_iff]
  intro x hx
  obtain ⟨i, hi, rfl⟩ := List.getElem_of_mem hx
  rw [find?_no (h i _ (List.getElem?_eq_getElem hi))]
  rfl
theorem find_some {s : Int} {l : List Prt} {a b : Prt} (h : find s l = some (a, b)) : a ∈ l ∧ b ∈ l ∧ hit s a b = true := by
  unfold find at h
  rw [List.findSome?_eq_some_iff] at h
  obtain ⟨l1, x, l2, e, h1, _⟩ := h
  cases hf : l.find? (hit s x) with
  | none => rw [hf] at h1; simp at h1
  | some y =>
    rw [hf] at h1
    simp only [Option.map_some, Option.some.injEq, Prod.mk.injEq] at h1
    obtain ⟨rfl, rfl⟩ := h1
    refine ⟨?_, List.mem_of_find?_eq_some hf, List.find?_some hf⟩
    rw [e]
    simp
theorem hit_iff {s : Int} {a b : Prt} : hit s a b = true ↔ cntOn a.n = 1 ∧ cntOn b.n = 2 ∧ s < a.b - a.a ∧ s < b.b - b.a ∧ ¬ oddOf a.n = oddOf b.n := by
  unfold hit
  simp only [Bool.and_eq_true, decide_eq_true_eq, Bool.not_eq_true', decide_eq_false_iff_not]
  constructor
  · rintro ⟨⟨⟨⟨h1, h2⟩, h3⟩, h4⟩, h5⟩; exact ⟨h1, h2, h3, h4, h5⟩
  · rintro ⟨h1, h2, h3, h4, h5⟩; exact ⟨⟨⟨⟨h1, h2⟩, h3⟩, h4⟩, h5⟩
theorem segs_mem {f : Int → B3} : ∀ {R : List Prt} {e : Int}, Segs f e R → ∀ x ∈ R, (0 ≤ x.a ∧ x.a < x.b ∧ x.b ≤ e) ∧ ∀ t, x.a ≤ t → t < x.b → f t = x.n
  | [], _, _, x, hx => by simp at hx
  | y :: l, e, h, x, hx => by
    obtain ⟨h1, h2, h3, h4, h5, h6⟩ := h
    rcases List.mem_cons.1 hx with rfl | hx
    · exact ⟨⟨h2, h3, by omega⟩, h4⟩
    · obtain ⟨⟨a1, a2, a3⟩, a4⟩ := segs_mem h6 x hx
      exact ⟨⟨a1, a2, by omega⟩, a4⟩
end Go.Proofs.Ytjeomdfcfbfebaa.PM

/- Plain reckoning of moved pulses: the order of the three beginnings, and what Spread returns. No condition beyond those that a theorem names. -/
import Derived.Test.YtjeomdfcfbfebaaPatF
namespace Go.Proofs.Ytjeomdfcfbfebaa
open Go.RowKit PM
namespace PM
/-- The order of three beginnings, equal ones as they stand. -/
def ordOf (a b c : Int) : Nat × Nat × Nat :=
  if b - a < 0 then (if c - a < 0 then (if c - b < 0 then (2, 1, 0) else (1, 2, 0)) else (1, 0, 2))
  else (if c - b < 0 then (if c - a < 0 then (2, 0, 1) else (0, 2, 1)) else (0, 1, 2))
theorem ord_c {f : Nat → Int} {u v : Nat} (h : (u = 0 ∧ v = 1 ∧ 0 ≤ f 1 - f 0) ∨ (u = 1 ∧ v = 0 ∧ f 1 - f 0 < 0)) (h2 : ¬ f 2 - f v < 0) : ordOf (f 0) (f 1) (f 2) = (u, v, 2) := by
  unfold ordOf
  rcases h with ⟨rfl, rfl, h⟩ | ⟨rfl, rfl, h⟩
  · have h' : ¬ f 1 - f 0 < 0 := by omega
    simp only [h', h2, if_false]
  · simp only [h, h2, if_true, if_false]
theorem ord_b {f : Nat → Int} {u v : Nat} (h : (u = 0 ∧ v = 1 ∧ 0 ≤ f 1 - f 0) ∨ (u = 1 ∧ v = 0 ∧ f 1 - f 0 < 0)) (h2 : f 2 - f v < 0) (h3 : ¬ f 2 - f u < 0) : ordOf (f 0) (f 1) (f 2) = (u, 2, v) := by
  unfold ordOf
  rcases h with ⟨rfl, rfl, h⟩ | ⟨rfl, rfl, h⟩
  · have h' : ¬ f 1 - f 0 < 0 := by omega
    simp only [h', h2, h3, if_true, if_false]
  · simp only [h, h2, h3, if_true, if_false]
theorem ord_a {f : Nat → Int} {u v : Nat} (h : (u = 0 ∧ v = 1 ∧ 0 ≤ f 1 - f 0) ∨ (u = 1 ∧ v = 0 ∧ f 1 - f 0 < 0)) (h2 : f 2 - f v < 0) (h3 : f 2 - f u < 0) : ordOf (f 0) (f 1) (f 2) = (2, u, v) := by
  unfold ordOf
  rcases h with ⟨rfl, rfl, h⟩ | ⟨rfl, rfl, h⟩
  · have h' : ¬ f 1 - f 0 < 0 := by omega
    simp only [h', h2, h3, if_true, if_false]
  · simp only [h, h2, h3, if_true]
/-- The three legs in their order: a permutation, and the beginnings go up. -/
theorem ord_perm (a b c : Int) {x y z : Nat} (h : ordOf a b c = (x, y, z)) :
    (x = 0 ∧ y = 1 ∧ z = 2 ∧ a ≤ b ∧ b ≤ c) ∨ (x = 0 ∧ y = 2 ∧ z = 1 ∧ a ≤ c ∧ c ≤ b) ∨ (x = 1 ∧ y = 0 ∧ z = 2 ∧ b ≤ a ∧ a ≤ c) ∨ (x = 1 ∧ y = 2 ∧ z = 0 ∧ b ≤ c ∧ c ≤ a) ∨ (x = 2 ∧ y = 0 ∧ z = 1 ∧ c ≤ a ∧ a ≤ b) ∨ (x = 2 ∧ y = 1 ∧ z = 0 ∧ c ≤ b ∧ b ≤ a) := by
  unfold ordOf at h
  repeat' split at h
  all_goals
    simp only [Prod.mk.injEq] at h
    omega
/-- The reference's order: two rounds of comparisons of neighbours. -/
def st0 (f : Nat → Int) (o : Nat × Nat × Nat) : Nat × Nat × Nat := if f o.2.1 < f o.1 then (o.2.1, o.1, o.2.2) else o
def st1 (f : Nat → Int) (o : Nat × Nat × Nat) : Nat × Nat × Nat := if f o.2.2 < f o.2.1 then (o.1, o.2.2, o.2.1) else o
def bub (f : Nat → Int) : Nat → Nat × Nat × Nat
  | 0 => (0, 1, 2)
  | n + 1 => if n % 2 = 0 then st0 f (bub f n) else st1 f (bub f n)
theorem bub_sw0 {f : Nat → Int} {r x y z : Nat} (h : bub f (2 * r) = (x, y, z)) (h2 : f y < f x) : bub f (2 * r + 1) = (y, x, z) := by
  show (if (2 * r) % 2 = 0 then st0 f (bub f (2 * r)) else _) = _
  rw [if_pos (by omega), h]; unfold st0; rw [if_pos h2]
theorem bub_no0 {f : Nat → Int} {r x y z : Nat} (h : bub f (2 * r) = (x, y, z)) (h2 : ¬ f y < f x) : bub f (2 * r + 1) = (x, y, z) := by
  show (if (2 * r) % 2 = 0 then st0 f (bub f (2 * r)) else _) = _
  rw [if_pos (by omega), h]; unfold st0; rw [if_neg h2]
theorem bub_sw1 {f : Nat → Int} {r x y z : Nat} (h : bub f (2 * r + 1) = (x, y, z)) (h2 : f z < f y) : bub f (2 * (r + 1)) = (x, z, y) := by
  show (if (2 * r + 1) % 2 = 0 then _ else st1 f (bub f (2 * r + 1))) = _
  rw [if_neg (by omega), h]; unfold st1; rw [if_pos h2]
theorem bub_no1 {f : Nat → Int} {r x y z : Nat} (h : bub f (2 * r + 1) = (x, y, z)) (h2 : ¬ f z < f y) : bub f (2 * (r + 1)) = (x, y, z) := by
  show (if (2 * r + 1) % 2 = 0 then _ else st1 f (bub f (2 * r + 1))) = _
  rw [if_neg (by omega), h]; unfold st1; rw [if_neg h2]
theorem bub_four (f : Nat → Int) : bub f (2 * 2) = ordOf (f 0) (f 1) (f 2) := by
  show st1 f (st0 f (st1 f (st0 f (0, 1, 2)))) = _
  unfold ordOf
  by_cases h1 : f 1 - f 0 < 0 <;> by_cases h2 : f 2 - f 0 < 0 <;> by_cases h3 : f 2 - f 1 < 0 <;> simp only [h1, h2, h3, if_true, if_false]
  all_goals
    first
    | omega
    | (unfold st0 st1
       by_cases k1 : f 1 < f 0 <;> by_cases k2 : f 2 < f 0 <;> by_cases k3 : f 2 < f 1 <;> by_cases k4 : f 0 < f 1 <;> by_cases k5 : f 1 < f 2 <;> by_cases k6 : f 0 < f 2 <;> first | omega | simp [k1, k2, k3, k4, k5, k6])
def Lg.mv (l : Lg) (d : Int) : Lg := ⟨l.a + d, l.b + d⟩
def Pt.put (p : Pt) (k : Nat) (l : Lg) : Pt := if k = 0 then ⟨l, p.l1, p.l2⟩ else if k = 1 then ⟨p.l0, l, p.l2⟩ else ⟨p.l0, p.l1, l⟩
/-- What lacks between the beginnings of two legs. -/
def lk (p : Pt) (need : Int) (x y : Nat) : Int := need - ((p.leg y).a - (p.leg x).a)
def spB (p : Pt) (need : Int) (x y : Nat) : Pt := if 0 < lk p need x y then p.put x ((p.leg x).mv (-(lk p need x y))) else p
def spC (p q : Pt) (need : Int) (y z : Nat) : Pt := if 0 < lk p need y z then q.put z ((p.leg z).mv (lk p need y z)) else q
def spOut (p : Pt) (need : Int) (o : Nat × Nat × Nat) : Pt := spC p (spB p need o.1 o.2.1) need o.2.1 o.2.2
def spOk (p q : Pt) (per least : Int) (o : Nat × Nat × Nat) : Prop :=
  (p.l0.plain per ∧ p.l1.plain per ∧ p.l2.plain per) ∧ q.code per least = 0 ∧ ¬ (q.leg o.1).b < (q.leg o.2.2).a ∧ ¬ (q.leg o.2.1).b < (q.leg o.2.2).a
instance (l : Lg) (per : Int) : Decidable (l.plain per) := by unfold Lg.plain; infer_instance
instance (p q : Pt) (per least : Int) (o : Nat × Nat × Nat) : Decidable (spOk p q per least o) := by unfold spOk; infer_instance
def zPt : Pt := ⟨⟨0, 0⟩, ⟨0, 0⟩, ⟨0, 0⟩⟩
def ordP (p : Pt) : Nat × Nat × Nat := ordOf p.l0.a p.l1.a p.l2.a
/-- What Spread returns: the pattern, whether it was moved, the number of the error. -/
def spP (p : Pt) (per least need : Int) : Pt :=
  if p.code per least = 0 then (if 0 ≤ need ∧ need ≤ per then (if spOk p (spOut p need (ordP p)) per least (ordP p) then spOut p need (ordP p) else p) else zPt) else zPt
def spG (p : Pt) (per least need : Int) : Bool :=
  decide (p.code per least = 0) && (decide (0 ≤ need ∧ need ≤ per) && decide (spOk p (spOut p need (ordP p)) per least (ordP p)))
def spE (p : Pt) (per least need : Int) : Int :=
  if p.code per least = 0 then (if 0 ≤ need ∧ need ≤ per then 0 else 3) else p.code per least
end PM
end Go.Proofs.Ytjeomdfcfbfebaa

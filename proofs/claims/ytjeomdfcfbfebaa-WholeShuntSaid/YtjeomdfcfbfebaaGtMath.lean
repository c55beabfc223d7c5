/- Plain laws of the gates' period that 'centred' names: legs, edges, in plain Lean. No condition beyond those that a theorem names. -/
import Derived.Test.YtjeomdfcfbfebaaWsI
import Derived.Deep.AppendLies
namespace Go.Proofs.Ytjeomdfcfbfebaa
open Go.RowKit PM
/-- The side of a leg before a count. -/
def sideAt (t : Nat) : Int := if t = 0 then 0 else if t ≤ 25 then 1 else if t ≤ 29 then 0 else if t ≤ 75 then 2 else if t ≤ 79 then 0 else 1
/-- Its idle counts. -/
def idleAt (t : Nat) : Int := if t ≤ 25 then 4096 else if t ≤ 75 then (t : Int) - 25 else (t : Int) - 75
/-- The side that is wanted. -/
def wantAt (t : Nat) : Int := if 25 ≤ (t : Int) ∧ (t : Int) < 75 then 2 else 1
/-- How many edges there are before a leg at a count. -/
def cntAt (t i : Nat) : Nat := (if 0 < t then 3 else 0) + (if 25 < t then 3 else 0) + (if 29 < t then 3 else 0) + (if 75 < t then 3 else 0) + (if 79 < t then 3 else 0) + (if t = 0 ∨ t = 25 ∨ t = 29 ∨ t = 75 ∨ t = 79 then i else 0)
/-- The count of an edge. -/
def EA (k : Nat) : Int := if k < 3 then 0 else if k < 6 then 25 else if k < 9 then 29 else if k < 12 then 75 else 79
/-- Its switch. -/
def ES (k : Nat) : Int := if k < 3 then 2 * (k : Int) + 1 else if k < 6 then 2 * ((k : Int) - 3) + 1 else if k < 9 then 2 * ((k : Int) - 6) else if k < 12 then 2 * ((k : Int) - 9) else 2 * ((k : Int) - 12) + 1
/-- Whether it is on. -/
def EB (k : Nat) : Bool := if k < 3 then true else if k < 6 then false else if k < 9 then true else if k < 12 then false else true
/-- The number of a switch. -/
def numOf (i : Nat) (s : Int) : Int := if s = 2 then 2 * (i : Int) else 2 * (i : Int) + 1

theorem wantAt_of {t : Nat} : wantAt t = 1 ∨ wantAt t = 2 := by unfold wantAt; split <;> simp
theorem sideAt_of (t : Nat) : sideAt t = 0 ∨ sideAt t = 1 ∨ sideAt t = 2 := by
  unfold sideAt
  repeat' split
  all_goals simp
theorem idleAt_of {t : Nat} (ht : t ≤ 100) : 0 ≤ idleAt t ∧ idleAt t ≤ 4096 := by
  unfold idleAt
  repeat' split
  all_goals omega
theorem ite3 (p : Prop) [Decidable p] (n : Nat) : (if p then n else 0) ≤ n := by split <;> omega
theorem cntAt_le (t i : Nat) (hi : i ≤ 3) : cntAt t i ≤ 18 := by
  unfold cntAt
  have h1 := ite3 (0 < t) 3
  have h2 := ite3 (25 < t) 3
  have h3 := ite3 (29 < t) 3
  have h4 := ite3 (75 < t) 3
  have h5 := ite3 (79 < t) 3
  have h6 := ite3 (t = 0 ∨ t = 25 ∨ t = 29 ∨ t = 75 ∨ t = 79) i
  omega
theorem cntAt_next (t : Nat) : cntAt t 3 = cntAt (t + 1) 0 := by
  unfold cntAt
  have e6 : (if t + 1 = 0 ∨ t + 1 = 25 ∨ t + 1 = 29 ∨ t + 1 = 75 ∨ t + 1 = 79 then 0 else 0) = 0 := by split <;> rfl
  rw [e6]
  have st : ∀ c : Nat, (if c < t + 1 then 3 else 0) = (if c < t then 3 else 0) + (if t = c then 3 else 0) := fun c => by
    by_cases h : c < t
    · rw [if_pos (show c < t + 1 by omega), if_pos h, if_neg (show ¬ t = c by omega)]
    · by_cases h2 : t = c
      · rw [if_pos (show c < t + 1 by omega), if_neg h, if_pos h2]
      · rw [if_neg (show ¬ c < t + 1 by omega), if_neg h, if_neg h2]
  rw [st 0, st 25, st 29, st 75, st 79]
  by_cases h0 : t = 0
  · subst h0; rfl
  by_cases h1 : t = 25
  · subst h1; rfl
  by_cases h2 : t = 29
  · subst h2; rfl
  by_cases h3 : t = 75
  · subst h3; rfl
  by_cases h4 : t = 79
  · subst h4; rfl
  rw [if_neg h0, if_neg h1, if_neg h2, if_neg h3, if_neg h4, if_neg (c := t = 0 ∨ t = 25 ∨ t = 29 ∨ t = 75 ∨ t = 79) (by omega)]
  omega
theorem cntAt_zero : cntAt 0 0 = 0 := by decide
theorem cntAt_last : cntAt 100 0 = 15 := by decide

/-- What a leg does at a count. -/
theorem leg_step {t i : Nat} (ht : t < 100) (hi : i < 3) :
    (sideAt t ≠ 0 ∧ sideAt t = wantAt t ∧ sideAt (t + 1) = sideAt t ∧ idleAt (t + 1) = min (idleAt t + 1) 4096 ∧ cntAt t (i + 1) = cntAt t i) ∨
    (sideAt t = 0 ∧ idleAt t < 4 ∧ sideAt (t + 1) = 0 ∧ idleAt (t + 1) = idleAt t + 1 ∧ cntAt t (i + 1) = cntAt t i) ∨
    (sideAt t ≠ 0 ∧ sideAt t ≠ wantAt t ∧ sideAt (t + 1) = 0 ∧ idleAt (t + 1) = 1 ∧ cntAt t (i + 1) = cntAt t i + 1 ∧ EA (cntAt t i) = t ∧ ES (cntAt t i) = numOf i (sideAt t) ∧ EB (cntAt t i) = false) ∨
    (sideAt t = 0 ∧ 4 ≤ idleAt t ∧ sideAt (t + 1) = wantAt t ∧ idleAt (t + 1) = min (idleAt t + 1) 4096 ∧ cntAt t (i + 1) = cntAt t i + 1 ∧ EA (cntAt t i) = t ∧ ES (cntAt t i) = numOf i (wantAt t) ∧ EB (cntAt t i) = true) := by
  by_cases h0 : t = 0
  · subst h0; right; right; right
    obtain rfl | rfl | rfl : i = 0 ∨ i = 1 ∨ i = 2 := by omega
    all_goals decide
  by_cases h25 : t = 25
  · subst h25; right; right; left
    obtain rfl | rfl | rfl : i = 0 ∨ i = 1 ∨ i = 2 := by omega
    all_goals decide
  by_cases h29 : t = 29
  · subst h29; right; right; right
    obtain rfl | rfl | rfl : i = 0 ∨ i = 1 ∨ i = 2 := by omega
    all_goals decide
  by_cases h75 : t = 75
  · subst h75; right; right; left
    obtain rfl | rfl | rfl : i = 0 ∨ i = 1 ∨ i = 2 := by omega
    all_goals decide
  by_cases h79 : t = 79
  · subst h79; right; right; right
    obtain rfl | rfl | rfl : i = 0 ∨ i = 1 ∨ i = 2 := by omega
    all_goals decide
  have hc : cntAt t (i + 1) = cntAt t i := by
    unfold cntAt
    rw [if_neg (c := t = 0 ∨ t = 25 ∨ t = 29 ∨ t = 75 ∨ t = 79) (by omega), if_neg (c := t = 0 ∨ t = 25 ∨ t = 29 ∨ t = 75 ∨ t = 79) (by omega)]
  by_cases k1 : t < 25
  · left
    have e1 : sideAt t = 1 := by unfold sideAt; rw [if_neg h0, if_pos (by omega)]
    have e2 : sideAt (t + 1) = 1 := by unfold sideAt; rw [if_neg (by omega), if_pos (by omega)]
    have e3 : wantAt t = 1 := by unfold wantAt; rw [if_neg (by omega)]
    have e4 : idleAt t = 4096 := by unfold idleAt; rw [if_pos (by omega)]
    have e5 : idleAt (t + 1) = 4096 := by unfold idleAt; rw [if_pos (by omega)]
    rw [e1, e2, e3, e4, e5]
    exact ⟨by decide, rfl, rfl, by decide, hc⟩
  by_cases k2 : t < 29
  · right; left
    have e1 : sideAt t = 0 := by unfold sideAt; rw [if_neg h0, if_neg (by omega), if_pos (by omega)]
    have e2 : sideAt (t + 1) = 0 := by unfold sideAt; rw [if_neg (by omega), if_neg (by omega), if_pos (by omega)]
    have e4 : idleAt t = (t : Int) - 25 := by unfold idleAt; rw [if_neg (by omega), if_pos (by omega)]
    have e5 : idleAt (t + 1) = (t : Int) - 25 + 1 := by unfold idleAt; rw [if_neg (by omega), if_pos (by omega)]; omega
    rw [e1, e2, e4, e5]
    exact ⟨rfl, by omega, rfl, rfl, hc⟩
  by_cases k3 : t < 75
  · left
    have e1 : sideAt t = 2 := by unfold sideAt; rw [if_neg h0, if_neg (by omega), if_neg (by omega), if_pos (by omega)]
    have e2 : sideAt (t + 1) = 2 := by unfold sideAt; rw [if_neg (by omega), if_neg (by omega), if_neg (by omega), if_pos (by omega)]
    have e3 : wantAt t = 2 := by unfold wantAt; rw [if_pos (by omega)]
    have e4 : idleAt t = (t : Int) - 25 := by unfold idleAt; rw [if_neg (by omega), if_pos (by omega)]
    have e5 : idleAt (t + 1) = (t : Int) - 25 + 1 := by unfold idleAt; rw [if_neg (by omega), if_pos (by omega)]; omega
    rw [e1, e2, e3, e4, e5]
    exact ⟨by decide, rfl, rfl, by omega, hc⟩
  by_cases k4 : t < 79
  · right; left
    have e1 : sideAt t = 0 := by unfold sideAt; rw [if_neg h0, if_neg (by omega), if_neg (by omega), if_neg (by omega), if_pos (by omega)]
    have e2 : sideAt (t + 1) = 0 := by unfold sideAt; rw [if_neg (by omega), if_neg (by omega), if_neg (by omega), if_neg (by omega), if_pos (by omega)]
    have e4 : idleAt t = (t : Int) - 75 := by unfold idleAt; rw [if_neg (by omega), if_neg (by omega)]
    have e5 : idleAt (t + 1) = (t : Int) - 75 + 1 := by unfold idleAt; rw [if_neg (by omega), if_neg (by omega)]; omega
    rw [e1, e2, e4, e5]
    exact ⟨rfl, by omega, rfl, rfl, hc⟩
  · left
    have e1 : sideAt t = 1 := by unfold sideAt; rw [if_neg h0, if_neg (by omega), if_neg (by omega), if_neg (by omega), if_neg (by omega)]
    have e2 : sideAt (t + 1) = 1 := by unfold sideAt; rw [if_neg (by omega), if_neg (by omega), if_neg (by omega), if_neg (by omega), if_neg (by omega)]
    have e3 : wantAt t = 1 := by unfold wantAt; rw [if_neg (by omega)]
    have e4 : idleAt t = (t : Int) - 75 := by unfold idleAt; rw [if_neg (by omega), if_neg (by omega)]
    have e5 : idleAt (t + 1) = (t : Int) - 75 + 1 := by unfold idleAt; rw [if_neg (by omega), if_neg (by omega)]; omega
    rw [e1, e2, e3, e4, e5]
    exact ⟨by decide, rfl, rfl, by omega, hc⟩

/-- The cells of the first edges. -/
def flatE : Nat → List Value
  | 0 => []
  | n + 1 => flatE n ++ [.int .i64 (EA n), .int .i64 (ES n), .bool (EB n)]
theorem flatE_length : ∀ n, (flatE n).length = n * 3
  | 0 => rfl
  | n + 1 => by simp only [flatE, List.length_append, flatE_length n, List.length_cons, List.length_nil]; omega
theorem flatE_get : ∀ n k, k < n → (flatE n)[k * 3]? = some (.int .i64 (EA k)) ∧ (flatE n)[k * 3 + 1]? = some (.int .i64 (ES k)) ∧ (flatE n)[k * 3 + 2]? = some (.bool (EB k))
  | 0, k, h => absurd h (Nat.not_lt_zero k)
  | n + 1, k, h => by
    have hl := flatE_length n
    by_cases hk : k < n
    · obtain ⟨a, b, c⟩ := flatE_get n k hk
      simp only [flatE]
      rw [List.getElem?_append_left (by omega), List.getElem?_append_left (by omega), List.getElem?_append_left (by omega)]
      exact ⟨a, b, c⟩
    · obtain rfl : k = n := by omega
      simp only [flatE]
      rw [List.getElem?_append_right (by omega), List.getElem?_append_right (by omega), List.getElem?_append_right (by omega)]
      rw [show k * 3 - (flatE k).length = 0 by omega, show k * 3 + 1 - (flatE k).length = 1 by omega, show k * 3 + 2 - (flatE k).length = 2 by omega]
      exact ⟨rfl, rfl, rfl⟩
theorem edges_own {W : World} {base g cap n : Nat} {e : TypeId} (h : W.ownsRow base e 3 (.slice (some ⟨g, 0, none⟩) n cap) n (flatE n)) : Edges W g n EA ES EB := by
  intro k hk
  obtain ⟨a, b, c⟩ := flatE_get n k hk
  exact ⟨(h.cellAt (k * 3) (by omega)).trans a, (h.cellAt (k * 3 + 1) (by omega)).trans b, (h.cellAt (k * 3 + 2) (by omega)).trans c⟩
theorem goesUp_E : goesUp 15 EA ES := by
  constructor
  · decide
  · intro k hk
    exact (by decide : ∀ k, k < 14 → EA k < EA (k + 1) ∨ (EA k = EA (k + 1) ∧ ES k < ES (k + 1))) k (by omega)

/-- Blocks below a base keep their cells, but for those that are named, and their marks. -/
def Keeps (base : Nat) (D : Nat → Nat → Prop) (a b : World) : Prop := a.heap.size ≤ b.heap.size ∧ ∀ q o, q < base → (¬ D q o → b.cell? ⟨q, o, none⟩ = a.cell? ⟨q, o, none⟩) ∧ b.frozen? ⟨q, o, none⟩ = a.frozen? ⟨q, o, none⟩
theorem Keeps.refl (base : Nat) (D : Nat → Nat → Prop) (a : World) : Keeps base D a a := ⟨Nat.le_refl _, fun _ _ _ => ⟨fun _ => rfl, rfl⟩⟩
theorem Keeps.below {base n : Nat} {D : Nat → Nat → Prop} {a b c : World} (h : Keeps base D a b) (hb : Below n b c) (hn : base ≤ n) : Keeps base D a c :=
  ⟨Nat.le_trans h.1 hb.size, fun q o hq => ⟨fun hd => (hb.cell (p := ⟨q, o, none⟩) (by show q < n; omega)).trans ((h.2 q o hq).1 hd), (hb.frozen (p := ⟨q, o, none⟩) (by show q < n; omega)).trans ((h.2 q o hq).2)⟩⟩
theorem Keeps.drew {base : Nat} {D : Nat → Nat → Prop} {a b : World} (h : Keeps base D a b) : Keeps base D a b.drew :=
  h.below (n := base) (Below.drew (Below.refl _ _)) (Nat.le_refl _)
theorem Keeps.alloc {base : Nat} {D : Nat → Nat → Prop} {a b : World} (h : Keeps base D a b) (hb : base ≤ b.heap.size) (o : Obj) : Keeps base D a (b.alloc o) :=
  h.below (n := base) (Below.alloc (Below.refl _ _) hb o) (Nat.le_refl _)
theorem Keeps.setCell {base : Nat} {D : Nat → Nat → Prop} {a b : World} (h : Keeps base D a b) {q o : Nat} (hd : D q o) (v : Value) : Keeps base D a (b.setCell ⟨q, o, none⟩ v) := by
  refine ⟨Nat.le_trans h.1 (by simp), fun q' o' hq => ⟨fun hn => ?_, ?_⟩⟩
  · have hne : ¬ (q = q' ∧ o = o') := fun ⟨e1, e2⟩ => hn (e1 ▸ e2 ▸ hd)
    have : (b.setCell ⟨q, o, none⟩ v).cell? ⟨q', o', none⟩ = b.cell? ⟨q', o', none⟩ := by
      by_cases e1 : q = q'
      · have e2 : ¬ o = o' := fun e => hne ⟨e1, e⟩
        subst e1
        go_simp
      · exact World.cell?_setCell_far _ _ _ _ e1
    exact this.trans ((h.2 q' o' hq).1 hn)
  · have : (b.setCell ⟨q, o, none⟩ v).frozen? ⟨q', o', none⟩ = b.frozen? ⟨q', o', none⟩ := by go_simp
    exact this.trans (h.2 q' o' hq).2
theorem Keeps.grown {base : Nat} {D : Nat → Nat → Prop} {a b c : World} {row : Option Nat} (h : Keeps base D a b) (hg : b.grownBy c row) (hb : base ≤ b.heap.size) (hr : ∀ k, row = some k → base ≤ k) : Keeps base D a c :=
  ⟨Nat.le_trans h.1 hg.size, fun q o hq => by
    have hne : some q ≠ row := fun e => by have := hr q e.symm; omega
    exact ⟨fun hd => (hg.cell_far ⟨q, o, none⟩ (by show q < _; omega) hne).trans ((h.2 q o hq).1 hd), (hg.frozen_far ⟨q, o, none⟩ (by show q < _; omega) hne).trans (h.2 q o hq).2⟩⟩
theorem Keeps.trans {base : Nat} {D : Nat → Nat → Prop} {a b c : World} (h : Keeps base D a b) (k : Keeps base D b c) : Keeps base D a c :=
  ⟨Nat.le_trans h.1 k.1, fun q o hq => ⟨fun hd => ((k.2 q o hq).1 hd).trans ((h.2 q o hq).1 hd), (k.2 q o hq).2.trans (h.2 q o hq).2⟩⟩
end Go.Proofs.Ytjeomdfcfbfebaa

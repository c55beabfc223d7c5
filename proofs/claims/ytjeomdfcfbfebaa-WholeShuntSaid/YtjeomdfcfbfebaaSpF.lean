/- Plain reckoning of moved pulses: what holds of a pattern that was moved, and of the list of its parts. No condition beyond those that a theorem names. -/
import Derived.Test.YtjeomdfcfbfebaaSpB
import Derived.Test.YtjeomdfcfbfebaaShuntMath
namespace Go.Proofs.Ytjeomdfcfbfebaa
open Go.RowKit PM
namespace PM
/-- A stretch over which the legs stay as they are lies in one part. -/
theorem seg_cover {f : Int → B3} {n : B3} : ∀ {R : List Prt} {e : Int}, Segs f e R → ∀ u v : Int, 0 ≤ u → u < v → v ≤ e → (∀ t, u ≤ t → t < v → f t = n) → ∃ r ∈ R, r.a ≤ u ∧ v ≤ r.b ∧ r.n = n
  | [], e, h, u, v, h0, h1, h2, _ => by simp only [Segs] at h; omega
  | x :: l, e, h, u, v, h0, h1, h2, hf => by
    obtain ⟨k1, k2, k3, k4, k5, k6⟩ := h
    by_cases hv : v ≤ x.a
    · obtain ⟨r, hr, hh⟩ := seg_cover k6 u v h0 h1 hv hf
      exact ⟨r, List.mem_cons_of_mem _ hr, hh⟩
    · by_cases hu : x.a ≤ u
      · exact ⟨x, List.mem_cons_self, hu, by omega, (k4 u hu (by omega)).symm.trans (hf u (by omega) h1)⟩
      · obtain ⟨y, m, e1, e2, e3⟩ := Segs.last k6 (by omega)
        refine absurd ?_ (k5 y (by rw [e1]; rfl))
        rw [e3, hf (x.a - 1) (by omega) (by omega), ← k4 x.a (by omega) (by omega), hf x.a (by omega) (by omega)]
def Lg.len (l : Lg) : Int := l.b - l.a
theorem spread_legs {p q : Pt} {need : Int} {x y z : Nat} (ho : ordP p = (x, y, z)) (hq : q = spOut p need (x, y, z)) :
    need ≤ (q.leg y).a - (q.leg x).a ∧ need ≤ (q.leg z).a - (q.leg y).a ∧ (∀ k, (q.leg k).b - (q.leg k).a = (p.leg k).b - (p.leg k).a) := by
  have hh := ord_perm _ _ _ ho
  subst hq
  unfold spOut spC spB lk
  rcases hh with ⟨rfl, rfl, rfl, _, _⟩ | ⟨rfl, rfl, rfl, _, _⟩ | ⟨rfl, rfl, rfl, _, _⟩ | ⟨rfl, rfl, rfl, _, _⟩ | ⟨rfl, rfl, rfl, _, _⟩ | ⟨rfl, rfl, rfl, _, _⟩
  all_goals
    simp only [Pt.leg, if_true, if_false, Nat.one_ne_zero, show ¬ (2 : Nat) = 0 by omega, show ¬ (2 : Nat) = 1 by omega]
    split <;> split <;> simp only [Pt.put, Lg.mv, if_true, if_false, Nat.one_ne_zero, show ¬ (2 : Nat) = 0 by omega, show ¬ (2 : Nat) = 1 by omega]
    all_goals
      refine ⟨by omega, by omega, fun k => ?_⟩
      first
      | trivial
      | (split
         · first | rfl | (simp only; omega)
         · split
           · first | rfl | (simp only; omega)
           · first | rfl | (simp only; omega))
theorem on_leg {l : Lg} {t : Int} (h1 : l.a ≤ t) (h2 : t < l.b) : l.on t = true := by unfold Lg.on; rw [decide_eq_true h1, decide_eq_true h2]; rfl
theorem off_leg {l : Lg} {t : Int} (h1 : t < l.a) : l.on t = false := by unfold Lg.on; rw [decide_eq_false (by omega)]; rfl
theorem spread_parts {p q : Pt} {per least need : Int} {x y z : Nat} {R : List Prt} (ho : ordP p = (x, y, z)) (hq : q = spOut p need (x, y, z)) (hok : spOk p q per least (x, y, z)) (hn : 1 ≤ need) (hS : Segs q.on per R) :
    ∃ a ∈ R, ∃ b ∈ R, cntOn a.n = 1 ∧ cntOn b.n = 2 ∧ ¬ oddOf a.n = oddOf b.n ∧ need ≤ a.b - a.a ∧ need ≤ b.b - b.a := by
  obtain ⟨h1, h2, _⟩ := spread_legs ho hq
  obtain ⟨_, hc, h3, h4⟩ := hok
  obtain ⟨i0, i1, i2⟩ := code_In hc
  have hh := ord_perm _ _ _ ho
  clear hq ho hc
  simp only at h3 h4
  have hin : ∀ k, k < 3 → (q.leg k).In per := fun k hk => leg_in ⟨i0, i1, i2⟩ hk
  have hx : x < 3 ∧ y < 3 ∧ z < 3 := by omega
  have jx := hin x hx.1
  have jy := hin y hx.2.1
  have jz := hin z hx.2.2
  have k1 : 0 ≤ (q.leg x).a := jx.1
  have k2 : (q.leg z).a ≤ (q.leg z).b := jz.2.1
  have k3 : (q.leg z).b ≤ per := jz.2.2
  have e1 : ∀ t, (q.leg x).a ≤ t → t < (q.leg y).a → (q.leg x).on t = true ∧ (q.leg y).on t = false ∧ (q.leg z).on t = false := fun t a b => ⟨on_leg a (by omega), off_leg b, off_leg (by omega)⟩
  have e2 : ∀ t, (q.leg y).a ≤ t → t < (q.leg z).a → (q.leg x).on t = true ∧ (q.leg y).on t = true ∧ (q.leg z).on t = false := fun t a b => ⟨on_leg (by omega) (by omega), on_leg a (by omega), off_leg b⟩
  have key : ∀ n m : B3, cntOn n = 1 → cntOn m = 2 → ¬ oddOf n = oddOf m → (∀ t, (q.leg x).a ≤ t → t < (q.leg y).a → q.on t = n) → (∀ t, (q.leg y).a ≤ t → t < (q.leg z).a → q.on t = m) →
      ∃ a ∈ R, ∃ b ∈ R, cntOn a.n = 1 ∧ cntOn b.n = 2 ∧ ¬ oddOf a.n = oddOf b.n ∧ need ≤ a.b - a.a ∧ need ≤ b.b - b.a := by
    intro n m c1 c2 c3 f1 f2
    obtain ⟨a, ha, a1, a2, a3⟩ := seg_cover hS (q.leg x).a (q.leg y).a k1 (by omega) (by omega) f1
    obtain ⟨b, hb, b1, b2, b3⟩ := seg_cover hS (q.leg y).a (q.leg z).a (by omega) (by omega) (by omega) f2
    exact ⟨a, ha, b, hb, by rw [a3]; exact c1, by rw [b3]; exact c2, by rw [a3, b3]; exact c3, by omega, by omega⟩
  rcases hh with ⟨rfl, rfl, rfl, _, _⟩ | ⟨rfl, rfl, rfl, _, _⟩ | ⟨rfl, rfl, rfl, _, _⟩ | ⟨rfl, rfl, rfl, _, _⟩ | ⟨rfl, rfl, rfl, _, _⟩ | ⟨rfl, rfl, rfl, _, _⟩
  · exact key (true, false, false) (true, true, false) (by decide) (by decide) (by decide) (fun t a b => by obtain ⟨r1, r2, r3⟩ := e1 t a b; exact Prod.ext r1 (Prod.ext r2 r3)) (fun t a b => by obtain ⟨r1, r2, r3⟩ := e2 t a b; exact Prod.ext r1 (Prod.ext r2 r3))
  · exact key (true, false, false) (true, false, true) (by decide) (by decide) (by decide) (fun t a b => by obtain ⟨r1, r2, r3⟩ := e1 t a b; exact Prod.ext r1 (Prod.ext r3 r2)) (fun t a b => by obtain ⟨r1, r2, r3⟩ := e2 t a b; exact Prod.ext r1 (Prod.ext r3 r2))
  · exact key (false, true, false) (true, true, false) (by decide) (by decide) (by decide) (fun t a b => by obtain ⟨r1, r2, r3⟩ := e1 t a b; exact Prod.ext r2 (Prod.ext r1 r3)) (fun t a b => by obtain ⟨r1, r2, r3⟩ := e2 t a b; exact Prod.ext r2 (Prod.ext r1 r3))
  · exact key (false, true, false) (false, true, true) (by decide) (by decide) (by decide) (fun t a b => by obtain ⟨r1, r2, r3⟩ := e1 t a b; exact Prod.ext r3 (Prod.ext r1 r2)) (fun t a b => by obtain ⟨r1, r2, r3⟩ := e2 t a b; exact Prod.ext r3 (Prod.ext r1 r2))
  · exact key (false, false, true) (true, false, true) (by decide) (by decide) (by decide) (fun t a b => by obtain ⟨r1, r2, r3⟩ := e1 t a b; exact Prod.ext r2 (Prod.ext r3 r1)) (fun t a b => by obtain ⟨r1, r2, r3⟩ := e2 t a b; exact Prod.ext r2 (Prod.ext r3 r1))
  · exact key (false, false, true) (false, true, true) (by decide) (by decide) (by decide) (fun t a b => by obtain ⟨r1, r2, r3⟩ := e1 t a b; exact Prod.ext r3 (Prod.ext r2 r1)) (fun t a b => by obtain ⟨r1, r2, r3⟩ := e2 t a b; exact Prod.ext r3 (Prod.ext r2 r1))
theorem find_yes {s : Int} {l : List Prt} {a b : Prt} (ha : a ∈ l) (hb : b ∈ l) (h : hit s a b = true) : ∃ x, find s l = some x := by
  cases hf : find s l with
  | some x => exact ⟨x, rfl⟩
  | none =>
    unfold find at hf
    rw [List.findSome?_eq_none_iff] at hf
    have h1 := hf a ha
    rw [Option.map_eq_none_iff, List.find?_eq_none] at h1
    exact absurd h (h1 b hb)
theorem spread_find {p q : Pt} {per least need st : Int} {x y z : Nat} {R : List Prt} (ho : ordP p = (x, y, z)) (hq : q = spOut p need (x, y, z)) (hok : spOk p q per least (x, y, z)) (hn : 1 ≤ need) (hst : st < need) (hS : Segs q.on per R) :
    ∃ v, find st R.reverse = some v := by
  obtain ⟨a, ha, b, hb, c1, c2, c3, c4, c5⟩ := spread_parts ho hq hok hn hS
  exact find_yes (List.mem_reverse.2 ha) (List.mem_reverse.2 hb) (hit_iff.2 ⟨c1, c2, by omega, by omega, c3⟩)
end PM
end Go.Proofs.Ytjeomdfcfbfebaa

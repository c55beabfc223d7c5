/- What Spread and the reference's Spread share: moves of a leg, what comes out of the order and of what lacks. No condition beyond those that a theorem names. -/
import Derived.Test.YtjeomdfcfbfebaaSpA
namespace Go.Proofs.Ytjeomdfcfbfebaa
open Go.RowKit PM

set_option maxHeartbeats 4000000 in
theorem move_any (a b d : Int) (h1 : -20000 ≤ a ∧ a ≤ 20000) (h2 : -20000 ≤ b ∧ b ≤ 20000) (h3 : -20000 ≤ d ∧ d ≤ 20000) (w : World) :
    Calls Try.prog 63 #[.agg #[.int .i64 a, .int .i64 b], .int .i64 d] w fun e w' => e = .returned (.agg #[.int .i64 (a + d), .int .i64 (b + d)]) ∧ Below w.heap.size w w' := by
  have g1 : IntKind.i64.wrap (a + d) = a + d := IntWalk.i64_in _ (by omega)
  have g2 : IntKind.i64.wrap (b + d) = b + d := IntWalk.i64_in _ (by omega)
  go_enter Try.func63, Try.ntmps63
  go_wp2
  refine bodyPost_ret (v := .agg #[.int .i64 (a + d), .int .i64 (b + d)]) (by simp only [results, Try.results63]; go_simp) rfl ⟨rfl, ?_⟩
  exact (by repeat (first | with_reducible assumption | with_reducible refine Below.drew ?_ | with_reducible refine below_drewN ?_ _ | with_reducible refine Below.alloc ?_ (by first | omega | (simp <;> omega)) _ | with_reducible refine Below.setCell ?_ (by first | omega | (simp <;> omega)) _ | with_reducible exact Below.refl _ _ | with_reducible refine Below.setCells ?_ | (refine Below.trans ?_ (hb4.mono (by first | omega | (simp <;> omega)))) | (refine Below.trans ?_ (hb3.mono (by first | omega | (simp <;> omega))))))

theorem errV_pos {c : Int} (h : ¬ c = 0) : errV c = .iface 96 (.int .i64 c) := by unfold errV; rw [if_neg h]
namespace PM
theorem code_rng {p : Pt} {per least : Int} (h : p.code per least = 0) : okRng per least := by
  unfold Pt.code at h
  by_cases hr : okRng per least
  · exact hr
  · rw [if_neg hr] at h; omega
theorem code_legs {p : Pt} {per least : Int} (h : p.code per least = 0) : p.l0.code per least = 0 ∧ p.l1.code per least = 0 ∧ p.l2.code per least = 0 := by
  have hr := code_rng h
  unfold Pt.code at h
  rw [if_pos hr] at h
  by_cases h0 : p.l0.code per least = 0
  · rw [if_pos h0] at h
    by_cases h1 : p.l1.code per least = 0
    · rw [if_pos h1] at h
      exact ⟨h0, h1, h⟩
    · rw [if_neg h1] at h; exact absurd h h1
  · rw [if_neg h0] at h; exact absurd h h0
theorem code_In {p : Pt} {per least : Int} (h : p.code per least = 0) : p.In per := by
  obtain ⟨h0, h1, h2⟩ := code_legs h
  exact ⟨(code_in h0).1, (code_in h1).1, (code_in h2).1⟩
end PM
namespace PM
theorem plain_at {p : Pt} {per : Int} (h : p.l0.plain per ∧ p.l1.plain per ∧ p.l2.plain per) {k : Nat} (hk : k < 3) : (p.leg k).plain per := by
  obtain rfl | rfl | rfl : k = 0 ∨ k = 1 ∨ k = 2 := by omega
  · exact h.1
  · exact h.2.1
  · exact h.2.2
theorem plain_more {p : Pt} {per : Int} {k : Nat} (h : ∀ j : Nat, j < k → (p.leg j).plain per) (h2 : (p.leg k).plain per) : ∀ j : Nat, j < k + 1 → (p.leg j).plain per := by
  intro j hj
  by_cases e : j < k
  · exact h j e
  · have : j = k := by omega
    rw [this]; exact h2
end PM
theorem legs_a {W : World} {b : Nat} {p : Pt} (h0 : W.cell? ⟨b, 0, none⟩ = some (.int .i64 p.l0.a)) (h2 : W.cell? ⟨b, 2, none⟩ = some (.int .i64 p.l1.a)) (h4 : W.cell? ⟨b, 4, none⟩ = some (.int .i64 p.l2.a)) (k : Nat) (hk : k < 3) : W.cell? ⟨b, k * 2, none⟩ = some (.int .i64 (p.leg k).a) := by
  obtain rfl | rfl | rfl : k = 0 ∨ k = 1 ∨ k = 2 := by omega
  · exact h0
  · exact h2
  · exact h4
theorem legs_b {W : World} {b : Nat} {p : Pt} (h1 : W.cell? ⟨b, 1, none⟩ = some (.int .i64 p.l0.b)) (h3 : W.cell? ⟨b, 3, none⟩ = some (.int .i64 p.l1.b)) (h5 : W.cell? ⟨b, 5, none⟩ = some (.int .i64 p.l2.b)) (k : Nat) (hk : k < 3) : W.cell? ⟨b, k * 2 + 1, none⟩ = some (.int .i64 (p.leg k).b) := by
  obtain rfl | rfl | rfl : k = 0 ∨ k = 1 ∨ k = 2 := by omega
  · exact h1
  · exact h3
  · exact h5
namespace PM
theorem leg_in {p : Pt} {per : Int} (h : p.In per) {k : Nat} (hk : k < 3) : (p.leg k).In per := by
  obtain rfl | rfl | rfl : k = 0 ∨ k = 1 ∨ k = 2 := by omega
  · exact h.1
  · exact h.2.1
  · exact h.2.2
theorem ord_lt {a b c : Int} {x y z : Nat} (h : ordOf a b c = (x, y, z)) : x < 3 ∧ y < 3 ∧ z < 3 := by
  have := ord_perm _ _ _ h
  omega
theorem spB_no {p : Pt} {need D : Int} {x y : Nat} (hD : D = need - ((p.leg y).a - (p.leg x).a)) (h : ¬ 0 < D) : p = spB p need x y := by
  unfold spB lk
  rw [if_neg (by omega)]
theorem spC_no {p q : Pt} {need D : Int} {x y : Nat} (hD : D = need - ((p.leg y).a - (p.leg x).a)) (h : ¬ 0 < D) : q = spC p q need x y := by
  unfold spC lk
  rw [if_neg (by omega)]
theorem spB_yes {p : Pt} {need D : Int} {x y : Nat} (hD : D = need - ((p.leg y).a - (p.leg x).a)) (h : 0 < D) : p.put x ⟨(p.leg x).a + -D, (p.leg x).b + -D⟩ = spB p need x y := by
  subst hD
  unfold spB lk
  rw [if_pos h]; rfl
theorem spC_own {p q : Pt} {need D : Int} {x y : Nat} (hD : D = need - ((p.leg y).a - (p.leg x).a)) (h : 0 < D) (hl : q.leg y = p.leg y) : q.put y ⟨(q.leg y).a + D, (q.leg y).b + D⟩ = spC p q need x y := by
  subst hD
  unfold spC lk
  rw [if_pos h, hl]; rfl
theorem spB_leg {p : Pt} {need : Int} {x y z : Nat} (h : ordP p = (x, y, z)) : (spB p need x y).leg z = p.leg z := by
  have hh := ord_perm _ _ _ h
  unfold spB
  by_cases hp : 0 < lk p need x y
  · rw [if_pos hp]
    rcases hh with ⟨rfl, rfl, rfl, _, _⟩ | ⟨rfl, rfl, rfl, _, _⟩ | ⟨rfl, rfl, rfl, _, _⟩ | ⟨rfl, rfl, rfl, _, _⟩ | ⟨rfl, rfl, rfl, _, _⟩ | ⟨rfl, rfl, rfl, _, _⟩ <;> rfl
  · rw [if_neg hp]
theorem spC_yes {p q : Pt} {need D : Int} {x y : Nat} (hD : D = need - ((p.leg y).a - (p.leg x).a)) (h : 0 < D) : q.put y ⟨(p.leg y).a + D, (p.leg y).b + D⟩ = spC p q need x y := by
  subst hD
  unfold spC lk
  rw [if_pos h]; rfl
end PM
end Go.Proofs.Ytjeomdfcfbfebaa

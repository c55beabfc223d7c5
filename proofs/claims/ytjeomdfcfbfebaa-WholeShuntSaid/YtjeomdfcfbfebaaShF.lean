/- What Plan returns, in kinds; the currents of two ints; what the samples at a plan's counts sum to. No condition beyond those that a theorem names. -/
import Derived.Test.YtjeomdfcfbfebaaShE
import Derived.Test.YtjeomdfcfbfebaaPatH
namespace Go.Proofs.Ytjeomdfcfbfebaa
open Go.RowKit PM

theorem plan_kinds (p : Pt) (per st : Int) : (∃ c : Int, ∀ W : World, Calls Try.prog 27 #[.agg #[.int .i64 p.l0.a, .int .i64 p.l0.b, .int .i64 p.l1.a, .int .i64 p.l1.b, .int .i64 p.l2.a, .int .i64 p.l2.b], .int .i64 per, .int .i64 st] W fun e w' => e = .returned (.tuple #[.agg #[.int .i64 0, .int .i64 0, .int .i64 0, .int .i64 0], .iface 96 (.int .i64 c)]) ∧ Below W.heap.size W w') ∨
    (okPer per ∧ p.In per ∧ ∃ (R : List Prt) (x y : Prt), Segs p.on per R ∧ x ∈ R ∧ y ∈ R ∧ hit st x y = true ∧ ∀ W : World, Calls Try.prog 27 #[.agg #[.int .i64 p.l0.a, .int .i64 p.l0.b, .int .i64 p.l1.a, .int .i64 p.l1.b, .int .i64 p.l2.a, .int .i64 p.l2.b], .int .i64 per, .int .i64 st] W fun e w' => e = .returned (.tuple #[.agg #[.int .i64 (x.b - 1), .int .i64 (y.b - 1), .int .i64 (oddOf x.n), .int .i64 (oddOf y.n)], .nilIface]) ∧ Below W.heap.size W w') := by
  by_cases h : okPer per
  · by_cases h2 : p.In per
    · by_cases h3 : 0 ≤ st ∧ st ≤ per
      · obtain ⟨R, hS⟩ := segs_ex (f := p.on) (e := per) (by have := h.1; omega)
        cases hf : find st R.reverse with
        | none =>
          refine .inl ⟨22, fun W => ?_⟩
          have k := plan_ok p per st R h h2 h3 hS W
          rw [hf, plC_none h h2 h3 hf] at k
          exact k
        | some xy =>
          obtain ⟨x, y⟩ := xy
          obtain ⟨hx, hy, hh⟩ := find_some hf
          refine .inr ⟨h, h2, R, x, y, hS, by simpa using hx, by simpa using hy, hh, fun W => ?_⟩
          have k := plan_ok p per st R h h2 h3 hS W
          rw [hf, plC_some h h2 h3 hf] at k
          exact k
      · exact .inl ⟨3, fun W => plan_st p per st h h2 h3 W⟩
    · exact .inl ⟨11, fun W => plan_bad p per st h h2 W⟩
  · exact .inl ⟨3, fun W => plan_per p per st h W⟩
set_option maxHeartbeats 4000000 in
theorem currents_any (a b : Int) (w : World) : Calls Try.prog 43 #[.int .i64 a, .int .i64 b] w fun e w' => e = .returned (.agg #[.int .i64 (clip a (-268435456) 268435456), .int .i64 (clip b (-268435456) 268435456), .int .i64 (-(clip a (-268435456) 268435456) - clip b (-268435456) 268435456)]) ∧ Below w.heap.size w w' := by
  have ha := clip_in (n := a) (lo := -268435456) (hi := 268435456) (by decide)
  have hb := clip_in (n := b) (lo := -268435456) (hi := 268435456) (by decide)
  have HA := hide (clip_any a (-268435456) 268435456)
  have HB := hide (clip_any b (-268435456) 268435456)
  generalize clip a (-268435456) 268435456 = r0 at ha HA ⊢
  generalize clip b (-268435456) 268435456 = r1 at hb HB ⊢
  obtain ⟨a1, a2⟩ := ha
  obtain ⟨b1, b2⟩ := hb
  go_enter Try.func43, Try.ntmps43
  go_wp2_with (go_at_call 22; first | (with_reducible refine (HA.out _).mono ?_; rintro e w8 ⟨rfl, rfl⟩) | (with_reducible refine (HB.out _).mono ?_; rintro e w8 ⟨rfl, rfl⟩))
  refine bodyPost_ret (v := .agg #[.int .i64 r0, .int .i64 r1, .int .i64 (-r0 - r1)]) (by simp only [results, Try.results43]; go_simp) rfl ⟨rfl, by exact (by repeat (first | with_reducible assumption | with_reducible refine Below.drew ?_ | with_reducible refine below_drewN ?_ _ | with_reducible refine Below.alloc ?_ (by first | omega | (simp <;> omega)) _ | with_reducible refine Below.setCell ?_ (by first | omega | (simp <;> omega)) _ | with_reducible exact Below.refl _ _))⟩

namespace PM
def tot (n : B3) (r0 r1 r2 : Int) : Int := (if n.1 then r0 else 0) + (if n.2.1 then r1 else 0) + (if n.2.2 then r2 else 0)
theorem sum_tot {p : Pt} {t : Int} {n : B3} {r0 r1 r2 : Int} (h : p.on t = n) : sumTo p t (I3 r0 r1 r2) 3 = tot n r0 r1 r2 := by
  subst h
  show ((0 + (if p.l0.on t = true then r0 else 0)) + (if p.l1.on t = true then r1 else 0)) + (if p.l2.on t = true then r2 else 0) = ((if p.l0.on t = true then r0 else 0) + (if p.l1.on t = true then r1 else 0)) + (if p.l2.on t = true then r2 else 0)
  rw [Int.zero_add]
theorem tot_math {n m : B3} {r0 r1 : Int} (ha : -268435456 ≤ r0 ∧ r0 ≤ 268435456) (hb : -268435456 ≤ r1 ∧ r1 ≤ 268435456) (c1 : cntOn n = 1) (c2 : cntOn m = 2) (c5 : ¬ oddOf n = oddOf m) :
    leg02 (oddOf n) ∧ leg02 (oddOf m) ∧ small (tot n r0 r1 (-r0 - r1)) ∧ small (tot m r0 r1 (-r0 - r1)) ∧
    (∀ i : Int, i = 0 ∨ i = 1 ∨ i = 2 → (if i = oddOf n then tot n r0 r1 (-r0 - r1) else if i = oddOf m then -(tot m r0 r1 (-r0 - r1)) else tot m r0 r1 (-r0 - r1) - tot n r0 r1 (-r0 - r1)) = (if i = 0 then r0 else if i = 1 then r1 else -r0 - r1)) := by
  obtain ⟨n0, n1, n2⟩ := n
  obtain ⟨m0, m1, m2⟩ := m
  cases n0 <;> cases n1 <;> cases n2 <;> first
    | (exact absurd c1 (by decide))
    | (cases m0 <;> cases m1 <;> cases m2 <;> first
        | (exact absurd c2 (by decide))
        | (exact absurd rfl c5)
        | (refine ⟨by decide, by decide, ?_, ?_, ?_⟩
           · simp [tot, small]; omega
           · simp [tot, small]; omega
           · rintro i (rfl | rfl | rfl) <;> simp [tot, oddOf] <;> omega))
end PM
theorem join_tot {n m : B3} {t0 t1 r0 r1 : Int} (ha : -268435456 ≤ r0 ∧ r0 ≤ 268435456) (hb : -268435456 ≤ r1 ∧ r1 ≤ 268435456) (c1 : cntOn n = 1) (c2 : cntOn m = 2) (c5 : ¬ oddOf n = oddOf m) :
    ∀ W : World, Calls Try.prog 29 #[.agg #[.int .i64 t0, .int .i64 t1, .int .i64 (oddOf n), .int .i64 (oddOf m)], .agg #[.int .i64 (tot n r0 r1 (-r0 - r1)), .int .i64 (tot m r0 r1 (-r0 - r1))]] W fun e w' => e = .returned (.tuple #[.agg #[.int .i64 r0, .int .i64 r1, .int .i64 (-r0 - r1)], .nilIface]) ∧ Below W.heap.size W w' := by
  intro W
  obtain ⟨h1, h2, h3, h4, h5⟩ := tot_math ha hb c1 c2 c5
  have hc : joinC (oddOf n) (oddOf m) (tot n r0 r1 (-r0 - r1)) (tot m r0 r1 (-r0 - r1)) = 0 := by unfold joinC; rw [if_pos ⟨h1, h2⟩, if_neg c5, if_pos ⟨h3, h4⟩]
  have hO : ∀ i, joinO (oddOf n) (oddOf m) (tot n r0 r1 (-r0 - r1)) (tot m r0 r1 (-r0 - r1)) i = if i = oddOf n then tot n r0 r1 (-r0 - r1) else if i = oddOf m then -(tot m r0 r1 (-r0 - r1)) else tot m r0 r1 (-r0 - r1) - tot n r0 r1 (-r0 - r1) := fun i => by unfold joinO; rw [if_pos hc]
  have k := join_any t0 t1 (oddOf n) (oddOf m) (tot n r0 r1 (-r0 - r1)) (tot m r0 r1 (-r0 - r1)) W
  rw [hO, hO, hO, hc, h5 0 (by decide), h5 1 (by decide), h5 2 (by decide)] at k
  exact k
end Go.Proofs.Ytjeomdfcfbfebaa

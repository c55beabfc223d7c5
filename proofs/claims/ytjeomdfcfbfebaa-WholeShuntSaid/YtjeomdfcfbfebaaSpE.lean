/- What Spread and the reference's Spread return, for every input. No condition. -/
import Derived.Test.YtjeomdfcfbfebaaSpC
import Derived.Test.YtjeomdfcfbfebaaSpD
namespace Go.Proofs.Ytjeomdfcfbfebaa
open Go.RowKit PM
namespace PM
theorem sp_ok {p : Pt} {per least need : Int} (hc : p.code per least = 0) (hn : 0 ≤ need ∧ need ≤ per) : spP p per least need = (if spOk p (spOut p need (ordP p)) per least (ordP p) then spOut p need (ordP p) else p) ∧ spG p per least need = decide (spOk p (spOut p need (ordP p)) per least (ordP p)) ∧ spE p per least need = 0 := by
  refine ⟨?_, ?_, ?_⟩
  · unfold spP; rw [if_pos hc, if_pos hn]
  · unfold spG; rw [decide_eq_true hc, decide_eq_true hn, Bool.true_and, Bool.true_and]
  · unfold spE; rw [if_pos hc, if_pos hn]
theorem sp_need {p : Pt} {per least need : Int} (hc : p.code per least = 0) (hn : ¬ (0 ≤ need ∧ need ≤ per)) : spP p per least need = zPt ∧ spG p per least need = false ∧ spE p per least need = 3 := by
  refine ⟨?_, ?_, ?_⟩
  · unfold spP; rw [if_pos hc, if_neg hn]
  · unfold spG; rw [decide_eq_true hc, decide_eq_false hn]; rfl
  · unfold spE; rw [if_pos hc, if_neg hn]
theorem sp_bad {p : Pt} {per least need : Int} (hc : ¬ p.code per least = 0) : spP p per least need = zPt ∧ spG p per least need = false ∧ spE p per least need = p.code per least := by
  refine ⟨?_, ?_, ?_⟩
  · unfold spP; rw [if_neg hc]
  · unfold spG; rw [decide_eq_false hc]; rfl
  · unfold spE; rw [if_neg hc]
end PM
theorem spread_any (p : Pt) (per least need : Int) (w : World) :
    Calls Try.prog 26 #[.agg #[.int .i64 p.l0.a, .int .i64 p.l0.b, .int .i64 p.l1.a, .int .i64 p.l1.b, .int .i64 p.l2.a, .int .i64 p.l2.b], .int .i64 per, .int .i64 least, .int .i64 need] w fun e w' => e = .returned (.tuple #[.agg #[.int .i64 (spP p per least need).l0.a, .int .i64 (spP p per least need).l0.b, .int .i64 (spP p per least need).l1.a, .int .i64 (spP p per least need).l1.b, .int .i64 (spP p per least need).l2.a, .int .i64 (spP p per least need).l2.b], .bool (spG p per least need), errV (spE p per least need)]) ∧ Below w.heap.size w w' := by
  by_cases hc : p.code per least = 0
  · by_cases hn : 0 ≤ need ∧ need ≤ per
    · obtain ⟨e1, e2, e3⟩ := sp_ok hc hn
      rw [e1, e2, e3]
      exact spread_ok p per least need hc hn w
    · obtain ⟨e1, e2, e3⟩ := sp_need hc hn
      rw [e1, e2, e3]
      exact spread_need p per least need hc hn w
  · obtain ⟨e1, e2, e3⟩ := sp_bad (need := need) hc
    rw [e1, e2, e3]
    exact spread_bad p per least need hc w
theorem rspread_any (p : Pt) (per least need : Int) (w : World) :
    Calls Try.prog 46 #[.agg #[.int .i64 p.l0.a, .int .i64 p.l0.b, .int .i64 p.l1.a, .int .i64 p.l1.b, .int .i64 p.l2.a, .int .i64 p.l2.b], .int .i64 per, .int .i64 least, .int .i64 need] w fun e w' => e = .returned (.tuple #[.agg #[.int .i64 (spP p per least need).l0.a, .int .i64 (spP p per least need).l0.b, .int .i64 (spP p per least need).l1.a, .int .i64 (spP p per least need).l1.b, .int .i64 (spP p per least need).l2.a, .int .i64 (spP p per least need).l2.b], .bool (spG p per least need), .int .i64 (spE p per least need)]) ∧ Below w.heap.size w w' := by
  by_cases hc : p.code per least = 0
  · by_cases hn : 0 ≤ need ∧ need ≤ per
    · obtain ⟨e1, e2, e3⟩ := sp_ok hc hn
      rw [e1, e2, e3]
      exact rspread_ok p per least need hc hn w
    · obtain ⟨e1, e2, e3⟩ := sp_need hc hn
      rw [e1, e2, e3]
      exact rspread_need p per least need hc hn w
  · obtain ⟨e1, e2, e3⟩ := sp_bad (need := need) hc
    rw [e1, e2, e3]
    exact rspread_bad p per least need hc w
end Go.Proofs.Ytjeomdfcfbfebaa

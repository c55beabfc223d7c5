/- WholeShunt holds: two samples of one shunt give the three phase currents exactly, if the pulses can be spread. No condition. -/
import Derived.Test.YtjeomdfcfbfebaaRows
import Derived.Test.YtjeomdfcfbfebaaFlat
import Derived.Test.YtjeomdfcfbfebaaWsM
import Derived.Test.YtjeomdfcfbfebaaPatJ
namespace Go.Proofs.Ytjeomdfcfbfebaa
open Go.RowKit PM Flat Go.ChangeShapes


set_option maxRecDepth 100000 in
theorem wholeShunt_lifted (os : Os) (started : os.Started) (H : Type) (enc : TypeId × Value → H) :
    ReturnsInHanded {} Try.checked os 3 .any (Rows.wholeShuntSpec.pre6 enc Try.prog Try.f3 Rows.wholeShuntRow.domain false) (Rows.wholeShuntSpec.post enc Try.prog Try.f3 false true false false) := by
  refine lift (C := Try.checked) (s := Rows.wholeShuntSpec) 4 Try.own started (by kernel_rfl) Try.func3 Try.laidOut rfl rfl Try.underlying4 (by kernel_rfl)
    (fun ds hds => by
      have hl : ds.length = 3 := hds
      match ds, hl with
      | [_, _, _], _ => rfl)
    (ChangeSpec.witness6 (enc := enc) (C := Try.checked) false ⟨#[], #[.agg #[.int .i64 0, .int .i64 0], .agg #[.int .i64 0, .int .i64 0, .int .i64 0, .int .i64 0], .agg #[.int .i64 0, .int .i64 0, .int .i64 0]], []⟩ 8 (by kernel_rfl) (by kernel_rfl) (by kernel_rfl) (by kernel_rfl)) ?_
  intro W base args ds p hval0 hA0
  have hval : ∀ (j : Nat) t v, Try.f3.params[j]? = some t → args[j]? = some v → Value.okWide Try.prog W .any base t v := hval0
  have hA : DataW.TrodAll enc Try.prog W 0 (fun _ => true) true Try.f3.params.toList args.toList ds p := hA0
  clear hval0 hA0
  rw [Try.params3] at hA hval
  obtain ⟨v0, vs0, d0, ds0, p0, q0, hargs, rfl, rfl, h0, r0⟩ := trodAll_cons hA
  obtain ⟨v1, vs1, d1, ds1, p1, q1, rfl, rfl, rfl, h1, r1⟩ := trodAll_cons r0
  obtain ⟨v2, vs2, d2, ds2, p2, q2, rfl, rfl, rfl, h2, r2⟩ := trodAll_cons r1
  obtain ⟨rfl, rfl, rfl⟩ := trodAll_nil r2
  obtain rfl : args = #[v0, v1, v2] := by cases args; simp_all
  obtain ⟨l0, rfl, g0⟩ := arg_struct 4 Try.underlying23 (ks := [some .i64, some .i64]) (by kernel_rfl) (hval 0 23 v0 rfl rfl) h0
  obtain ⟨_, _, rfl, ⟨s0, rfl, ws0⟩, g0x0⟩ := g0
  obtain ⟨_, _, rfl, ⟨s1, rfl, ws1⟩, g0x1⟩ := g0x0
  simp only [Fits] at g0x1
  subst g0x1
  obtain ⟨l1, rfl, g1⟩ := arg_struct 4 Try.underlying25 (ks := [some .i64, some .i64, some .i64, some .i64]) (by kernel_rfl) (hval 1 25 v1 rfl rfl) h1
  obtain ⟨_, _, rfl, ⟨f0, rfl, wf0⟩, g1x0⟩ := g1
  obtain ⟨_, _, rfl, ⟨f1, rfl, wf1⟩, g1x1⟩ := g1x0
  obtain ⟨_, _, rfl, ⟨f2, rfl, wf2⟩, g1x2⟩ := g1x1
  obtain ⟨_, _, rfl, ⟨f3, rfl, wf3⟩, g1x3⟩ := g1x2
  simp only [Fits] at g1x3
  subst g1x3
  obtain ⟨l2, rfl, g2⟩ := arg_array 4 Try.underlying26 (ks := [some .i64, some .i64, some .i64]) (by kernel_rfl) (hval 2 26 v2 rfl rfl) h2
  obtain ⟨_, _, rfl, ⟨a0, rfl, wa0⟩, g2x0⟩ := g2
  obtain ⟨_, _, rfl, ⟨a1, rfl, wa1⟩, g2x1⟩ := g2x0
  obtain ⟨_, _, rfl, ⟨a2, rfl, wa2⟩, g2x2⟩ := g2x1
  simp only [Fits] at g2x2
  subst g2x2
  exact wholeShunt_walk s0 s1 f0 f1 f2 f3 a0 a1 a2 W

theorem j_lifts' (x : Bool) (h : x = Rows.patternMakesRow.lifted) : (x == Try.prog.liftsFinal) = true := by rw [h]; exact j_lifts
theorem j_make' (x) (h : x = Rows.patternMakesRow.make) : (Try.prog.make == some x) = true := by rw [h]; exact j_make
set_option maxHeartbeats 4000000 in
set_option maxRecDepth 100000 in
theorem wholeShunt_joined : joinedFacts Try.prog 3 Try.f3 Rows.wholeShuntSpec Rows.wholeShuntRow = true := by
  unfold joinedFacts
  repeat' (with_reducible refine and_split ?_ ?_)
  all_goals first | (with_reducible exact j_may) | (with_reducible refine j_lifts' _ ?_; rfl) | (with_reducible refine j_make' _ ?_; rfl) | (as_aux_lemma => kernel_rfl)

theorem wholeShunt_over : Rows.wholeShuntRow.holds Try.pinned (OpenSpec.ofChange Rows.wholeShuntSpec) :=
  OpenClaim.holds_of_wide 3 Try.f3 rfl rfl rfl rfl rfl rfl rfl ⟨rfl, rfl, rfl, rfl, rfl⟩ rfl rfl rfl rfl rfl (by kernel_rfl) Try.func3 wholeShunt_joined
    (of_decide_eq_true (by kernel_rfl)) (by unfold Func.isWrapper; first | (rw [if_pos (by decide +kernel)]; kernel_rfl) | (rw [if_neg (by decide +kernel)]; exact ⟨rfl, rfl⟩))
    (fun os started H enc _ => wholeShunt_lifted os started H enc)

theorem wholeShunt_holds : Rows.WholeShuntSaid := wholeShunt_over
#print axioms wholeShunt_holds
end Go.Proofs.Ytjeomdfcfbfebaa

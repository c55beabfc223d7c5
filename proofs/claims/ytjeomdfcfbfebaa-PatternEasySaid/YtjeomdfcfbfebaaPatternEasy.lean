/- PatternEasy holds: Spread succeeds, without a change, where the parts are long enough already. No condition. -/
import Derived.Test.YtjeomdfcfbfebaaRows
import Derived.Test.YtjeomdfcfbfebaaFlat
import Derived.Test.YtjeomdfcfbfebaaEasyC
import Derived.Test.YtjeomdfcfbfebaaPatJ
namespace Go.Proofs.Ytjeomdfcfbfebaa
open Go.RowKit PM Flat Go.ChangeShapes


set_option maxRecDepth 100000 in
theorem patternEasy_lifted (os : Os) (started : os.Started) (H : Type) (enc : TypeId × Value → H) :
    ReturnsInHanded {} Try.checked os 18 .any (Rows.patternEasySpec.pre6 enc Try.prog Try.f18 Rows.patternEasyRow.domain false) (Rows.patternEasySpec.post enc Try.prog Try.f18 false true false false) := by
  refine lift (C := Try.checked) (s := Rows.patternEasySpec) 4 Try.own started (by kernel_rfl) Try.func18 Try.laidOut rfl rfl Try.underlying4 (by kernel_rfl)
    (fun ds hds => by
      have hl : ds.length = 3 := hds
      match ds, hl with
      | [_, _, _], _ => rfl)
    (ChangeSpec.witness6 (enc := enc) (C := Try.checked) false ⟨#[], #[.agg #[.int .u16 0, .int .u16 0, .int .u16 0], .agg #[.int .u16 0, .int .u16 0, .int .u16 0], .agg #[.int .i64 0, .int .i64 0]], []⟩ 8 (by kernel_rfl) (by kernel_rfl) (by kernel_rfl) (by kernel_rfl)) ?_
  intro W base args ds p hval0 hA0
  have hval : ∀ (j : Nat) t v, Try.f18.params[j]? = some t → args[j]? = some v → Value.okWide Try.prog W .any base t v := hval0
  have hA : DataW.TrodAll enc Try.prog W 0 (fun _ => true) true Try.f18.params.toList args.toList ds p := hA0
  clear hval0 hA0
  rw [Try.params18] at hA hval
  obtain ⟨v0, vs0, d0, ds0, p0, q0, hargs, rfl, rfl, h0, r0⟩ := trodAll_cons hA
  obtain ⟨v1, vs1, d1, ds1, p1, q1, rfl, rfl, rfl, h1, r1⟩ := trodAll_cons r0
  obtain ⟨v2, vs2, d2, ds2, p2, q2, rfl, rfl, rfl, h2, r2⟩ := trodAll_cons r1
  obtain ⟨rfl, rfl, rfl⟩ := trodAll_nil r2
  obtain rfl : args = #[v0, v1, v2] := by cases args; simp_all
  obtain ⟨l0, rfl, g0⟩ := arg_array 4 Try.underlying104 (ks := [some .u16, some .u16, some .u16]) (by kernel_rfl) (hval 0 104 v0 rfl rfl) h0
  obtain ⟨_, _, rfl, ⟨a0, rfl, wa0⟩, g0x0⟩ := g0
  obtain ⟨_, _, rfl, ⟨a1, rfl, wa1⟩, g0x1⟩ := g0x0
  obtain ⟨_, _, rfl, ⟨a2, rfl, wa2⟩, g0x2⟩ := g0x1
  simp only [Fits] at g0x2
  subst g0x2
  obtain ⟨l1, rfl, g1⟩ := arg_array 4 Try.underlying104 (ks := [some .u16, some .u16, some .u16]) (by kernel_rfl) (hval 1 104 v1 rfl rfl) h1
  obtain ⟨_, _, rfl, ⟨b0, rfl, wb0⟩, g1x0⟩ := g1
  obtain ⟨_, _, rfl, ⟨b1, rfl, wb1⟩, g1x1⟩ := g1x0
  obtain ⟨_, _, rfl, ⟨b2, rfl, wb2⟩, g1x2⟩ := g1x1
  simp only [Fits] at g1x2
  subst g1x2
  obtain ⟨l2, rfl, g2⟩ := arg_struct 4 Try.underlying55 (ks := [some .i64, some .i64]) (by kernel_rfl) (hval 2 55 v2 rfl rfl) h2
  obtain ⟨_, _, rfl, ⟨f0, rfl, wf0⟩, g2x0⟩ := g2
  obtain ⟨_, _, rfl, ⟨f1, rfl, wf1⟩, g2x1⟩ := g2x0
  simp only [Fits] at g2x1
  subst g2x1
  have hxa0 : 0 ≤ a0 ∧ a0 ≤ 65535 := by simpa [Lit.wf, IntKind.min, IntKind.max, IntKind.signed, IntKind.bits] using wa0
  have hxa1 : 0 ≤ a1 ∧ a1 ≤ 65535 := by simpa [Lit.wf, IntKind.min, IntKind.max, IntKind.signed, IntKind.bits] using wa1
  have hxa2 : 0 ≤ a2 ∧ a2 ≤ 65535 := by simpa [Lit.wf, IntKind.min, IntKind.max, IntKind.signed, IntKind.bits] using wa2
  have hxb0 : 0 ≤ b0 ∧ b0 ≤ 65535 := by simpa [Lit.wf, IntKind.min, IntKind.max, IntKind.signed, IntKind.bits] using wb0
  have hxb1 : 0 ≤ b1 ∧ b1 ≤ 65535 := by simpa [Lit.wf, IntKind.min, IntKind.max, IntKind.signed, IntKind.bits] using wb1
  have hxb2 : 0 ≤ b2 ∧ b2 ≤ 65535 := by simpa [Lit.wf, IntKind.min, IntKind.max, IntKind.signed, IntKind.bits] using wb2
  exact patternEasy_walk a0 a1 a2 b0 b1 b2 f0 f1 hxa0 hxa1 hxa2 hxb0 hxb1 hxb2 W

theorem j_lifts' (x : Bool) (h : x = Rows.patternMakesRow.lifted) : (x == Try.prog.liftsFinal) = true := by rw [h]; exact j_lifts
theorem j_make' (x) (h : x = Rows.patternMakesRow.make) : (Try.prog.make == some x) = true := by rw [h]; exact j_make
set_option maxHeartbeats 4000000 in
set_option maxRecDepth 100000 in
theorem patternEasy_joined : joinedFacts Try.prog 18 Try.f18 Rows.patternEasySpec Rows.patternEasyRow = true := by
  unfold joinedFacts
  repeat' (with_reducible refine and_split ?_ ?_)
  all_goals first | (with_reducible exact j_may) | (with_reducible refine j_lifts' _ ?_; rfl) | (with_reducible refine j_make' _ ?_; rfl) | (as_aux_lemma => kernel_rfl)

theorem patternEasy_over : Rows.patternEasyRow.holds Try.pinned (OpenSpec.ofChange Rows.patternEasySpec) :=
  OpenClaim.holds_of_wide 18 Try.f18 rfl rfl rfl rfl rfl rfl rfl ⟨rfl, rfl, rfl, rfl, rfl⟩ rfl rfl rfl rfl rfl (by kernel_rfl) Try.func18 patternEasy_joined
    (of_decide_eq_true (by kernel_rfl)) (by unfold Func.isWrapper; first | (rw [if_pos (by decide +kernel)]; kernel_rfl) | (rw [if_neg (by decide +kernel)]; exact ⟨rfl, rfl⟩))
    (fun os started H enc _ => patternEasy_lifted os started H enc)

theorem patternEasy_holds : Rows.PatternEasySaid := patternEasy_over
#print axioms patternEasy_holds
end Go.Proofs.Ytjeomdfcfbfebaa

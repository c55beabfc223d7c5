/- PatternBorders holds: over any accepted patterns one after the other, no position of a leg lasts for less than min counts, but for the first and the last one. No condition. -/
import Derived.Test.YtjeomdfcfbfebaaRows
import Derived.Test.YtjeomdfcfbfebaaFlat
import Derived.Test.YtjeomdfcfbfebaaBordC
import Derived.Test.YtjeomdfcfbfebaaPatJ
namespace Go.Proofs.Ytjeomdfcfbfebaa
open Go.RowKit PM Flat Go.ChangeShapes


set_option maxRecDepth 100000 in
theorem patternBorders_lifted (os : Os) (started : os.Started) (H : Type) (enc : TypeId × Value → H) :
    ReturnsInHanded {} Try.checked os 5 .any (Rows.patternBordersSpec.pre6 enc Try.prog Try.f5 Rows.patternBordersRow.domain false) (Rows.patternBordersSpec.post enc Try.prog Try.f5 false true false false) := by
  refine lift (C := Try.checked) (s := Rows.patternBordersSpec) 4 Try.own started (by kernel_rfl) Try.func5 Try.laidOut rfl rfl Try.underlying4 (by kernel_rfl)
    (fun ds hds => by
      have hl : ds.length = 2 := hds
      match ds, hl with
      | [_, _], _ => rfl)
    (ChangeSpec.witness6 (enc := enc) (C := Try.checked) false ⟨#[], #[.slice none 0 0, .agg #[.int .i64 0, .int .i64 0]], []⟩ 8 (by kernel_rfl) (by kernel_rfl) (by kernel_rfl) (by kernel_rfl)) ?_
  intro W base args ds p hval0 hA0
  have hval : ∀ (j : Nat) t v, Try.f5.params[j]? = some t → args[j]? = some v → Value.okWide Try.prog W .any base t v := hval0
  have hA : DataW.TrodAll enc Try.prog W 0 (fun _ => true) true Try.f5.params.toList args.toList ds p := hA0
  clear hval0 hA0
  rw [Try.params5] at hA hval
  obtain ⟨v0, vs0, d0, ds0, p0, q0, hargs, rfl, rfl, h0, r0⟩ := trodAll_cons hA
  obtain ⟨v1, vs1, d1, ds1, p1, q1, rfl, rfl, rfl, h1, r1⟩ := trodAll_cons r0
  obtain ⟨rfl, rfl, rfl⟩ := trodAll_nil r1
  obtain rfl : args = #[v0, v1] := by cases args; simp_all
  obtain ⟨l1, rfl, g1⟩ := arg_struct 4 Try.underlying55 (ks := [some .i64, some .i64]) (by kernel_rfl) (hval 1 55 v1 rfl rfl) h1
  obtain ⟨_, _, rfl, ⟨f0, rfl, wf0⟩, g1x0⟩ := g1
  obtain ⟨_, _, rfl, ⟨f1, rfl, wf1⟩, g1x1⟩ := g1x0
  simp only [Fits] at g1x1
  subst g1x1
  have hS : ∃ (sa : Option Addr) (len cap : Nat), v0 = .slice sa len cap ∧ (len = 0 ∨ ∃ sb so cs, sa = some ⟨sb, so, none⟩ ∧ sb < W.heap.size ∧ Counts W sb so len cs) := by
    rcases arg_slice (ks := [some .i64, some .i64, some .i64]) 4 Try.underlying60 (by kernel_rfl) (by kernel_rfl) (hval 0 60 v0 rfl rfl) h0 with rfl | ⟨a, len, cap, f, rfl, hc, hm, hf⟩
    · exact ⟨none, 0, 0, rfl, .inl rfl⟩
    · refine ⟨some a, len, cap, rfl, ?_⟩
      by_cases hp : 0 < len
      · obtain ⟨sb, so, cs, rfl, hsb, hs⟩ := counts_of hp hf
        exact .inr ⟨sb, so, cs, rfl, hsb, hs⟩
      · exact .inl (by omega)
  obtain ⟨sa, len, cap, rfl, hS⟩ := hS
  exact borders_walk f0 f1 sa len cap W hS

theorem j_lifts' (x : Bool) (h : x = Rows.patternMakesRow.lifted) : (x == Try.prog.liftsFinal) = true := by rw [h]; exact j_lifts
theorem j_make' (x) (h : x = Rows.patternMakesRow.make) : (Try.prog.make == some x) = true := by rw [h]; exact j_make
set_option maxHeartbeats 4000000 in
set_option maxRecDepth 100000 in
theorem patternBorders_joined : joinedFacts Try.prog 5 Try.f5 Rows.patternBordersSpec Rows.patternBordersRow = true := by
  unfold joinedFacts
  repeat' (with_reducible refine and_split ?_ ?_)
  all_goals first | (with_reducible exact j_may) | (with_reducible refine j_lifts' _ ?_; rfl) | (with_reducible refine j_make' _ ?_; rfl) | (as_aux_lemma => kernel_rfl)

theorem patternBorders_over : Rows.patternBordersRow.holds Try.pinned (OpenSpec.ofChange Rows.patternBordersSpec) :=
  OpenClaim.holds_of_wide 5 Try.f5 rfl rfl rfl rfl rfl rfl rfl ⟨rfl, rfl, rfl, rfl, rfl⟩ rfl rfl rfl rfl rfl (by kernel_rfl) Try.func5 patternBorders_joined
    (of_decide_eq_true (by kernel_rfl)) (by unfold Func.isWrapper; first | (rw [if_pos (by decide +kernel)]; kernel_rfl) | (rw [if_neg (by decide +kernel)]; exact ⟨rfl, rfl⟩))
    (fun os started H enc _ => patternBorders_lifted os started H enc)

theorem patternBorders_holds : Rows.PatternBordersSaid := patternBorders_over
#print axioms patternBorders_holds
end Go.Proofs.Ytjeomdfcfbfebaa

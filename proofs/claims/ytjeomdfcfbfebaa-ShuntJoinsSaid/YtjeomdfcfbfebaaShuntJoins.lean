/- ShuntJoins holds: Join is as specified, for any plans and samples. No condition. -/
import Derived.Test.YtjeomdfcfbfebaaRows
import Derived.Test.YtjeomdfcfbfebaaFlat
import Derived.Test.YtjeomdfcfbfebaaShE
import Derived.Test.YtjeomdfcfbfebaaPatJ
namespace Go.Proofs.Ytjeomdfcfbfebaa
open Go.RowKit PM Flat Go.ChangeShapes

set_option maxHeartbeats 4000000 in
set_option maxRecDepth 100000 in
theorem shuntJoins_walk (t0 t1 a b s0 s1 : Int) (w : World) :
    Calls Try.prog 11 #[.agg #[.int .i64 t0, .int .i64 t1, .int .i64 a, .int .i64 b], .agg #[.int .i64 s0, .int .i64 s1]] w fun e w' => e = .returned (.bool true) ∧ Below w.heap.size w w' := by
  have HS := hide (fun W => join_any t0 t1 a b s0 s1 W)
  have HR := hide (fun W => rjoin_any t0 t1 a b s0 s1 W)
  generalize joinC a b s0 s1 = cc at HS HR
  generalize joinO a b s0 s1 0 = o0 at HS HR
  generalize joinO a b s0 s1 1 = o1 at HS HR
  generalize joinO a b s0 s1 2 = o2 at HS HR
  have HNM := hide (num_errV cc)
  go_enter Try.func11, Try.ntmps11
  go_wp2_with (first
    | (go_at_call 39; refine (awake25_any _).mono ?_; rintro e w1 ⟨rfl, hb1⟩; have z1 := hb1.size; (try simp at z1); have c1x0 := bstep (b := w.heap.size) hb1 (by first | omega | (simp <;> omega)); have y1x0 : w.heap.size < w1.heap.size := (by omega); have c1x1 := bstep (b := w.heap.size + 1) hb1 (by first | omega | (simp <;> omega)); have y1x1 : w.heap.size + 1 < w1.heap.size := (by omega))
    | (go_at_call 29; refine (HS.out _).mono ?_; rintro e w2 ⟨rfl, hb2⟩; have z2 := hb2.size; (try simp at z2); have c2x0 := bstep (b := w.heap.size) hb2 (by first | omega | (simp <;> omega)); have y2x0 : w.heap.size < w2.heap.size := (by omega); have c2x1 := bstep (b := w.heap.size + 1) hb2 (by first | omega | (simp <;> omega)); have y2x1 : w.heap.size + 1 < w2.heap.size := (by omega))
    | (go_at_call 42; refine (HR.out _).mono ?_; rintro e w3 ⟨rfl, hb3⟩; have z3 := hb3.size; (try simp at z3); have c3x0 := bstep (b := w.heap.size) hb3 (by first | omega | (simp <;> omega)); have y3x0 : w.heap.size < w3.heap.size := (by omega); have c3x1 := bstep (b := w.heap.size + 1) hb3 (by first | omega | (simp <;> omega)); have y3x1 : w.heap.size + 1 < w3.heap.size := (by omega); have c3x2 := bstep (b := w2.heap.size) hb3 (by first | omega | (simp <;> omega)); have y3x2 : w2.heap.size < w3.heap.size := (by omega))
    | (go_at_call 32; with_reducible refine (HNM.out _).mono ?_; rintro e w9 ⟨rfl, rfl⟩))
  go_ret
  have H1 : Below w.heap.size w w1 := (((Below.refl _ _).alloc (Nat.le_refl _) _).alloc (by first | omega | (simp <;> omega)) _).trans (hb1.mono (by first | omega | (simp <;> omega)))
  have H2 : Below w.heap.size w w2 := H1.trans (hb2.mono (by first | omega | (simp <;> omega)))
  have H3 : Below w.heap.size w w3 := (H2.alloc (by first | omega | (simp <;> omega)) _).trans (hb3.mono (by first | omega | (simp <;> omega)))
  exact ⟨by simp, by exact (by repeat (first | with_reducible assumption | with_reducible refine Below.drew ?_ | with_reducible refine below_drewN ?_ _ | with_reducible refine Below.alloc ?_ (by first | omega | (simp <;> omega)) _ | with_reducible refine Below.setCell ?_ (by first | omega | (simp <;> omega)) _ | with_reducible exact Below.refl _ _))⟩


set_option maxRecDepth 100000 in
theorem shuntJoins_lifted (os : Os) (started : os.Started) (H : Type) (enc : TypeId × Value → H) :
    ReturnsInHanded {} Try.checked os 11 .any (Rows.shuntJoinsSpec.pre6 enc Try.prog Try.f11 Rows.shuntJoinsRow.domain false) (Rows.shuntJoinsSpec.post enc Try.prog Try.f11 false true false false) := by
  refine lift (C := Try.checked) (s := Rows.shuntJoinsSpec) 4 Try.own started (by kernel_rfl) Try.func11 Try.laidOut rfl rfl Try.underlying4 (by kernel_rfl)
    (fun ds hds => by
      have hl : ds.length = 2 := hds
      match ds, hl with
      | [_, _], _ => rfl)
    (ChangeSpec.witness6 (enc := enc) (C := Try.checked) false ⟨#[], #[.agg #[.int .i64 0, .int .i64 0, .int .i64 0, .int .i64 0], .agg #[.int .i64 0, .int .i64 0]], []⟩ 8 (by kernel_rfl) (by kernel_rfl) (by kernel_rfl) (by kernel_rfl)) ?_
  intro W base args ds p hval0 hA0
  have hval : ∀ (j : Nat) t v, Try.f11.params[j]? = some t → args[j]? = some v → Value.okWide Try.prog W .any base t v := hval0
  have hA : DataW.TrodAll enc Try.prog W 0 (fun _ => true) true Try.f11.params.toList args.toList ds p := hA0
  clear hval0 hA0
  rw [Try.params11] at hA hval
  obtain ⟨v0, vs0, d0, ds0, p0, q0, hargs, rfl, rfl, h0, r0⟩ := trodAll_cons hA
  obtain ⟨v1, vs1, d1, ds1, p1, q1, rfl, rfl, rfl, h1, r1⟩ := trodAll_cons r0
  obtain ⟨rfl, rfl, rfl⟩ := trodAll_nil r1
  obtain rfl : args = #[v0, v1] := by cases args; simp_all
  obtain ⟨l0, rfl, g0⟩ := arg_struct 4 Try.underlying46 (ks := [some .i64, some .i64, some .i64, some .i64]) (by kernel_rfl) (hval 0 46 v0 rfl rfl) h0
  obtain ⟨_, _, rfl, ⟨s0, rfl, ws0⟩, g0x0⟩ := g0
  obtain ⟨_, _, rfl, ⟨s1, rfl, ws1⟩, g0x1⟩ := g0x0
  obtain ⟨_, _, rfl, ⟨s2, rfl, ws2⟩, g0x2⟩ := g0x1
  obtain ⟨_, _, rfl, ⟨s3, rfl, ws3⟩, g0x3⟩ := g0x2
  simp only [Fits] at g0x3
  subst g0x3
  obtain ⟨l1, rfl, g1⟩ := arg_array 4 Try.underlying44 (ks := [some .i64, some .i64]) (by kernel_rfl) (hval 1 44 v1 rfl rfl) h1
  obtain ⟨_, _, rfl, ⟨a0, rfl, wa0⟩, g1x0⟩ := g1
  obtain ⟨_, _, rfl, ⟨a1, rfl, wa1⟩, g1x1⟩ := g1x0
  simp only [Fits] at g1x1
  subst g1x1
  exact shuntJoins_walk s0 s1 s2 s3 a0 a1 W

theorem j_lifts' (x : Bool) (h : x = Rows.patternMakesRow.lifted) : (x == Try.prog.liftsFinal) = true := by rw [h]; exact j_lifts
theorem j_make' (x) (h : x = Rows.patternMakesRow.make) : (Try.prog.make == some x) = true := by rw [h]; exact j_make
set_option maxHeartbeats 4000000 in
set_option maxRecDepth 100000 in
theorem shuntJoins_joined : joinedFacts Try.prog 11 Try.f11 Rows.shuntJoinsSpec Rows.shuntJoinsRow = true := by
  unfold joinedFacts
  repeat' (with_reducible refine and_split ?_ ?_)
  all_goals first | (with_reducible exact j_may) | (with_reducible refine j_lifts' _ ?_; rfl) | (with_reducible refine j_make' _ ?_; rfl) | (as_aux_lemma => kernel_rfl)

theorem shuntJoins_over : Rows.shuntJoinsRow.holds Try.pinned (OpenSpec.ofChange Rows.shuntJoinsSpec) :=
  OpenClaim.holds_of_wide 11 Try.f11 rfl rfl rfl rfl rfl rfl rfl ⟨rfl, rfl, rfl, rfl, rfl⟩ rfl rfl rfl rfl rfl (by kernel_rfl) Try.func11 shuntJoins_joined
    (of_decide_eq_true (by kernel_rfl)) (by unfold Func.isWrapper; first | (rw [if_pos (by decide +kernel)]; kernel_rfl) | (rw [if_neg (by decide +kernel)]; exact ⟨rfl, rfl⟩))
    (fun os started H enc _ => shuntJoins_lifted os started H enc)

theorem shuntJoins_holds : Rows.ShuntJoinsSaid := shuntJoins_over
#print axioms shuntJoins_holds
end Go.Proofs.Ytjeomdfcfbfebaa

/- PatternMakes holds: Make is as specified, for any ints. No condition. -/
import Derived.Test.YtjeomdfcfbfebaaRows
import Derived.Test.YtjeomdfcfbfebaaFlat
import Derived.Test.YtjeomdfcfbfebaaPatD
import Derived.Test.YtjeomdfcfbfebaaPatJ
namespace Go.Proofs.Ytjeomdfcfbfebaa
open Go.RowKit PM Flat Go.ChangeShapes

set_option maxHeartbeats 4000000 in
theorem patternMakes_ok (d0 d1 d2 per least : Int) (hr : okRng per least) (hd : okCnt d0 d1 d2 per) (w : World) :
    Calls Try.prog 4 #[.agg #[.int .i64 d0, .int .i64 d1, .int .i64 d2], .agg #[.int .i64 per, .int .i64 least]] w fun e w' => e = .returned (.bool true) ∧ Below w.heap.size w w' := by
  have HS := fun W => make_ok d0 d1 d2 per least hr hd W
  have HR := fun W => rmake_ok d0 d1 d2 per least hr hd W
  generalize pulse d0 per least = q0 at HS HR
  generalize pulse d1 per least = q1 at HS HR
  generalize pulse d2 per least = q2 at HS HR
  replace HS := hide HS
  replace HR := hide HR
  clear hr hd
  go_enter Try.func4, Try.ntmps4
  go_wp2_with (first
    | (go_at_call 30; refine (awake_any _).mono ?_; rintro e w1 ⟨rfl, hb1⟩; have z1 := hb1.size; (try simp at z1); have c1x0 := bstep (b := w.heap.size) hb1 (by first | omega | (simp <;> omega)); have y1x0 : w.heap.size < w1.heap.size := (by omega); have c1x1 := bstep (b := w.heap.size + 1) hb1 (by first | omega | (simp <;> omega)); have y1x1 : w.heap.size + 1 < w1.heap.size := (by omega))
    | (go_at_call 25; refine (HS.out _).mono ?_; rintro e w2 ⟨rfl, hb2⟩; have z2 := hb2.size; (try simp at z2); have c2x0 := bstep (b := w.heap.size) hb2 (by first | omega | (simp <;> omega)); have y2x0 : w.heap.size < w2.heap.size := (by omega); have c2x1 := bstep (b := w.heap.size + 1) hb2 (by first | omega | (simp <;> omega)); have y2x1 : w.heap.size + 1 < w2.heap.size := (by omega))
    | (go_at_call 31; refine (HR.out _).mono ?_; rintro e w3 ⟨rfl, hb3⟩; have z3 := hb3.size; (try simp at z3); have c3x0 := bstep (b := w.heap.size) hb3 (by first | omega | (simp <;> omega)); have y3x0 : w.heap.size < w3.heap.size := (by omega); have c3x1 := bstep (b := w.heap.size + 1) hb3 (by first | omega | (simp <;> omega)); have y3x1 : w.heap.size + 1 < w3.heap.size := (by omega); have c3x2 := bstep (b := w2.heap.size) hb3 (by first | omega | (simp <;> omega)); have y3x2 : w2.heap.size < w3.heap.size := (by omega))
    | (go_at_call 32; first | (with_reducible refine (num_nil _).mono ?_; rintro e w9 ⟨rfl, rfl⟩) | (with_reducible refine (num_err _ _).mono ?_; rintro e w9 ⟨rfl, rfl⟩)))
  go_ret
  have H1 : Below w.heap.size w w1 := (((Below.refl _ _).alloc (Nat.le_refl _) _).alloc (by first | omega | (simp <;> omega)) _).trans (hb1.mono (by first | omega | (simp <;> omega)))
  have H2 : Below w.heap.size w w2 := H1.trans (hb2.mono (by first | omega | (simp <;> omega)))
  have H3 : Below w.heap.size w w3 := (H2.alloc (by first | omega | (simp <;> omega)) _).trans (hb3.mono (by first | omega | (simp <;> omega)))
  exact ⟨rfl, H3.alloc (by omega) _⟩

set_option maxHeartbeats 4000000 in
theorem patternMakes_err (d0 d1 d2 per least : Int) (h : ¬ (okRng per least ∧ okCnt d0 d1 d2 per)) (w : World) :
    Calls Try.prog 4 #[.agg #[.int .i64 d0, .int .i64 d1, .int .i64 d2], .agg #[.int .i64 per, .int .i64 least]] w fun e w' => e = .returned (.bool true) ∧ Below w.heap.size w w' := by
  have HS := fun W => make_err d0 d1 d2 per least h W
  have HR := fun W => rmake_err d0 d1 d2 per least h W
  replace HS := hide HS
  replace HR := hide HR
  clear h
  go_enter Try.func4, Try.ntmps4
  go_wp2_with (first
    | (go_at_call 30; refine (awake_any _).mono ?_; rintro e w1 ⟨rfl, hb1⟩; have z1 := hb1.size; (try simp at z1); have c1x0 := bstep (b := w.heap.size) hb1 (by first | omega | (simp <;> omega)); have y1x0 : w.heap.size < w1.heap.size := (by omega); have c1x1 := bstep (b := w.heap.size + 1) hb1 (by first | omega | (simp <;> omega)); have y1x1 : w.heap.size + 1 < w1.heap.size := (by omega))
    | (go_at_call 25; refine (HS.out _).mono ?_; rintro e w2 ⟨rfl, hb2⟩; have z2 := hb2.size; (try simp at z2); have c2x0 := bstep (b := w.heap.size) hb2 (by first | omega | (simp <;> omega)); have y2x0 : w.heap.size < w2.heap.size := (by omega); have c2x1 := bstep (b := w.heap.size + 1) hb2 (by first | omega | (simp <;> omega)); have y2x1 : w.heap.size + 1 < w2.heap.size := (by omega))
    | (go_at_call 31; refine (HR.out _).mono ?_; rintro e w3 ⟨rfl, hb3⟩; have z3 := hb3.size; (try simp at z3); have c3x0 := bstep (b := w.heap.size) hb3 (by first | omega | (simp <;> omega)); have y3x0 : w.heap.size < w3.heap.size := (by omega); have c3x1 := bstep (b := w.heap.size + 1) hb3 (by first | omega | (simp <;> omega)); have y3x1 : w.heap.size + 1 < w3.heap.size := (by omega); have c3x2 := bstep (b := w2.heap.size) hb3 (by first | omega | (simp <;> omega)); have y3x2 : w2.heap.size < w3.heap.size := (by omega))
    | (go_at_call 32; first | (with_reducible refine (num_nil _).mono ?_; rintro e w9 ⟨rfl, rfl⟩) | (with_reducible refine (num_err _ _).mono ?_; rintro e w9 ⟨rfl, rfl⟩)))
  go_ret
  have H1 : Below w.heap.size w w1 := (((Below.refl _ _).alloc (Nat.le_refl _) _).alloc (by first | omega | (simp <;> omega)) _).trans (hb1.mono (by first | omega | (simp <;> omega)))
  have H2 : Below w.heap.size w w2 := H1.trans (hb2.mono (by first | omega | (simp <;> omega)))
  have H3 : Below w.heap.size w w3 := (H2.alloc (by first | omega | (simp <;> omega)) _).trans (hb3.mono (by first | omega | (simp <;> omega)))
  exact ⟨rfl, H3.alloc (by omega) _⟩

theorem patternMakes_walk (d0 d1 d2 per least : Int) (w : World) :
    Calls Try.prog 4 #[.agg #[.int .i64 d0, .int .i64 d1, .int .i64 d2], .agg #[.int .i64 per, .int .i64 least]] w fun e w' => e = .returned (.bool true) ∧ Below w.heap.size w w' := by
  by_cases h : okRng per least ∧ okCnt d0 d1 d2 per
  · exact patternMakes_ok d0 d1 d2 per least h.1 h.2 w
  · exact patternMakes_err d0 d1 d2 per least h w

set_option maxRecDepth 100000 in
theorem patternMakes_lifted (os : Os) (started : os.Started) (H : Type) (enc : TypeId × Value → H) :
    ReturnsInHanded {} Try.checked os 4 .any (Rows.patternMakesSpec.pre6 enc Try.prog Try.f4 Rows.patternMakesRow.domain false) (Rows.patternMakesSpec.post enc Try.prog Try.f4 false true false false) := by
  refine lift (C := Try.checked) (s := Rows.patternMakesSpec) 4 Try.own started (by kernel_rfl) Try.func4 Try.laidOut rfl rfl Try.underlying4 (by kernel_rfl)
    (fun ds hds => by
      have hl : ds.length = 2 := hds
      match ds, hl with
      | [_, _], _ => rfl)
    (ChangeSpec.witness6 (enc := enc) (C := Try.checked) false ⟨#[], #[.agg #[.int .i64 0, .int .i64 0, .int .i64 0], .agg #[.int .i64 0, .int .i64 0]], []⟩ 8 (by kernel_rfl) (by kernel_rfl) (by kernel_rfl) (by kernel_rfl)) ?_
  intro W base args ds p hval0 hA0
  have hval : ∀ (j : Nat) t v, Try.f4.params[j]? = some t → args[j]? = some v → Value.okWide Try.prog W .any base t v := hval0
  have hA : DataW.TrodAll enc Try.prog W 0 (fun _ => true) true Try.f4.params.toList args.toList ds p := hA0
  clear hval0 hA0
  rw [Try.params4] at hA hval
  obtain ⟨v0, vs0, d0, ds0, p0, q0, hargs, rfl, rfl, h0, r0⟩ := trodAll_cons hA
  obtain ⟨v1, vs1, d1, ds1, p1, q1, rfl, rfl, rfl, h1, r1⟩ := trodAll_cons r0
  obtain ⟨rfl, rfl, rfl⟩ := trodAll_nil r1
  obtain rfl : args = #[v0, v1] := by cases args; simp_all
  obtain ⟨l0, rfl, g0⟩ := arg_array 4 Try.underlying26 (ks := [some .i64, some .i64, some .i64]) (by kernel_rfl) (hval 0 26 v0 rfl rfl) h0
  obtain ⟨_, _, rfl, ⟨a0, rfl, wa0⟩, g0x0⟩ := g0
  obtain ⟨_, _, rfl, ⟨a1, rfl, wa1⟩, g0x1⟩ := g0x0
  obtain ⟨_, _, rfl, ⟨a2, rfl, wa2⟩, g0x2⟩ := g0x1
  simp only [Fits] at g0x2
  subst g0x2
  obtain ⟨l1, rfl, g1⟩ := arg_struct 4 Try.underlying55 (ks := [some .i64, some .i64]) (by kernel_rfl) (hval 1 55 v1 rfl rfl) h1
  obtain ⟨_, _, rfl, ⟨s0, rfl, ws0⟩, g1x0⟩ := g1
  obtain ⟨_, _, rfl, ⟨s1, rfl, ws1⟩, g1x1⟩ := g1x0
  simp only [Fits] at g1x1
  subst g1x1
  exact patternMakes_walk a0 a1 a2 s0 s1 W

theorem j_lifts' (x : Bool) (h : x = Rows.patternMakesRow.lifted) : (x == Try.prog.liftsFinal) = true := by rw [h]; exact j_lifts
theorem j_make' (x) (h : x = Rows.patternMakesRow.make) : (Try.prog.make == some x) = true := by rw [h]; exact j_make
set_option maxHeartbeats 4000000 in
set_option maxRecDepth 100000 in
theorem patternMakes_joined : joinedFacts Try.prog 4 Try.f4 Rows.patternMakesSpec Rows.patternMakesRow = true := by
  unfold joinedFacts
  repeat' (with_reducible refine and_split ?_ ?_)
  all_goals first | (with_reducible exact j_may) | (with_reducible refine j_lifts' _ ?_; rfl) | (with_reducible refine j_make' _ ?_; rfl) | (as_aux_lemma => kernel_rfl)

theorem patternMakes_over : Rows.patternMakesRow.holds Try.pinned (OpenSpec.ofChange Rows.patternMakesSpec) :=
  OpenClaim.holds_of_wide 4 Try.f4 rfl rfl rfl rfl rfl rfl rfl ⟨rfl, rfl, rfl, rfl, rfl⟩ rfl rfl rfl rfl rfl (by kernel_rfl) Try.func4 patternMakes_joined
    (of_decide_eq_true (by kernel_rfl)) (by unfold Func.isWrapper; first | (rw [if_pos (by decide +kernel)]; kernel_rfl) | (rw [if_neg (by decide +kernel)]; exact ⟨rfl, rfl⟩))
    (fun os started H enc _ => patternMakes_lifted os started H enc)

theorem patternMakes_holds : Rows.PatternMakesSaid := patternMakes_over
#print axioms patternMakes_holds
end Go.Proofs.Ytjeomdfcfbfebaa

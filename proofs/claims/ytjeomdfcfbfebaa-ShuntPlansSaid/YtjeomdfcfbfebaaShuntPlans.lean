/- ShuntPlans holds: Plan is as specified, for any legs. No condition. -/
import Derived.Test.YtjeomdfcfbfebaaRows
import Derived.Test.YtjeomdfcfbfebaaFlat
import Derived.Test.YtjeomdfcfbfebaaShF
import Derived.Test.YtjeomdfcfbfebaaShG
import Derived.Test.YtjeomdfcfbfebaaPatJ
namespace Go.Proofs.Ytjeomdfcfbfebaa
open Go.RowKit PM Flat Go.ChangeShapes

theorem plan_any (p : Pt) (per st : Int) (R : List Prt) (hR : okPer per → p.In per → Segs p.on per R) (w : World) :
    Calls Try.prog 27 #[.agg #[.int .i64 p.l0.a, .int .i64 p.l0.b, .int .i64 p.l1.a, .int .i64 p.l1.b, .int .i64 p.l2.a, .int .i64 p.l2.b], .int .i64 per, .int .i64 st] w fun e w' => e = .returned (.tuple #[.agg #[.int .i64 (plO (plF p per st R) 0), .int .i64 (plO (plF p per st R) 1), .int .i64 (plO (plF p per st R) 2), .int .i64 (plO (plF p per st R) 3)], errV (plC p per st R)]) ∧ Below w.heap.size w w' := by
  by_cases h : okPer per
  · by_cases h2 : p.In per
    · by_cases h3 : 0 ≤ st ∧ st ≤ per
      · rw [plF_ok h h2 h3]
        exact plan_ok p per st R h h2 h3 (hR h h2) w
      · rw [plF_st h3, plC_st h h2 h3]
        exact plan_st p per st h h2 h3 w
    · rw [plF_bad h2, plC_bad h h2]
      exact plan_bad p per st h h2 w
  · rw [plF_per h, plC_per h]
    exact plan_per p per st h w
theorem rplan_any (p : Pt) (per st : Int) (R : List Prt) (hR : okPer per → p.In per → Segs p.on per R) (w : World) :
    Calls Try.prog 40 #[.agg #[.int .i64 p.l0.a, .int .i64 p.l0.b, .int .i64 p.l1.a, .int .i64 p.l1.b, .int .i64 p.l2.a, .int .i64 p.l2.b], .int .i64 per, .int .i64 st] w fun e w' => e = .returned (.tuple #[.agg #[.int .i64 (plO (plF p per st R) 0), .int .i64 (plO (plF p per st R) 1), .int .i64 (plO (plF p per st R) 2), .int .i64 (plO (plF p per st R) 3)], .int .i64 (plC p per st R)]) ∧ Below w.heap.size w w' := by
  by_cases h : okPer per
  · by_cases h2 : p.In per
    · by_cases h3 : 0 ≤ st ∧ st ≤ per
      · rw [plF_ok h h2 h3]
        exact rplan_ok p per st R h h2 h3 (hR h h2) w
      · rw [plF_st h3, plC_st h h2 h3]
        exact rplan_st p per st h h2 h3 w
    · rw [plF_bad h2, plC_bad h h2]
      exact rplan_bad p per st h h2 w
  · rw [plF_per h, plC_per h]
    exact rplan_per p per st h w
set_option maxHeartbeats 4000000 in
set_option maxRecDepth 100000 in
theorem shuntPlans_core (p : Pt) (per st : Int) (R : List Prt) (hR : okPer per → p.In per → Segs p.on per R) (w : World) :
    Calls Try.prog 9 #[.agg #[.int .i64 p.l0.a, .int .i64 p.l0.b, .int .i64 p.l1.a, .int .i64 p.l1.b, .int .i64 p.l2.a, .int .i64 p.l2.b], .int .i64 per, .int .i64 st] w fun e w' => e = .returned (.bool true) ∧ Below w.heap.size w w' := by
  have HS := hide (fun W => plan_any p per st R hR W)
  have HR := hide (fun W => rplan_any p per st R hR W)
  generalize plC p per st R = cc at HS HR
  generalize plF p per st R = o at HS HR
  generalize plO o 0 = o0 at HS HR
  generalize plO o 1 = o1 at HS HR
  generalize plO o 2 = o2 at HS HR
  generalize plO o 3 = o3 at HS HR
  have HNM := hide (num_errV cc)
  clear hR
  go_enter Try.func9, Try.ntmps9
  go_wp2_with (first
    | (go_at_call 39; refine (awake25_any _).mono ?_; rintro e w1 ⟨rfl, hb1⟩; have z1 := hb1.size; (try simp at z1); have c1x0 := bstep (b := w.heap.size) hb1 (by first | omega | (simp <;> omega)); have y1x0 : w.heap.size < w1.heap.size := (by omega); have H1 : Below w.heap.size w w1 := Below.trans (by repeat (first | with_reducible assumption | with_reducible refine Below.drew ?_ | with_reducible refine below_drewN ?_ _ | with_reducible refine Below.alloc ?_ (by first | omega | (simp <;> omega)) _ | with_reducible refine Below.setCell ?_ (by first | omega | (simp <;> omega)) _ | with_reducible exact Below.refl _ _)) (hb1.mono (by first | omega | (simp <;> omega))))
    | (go_at_call 27; refine (HS.out _).mono ?_; rintro e w2 ⟨rfl, hb2⟩; have z2 := hb2.size; (try simp at z2); have c2x0 := bstep (b := w.heap.size) hb2 (by first | omega | (simp <;> omega)); have y2x0 : w.heap.size < w2.heap.size := (by omega); have H2 : Below w.heap.size w w2 := Below.trans (by repeat (first | with_reducible assumption | with_reducible refine Below.drew ?_ | with_reducible refine below_drewN ?_ _ | with_reducible refine Below.alloc ?_ (by first | omega | (simp <;> omega)) _ | with_reducible refine Below.setCell ?_ (by first | omega | (simp <;> omega)) _ | with_reducible exact Below.refl _ _)) (hb2.mono (by first | omega | (simp <;> omega))))
    | (go_at_call 40; refine (HR.out _).mono ?_; rintro e w3 ⟨rfl, hb3⟩; have z3 := hb3.size; (try simp at z3); have c3x0 := bstep (b := w.heap.size) hb3 (by first | omega | (simp <;> omega)); have y3x0 : w.heap.size < w3.heap.size := (by omega); have c3x1 := bstep (b := w2.heap.size) hb3 (by first | omega | (simp <;> omega)); have y3x1 : w2.heap.size < w3.heap.size := (by omega); have H3 : Below w.heap.size w w3 := Below.trans (by repeat (first | with_reducible assumption | with_reducible refine Below.drew ?_ | with_reducible refine below_drewN ?_ _ | with_reducible refine Below.alloc ?_ (by first | omega | (simp <;> omega)) _ | with_reducible refine Below.setCell ?_ (by first | omega | (simp <;> omega)) _ | with_reducible exact Below.refl _ _)) (hb3.mono (by first | omega | (simp <;> omega))))
    | (go_at_call 32; with_reducible refine (HNM.out _).mono ?_; rintro e w9 ⟨rfl, rfl⟩))
  go_ret
  exact ⟨by simp, by exact (by repeat (first | with_reducible assumption | with_reducible refine Below.drew ?_ | with_reducible refine below_drewN ?_ _ | with_reducible refine Below.alloc ?_ (by first | omega | (simp <;> omega)) _ | with_reducible refine Below.setCell ?_ (by first | omega | (simp <;> omega)) _ | with_reducible exact Below.refl _ _))⟩
theorem shuntPlans_walk (p : Pt) (per st : Int) (w : World) :
    Calls Try.prog 9 #[.agg #[.int .i64 p.l0.a, .int .i64 p.l0.b, .int .i64 p.l1.a, .int .i64 p.l1.b, .int .i64 p.l2.a, .int .i64 p.l2.b], .int .i64 per, .int .i64 st] w fun e w' => e = .returned (.bool true) ∧ Below w.heap.size w w' := by
  by_cases h : okPer per
  · obtain ⟨R, hS⟩ := segs_ex (f := p.on) (e := per) (by have := h.1; omega)
    exact shuntPlans_core p per st R (fun _ _ => hS) w
  · exact shuntPlans_core p per st [] (fun k => absurd k h) w

set_option maxRecDepth 100000 in
theorem shuntPlans_lifted (os : Os) (started : os.Started) (H : Type) (enc : TypeId × Value → H) :
    ReturnsInHanded {} Try.checked os 9 .any (Rows.shuntPlansSpec.pre6 enc Try.prog Try.f9 Rows.shuntPlansRow.domain false) (Rows.shuntPlansSpec.post enc Try.prog Try.f9 false true false false) := by
  refine lift (C := Try.checked) (s := Rows.shuntPlansSpec) 4 Try.own started (by kernel_rfl) Try.func9 Try.laidOut rfl rfl Try.underlying4 (by kernel_rfl)
    (fun ds hds => by
      have hl : ds.length = 3 := hds
      match ds, hl with
      | [_, _, _], _ => rfl)
    (ChangeSpec.witness6 (enc := enc) (C := Try.checked) false ⟨#[], #[.agg #[.int .i64 0, .int .i64 0, .int .i64 0, .int .i64 0, .int .i64 0, .int .i64 0], .int .i64 0, .int .i64 0], []⟩ 8 (by kernel_rfl) (by kernel_rfl) (by kernel_rfl) (by kernel_rfl)) ?_
  intro W base args ds p hval0 hA0
  have hval : ∀ (j : Nat) t v, Try.f9.params[j]? = some t → args[j]? = some v → Value.okWide Try.prog W .any base t v := hval0
  have hA : DataW.TrodAll enc Try.prog W 0 (fun _ => true) true Try.f9.params.toList args.toList ds p := hA0
  clear hval0 hA0
  rw [Try.params9] at hA hval
  obtain ⟨v0, vs0, d0, ds0, p0, q0, hargs, rfl, rfl, h0, r0⟩ := trodAll_cons hA
  obtain ⟨v1, vs1, d1, ds1, p1, q1, rfl, rfl, rfl, h1, r1⟩ := trodAll_cons r0
  obtain ⟨v2, vs2, d2, ds2, p2, q2, rfl, rfl, rfl, h2, r2⟩ := trodAll_cons r1
  obtain ⟨rfl, rfl, rfl⟩ := trodAll_nil r2
  obtain rfl : args = #[v0, v1, v2] := by cases args; simp_all
  obtain ⟨l0, rfl, g0⟩ := arg_array 4 Try.underlying39 (ks := [some .i64, some .i64, some .i64, some .i64, some .i64, some .i64]) (by kernel_rfl) (hval 0 39 v0 rfl rfl) h0
  obtain ⟨_, _, rfl, ⟨a0, rfl, wa0⟩, g0x0⟩ := g0
  obtain ⟨_, _, rfl, ⟨a1, rfl, wa1⟩, g0x1⟩ := g0x0
  obtain ⟨_, _, rfl, ⟨a2, rfl, wa2⟩, g0x2⟩ := g0x1
  obtain ⟨_, _, rfl, ⟨a3, rfl, wa3⟩, g0x3⟩ := g0x2
  obtain ⟨_, _, rfl, ⟨a4, rfl, wa4⟩, g0x4⟩ := g0x3
  obtain ⟨_, _, rfl, ⟨a5, rfl, wa5⟩, g0x5⟩ := g0x4
  simp only [Fits] at g0x5
  subst g0x5
  obtain ⟨x, rfl, wx⟩ := arg_int Try.underlying3 (hval 1 3 v1 rfl rfl) h1
  obtain ⟨y, rfl, wy⟩ := arg_int Try.underlying3 (hval 2 3 v2 rfl rfl) h2
  exact shuntPlans_walk ⟨⟨a0, a1⟩, ⟨a2, a3⟩, ⟨a4, a5⟩⟩ x y W

theorem j_lifts' (x : Bool) (h : x = Rows.patternMakesRow.lifted) : (x == Try.prog.liftsFinal) = true := by rw [h]; exact j_lifts
theorem j_make' (x) (h : x = Rows.patternMakesRow.make) : (Try.prog.make == some x) = true := by rw [h]; exact j_make
set_option maxHeartbeats 4000000 in
set_option maxRecDepth 100000 in
theorem shuntPlans_joined : joinedFacts Try.prog 9 Try.f9 Rows.shuntPlansSpec Rows.shuntPlansRow = true := by
  unfold joinedFacts
  repeat' (with_reducible refine and_split ?_ ?_)
  all_goals first | (with_reducible exact j_may) | (with_reducible refine j_lifts' _ ?_; rfl) | (with_reducible refine j_make' _ ?_; rfl) | (as_aux_lemma => kernel_rfl)

theorem shuntPlans_over : Rows.shuntPlansRow.holds Try.pinned (OpenSpec.ofChange Rows.shuntPlansSpec) :=
  OpenClaim.holds_of_wide 9 Try.f9 rfl rfl rfl rfl rfl rfl rfl ⟨rfl, rfl, rfl, rfl, rfl⟩ rfl rfl rfl rfl rfl (by kernel_rfl) Try.func9 shuntPlans_joined
    (of_decide_eq_true (by kernel_rfl)) (by unfold Func.isWrapper; first | (rw [if_pos (by decide +kernel)]; kernel_rfl) | (rw [if_neg (by decide +kernel)]; exact ⟨rfl, rfl⟩))
    (fun os started H enc _ => shuntPlans_lifted os started H enc)

theorem shuntPlans_holds : Rows.ShuntPlansSaid := shuntPlans_over
#print axioms shuntPlans_holds
end Go.Proofs.Ytjeomdfcfbfebaa

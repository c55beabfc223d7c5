/- LinkSteps holds: Step returns the state after a tick as the reference has it, or the error of the configuration, for every configuration, state and input. No condition. -/
import Derived.Test.YtahhebeceehbeaaRows
import Derived.Test.YtahhebeceehbeaaFlat
import Derived.Test.YtahhebeceehbeaaLinkD
import Derived.Deep.RegionWith
import Derived.Deep.RegionHeld3
namespace Go.Proofs.Ytahhebeceehbeaa
open Go.RowKit LM Flat Go.ChangeShapes

theorem below3 (w : World) (a b c : Obj) : Below w.heap.size w (((w.alloc a).alloc b).alloc c) :=
  (((Below.refl _ _).alloc (Nat.le_refl _) _).alloc (by simp) _).alloc (by simp; omega) _

set_option maxHeartbeats 2000000 in
theorem linkSteps_ok (c : Cfg) (h : c.Ok) (V d : Int) (b dead broken : Bool) (w : World) :
    Calls Try.prog 3 #[.agg #[.int .i64 c.num, .int .i64 c.den, .int .i64 c.supply, .int .i64 c.feed, .int .i64 c.ohm, .int .i64 c.on, .int .i64 c.off, .int .i64 c.bohm], .agg #[.int .i64 V, .bool b], .agg #[.int .i64 d, .bool dead, .bool broken]] w
      fun e w' => e = .returned (.bool true) ∧ Below w.heap.size w w' := by
  have HS := hide (step_ok c h V d b dead broken)
  have HR := hide (rstep_ok c h V d b dead broken)
  have hcode := Cfg.code_of_ok h
  have HC : Hid (∀ W, Calls Try.prog 13 #[cfgV c] W fun e w' => e = .returned (.int .i64 0) ∧ Below W.heap.size W w') := fun W => by
    have := rcheck_any c W
    rw [hcode] at this
    exact this
  clear h hcode
  go_enter Try.func3, Try.ntmps3
  go_wp2_with (first
    | (go_at_call 11; refine (awake_any _).mono ?_; rintro e w1 ⟨rfl, hb1⟩; have z1 := hb1.size; (try simp at z1); have c1x0 := bstep (b := w.heap.size) hb1 (by first | omega | (simp <;> omega)); have y1x0 : w.heap.size < w1.heap.size := (by omega); have c1x1 := bstep (b := w.heap.size + 1) hb1 (by first | omega | (simp <;> omega)); have y1x1 : w.heap.size + 1 < w1.heap.size := (by omega); have c1x2 := bstep (b := w.heap.size + 1 + 1) hb1 (by first | omega | (simp <;> omega)); have y1x2 : w.heap.size + 1 + 1 < w1.heap.size := (by omega))
    | (go_at_call 12; refine (HS.out _).mono ?_; rintro e w2 ⟨rfl, hb2⟩; have z2 := hb2.size; (try simp at z2); have c2x0 := bstep (b := w.heap.size) hb2 (by first | omega | (simp <;> omega)); have y2x0 : w.heap.size < w2.heap.size := (by omega); have c2x1 := bstep (b := w.heap.size + 1) hb2 (by first | omega | (simp <;> omega)); have y2x1 : w.heap.size + 1 < w2.heap.size := (by omega); have c2x2 := bstep (b := w.heap.size + 1 + 1) hb2 (by first | omega | (simp <;> omega)); have y2x2 : w.heap.size + 1 + 1 < w2.heap.size := (by omega))
    | (go_at_call 13; refine (HC.out _).mono ?_; rintro e w3 ⟨rfl, hb3⟩; have z3 := hb3.size; (try simp at z3); have c3x0 := bstep (b := w.heap.size) hb3 (by first | omega | (simp <;> omega)); have y3x0 : w.heap.size < w3.heap.size := (by omega); have c3x1 := bstep (b := w.heap.size + 1) hb3 (by first | omega | (simp <;> omega)); have y3x1 : w.heap.size + 1 < w3.heap.size := (by omega); have c3x2 := bstep (b := w.heap.size + 1 + 1) hb3 (by first | omega | (simp <;> omega)); have y3x2 : w.heap.size + 1 + 1 < w3.heap.size := (by omega); have c3x3 := bstep (b := w2.heap.size) hb3 (by first | omega | (simp <;> omega)); have y3x3 : w2.heap.size < w3.heap.size := (by omega))
    | (go_at_call 15; refine (HR.out _).mono ?_; rintro e w4 ⟨rfl, hb4⟩; have z4 := hb4.size; (try simp at z4); have c4x0 := bstep (b := w.heap.size) hb4 (by first | omega | (simp <;> omega)); have y4x0 : w.heap.size < w4.heap.size := (by omega); have c4x1 := bstep (b := w.heap.size + 1) hb4 (by first | omega | (simp <;> omega)); have y4x1 : w.heap.size + 1 < w4.heap.size := (by omega); have c4x2 := bstep (b := w.heap.size + 1 + 1) hb4 (by first | omega | (simp <;> omega)); have y4x2 : w.heap.size + 1 + 1 < w4.heap.size := (by omega); have c4x3 := bstep (b := w2.heap.size) hb4 (by first | omega | (simp <;> omega)); have y4x3 : w2.heap.size < w4.heap.size := (by omega)))
  have q0 : w3.cell? ⟨w.heap.size, 0, none⟩ = some (.int .i64 c.num) := by go_simp
  have q1 : w3.cell? ⟨w.heap.size, 1, none⟩ = some (.int .i64 c.den) := by go_simp
  have q2 : w3.cell? ⟨w.heap.size, 2, none⟩ = some (.int .i64 c.supply) := by go_simp
  have q3 : w3.cell? ⟨w.heap.size, 3, none⟩ = some (.int .i64 c.feed) := by go_simp
  have q4 : w3.cell? ⟨w.heap.size, 4, none⟩ = some (.int .i64 c.ohm) := by go_simp
  have q5 : w3.cell? ⟨w.heap.size, 5, none⟩ = some (.int .i64 c.on) := by go_simp
  have q6 : w3.cell? ⟨w.heap.size, 6, none⟩ = some (.int .i64 c.off) := by go_simp
  have q7 : w3.cell? ⟨w.heap.size, 7, none⟩ = some (.int .i64 c.bohm) := by go_simp
  have q8 : w3.cell? ⟨w.heap.size + 1, 0, none⟩ = some (.int .i64 V) := by go_simp
  have q9 : w3.cell? ⟨w.heap.size + 1, 1, none⟩ = some (.bool b) := by go_simp
  have q10 : w3.cell? ⟨w.heap.size + 1 + 1, 0, none⟩ = some (.int .i64 d) := by go_simp
  have q11 : w3.cell? ⟨w.heap.size + 1 + 1, 1, none⟩ = some (.bool dead) := by go_simp
  have q12 : w3.cell? ⟨w.heap.size + 1 + 1, 2, none⟩ = some (.bool broken) := by go_simp
  have q13 : w3.cell? ⟨w2.heap.size, 0, none⟩ = some (.int .i64 (stepV c V b d dead broken)) := by go_simp
  have q14 : w3.cell? ⟨w2.heap.size, 1, none⟩ = some (.bool (stepB c V b)) := by go_simp
  go_region_held3 (fun w' => w'.cell? ⟨w.heap.size, 0, none⟩ = some (.int .i64 c.num) ∧ w'.cell? ⟨w.heap.size, 1, none⟩ = some (.int .i64 c.den) ∧ w'.cell? ⟨w.heap.size, 2, none⟩ = some (.int .i64 c.supply) ∧ w'.cell? ⟨w.heap.size, 3, none⟩ = some (.int .i64 c.feed) ∧ w'.cell? ⟨w.heap.size, 4, none⟩ = some (.int .i64 c.ohm) ∧ w'.cell? ⟨w.heap.size, 5, none⟩ = some (.int .i64 c.on) ∧ w'.cell? ⟨w.heap.size, 6, none⟩ = some (.int .i64 c.off) ∧ w'.cell? ⟨w.heap.size, 7, none⟩ = some (.int .i64 c.bohm) ∧ w'.cell? ⟨w.heap.size + 1, 0, none⟩ = some (.int .i64 V) ∧ w'.cell? ⟨w.heap.size + 1, 1, none⟩ = some (.bool b) ∧ w'.cell? ⟨w.heap.size + 1 + 1, 0, none⟩ = some (.int .i64 d) ∧ w'.cell? ⟨w.heap.size + 1 + 1, 1, none⟩ = some (.bool dead) ∧ w'.cell? ⟨w.heap.size + 1 + 1, 2, none⟩ = some (.bool broken) ∧ w'.cell? ⟨w2.heap.size, 0, none⟩ = some (.int .i64 (stepV c V b d dead broken)) ∧ w'.cell? ⟨w2.heap.size, 1, none⟩ = some (.bool (stepB c V b))) ((first | exact ⟨q0, q1, q2, q3, q4, q5, q6, q7, q8, q9, q10, q11, q12, q13, q14⟩ | exact ⟨(hb4.cell (p := ⟨w.heap.size, 0, none⟩) y3x0).trans q0, (hb4.cell (p := ⟨w.heap.size, 1, none⟩) y3x0).trans q1, (hb4.cell (p := ⟨w.heap.size, 2, none⟩) y3x0).trans q2, (hb4.cell (p := ⟨w.heap.size, 3, none⟩) y3x0).trans q3, (hb4.cell (p := ⟨w.heap.size, 4, none⟩) y3x0).trans q4, (hb4.cell (p := ⟨w.heap.size, 5, none⟩) y3x0).trans q5, (hb4.cell (p := ⟨w.heap.size, 6, none⟩) y3x0).trans q6, (hb4.cell (p := ⟨w.heap.size, 7, none⟩) y3x0).trans q7, (hb4.cell (p := ⟨w.heap.size + 1, 0, none⟩) y3x1).trans q8, (hb4.cell (p := ⟨w.heap.size + 1, 1, none⟩) y3x1).trans q9, (hb4.cell (p := ⟨w.heap.size + 1 + 1, 0, none⟩) y3x2).trans q10, (hb4.cell (p := ⟨w.heap.size + 1 + 1, 1, none⟩) y3x2).trans q11, (hb4.cell (p := ⟨w.heap.size + 1 + 1, 2, none⟩) y3x2).trans q12, (hb4.cell (p := ⟨w2.heap.size, 0, none⟩) y3x3).trans q13, (hb4.cell (p := ⟨w2.heap.size, 1, none⟩) y3x3).trans q14⟩)) (first | (go_at_call 15; refine (HR.out _).mono ?_; rintro e w4 ⟨rfl, hb4⟩; have z4 := hb4.size; (try simp at z4)))
  go_wp2
  go_ret
  have h1 : Below w.heap.size w w1 := (below3 w _ _ _).trans (hb1.mono (by simp <;> omega))
  have h2 : Below w.heap.size w w2 := h1.trans (hb2.mono (by omega))
  have h3 : Below w.heap.size w w3 := (h2.alloc (by omega) _).trans (hb3.mono (by simp <;> omega))
  exact ⟨rfl, h3.drew.trans (hb4.mono (show w.heap.size ≤ w3.heap.size by omega))⟩

set_option maxHeartbeats 2000000 in
theorem linkSteps_err (c : Cfg) (h : c.code ≠ 0) (V d : Int) (b dead broken : Bool) (w : World) :
    Calls Try.prog 3 #[.agg #[.int .i64 c.num, .int .i64 c.den, .int .i64 c.supply, .int .i64 c.feed, .int .i64 c.ohm, .int .i64 c.on, .int .i64 c.off, .int .i64 c.bohm], .agg #[.int .i64 V, .bool b], .agg #[.int .i64 d, .bool dead, .bool broken]] w
      fun e w' => e = .returned (.bool true) ∧ Below w.heap.size w w' := by
  have HS := hide (step_err c h V d b dead broken)
  have HC : Hid (∀ W, Calls Try.prog 13 #[cfgV c] W fun e w' => e = .returned (.int .i64 c.code) ∧ Below W.heap.size W w') := fun W => rcheck_any c W
  have hne : (c.code == 0) = false := by simpa using h
  have hne' : (c.code != 0) = true := by simpa using h
  clear h
  go_enter Try.func3, Try.ntmps3
  go_wp2_with (first
    | (go_at_call 11; refine (awake_any _).mono ?_; rintro e w1 ⟨rfl, hb1⟩; have z1 := hb1.size; (try simp at z1); have c1x0 := bstep (b := w.heap.size) hb1 (by first | omega | (simp <;> omega)); have y1x0 : w.heap.size < w1.heap.size := (by omega); have c1x1 := bstep (b := w.heap.size + 1) hb1 (by first | omega | (simp <;> omega)); have y1x1 : w.heap.size + 1 < w1.heap.size := (by omega); have c1x2 := bstep (b := w.heap.size + 1 + 1) hb1 (by first | omega | (simp <;> omega)); have y1x2 : w.heap.size + 1 + 1 < w1.heap.size := (by omega))
    | (go_at_call 12; refine (HS.out _).mono ?_; rintro e w2 ⟨rfl, hb2⟩; have z2 := hb2.size; (try simp at z2); have c2x0 := bstep (b := w.heap.size) hb2 (by first | omega | (simp <;> omega)); have y2x0 : w.heap.size < w2.heap.size := (by omega); have c2x1 := bstep (b := w.heap.size + 1) hb2 (by first | omega | (simp <;> omega)); have y2x1 : w.heap.size + 1 < w2.heap.size := (by omega); have c2x2 := bstep (b := w.heap.size + 1 + 1) hb2 (by first | omega | (simp <;> omega)); have y2x2 : w.heap.size + 1 + 1 < w2.heap.size := (by omega))
    | (go_at_call 13; refine (HC.out _).mono ?_; rintro e w3 ⟨rfl, hb3⟩; have z3 := hb3.size; (try simp at z3); have c3x0 := bstep (b := w.heap.size) hb3 (by first | omega | (simp <;> omega)); have y3x0 : w.heap.size < w3.heap.size := (by omega); have c3x1 := bstep (b := w.heap.size + 1) hb3 (by first | omega | (simp <;> omega)); have y3x1 : w.heap.size + 1 < w3.heap.size := (by omega); have c3x2 := bstep (b := w.heap.size + 1 + 1) hb3 (by first | omega | (simp <;> omega)); have y3x2 : w.heap.size + 1 + 1 < w3.heap.size := (by omega); have c3x3 := bstep (b := w2.heap.size) hb3 (by first | omega | (simp <;> omega)); have y3x3 : w2.heap.size < w3.heap.size := (by omega))
    | (go_at_call 14; refine (num_err _ _).mono ?_; rintro e w9 ⟨rfl, rfl⟩))
  go_ret
  have h1 : Below w.heap.size w w1 := (below3 w _ _ _).trans (hb1.mono (by simp <;> omega))
  have h2 : Below w.heap.size w w2 := h1.trans (hb2.mono (by omega))
  exact ⟨rfl, (h2.alloc (by omega) _).trans (hb3.mono (by simp <;> omega))⟩

theorem linkSteps_walk (c : Cfg) (V d : Int) (b dead broken : Bool) (w : World) :
    Calls Try.prog 3 #[.agg #[.int .i64 c.num, .int .i64 c.den, .int .i64 c.supply, .int .i64 c.feed, .int .i64 c.ohm, .int .i64 c.on, .int .i64 c.off, .int .i64 c.bohm], .agg #[.int .i64 V, .bool b], .agg #[.int .i64 d, .bool dead, .bool broken]] w
      fun e w' => e = .returned (.bool true) ∧ Below w.heap.size w w' := by
  by_cases h : c.code = 0
  · exact linkSteps_ok c (Cfg.ok_of_code h) V d b dead broken w
  · exact linkSteps_err c h V d b dead broken w

set_option maxRecDepth 100000 in
theorem linkSteps_lifted (os : Os) (started : os.Started) (H : Type) (enc : TypeId × Value → H) :
    ReturnsInHanded {} Try.checked os 3 .any (Rows.linkStepsSpec.pre6 enc Try.prog Try.f3 Rows.linkStepsRow.domain false) (Rows.linkStepsSpec.post enc Try.prog Try.f3 false true false false) := by
  refine lift (C := Try.checked) (s := Rows.linkStepsSpec) 4 Try.own started (by kernel_rfl) Try.func3 Try.laidOut rfl rfl Try.underlying4 (by kernel_rfl)
    (fun ds hds => by
      have hl : ds.length = 3 := hds
      match ds, hl with
      | [_, _, _], _ => rfl)
    (ChangeSpec.witness6 (enc := enc) (C := Try.checked) false ⟨#[], #[.agg #[.int .i64 0, .int .i64 0, .int .i64 0, .int .i64 0, .int .i64 0, .int .i64 0, .int .i64 0, .int .i64 0], .agg #[.int .i64 0, .bool false], .agg #[.int .i64 0, .bool false, .bool false]], []⟩ 8 (by kernel_rfl) (by kernel_rfl) (by kernel_rfl) (by kernel_rfl)) ?_
  intro W base args ds p hval0 hA0
  have hval : ∀ (j : Nat) t v, Try.f3.params[j]? = some t → args[j]? = some v → Value.okWide Try.prog W .any base t v := hval0
  have hA : DataW.TrodAll enc Try.prog W 0 (fun _ => true) true Try.f3.params.toList args.toList ds p := hA0
  clear hval0 hA0
  rw [Try.params3] at hA hval
  obtain ⟨v0, vs0, d0, ds0, p0, q0, hargs, rfl, rfl, h0, r0⟩ := trodAll_cons hA
  obtain ⟨v1, vs1, d1, ds1, p1, q1, rfl, rfl, rfl, h1, r1⟩ := trodAll_cons r0
  obtain ⟨v2, vs2, d2, ds2, p2, q2, rfl, rfl, rfl, h2, r2⟩ := trodAll_cons r1
  obtain ⟨rfl, rfl, rfl⟩ := trodAll_nil r2
  obtain rfl : args = #[v0, v1, v2] := by cases args; simp_all
  obtain ⟨l0, rfl, g0⟩ := arg_struct 4 Try.underlying23 (ks := [some .i64, some .i64, some .i64, some .i64, some .i64, some .i64, some .i64, some .i64]) (by kernel_rfl) (hval 0 23 v0 rfl rfl) h0
  obtain ⟨_, _, rfl, ⟨a0, rfl, wa0⟩, g0x0⟩ := g0
  obtain ⟨_, _, rfl, ⟨a1, rfl, wa1⟩, g0x1⟩ := g0x0
  obtain ⟨_, _, rfl, ⟨a2, rfl, wa2⟩, g0x2⟩ := g0x1
  obtain ⟨_, _, rfl, ⟨a3, rfl, wa3⟩, g0x3⟩ := g0x2
  obtain ⟨_, _, rfl, ⟨a4, rfl, wa4⟩, g0x4⟩ := g0x3
  obtain ⟨_, _, rfl, ⟨a5, rfl, wa5⟩, g0x5⟩ := g0x4
  obtain ⟨_, _, rfl, ⟨a6, rfl, wa6⟩, g0x6⟩ := g0x5
  obtain ⟨_, _, rfl, ⟨a7, rfl, wa7⟩, g0x7⟩ := g0x6
  simp only [Fits] at g0x7
  subst g0x7
  obtain ⟨l1, rfl, g1⟩ := arg_struct 4 Try.underlying25 (ks := [some .i64, none]) (by kernel_rfl) (hval 1 25 v1 rfl rfl) h1
  obtain ⟨_, _, rfl, ⟨s0, rfl, ws0⟩, g1x0⟩ := g1
  obtain ⟨_, _, rfl, ⟨s1, rfl⟩, g1x1⟩ := g1x0
  simp only [Fits] at g1x1
  subst g1x1
  obtain ⟨l2, rfl, g2⟩ := arg_struct 4 Try.underlying27 (ks := [some .i64, none, none]) (by kernel_rfl) (hval 2 27 v2 rfl rfl) h2
  obtain ⟨_, _, rfl, ⟨x0, rfl, wx0⟩, g2x0⟩ := g2
  obtain ⟨_, _, rfl, ⟨x1, rfl⟩, g2x1⟩ := g2x0
  obtain ⟨_, _, rfl, ⟨x2, rfl⟩, g2x2⟩ := g2x1
  simp only [Fits] at g2x2
  subst g2x2
  exact linkSteps_walk ⟨a0, a1, a2, a3, a4, a5, a6, a7⟩ s0 x0 s1 x1 x2 W

theorem linkSteps_over : Rows.linkStepsRow.holds Try.pinned (OpenSpec.ofChange Rows.linkStepsSpec) :=
  OpenClaim.holds_of_wide 3 Try.f3 rfl rfl rfl rfl rfl rfl rfl ⟨rfl, rfl, rfl, rfl, rfl⟩ rfl rfl rfl rfl rfl (by kernel_rfl) Try.func3 (by kernel_rfl)
    (of_decide_eq_true (by kernel_rfl)) (by unfold Func.isWrapper; first | (rw [if_pos (by decide +kernel)]; kernel_rfl) | (rw [if_neg (by decide +kernel)]; exact ⟨rfl, rfl⟩))
    (fun os started H enc _ => linkSteps_lifted os started H enc)

theorem linkSteps_holds : Rows.LinkStepsSaid := linkSteps_over
#print axioms linkSteps_holds
end Go.Proofs.Ytahhebeceehbeaa

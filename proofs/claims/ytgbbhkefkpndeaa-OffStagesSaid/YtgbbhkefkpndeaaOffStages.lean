/- OffStages holds: Stage returns the state of the gate stage after a tick, for any state, or the error of the configuration. No condition. -/
import Derived.Test.YtgbbhkefkpndeaaRows
import Derived.Test.YtgbbhkefkpndeaaFlat
import Derived.Test.YtgbbhkefkpndeaaOffI
import Derived.Deep.RegionHeld3
namespace Go.Proofs.Ytgbbhkefkpndeaa
open Go.RowKit OM Flat Go.ChangeShapes

set_option maxHeartbeats 4000000 in
set_option maxRecDepth 100000 in
theorem offStages_err (c : Cf) (h : ¬ c.Rng) (s : Sg) (k0 k1 : Bool) (w : World) :
    Calls Try.prog 6 #[.agg #[.int .i64 c.every, .int .i64 c.length, .int .i64 c.apart], .agg #[.int .i64 s.for0, .int .i64 s.for1, .bool s.off], .agg #[.bool k0, .bool k1]] w fun e w' => e = .returned (.bool true) ∧ Below w.heap.size w w' := by
  have HS := hide (stage_err c h s.for0 s.for1 s.off k0 k1)
  have HC := hide (rcheck_err c h)
  clear h
  go_enter Try.func6, Try.ntmps6
  go_wp2_with (first
    | (go_at_call 11; refine (awake_any _).mono ?_; rintro e w1 ⟨rfl, hb1⟩; have z1 := hb1.size; (try simp at z1); have c1x0 := bstep (b := w.heap.size) hb1 (by first | omega | (simp <;> omega)); have y1x0 : w.heap.size < w1.heap.size := (by omega); have c1x1 := bstep (b := w.heap.size + 1) hb1 (by first | omega | (simp <;> omega)); have y1x1 : w.heap.size + 1 < w1.heap.size := (by omega); have c1x2 := bstep (b := w.heap.size + 1 + 1) hb1 (by first | omega | (simp <;> omega)); have y1x2 : w.heap.size + 1 + 1 < w1.heap.size := (by omega))
    | (go_at_call 21; refine (HS.out _).mono ?_; rintro e w2 ⟨rfl, hb2⟩; have z2 := hb2.size; (try simp at z2); have c2x0 := bstep (b := w.heap.size) hb2 (by first | omega | (simp <;> omega)); have y2x0 : w.heap.size < w2.heap.size := (by omega); have c2x1 := bstep (b := w.heap.size + 1) hb2 (by first | omega | (simp <;> omega)); have y2x1 : w.heap.size + 1 < w2.heap.size := (by omega); have c2x2 := bstep (b := w.heap.size + 1 + 1) hb2 (by first | omega | (simp <;> omega)); have y2x2 : w.heap.size + 1 + 1 < w2.heap.size := (by omega))
    | (go_at_call 12; refine (HC.out _).mono ?_; rintro e w3 ⟨rfl, hb3⟩; have z3 := hb3.size; (try simp at z3); have c3x0 := bstep (b := w.heap.size) hb3 (by first | omega | (simp <;> omega)); have y3x0 : w.heap.size < w3.heap.size := (by omega); have c3x1 := bstep (b := w.heap.size + 1) hb3 (by first | omega | (simp <;> omega)); have y3x1 : w.heap.size + 1 < w3.heap.size := (by omega); have c3x2 := bstep (b := w.heap.size + 1 + 1) hb3 (by first | omega | (simp <;> omega)); have y3x2 : w.heap.size + 1 + 1 < w3.heap.size := (by omega); have c3x3 := bstep (b := w2.heap.size) hb3 (by first | omega | (simp <;> omega)); have y3x3 : w2.heap.size < w3.heap.size := (by omega))
    | (go_at_call 14; first | (with_reducible refine (num_nil _).mono ?_; rintro e w9 ⟨rfl, rfl⟩) | (with_reducible refine (num_err _ _).mono ?_; rintro e w9 ⟨rfl, rfl⟩)))
  go_ret
  have H1 : Below w.heap.size w w1 := ((((Below.refl _ _).alloc (Nat.le_refl _) _).alloc (by first | omega | (simp <;> omega)) _).alloc (by first | omega | (simp <;> omega)) _).trans (hb1.mono (by first | omega | (simp <;> omega)))
  have H2 : Below w.heap.size w w2 := H1.trans (hb2.mono (by first | omega | (simp <;> omega)))
  have H3 : Below w.heap.size w w3 := (H2.alloc (by first | omega | (simp <;> omega)) _).trans (hb3.mono (by first | omega | (simp <;> omega)))
  exact ⟨rfl, H3⟩

set_option maxHeartbeats 8000000 in
set_option maxRecDepth 100000 in
theorem offStages_ok (c : Cf) (h : c.Rng) (s : Sg) (k0 k1 : Bool) (w : World) :
    Calls Try.prog 6 #[.agg #[.int .i64 c.every, .int .i64 c.length, .int .i64 c.apart], .agg #[.int .i64 s.for0, .int .i64 s.for1, .bool s.off], .agg #[.bool k0, .bool k1]] w fun e w' => e = .returned (.bool true) ∧ Below w.heap.size w w' := by
  have HS := fun W => stage_ok c h s k0 k1 W
  have HR := fun W => rstage_ok c h s k0 k1 W
  generalize OM.stage c s k0 k1 = X at HS HR
  have HS := hide HS
  have HR := hide HR
  have HC := hide (rcheck_ok c h)
  clear h
  go_enter Try.func6, Try.ntmps6
  go_wp2_with (first
    | (go_at_call 11; refine (awake_any _).mono ?_; rintro e w1 ⟨rfl, hb1⟩; have z1 := hb1.size; (try simp at z1); have c1x0 := bstep (b := w.heap.size) hb1 (by first | omega | (simp <;> omega)); have y1x0 : w.heap.size < w1.heap.size := (by omega); have c1x1 := bstep (b := w.heap.size + 1) hb1 (by first | omega | (simp <;> omega)); have y1x1 : w.heap.size + 1 < w1.heap.size := (by omega); have c1x2 := bstep (b := w.heap.size + 1 + 1) hb1 (by first | omega | (simp <;> omega)); have y1x2 : w.heap.size + 1 + 1 < w1.heap.size := (by omega))
    | (go_at_call 21; refine (HS.out _).mono ?_; rintro e w2 ⟨rfl, hb2⟩; have z2 := hb2.size; (try simp at z2); have c2x0 := bstep (b := w.heap.size) hb2 (by first | omega | (simp <;> omega)); have y2x0 : w.heap.size < w2.heap.size := (by omega); have c2x1 := bstep (b := w.heap.size + 1) hb2 (by first | omega | (simp <;> omega)); have y2x1 : w.heap.size + 1 < w2.heap.size := (by omega); have c2x2 := bstep (b := w.heap.size + 1 + 1) hb2 (by first | omega | (simp <;> omega)); have y2x2 : w.heap.size + 1 + 1 < w2.heap.size := (by omega))
    | (go_at_call 12; refine (HC.out _).mono ?_; rintro e w3 ⟨rfl, hb3⟩; have z3 := hb3.size; (try simp at z3); have c3x0 := bstep (b := w.heap.size) hb3 (by first | omega | (simp <;> omega)); have y3x0 : w.heap.size < w3.heap.size := (by omega); have c3x1 := bstep (b := w.heap.size + 1) hb3 (by first | omega | (simp <;> omega)); have y3x1 : w.heap.size + 1 < w3.heap.size := (by omega); have c3x2 := bstep (b := w.heap.size + 1 + 1) hb3 (by first | omega | (simp <;> omega)); have y3x2 : w.heap.size + 1 + 1 < w3.heap.size := (by omega); have c3x3 := bstep (b := w2.heap.size) hb3 (by first | omega | (simp <;> omega)); have y3x3 : w2.heap.size < w3.heap.size := (by omega)))
  have q0 : w3.cell? ⟨w.heap.size, 0, none⟩ = some (.int .i64 c.every) := by go_simp
  have q1 : w3.cell? ⟨w.heap.size, 1, none⟩ = some (.int .i64 c.length) := by go_simp
  have q2 : w3.cell? ⟨w.heap.size, 2, none⟩ = some (.int .i64 c.apart) := by go_simp
  have q3 : w3.cell? ⟨w.heap.size + 1, 0, none⟩ = some (.int .i64 s.for0) := by go_simp
  have q4 : w3.cell? ⟨w.heap.size + 1, 1, none⟩ = some (.int .i64 s.for1) := by go_simp
  have q5 : w3.cell? ⟨w.heap.size + 1, 2, none⟩ = some (.bool s.off) := by go_simp
  have q6 : w3.cell? ⟨w.heap.size + 1 + 1, 0, none⟩ = some (.bool k0) := by go_simp
  have q7 : w3.cell? ⟨w.heap.size + 1 + 1, 1, none⟩ = some (.bool k1) := by go_simp
  have q8 : w3.cell? ⟨w2.heap.size, 0, none⟩ = some (.int .i64 X.for0) := by go_simp
  have q9 : w3.cell? ⟨w2.heap.size, 1, none⟩ = some (.int .i64 X.for1) := by go_simp
  have q10 : w3.cell? ⟨w2.heap.size, 2, none⟩ = some (.bool X.off) := by go_simp
  go_region_held3 (fun w' => w'.cell? ⟨w.heap.size, 0, none⟩ = some (.int .i64 c.every) ∧ w'.cell? ⟨w.heap.size, 1, none⟩ = some (.int .i64 c.length) ∧ w'.cell? ⟨w.heap.size, 2, none⟩ = some (.int .i64 c.apart) ∧ w'.cell? ⟨w.heap.size + 1, 0, none⟩ = some (.int .i64 s.for0) ∧ w'.cell? ⟨w.heap.size + 1, 1, none⟩ = some (.int .i64 s.for1) ∧ w'.cell? ⟨w.heap.size + 1, 2, none⟩ = some (.bool s.off) ∧ w'.cell? ⟨w.heap.size + 1 + 1, 0, none⟩ = some (.bool k0) ∧ w'.cell? ⟨w.heap.size + 1 + 1, 1, none⟩ = some (.bool k1) ∧ w'.cell? ⟨w2.heap.size, 0, none⟩ = some (.int .i64 X.for0) ∧ w'.cell? ⟨w2.heap.size, 1, none⟩ = some (.int .i64 X.for1) ∧ w'.cell? ⟨w2.heap.size, 2, none⟩ = some (.bool X.off)) ((first | exact ⟨q0, q1, q2, q3, q4, q5, q6, q7, q8, q9, q10⟩ | exact ⟨(hb4.cell (p := ⟨w.heap.size, 0, none⟩) y3x0).trans q0, (hb4.cell (p := ⟨w.heap.size, 1, none⟩) y3x0).trans q1, (hb4.cell (p := ⟨w.heap.size, 2, none⟩) y3x0).trans q2, (hb4.cell (p := ⟨w.heap.size + 1, 0, none⟩) y3x1).trans q3, (hb4.cell (p := ⟨w.heap.size + 1, 1, none⟩) y3x1).trans q4, (hb4.cell (p := ⟨w.heap.size + 1, 2, none⟩) y3x1).trans q5, (hb4.cell (p := ⟨w.heap.size + 1 + 1, 0, none⟩) y3x2).trans q6, (hb4.cell (p := ⟨w.heap.size + 1 + 1, 1, none⟩) y3x2).trans q7, (hb4.cell (p := ⟨w2.heap.size, 0, none⟩) y3x3).trans q8, (hb4.cell (p := ⟨w2.heap.size, 1, none⟩) y3x3).trans q9, (hb4.cell (p := ⟨w2.heap.size, 2, none⟩) y3x3).trans q10⟩)) (first | (go_at_call 22; refine (HR.out _).mono ?_; rintro e w4 ⟨rfl, hb4⟩; have z4 := hb4.size; (try simp at z4)))
  all_goals go_wp2
  all_goals go_ret
  have H1 : Below w.heap.size w w1 := ((((Below.refl _ _).alloc (Nat.le_refl _) _).alloc (by first | omega | (simp <;> omega)) _).alloc (by first | omega | (simp <;> omega)) _).trans (hb1.mono (by first | omega | (simp <;> omega)))
  have H2 : Below w.heap.size w w2 := H1.trans (hb2.mono (by first | omega | (simp <;> omega)))
  have H3 : Below w.heap.size w w3 := (H2.alloc (by first | omega | (simp <;> omega)) _).trans (hb3.mono (by first | omega | (simp <;> omega)))
  exact ⟨rfl, H3.drew.trans (hb4.mono (show w.heap.size ≤ w3.heap.size by omega))⟩

theorem offStages_walk (c : Cf) (s : Sg) (k0 k1 : Bool) (w : World) :
    Calls Try.prog 6 #[.agg #[.int .i64 c.every, .int .i64 c.length, .int .i64 c.apart], .agg #[.int .i64 s.for0, .int .i64 s.for1, .bool s.off], .agg #[.bool k0, .bool k1]] w fun e w' => e = .returned (.bool true) ∧ Below w.heap.size w w' := by
  by_cases h : c.Rng
  · exact offStages_ok c h s k0 k1 w
  · exact offStages_err c h s k0 k1 w

set_option maxRecDepth 100000 in
theorem offStages_lifted (os : Os) (started : os.Started) (H : Type) (enc : TypeId × Value → H) :
    ReturnsInHanded {} Try.checked os 6 .any (Rows.offStagesSpec.pre6 enc Try.prog Try.f6 Rows.offStagesRow.domain false) (Rows.offStagesSpec.post enc Try.prog Try.f6 false true false false) := by
  refine lift (C := Try.checked) (s := Rows.offStagesSpec) 4 Try.own started (by kernel_rfl) Try.func6 Try.laidOut rfl rfl Try.underlying4 (by kernel_rfl)
    (fun ds hds => by
      have hl : ds.length = 3 := hds
      match ds, hl with
      | [_, _, _], _ => rfl)
    (ChangeSpec.witness6 (enc := enc) (C := Try.checked) false ⟨#[], #[.agg #[.int .i64 0, .int .i64 0, .int .i64 0], .agg #[.int .i64 0, .int .i64 0, .bool false], .agg #[.bool false, .bool false]], []⟩ 8 (by kernel_rfl) (by kernel_rfl) (by kernel_rfl) (by kernel_rfl)) ?_
  intro W base args ds p hval0 hA0
  have hval : ∀ (j : Nat) t v, Try.f6.params[j]? = some t → args[j]? = some v → Value.okWide Try.prog W .any base t v := hval0
  have hA : DataW.TrodAll enc Try.prog W 0 (fun _ => true) true Try.f6.params.toList args.toList ds p := hA0
  clear hval0 hA0
  rw [Try.params6] at hA hval
  obtain ⟨v0, vs0, d0, ds0, p0, q0, hargs, rfl, rfl, h0, r0⟩ := trodAll_cons hA
  obtain ⟨v1, vs1, d1, ds1, p1, q1, rfl, rfl, rfl, h1, r1⟩ := trodAll_cons r0
  obtain ⟨v2, vs2, d2, ds2, p2, q2, rfl, rfl, rfl, h2, r2⟩ := trodAll_cons r1
  obtain ⟨rfl, rfl, rfl⟩ := trodAll_nil r2
  obtain rfl : args = #[v0, v1, v2] := by cases args; simp_all
  obtain ⟨l0, rfl, g0⟩ := arg_struct 4 Try.underlying23 (ks := [some .i64, some .i64, some .i64]) (by kernel_rfl) (hval 0 23 v0 rfl rfl) h0
  obtain ⟨_, _, rfl, ⟨a0, rfl, wa0⟩, g0x0⟩ := g0
  obtain ⟨_, _, rfl, ⟨a1, rfl, wa1⟩, g0x1⟩ := g0x0
  obtain ⟨_, _, rfl, ⟨a2, rfl, wa2⟩, g0x2⟩ := g0x1
  simp only [Fits] at g0x2
  subst g0x2
  obtain ⟨l1, rfl, g1⟩ := arg_struct 4 Try.underlying45 (ks := [some .i64, some .i64, none]) (by kernel_rfl) (hval 1 45 v1 rfl rfl) h1
  obtain ⟨_, _, rfl, ⟨s0, rfl, ws0⟩, g1x0⟩ := g1
  obtain ⟨_, _, rfl, ⟨s1, rfl, ws1⟩, g1x1⟩ := g1x0
  obtain ⟨_, _, rfl, ⟨s2, rfl⟩, g1x2⟩ := g1x1
  simp only [Fits] at g1x2
  subst g1x2
  obtain ⟨l2, rfl, g2⟩ := arg_array 4 Try.underlying27 (ks := [none, none]) (by kernel_rfl) (hval 2 27 v2 rfl rfl) h2
  obtain ⟨_, _, rfl, ⟨x0, rfl⟩, g2x0⟩ := g2
  obtain ⟨_, _, rfl, ⟨x1, rfl⟩, g2x1⟩ := g2x0
  simp only [Fits] at g2x1
  subst g2x1
  exact offStages_walk ⟨a0, a1, a2⟩ ⟨s0, s1, s2⟩ x0 x1 W

theorem offStages_over : Rows.offStagesRow.holds Try.pinned (OpenSpec.ofChange Rows.offStagesSpec) :=
  OpenClaim.holds_of_wide 6 Try.f6 rfl rfl rfl rfl rfl rfl rfl ⟨rfl, rfl, rfl, rfl, rfl⟩ rfl rfl rfl rfl rfl (by kernel_rfl) Try.func6 (by kernel_rfl)
    (of_decide_eq_true (by kernel_rfl)) (by unfold Func.isWrapper; first | (rw [if_pos (by decide +kernel)]; kernel_rfl) | (rw [if_neg (by decide +kernel)]; exact ⟨rfl, rfl⟩))
    (fun os started H enc _ => offStages_lifted os started H enc)

theorem offStages_holds : Rows.OffStagesSaid := offStages_over
#print axioms offStages_holds
end Go.Proofs.Ytgbbhkefkpndeaa

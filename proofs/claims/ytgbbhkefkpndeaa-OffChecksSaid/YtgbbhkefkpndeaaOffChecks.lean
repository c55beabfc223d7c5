/- OffChecks holds: Check accepts exactly the configurations of the specified form; Start returns the state at the beginning, or the same error. No condition. -/
import Derived.Test.YtgbbhkefkpndeaaRows
import Derived.Test.YtgbbhkefkpndeaaFlat
import Derived.Test.YtgbbhkefkpndeaaOffE
import Derived.Deep.RegionHeld3
namespace Go.Proofs.Ytgbbhkefkpndeaa
open Go.RowKit OM Flat Go.ChangeShapes

set_option maxHeartbeats 4000000 in
theorem offChecks_ok (c : Cf) (h : c.Rng) (w : World) :
    Calls Try.prog 3 #[.agg #[.int .i64 c.every, .int .i64 c.length, .int .i64 c.apart]] w fun e w' => e = .returned (.bool true) ∧ Below w.heap.size w w' := by
  have HS := hide (start_ok c h)
  have HK := hide (check_ok c h)
  have HC := hide (rcheck_ok c h)
  have HR := hide (rstart_any c h)
  clear h
  go_enter Try.func3, Try.ntmps3
  go_wp2_with (first
    | (go_at_call 11; refine (awake_any _).mono ?_; rintro e w1 ⟨rfl, hb1⟩; have z1 := hb1.size; (try simp at z1); have c1x0 := bstep (b := w.heap.size) hb1 (by first | omega | (simp <;> omega)); have y1x0 : w.heap.size < w1.heap.size := (by omega))
    | (go_at_call 12; refine (HC.out _).mono ?_; rintro e w2 ⟨rfl, hb2⟩; have z2 := hb2.size; (try simp at z2); have c2x0 := bstep (b := w.heap.size) hb2 (by first | omega | (simp <;> omega)); have y2x0 : w.heap.size < w2.heap.size := (by omega))
    | (go_at_call 13; refine (HS.out _).mono ?_; rintro e w3 ⟨rfl, hb3⟩; have z3 := hb3.size; (try simp at z3); have c3x0 := bstep (b := w.heap.size) hb3 (by first | omega | (simp <;> omega)); have y3x0 : w.heap.size < w3.heap.size := (by omega))
    | (go_at_call 15; refine (HK.out _).mono ?_; rintro e w4 ⟨rfl, hb4⟩; have z4 := hb4.size; (try simp at z4); have c4x0 := bstep (b := w.heap.size) hb4 (by first | omega | (simp <;> omega)); have y4x0 : w.heap.size < w4.heap.size := (by omega); have c4x1 := bstep (b := w3.heap.size) hb4 (by first | omega | (simp <;> omega)); have y4x1 : w3.heap.size < w4.heap.size := (by omega))
    | (go_at_call 14; first | (with_reducible refine (num_nil _).mono ?_; rintro e w9 ⟨rfl, rfl⟩) | (with_reducible refine (num_err _ _).mono ?_; rintro e w9 ⟨rfl, rfl⟩))
    | (go_at_call 16; refine (HR.out _).mono ?_; rintro e w5 ⟨rfl, hb5⟩; have z5 := hb5.size; (try simp at z5); have c5x0 := bstep (b := w.heap.size) hb5 (by first | omega | (simp <;> omega)); have y5x0 : w.heap.size < w5.heap.size := (by omega); have c5x1 := bstep (b := w3.heap.size) hb5 (by first | omega | (simp <;> omega)); have y5x1 : w3.heap.size < w5.heap.size := (by omega)))
  have q0 : w4.cell? ⟨w.heap.size, 0, none⟩ = some (.int .i64 c.every) := by go_simp
  have q1 : w4.cell? ⟨w.heap.size, 1, none⟩ = some (.int .i64 c.length) := by go_simp
  have q2 : w4.cell? ⟨w.heap.size, 2, none⟩ = some (.int .i64 c.apart) := by go_simp
  have q3 : w4.cell? ⟨w3.heap.size, 0, none⟩ = some (.int .i64 0) := by go_simp
  have q4 : w4.cell? ⟨w3.heap.size, 1, none⟩ = some (.int .i64 0) := by go_simp
  have q5 : w4.cell? ⟨w3.heap.size, 2, none⟩ = some (.int .i64 (c.length + 1)) := by go_simp
  have q6 : w4.cell? ⟨w3.heap.size, 3, none⟩ = some (.int .i64 (c.length + 1)) := by go_simp
  have q7 : w4.cell? ⟨w3.heap.size, 4, none⟩ = some (.bool false) := by go_simp
  have q8 : w4.cell? ⟨w3.heap.size, 5, none⟩ = some (.bool false) := by go_simp
  have q9 : w4.cell? ⟨w3.heap.size, 6, none⟩ = some (.bool false) := by go_simp
  go_region_held3 (fun w' => w'.cell? ⟨w.heap.size, 0, none⟩ = some (.int .i64 c.every) ∧ w'.cell? ⟨w.heap.size, 1, none⟩ = some (.int .i64 c.length) ∧ w'.cell? ⟨w.heap.size, 2, none⟩ = some (.int .i64 c.apart) ∧ w'.cell? ⟨w3.heap.size, 0, none⟩ = some (.int .i64 0) ∧ w'.cell? ⟨w3.heap.size, 1, none⟩ = some (.int .i64 0) ∧ w'.cell? ⟨w3.heap.size, 2, none⟩ = some (.int .i64 (c.length + 1)) ∧ w'.cell? ⟨w3.heap.size, 3, none⟩ = some (.int .i64 (c.length + 1)) ∧ w'.cell? ⟨w3.heap.size, 4, none⟩ = some (.bool false) ∧ w'.cell? ⟨w3.heap.size, 5, none⟩ = some (.bool false) ∧ w'.cell? ⟨w3.heap.size, 6, none⟩ = some (.bool false)) ((first | exact ⟨q0, q1, q2, q3, q4, q5, q6, q7, q8, q9⟩ | exact ⟨(hb5.cell (p := ⟨w.heap.size, 0, none⟩) y4x0).trans q0, (hb5.cell (p := ⟨w.heap.size, 1, none⟩) y4x0).trans q1, (hb5.cell (p := ⟨w.heap.size, 2, none⟩) y4x0).trans q2, (hb5.cell (p := ⟨w3.heap.size, 0, none⟩) y4x1).trans q3, (hb5.cell (p := ⟨w3.heap.size, 1, none⟩) y4x1).trans q4, (hb5.cell (p := ⟨w3.heap.size, 2, none⟩) y4x1).trans q5, (hb5.cell (p := ⟨w3.heap.size, 3, none⟩) y4x1).trans q6, (hb5.cell (p := ⟨w3.heap.size, 4, none⟩) y4x1).trans q7, (hb5.cell (p := ⟨w3.heap.size, 5, none⟩) y4x1).trans q8, (hb5.cell (p := ⟨w3.heap.size, 6, none⟩) y4x1).trans q9⟩)) (first | (go_at_call 16; refine (HR.out _).mono ?_; rintro e w5 ⟨rfl, hb5⟩; have z5 := hb5.size; (try simp at z5)))
  all_goals go_wp2
  all_goals go_ret
  have H1 : Below w.heap.size w w1 := ((Below.refl _ _).alloc (Nat.le_refl _) _).trans (hb1.mono (by first | omega | (simp <;> omega)))
  have H2 : Below w.heap.size w w2 := H1.trans (hb2.mono (by first | omega | (simp <;> omega)))
  have H3 : Below w.heap.size w w3 := H2.trans (hb3.mono (by first | omega | (simp <;> omega)))
  have H4 : Below w.heap.size w w4 := (H3.alloc (by first | omega | (simp <;> omega)) _).trans (hb4.mono (by first | omega | (simp <;> omega)))
  exact ⟨rfl, H4.drew.trans (hb5.mono (show w.heap.size ≤ w4.heap.size by omega))⟩

set_option maxHeartbeats 4000000 in
theorem offChecks_err (c : Cf) (h : ¬ c.Rng) (w : World) :
    Calls Try.prog 3 #[.agg #[.int .i64 c.every, .int .i64 c.length, .int .i64 c.apart]] w fun e w' => e = .returned (.bool true) ∧ Below w.heap.size w w' := by
  have HS := hide (start_err c h)
  have HK := hide (check_err c h)
  have HC := hide (rcheck_err c h)
  clear h
  go_enter Try.func3, Try.ntmps3
  go_wp2_with (first
    | (go_at_call 11; refine (awake_any _).mono ?_; rintro e w1 ⟨rfl, hb1⟩; have z1 := hb1.size; (try simp at z1); have c1x0 := bstep (b := w.heap.size) hb1 (by first | omega | (simp <;> omega)); have y1x0 : w.heap.size < w1.heap.size := (by omega))
    | (go_at_call 12; refine (HC.out _).mono ?_; rintro e w2 ⟨rfl, hb2⟩; have z2 := hb2.size; (try simp at z2); have c2x0 := bstep (b := w.heap.size) hb2 (by first | omega | (simp <;> omega)); have y2x0 : w.heap.size < w2.heap.size := (by omega))
    | (go_at_call 13; refine (HS.out _).mono ?_; rintro e w3 ⟨rfl, hb3⟩; have z3 := hb3.size; (try simp at z3); have c3x0 := bstep (b := w.heap.size) hb3 (by first | omega | (simp <;> omega)); have y3x0 : w.heap.size < w3.heap.size := (by omega))
    | (go_at_call 15; refine (HK.out _).mono ?_; rintro e w4 ⟨rfl, hb4⟩; have z4 := hb4.size; (try simp at z4); have c4x0 := bstep (b := w.heap.size) hb4 (by first | omega | (simp <;> omega)); have y4x0 : w.heap.size < w4.heap.size := (by omega); have c4x1 := bstep (b := w3.heap.size) hb4 (by first | omega | (simp <;> omega)); have y4x1 : w3.heap.size < w4.heap.size := (by omega))
    | (go_at_call 14; first | (with_reducible refine (num_nil _).mono ?_; rintro e w9 ⟨rfl, rfl⟩) | (with_reducible refine (num_err _ _).mono ?_; rintro e w9 ⟨rfl, rfl⟩)))
  go_ret
  have H1 : Below w.heap.size w w1 := ((Below.refl _ _).alloc (Nat.le_refl _) _).trans (hb1.mono (by first | omega | (simp <;> omega)))
  have H2 : Below w.heap.size w w2 := H1.trans (hb2.mono (by first | omega | (simp <;> omega)))
  have H3 : Below w.heap.size w w3 := H2.trans (hb3.mono (by first | omega | (simp <;> omega)))
  have H4 : Below w.heap.size w w4 := (H3.alloc (by first | omega | (simp <;> omega)) _).trans (hb4.mono (by first | omega | (simp <;> omega)))
  exact ⟨rfl, H4⟩

theorem offChecks_walk (c : Cf) (w : World) :
    Calls Try.prog 3 #[.agg #[.int .i64 c.every, .int .i64 c.length, .int .i64 c.apart]] w fun e w' => e = .returned (.bool true) ∧ Below w.heap.size w w' := by
  by_cases h : c.Rng
  · exact offChecks_ok c h w
  · exact offChecks_err c h w

set_option maxRecDepth 100000 in
theorem offChecks_lifted (os : Os) (started : os.Started) (H : Type) (enc : TypeId × Value → H) :
    ReturnsInHanded {} Try.checked os 3 .any (Rows.offChecksSpec.pre6 enc Try.prog Try.f3 Rows.offChecksRow.domain false) (Rows.offChecksSpec.post enc Try.prog Try.f3 false true false false) := by
  refine lift (C := Try.checked) (s := Rows.offChecksSpec) 4 Try.own started (by kernel_rfl) Try.func3 Try.laidOut rfl rfl Try.underlying4 (by kernel_rfl)
    (fun ds hds => by
      have hl : ds.length = 1 := hds
      match ds, hl with
      | [_], _ => rfl)
    (ChangeSpec.witness6 (enc := enc) (C := Try.checked) false ⟨#[], #[.agg #[.int .i64 0, .int .i64 0, .int .i64 0]], []⟩ 8 (by kernel_rfl) (by kernel_rfl) (by kernel_rfl) (by kernel_rfl)) ?_
  intro W base args ds p hval0 hA0
  have hval : ∀ (j : Nat) t v, Try.f3.params[j]? = some t → args[j]? = some v → Value.okWide Try.prog W .any base t v := hval0
  have hA : DataW.TrodAll enc Try.prog W 0 (fun _ => true) true Try.f3.params.toList args.toList ds p := hA0
  clear hval0 hA0
  rw [Try.params3] at hA hval
  obtain ⟨v0, vs0, d0, ds0, p0, q0, hargs, rfl, rfl, h0, r0⟩ := trodAll_cons hA
  obtain ⟨rfl, rfl, rfl⟩ := trodAll_nil r0
  obtain rfl : args = #[v0] := by cases args; simp_all
  obtain ⟨l0, rfl, g0⟩ := arg_struct 4 Try.underlying23 (ks := [some .i64, some .i64, some .i64]) (by kernel_rfl) (hval 0 23 v0 rfl rfl) h0
  obtain ⟨_, _, rfl, ⟨a0, rfl, wa0⟩, g0x0⟩ := g0
  obtain ⟨_, _, rfl, ⟨a1, rfl, wa1⟩, g0x1⟩ := g0x0
  obtain ⟨_, _, rfl, ⟨a2, rfl, wa2⟩, g0x2⟩ := g0x1
  simp only [Fits] at g0x2
  subst g0x2
  exact offChecks_walk ⟨a0, a1, a2⟩ W

theorem offChecks_over : Rows.offChecksRow.holds Try.pinned (OpenSpec.ofChange Rows.offChecksSpec) :=
  OpenClaim.holds_of_wide 3 Try.f3 rfl rfl rfl rfl rfl rfl rfl ⟨rfl, rfl, rfl, rfl, rfl⟩ rfl rfl rfl rfl rfl (by kernel_rfl) Try.func3 (by kernel_rfl)
    (of_decide_eq_true (by kernel_rfl)) (by unfold Func.isWrapper; first | (rw [if_pos (by decide +kernel)]; kernel_rfl) | (rw [if_neg (by decide +kernel)]; exact ⟨rfl, rfl⟩))
    (fun os started H enc _ => offChecks_lifted os started H enc)

theorem offChecks_holds : Rows.OffChecksSaid := offChecks_over
#print axioms offChecks_holds
end Go.Proofs.Ytgbbhkefkpndeaa

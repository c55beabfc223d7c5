/- OffResets holds: Reset returns the state of Start, or the errors as specified. No condition. -/
import Derived.Test.YtgbbhkefkpndeaaRows
import Derived.Test.YtgbbhkefkpndeaaFlat
import Derived.Test.YtgbbhkefkpndeaaOffE
import Derived.Deep.RegionHeld3
namespace Go.Proofs.Ytgbbhkefkpndeaa
open Go.RowKit OM Flat Go.ChangeShapes

set_option maxHeartbeats 4000000 in
theorem offResets_err (c : Cf) (h : ¬ c.Rng) (s0 s1 s2 s3 : Int) (s4 s5 s6 : Bool) (r0 r1 k0 k1 : Bool) (w : World) :
    Calls Try.prog 5 #[.agg #[.int .i64 c.every, .int .i64 c.length, .int .i64 c.apart], .agg #[.int .i64 s0, .int .i64 s1, .int .i64 s2, .int .i64 s3, .bool s4, .bool s5, .bool s6], .agg #[.bool r0, .bool r1, .bool k0, .bool k1]] w fun e w' => e = .returned (.bool true) ∧ Below w.heap.size w w' := by
  have HS := hide (reset_err c h s0 s1 s2 s3 s4 s5 s6 r0 r1 k0 k1)
  have HC := hide (rcheck_err c h)
  clear h
  go_enter Try.func5, Try.ntmps5
  go_wp2_with (first
    | (go_at_call 11; refine (awake_any _).mono ?_; rintro e w1 ⟨rfl, hb1⟩; have z1 := hb1.size; (try simp at z1); have c1x0 := bstep (b := w.heap.size) hb1 (by first | omega | (simp <;> omega)); have y1x0 : w.heap.size < w1.heap.size := (by omega); have c1x1 := bstep (b := w.heap.size + 1) hb1 (by first | omega | (simp <;> omega)); have y1x1 : w.heap.size + 1 < w1.heap.size := (by omega); have c1x2 := bstep (b := w.heap.size + 1 + 1) hb1 (by first | omega | (simp <;> omega)); have y1x2 : w.heap.size + 1 + 1 < w1.heap.size := (by omega))
    | (go_at_call 19; refine (HS.out _).mono ?_; rintro e w2 ⟨rfl, hb2⟩; have z2 := hb2.size; (try simp at z2); have c2x0 := bstep (b := w.heap.size) hb2 (by first | omega | (simp <;> omega)); have y2x0 : w.heap.size < w2.heap.size := (by omega); have c2x1 := bstep (b := w.heap.size + 1) hb2 (by first | omega | (simp <;> omega)); have y2x1 : w.heap.size + 1 < w2.heap.size := (by omega); have c2x2 := bstep (b := w.heap.size + 1 + 1) hb2 (by first | omega | (simp <;> omega)); have y2x2 : w.heap.size + 1 + 1 < w2.heap.size := (by omega))
    | (go_at_call 12; refine (HC.out _).mono ?_; rintro e w3 ⟨rfl, hb3⟩; have z3 := hb3.size; (try simp at z3); have c3x0 := bstep (b := w.heap.size) hb3 (by first | omega | (simp <;> omega)); have y3x0 : w.heap.size < w3.heap.size := (by omega); have c3x1 := bstep (b := w.heap.size + 1) hb3 (by first | omega | (simp <;> omega)); have y3x1 : w.heap.size + 1 < w3.heap.size := (by omega); have c3x2 := bstep (b := w.heap.size + 1 + 1) hb3 (by first | omega | (simp <;> omega)); have y3x2 : w.heap.size + 1 + 1 < w3.heap.size := (by omega); have c3x3 := bstep (b := w2.heap.size) hb3 (by first | omega | (simp <;> omega)); have y3x3 : w2.heap.size < w3.heap.size := (by omega))
    | (go_at_call 14; first | (with_reducible refine (num_nil _).mono ?_; rintro e w9 ⟨rfl, rfl⟩) | (with_reducible refine (num_err _ _).mono ?_; rintro e w9 ⟨rfl, rfl⟩)))
  go_ret
  have H1 : Below w.heap.size w w1 := ((((Below.refl _ _).alloc (Nat.le_refl _) _).alloc (by first | omega | (simp <;> omega)) _).alloc (by first | omega | (simp <;> omega)) _).trans (hb1.mono (by first | omega | (simp <;> omega)))
  have H2 : Below w.heap.size w w2 := H1.trans (hb2.mono (by first | omega | (simp <;> omega)))
  have H3 : Below w.heap.size w w3 := (H2.alloc (by first | omega | (simp <;> omega)) _).trans (hb3.mono (by first | omega | (simp <;> omega)))
  exact ⟨rfl, H3⟩

set_option maxHeartbeats 4000000 in
theorem offResets_no (c : Cf) (h : c.Rng) (s0 s1 s2 s3 : Int) (s4 s5 s6 : Bool) (r0 r1 k0 k1 : Bool) (hr : (r0 || r1 || k0 || k1) = true) (w : World) :
    Calls Try.prog 5 #[.agg #[.int .i64 c.every, .int .i64 c.length, .int .i64 c.apart], .agg #[.int .i64 s0, .int .i64 s1, .int .i64 s2, .int .i64 s3, .bool s4, .bool s5, .bool s6], .agg #[.bool r0, .bool r1, .bool k0, .bool k1]] w fun e w' => e = .returned (.bool true) ∧ Below w.heap.size w w' := by
  have HS := hide (reset_no c h s0 s1 s2 s3 s4 s5 s6 r0 r1 k0 k1 hr)
  have HC := hide (rcheck_ok c h)
  have HK := hide (rreset_no r0 r1 k0 k1 hr)
  clear h hr
  go_enter Try.func5, Try.ntmps5
  go_wp2_with (first
    | (go_at_call 11; refine (awake_any _).mono ?_; rintro e w1 ⟨rfl, hb1⟩; have z1 := hb1.size; (try simp at z1); have c1x0 := bstep (b := w.heap.size) hb1 (by first | omega | (simp <;> omega)); have y1x0 : w.heap.size < w1.heap.size := (by omega); have c1x1 := bstep (b := w.heap.size + 1) hb1 (by first | omega | (simp <;> omega)); have y1x1 : w.heap.size + 1 < w1.heap.size := (by omega); have c1x2 := bstep (b := w.heap.size + 1 + 1) hb1 (by first | omega | (simp <;> omega)); have y1x2 : w.heap.size + 1 + 1 < w1.heap.size := (by omega))
    | (go_at_call 19; refine (HS.out _).mono ?_; rintro e w2 ⟨rfl, hb2⟩; have z2 := hb2.size; (try simp at z2); have c2x0 := bstep (b := w.heap.size) hb2 (by first | omega | (simp <;> omega)); have y2x0 : w.heap.size < w2.heap.size := (by omega); have c2x1 := bstep (b := w.heap.size + 1) hb2 (by first | omega | (simp <;> omega)); have y2x1 : w.heap.size + 1 < w2.heap.size := (by omega); have c2x2 := bstep (b := w.heap.size + 1 + 1) hb2 (by first | omega | (simp <;> omega)); have y2x2 : w.heap.size + 1 + 1 < w2.heap.size := (by omega))
    | (go_at_call 12; refine (HC.out _).mono ?_; rintro e w3 ⟨rfl, hb3⟩; have z3 := hb3.size; (try simp at z3); have c3x0 := bstep (b := w.heap.size) hb3 (by first | omega | (simp <;> omega)); have y3x0 : w.heap.size < w3.heap.size := (by omega); have c3x1 := bstep (b := w.heap.size + 1) hb3 (by first | omega | (simp <;> omega)); have y3x1 : w.heap.size + 1 < w3.heap.size := (by omega); have c3x2 := bstep (b := w.heap.size + 1 + 1) hb3 (by first | omega | (simp <;> omega)); have y3x2 : w.heap.size + 1 + 1 < w3.heap.size := (by omega); have c3x3 := bstep (b := w2.heap.size) hb3 (by first | omega | (simp <;> omega)); have y3x3 : w2.heap.size < w3.heap.size := (by omega))
    | (go_at_call 20; refine (HK.out _).mono ?_; rintro e w4 ⟨rfl, hb4⟩; have z4 := hb4.size; (try simp at z4); have c4x0 := bstep (b := w.heap.size) hb4 (by first | omega | (simp <;> omega)); have y4x0 : w.heap.size < w4.heap.size := (by omega); have c4x1 := bstep (b := w.heap.size + 1) hb4 (by first | omega | (simp <;> omega)); have y4x1 : w.heap.size + 1 < w4.heap.size := (by omega); have c4x2 := bstep (b := w.heap.size + 1 + 1) hb4 (by first | omega | (simp <;> omega)); have y4x2 : w.heap.size + 1 + 1 < w4.heap.size := (by omega); have c4x3 := bstep (b := w2.heap.size) hb4 (by first | omega | (simp <;> omega)); have y4x3 : w2.heap.size < w4.heap.size := (by omega))
    | (go_at_call 14; first | (with_reducible refine (num_nil _).mono ?_; rintro e w9 ⟨rfl, rfl⟩) | (with_reducible refine (num_err _ _).mono ?_; rintro e w9 ⟨rfl, rfl⟩)))
  go_ret
  have H1 : Below w.heap.size w w1 := ((((Below.refl _ _).alloc (Nat.le_refl _) _).alloc (by first | omega | (simp <;> omega)) _).alloc (by first | omega | (simp <;> omega)) _).trans (hb1.mono (by first | omega | (simp <;> omega)))
  have H2 : Below w.heap.size w w2 := H1.trans (hb2.mono (by first | omega | (simp <;> omega)))
  have H3 : Below w.heap.size w w3 := (H2.alloc (by first | omega | (simp <;> omega)) _).trans (hb3.mono (by first | omega | (simp <;> omega)))
  have H4 : Below w.heap.size w w4 := H3.trans (hb4.mono (by first | omega | (simp <;> omega)))
  exact ⟨rfl, H4⟩

set_option maxHeartbeats 4000000 in
theorem offResets_ok (c : Cf) (h : c.Rng) (s0 s1 s2 s3 : Int) (s4 s5 s6 : Bool) (w : World) :
    Calls Try.prog 5 #[.agg #[.int .i64 c.every, .int .i64 c.length, .int .i64 c.apart], .agg #[.int .i64 s0, .int .i64 s1, .int .i64 s2, .int .i64 s3, .bool s4, .bool s5, .bool s6], .agg #[.bool false, .bool false, .bool false, .bool false]] w fun e w' => e = .returned (.bool true) ∧ Below w.heap.size w w' := by
  have HS := hide (reset_ok c h s0 s1 s2 s3 s4 s5 s6)
  have HC := hide (rcheck_ok c h)
  have HK := hide rreset_ok
  have HR := hide (rstart_any c h)
  clear h
  go_enter Try.func5, Try.ntmps5
  go_wp2_with (first
    | (go_at_call 11; refine (awake_any _).mono ?_; rintro e w1 ⟨rfl, hb1⟩; have z1 := hb1.size; (try simp at z1); have c1x0 := bstep (b := w.heap.size) hb1 (by first | omega | (simp <;> omega)); have y1x0 : w.heap.size < w1.heap.size := (by omega); have c1x1 := bstep (b := w.heap.size + 1) hb1 (by first | omega | (simp <;> omega)); have y1x1 : w.heap.size + 1 < w1.heap.size := (by omega); have c1x2 := bstep (b := w.heap.size + 1 + 1) hb1 (by first | omega | (simp <;> omega)); have y1x2 : w.heap.size + 1 + 1 < w1.heap.size := (by omega))
    | (go_at_call 19; refine (HS.out _).mono ?_; rintro e w2 ⟨rfl, hb2⟩; have z2 := hb2.size; (try simp at z2); have c2x0 := bstep (b := w.heap.size) hb2 (by first | omega | (simp <;> omega)); have y2x0 : w.heap.size < w2.heap.size := (by omega); have c2x1 := bstep (b := w.heap.size + 1) hb2 (by first | omega | (simp <;> omega)); have y2x1 : w.heap.size + 1 < w2.heap.size := (by omega); have c2x2 := bstep (b := w.heap.size + 1 + 1) hb2 (by first | omega | (simp <;> omega)); have y2x2 : w.heap.size + 1 + 1 < w2.heap.size := (by omega))
    | (go_at_call 12; refine (HC.out _).mono ?_; rintro e w3 ⟨rfl, hb3⟩; have z3 := hb3.size; (try simp at z3); have c3x0 := bstep (b := w.heap.size) hb3 (by first | omega | (simp <;> omega)); have y3x0 : w.heap.size < w3.heap.size := (by omega); have c3x1 := bstep (b := w.heap.size + 1) hb3 (by first | omega | (simp <;> omega)); have y3x1 : w.heap.size + 1 < w3.heap.size := (by omega); have c3x2 := bstep (b := w.heap.size + 1 + 1) hb3 (by first | omega | (simp <;> omega)); have y3x2 : w.heap.size + 1 + 1 < w3.heap.size := (by omega); have c3x3 := bstep (b := w2.heap.size) hb3 (by first | omega | (simp <;> omega)); have y3x3 : w2.heap.size < w3.heap.size := (by omega))
    | (go_at_call 20; refine (HK.out _).mono ?_; rintro e w4 ⟨rfl, hb4⟩; have z4 := hb4.size; (try simp at z4); have c4x0 := bstep (b := w.heap.size) hb4 (by first | omega | (simp <;> omega)); have y4x0 : w.heap.size < w4.heap.size := (by omega); have c4x1 := bstep (b := w.heap.size + 1) hb4 (by first | omega | (simp <;> omega)); have y4x1 : w.heap.size + 1 < w4.heap.size := (by omega); have c4x2 := bstep (b := w.heap.size + 1 + 1) hb4 (by first | omega | (simp <;> omega)); have y4x2 : w.heap.size + 1 + 1 < w4.heap.size := (by omega); have c4x3 := bstep (b := w2.heap.size) hb4 (by first | omega | (simp <;> omega)); have y4x3 : w2.heap.size < w4.heap.size := (by omega))
    | (go_at_call 14; first | (with_reducible refine (num_nil _).mono ?_; rintro e w9 ⟨rfl, rfl⟩) | (with_reducible refine (num_err _ _).mono ?_; rintro e w9 ⟨rfl, rfl⟩)))
  have q0 : w4.cell? ⟨w.heap.size, 0, none⟩ = some (.int .i64 c.every) := by go_simp
  have q1 : w4.cell? ⟨w.heap.size, 1, none⟩ = some (.int .i64 c.length) := by go_simp
  have q2 : w4.cell? ⟨w.heap.size, 2, none⟩ = some (.int .i64 c.apart) := by go_simp
  have q3 : w4.cell? ⟨w2.heap.size, 0, none⟩ = some (.int .i64 0) := by go_simp
  have q4 : w4.cell? ⟨w2.heap.size, 1, none⟩ = some (.int .i64 0) := by go_simp
  have q5 : w4.cell? ⟨w2.heap.size, 2, none⟩ = some (.int .i64 (c.length + 1)) := by go_simp
  have q6 : w4.cell? ⟨w2.heap.size, 3, none⟩ = some (.int .i64 (c.length + 1)) := by go_simp
  have q7 : w4.cell? ⟨w2.heap.size, 4, none⟩ = some (.bool false) := by go_simp
  have q8 : w4.cell? ⟨w2.heap.size, 5, none⟩ = some (.bool false) := by go_simp
  have q9 : w4.cell? ⟨w2.heap.size, 6, none⟩ = some (.bool false) := by go_simp
  go_region_held3 (fun w' => w'.cell? ⟨w.heap.size, 0, none⟩ = some (.int .i64 c.every) ∧ w'.cell? ⟨w.heap.size, 1, none⟩ = some (.int .i64 c.length) ∧ w'.cell? ⟨w.heap.size, 2, none⟩ = some (.int .i64 c.apart) ∧ w'.cell? ⟨w2.heap.size, 0, none⟩ = some (.int .i64 0) ∧ w'.cell? ⟨w2.heap.size, 1, none⟩ = some (.int .i64 0) ∧ w'.cell? ⟨w2.heap.size, 2, none⟩ = some (.int .i64 (c.length + 1)) ∧ w'.cell? ⟨w2.heap.size, 3, none⟩ = some (.int .i64 (c.length + 1)) ∧ w'.cell? ⟨w2.heap.size, 4, none⟩ = some (.bool false) ∧ w'.cell? ⟨w2.heap.size, 5, none⟩ = some (.bool false) ∧ w'.cell? ⟨w2.heap.size, 6, none⟩ = some (.bool false)) ((first | exact ⟨q0, q1, q2, q3, q4, q5, q6, q7, q8, q9⟩ | exact ⟨(hb5.cell (p := ⟨w.heap.size, 0, none⟩) y4x0).trans q0, (hb5.cell (p := ⟨w.heap.size, 1, none⟩) y4x0).trans q1, (hb5.cell (p := ⟨w.heap.size, 2, none⟩) y4x0).trans q2, (hb5.cell (p := ⟨w2.heap.size, 0, none⟩) y4x3).trans q3, (hb5.cell (p := ⟨w2.heap.size, 1, none⟩) y4x3).trans q4, (hb5.cell (p := ⟨w2.heap.size, 2, none⟩) y4x3).trans q5, (hb5.cell (p := ⟨w2.heap.size, 3, none⟩) y4x3).trans q6, (hb5.cell (p := ⟨w2.heap.size, 4, none⟩) y4x3).trans q7, (hb5.cell (p := ⟨w2.heap.size, 5, none⟩) y4x3).trans q8, (hb5.cell (p := ⟨w2.heap.size, 6, none⟩) y4x3).trans q9⟩)) (first | (go_at_call 16; refine (HR.out _).mono ?_; rintro e w5 ⟨rfl, hb5⟩; have z5 := hb5.size; (try simp at z5)))
  all_goals go_wp2
  all_goals go_ret
  have H1 : Below w.heap.size w w1 := ((((Below.refl _ _).alloc (Nat.le_refl _) _).alloc (by first | omega | (simp <;> omega)) _).alloc (by first | omega | (simp <;> omega)) _).trans (hb1.mono (by first | omega | (simp <;> omega)))
  have H2 : Below w.heap.size w w2 := H1.trans (hb2.mono (by first | omega | (simp <;> omega)))
  have H3 : Below w.heap.size w w3 := (H2.alloc (by first | omega | (simp <;> omega)) _).trans (hb3.mono (by first | omega | (simp <;> omega)))
  have H4 : Below w.heap.size w w4 := H3.trans (hb4.mono (by first | omega | (simp <;> omega)))
  exact ⟨rfl, H4.drew.trans (hb5.mono (show w.heap.size ≤ w4.heap.size by omega))⟩

theorem offResets_walk (c : Cf) (s0 s1 s2 s3 : Int) (s4 s5 s6 : Bool) (r0 r1 k0 k1 : Bool) (w : World) :
    Calls Try.prog 5 #[.agg #[.int .i64 c.every, .int .i64 c.length, .int .i64 c.apart], .agg #[.int .i64 s0, .int .i64 s1, .int .i64 s2, .int .i64 s3, .bool s4, .bool s5, .bool s6], .agg #[.bool r0, .bool r1, .bool k0, .bool k1]] w fun e w' => e = .returned (.bool true) ∧ Below w.heap.size w w' := by
  by_cases h : c.Rng
  · cases hr : (r0 || r1 || k0 || k1) with
    | true => exact offResets_no c h s0 s1 s2 s3 s4 s5 s6 r0 r1 k0 k1 hr w
    | false =>
      simp only [Bool.or_eq_false_iff] at hr
      obtain ⟨⟨⟨rfl, rfl⟩, rfl⟩, rfl⟩ := hr
      exact offResets_ok c h s0 s1 s2 s3 s4 s5 s6 w
  · exact offResets_err c h s0 s1 s2 s3 s4 s5 s6 r0 r1 k0 k1 w

set_option maxRecDepth 100000 in
theorem offResets_lifted (os : Os) (started : os.Started) (H : Type) (enc : TypeId × Value → H) :
    ReturnsInHanded {} Try.checked os 5 .any (Rows.offResetsSpec.pre6 enc Try.prog Try.f5 Rows.offResetsRow.domain false) (Rows.offResetsSpec.post enc Try.prog Try.f5 false true false false) := by
  refine lift (C := Try.checked) (s := Rows.offResetsSpec) 4 Try.own started (by kernel_rfl) Try.func5 Try.laidOut rfl rfl Try.underlying4 (by kernel_rfl)
    (fun ds hds => by
      have hl : ds.length = 3 := hds
      match ds, hl with
      | [_, _, _], _ => rfl)
    (ChangeSpec.witness6 (enc := enc) (C := Try.checked) false ⟨#[], #[.agg #[.int .i64 0, .int .i64 0, .int .i64 0], .agg #[.int .i64 0, .int .i64 0, .int .i64 0, .int .i64 0, .bool false, .bool false, .bool false], .agg #[.bool false, .bool false, .bool false, .bool false]], []⟩ 8 (by kernel_rfl) (by kernel_rfl) (by kernel_rfl) (by kernel_rfl)) ?_
  intro W base args ds p hval0 hA0
  have hval : ∀ (j : Nat) t v, Try.f5.params[j]? = some t → args[j]? = some v → Value.okWide Try.prog W .any base t v := hval0
  have hA : DataW.TrodAll enc Try.prog W 0 (fun _ => true) true Try.f5.params.toList args.toList ds p := hA0
  clear hval0 hA0
  rw [Try.params5] at hA hval
  obtain ⟨v0, vs0, d0, ds0, p0, q0, hargs, rfl, rfl, h0, r0⟩ := trodAll_cons hA
  obtain ⟨v1, vs1, d1, ds1, p1, q1, rfl, rfl, rfl, h1, r1⟩ := trodAll_cons r0
  obtain ⟨v2, vs2, d2, ds2, p2, q2, rfl, rfl, rfl, h2, r2⟩ := trodAll_cons r1
  obtain ⟨rfl, rfl, rfl⟩ := trodAll_nil r2
  obtain rfl : args = #[v0, v1, v2] := by cases args; simp_all
  obtain ⟨l0, rfl, g0⟩ := arg_struct 4 Try.underlying23 (ks := [some .i64, some .i64, some .i64]) (by kernel_rfl) (hval 0 23 v0 rfl rfl) h0
  obtain ⟨_, _, rfl, ⟨a0, rfl, wa0⟩, g0x0⟩ := g0
  obtain ⟨_, _, rfl, ⟨a1, rfl, wa1⟩, g0x1⟩ := g0x0
  obtain ⟨_, _, rfl, ⟨a2, rfl, wa2⟩, g0x2⟩ := g0x1
  simp only [Fits] at g0x2
  subst g0x2
  obtain ⟨l1, rfl, g1⟩ := arg_struct 4 Try.underlying29 (ks := [some .i64, some .i64, some .i64, some .i64, none, none, none]) (by kernel_rfl) (hval 1 29 v1 rfl rfl) h1
  obtain ⟨_, _, rfl, ⟨s0, rfl, ws0⟩, g1x0⟩ := g1
  obtain ⟨_, _, rfl, ⟨s1, rfl, ws1⟩, g1x1⟩ := g1x0
  obtain ⟨_, _, rfl, ⟨s2, rfl, ws2⟩, g1x2⟩ := g1x1
  obtain ⟨_, _, rfl, ⟨s3, rfl, ws3⟩, g1x3⟩ := g1x2
  obtain ⟨_, _, rfl, ⟨s4, rfl⟩, g1x4⟩ := g1x3
  obtain ⟨_, _, rfl, ⟨s5, rfl⟩, g1x5⟩ := g1x4
  obtain ⟨_, _, rfl, ⟨s6, rfl⟩, g1x6⟩ := g1x5
  simp only [Fits] at g1x6
  subst g1x6
  obtain ⟨l2, rfl, g2⟩ := arg_struct 4 Try.underlying39 (ks := [none, none, none, none]) (by kernel_rfl) (hval 2 39 v2 rfl rfl) h2
  obtain ⟨_, _, rfl, ⟨x0, rfl⟩, g2x0⟩ := g2
  obtain ⟨_, _, rfl, ⟨x1, rfl⟩, g2x1⟩ := g2x0
  obtain ⟨_, _, rfl, ⟨x2, rfl⟩, g2x2⟩ := g2x1
  obtain ⟨_, _, rfl, ⟨x3, rfl⟩, g2x3⟩ := g2x2
  simp only [Fits] at g2x3
  subst g2x3
  exact offResets_walk ⟨a0, a1, a2⟩ s0 s1 s2 s3 s4 s5 s6 x0 x1 x2 x3 W

theorem offResets_over : Rows.offResetsRow.holds Try.pinned (OpenSpec.ofChange Rows.offResetsSpec) :=
  OpenClaim.holds_of_wide 5 Try.f5 rfl rfl rfl rfl rfl rfl rfl ⟨rfl, rfl, rfl, rfl, rfl⟩ rfl rfl rfl rfl rfl (by kernel_rfl) Try.func5 (by kernel_rfl)
    (of_decide_eq_true (by kernel_rfl)) (by unfold Func.isWrapper; first | (rw [if_pos (by decide +kernel)]; kernel_rfl) | (rw [if_neg (by decide +kernel)]; exact ⟨rfl, rfl⟩))
    (fun os started H enc _ => offResets_lifted os started H enc)

theorem offResets_holds : Rows.OffResetsSaid := offResets_over
#print axioms offResets_holds
end Go.Proofs.Ytgbbhkefkpndeaa

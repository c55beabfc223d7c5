/- LinkSpans holds: Climb and Fall return the bounds, or the errors as specified. No condition. -/
import Derived.Test.YtahhebeceehbeaaRows
import Derived.Test.YtahhebeceehbeaaFlat
import Derived.Test.YtahhebeceehbeaaLinkF
import Derived.Deep.RegionHeld3
namespace Go.Proofs.Ytahhebeceehbeaa
open Go.RowKit LM Flat Go.ChangeShapes

set_option maxHeartbeats 2000000 in
theorem linkSpans_err (c : Cfg) (h : c.code ≠ 0) (v draw ticks : Int) (w : World) :
    Calls Try.prog 9 #[.agg #[.int .i64 c.num, .int .i64 c.den, .int .i64 c.supply, .int .i64 c.feed, .int .i64 c.ohm, .int .i64 c.on, .int .i64 c.off, .int .i64 c.bohm], .agg #[.int .i64 v, .int .i64 draw, .int .i64 ticks]] w fun e w' => e = .returned (.bool true) ∧ Below w.heap.size w w' := by
  have HU := hide (climb_err c h v draw ticks)
  have HF := hide (fall_err c h v draw ticks)
  have HC : Hid (∀ W, Calls Try.prog 13 #[cfgV c] W fun e w' => e = .returned (.int .i64 c.code) ∧ Below W.heap.size W w') := fun W => rcheck_any c W
  have hne : (c.code == 0) = false := by simpa using h
  have hne' : (c.code != 0) = true := by simpa using h
  clear h
  go_enter Try.func9, Try.ntmps9
  go_wp2_with (first
    | (go_at_call 11; refine (awake_any _).mono ?_; rintro e w1 ⟨rfl, hb1⟩; have z1 := hb1.size; (try simp at z1); have c1x0 := bstep (b := w.heap.size) hb1 (by first | omega | (simp <;> omega)); have y1x0 : w.heap.size < w1.heap.size := (by omega); have c1x1 := bstep (b := w.heap.size + 1) hb1 (by first | omega | (simp <;> omega)); have y1x1 : w.heap.size + 1 < w1.heap.size := (by omega))
    | (go_at_call 25; refine (HU.out _).mono ?_; rintro e w2 ⟨rfl, hb2⟩; have z2 := hb2.size; (try simp at z2); have c2x0 := bstep (b := w.heap.size) hb2 (by first | omega | (simp <;> omega)); have y2x0 : w.heap.size < w2.heap.size := (by omega); have c2x1 := bstep (b := w.heap.size + 1) hb2 (by first | omega | (simp <;> omega)); have y2x1 : w.heap.size + 1 < w2.heap.size := (by omega))
    | (go_at_call 26; refine (HF.out _).mono ?_; rintro e w3 ⟨rfl, hb3⟩; have z3 := hb3.size; (try simp at z3); have c3x0 := bstep (b := w.heap.size) hb3 (by first | omega | (simp <;> omega)); have y3x0 : w.heap.size < w3.heap.size := (by omega); have c3x1 := bstep (b := w.heap.size + 1) hb3 (by first | omega | (simp <;> omega)); have y3x1 : w.heap.size + 1 < w3.heap.size := (by omega))
    | (go_at_call 13; refine (HC.out _).mono ?_; rintro e w4 ⟨rfl, hb4⟩; have z4 := hb4.size; (try simp at z4); have c4x0 := bstep (b := w.heap.size) hb4 (by first | omega | (simp <;> omega)); have y4x0 : w.heap.size < w4.heap.size := (by omega); have c4x1 := bstep (b := w.heap.size + 1) hb4 (by first | omega | (simp <;> omega)); have y4x1 : w.heap.size + 1 < w4.heap.size := (by omega))
    | (go_at_call 27; refine (HP.out _).mono ?_; rintro e w8 ⟨rfl, rfl⟩)
    | (go_at_call 14; first | (with_reducible refine (num_nil _).mono ?_; rintro e w9 ⟨rfl, rfl⟩) | (with_reducible refine (num_err _ _).mono ?_; rintro e w9 ⟨rfl, rfl⟩)))
  go_ret
  have H1 : Below w.heap.size w w1 := (((Below.refl _ _).alloc (Nat.le_refl _) _).alloc (by first | omega | (simp <;> omega)) _).trans (hb1.mono (by first | omega | (simp <;> omega)))
  have H2 : Below w.heap.size w w2 := H1.trans (hb2.mono (by first | omega | (simp <;> omega)))
  have H3 : Below w.heap.size w w3 := H2.trans (hb3.mono (by first | omega | (simp <;> omega)))
  have H4 : Below w.heap.size w w4 := H3.trans (hb4.mono (by first | omega | (simp <;> omega)))
  exact ⟨rfl, H4⟩

set_option maxHeartbeats 2000000 in
theorem linkSpans_out (c : Cfg) (h : c.Ok) (v draw ticks : Int) (hr : ¬ ((0 ≤ v ∧ v ≤ 1048576) ∧ (0 ≤ draw ∧ draw ≤ 4194304) ∧ (0 ≤ ticks ∧ ticks ≤ 1048576))) (w : World) :
    Calls Try.prog 9 #[.agg #[.int .i64 c.num, .int .i64 c.den, .int .i64 c.supply, .int .i64 c.feed, .int .i64 c.ohm, .int .i64 c.on, .int .i64 c.off, .int .i64 c.bohm], .agg #[.int .i64 v, .int .i64 draw, .int .i64 ticks]] w fun e w' => e = .returned (.bool true) ∧ Below w.heap.size w w' := by
  have HU := hide (climb_out c h v draw ticks hr)
  have HF := hide (fall_out c h v draw ticks hr)
  have HP := hide (rspan_out v draw ticks hr)
  have HC : Hid (∀ W, Calls Try.prog 13 #[cfgV c] W fun e w' => e = .returned (.int .i64 0) ∧ Below W.heap.size W w') := fun W => by
    have := rcheck_any c W
    rw [Cfg.code_of_ok h] at this
    exact this
  clear hr
  clear h
  go_enter Try.func9, Try.ntmps9
  go_wp2_with (first
    | (go_at_call 11; refine (awake_any _).mono ?_; rintro e w1 ⟨rfl, hb1⟩; have z1 := hb1.size; (try simp at z1); have c1x0 := bstep (b := w.heap.size) hb1 (by first | omega | (simp <;> omega)); have y1x0 : w.heap.size < w1.heap.size := (by omega); have c1x1 := bstep (b := w.heap.size + 1) hb1 (by first | omega | (simp <;> omega)); have y1x1 : w.heap.size + 1 < w1.heap.size := (by omega))
    | (go_at_call 25; refine (HU.out _).mono ?_; rintro e w2 ⟨rfl, hb2⟩; have z2 := hb2.size; (try simp at z2); have c2x0 := bstep (b := w.heap.size) hb2 (by first | omega | (simp <;> omega)); have y2x0 : w.heap.size < w2.heap.size := (by omega); have c2x1 := bstep (b := w.heap.size + 1) hb2 (by first | omega | (simp <;> omega)); have y2x1 : w.heap.size + 1 < w2.heap.size := (by omega))
    | (go_at_call 26; refine (HF.out _).mono ?_; rintro e w3 ⟨rfl, hb3⟩; have z3 := hb3.size; (try simp at z3); have c3x0 := bstep (b := w.heap.size) hb3 (by first | omega | (simp <;> omega)); have y3x0 : w.heap.size < w3.heap.size := (by omega); have c3x1 := bstep (b := w.heap.size + 1) hb3 (by first | omega | (simp <;> omega)); have y3x1 : w.heap.size + 1 < w3.heap.size := (by omega))
    | (go_at_call 13; refine (HC.out _).mono ?_; rintro e w4 ⟨rfl, hb4⟩; have z4 := hb4.size; (try simp at z4); have c4x0 := bstep (b := w.heap.size) hb4 (by first | omega | (simp <;> omega)); have y4x0 : w.heap.size < w4.heap.size := (by omega); have c4x1 := bstep (b := w.heap.size + 1) hb4 (by first | omega | (simp <;> omega)); have y4x1 : w.heap.size + 1 < w4.heap.size := (by omega))
    | (go_at_call 27; refine (HP.out _).mono ?_; rintro e w8 ⟨rfl, rfl⟩)
    | (go_at_call 14; first | (with_reducible refine (num_nil _).mono ?_; rintro e w9 ⟨rfl, rfl⟩) | (with_reducible refine (num_err _ _).mono ?_; rintro e w9 ⟨rfl, rfl⟩)))
  go_ret
  have H1 : Below w.heap.size w w1 := (((Below.refl _ _).alloc (Nat.le_refl _) _).alloc (by first | omega | (simp <;> omega)) _).trans (hb1.mono (by first | omega | (simp <;> omega)))
  have H2 : Below w.heap.size w w2 := H1.trans (hb2.mono (by first | omega | (simp <;> omega)))
  have H3 : Below w.heap.size w w3 := H2.trans (hb3.mono (by first | omega | (simp <;> omega)))
  have H4 : Below w.heap.size w w4 := H3.trans (hb4.mono (by first | omega | (simp <;> omega)))
  exact ⟨rfl, H4⟩

set_option maxHeartbeats 2000000 in
theorem linkSpans_ok (c : Cfg) (h : c.Ok) (v draw ticks : Int) (hr : (0 ≤ v ∧ v ≤ 1048576) ∧ (0 ≤ draw ∧ draw ≤ 4194304) ∧ (0 ≤ ticks ∧ ticks ≤ 1048576)) (w : World) :
    Calls Try.prog 9 #[.agg #[.int .i64 c.num, .int .i64 c.den, .int .i64 c.supply, .int .i64 c.feed, .int .i64 c.ohm, .int .i64 c.on, .int .i64 c.off, .int .i64 c.bohm], .agg #[.int .i64 v, .int .i64 draw, .int .i64 ticks]] w fun e w' => e = .returned (.bool true) ∧ Below w.heap.size w w' := by
  have HU := hide (climb_ok c h v draw ticks hr)
  have HF := hide (fall_ok c h v draw ticks hr)
  have HP := hide (rspan_ok v draw ticks hr)
  have HRU := hide (rclimb_any c h.rng v draw ticks hr)
  have HRF := hide (rfall_any c h.rng v draw ticks hr)
  have HC : Hid (∀ W, Calls Try.prog 13 #[cfgV c] W fun e w' => e = .returned (.int .i64 0) ∧ Below W.heap.size W w') := fun W => by
    have := rcheck_any c W
    rw [Cfg.code_of_ok h] at this
    exact this
  clear hr
  clear h
  go_enter Try.func9, Try.ntmps9
  go_wp2_with (first
    | (go_at_call 11; refine (awake_any _).mono ?_; rintro e w1 ⟨rfl, hb1⟩; have z1 := hb1.size; (try simp at z1); have c1x0 := bstep (b := w.heap.size) hb1 (by first | omega | (simp <;> omega)); have y1x0 : w.heap.size < w1.heap.size := (by omega); have c1x1 := bstep (b := w.heap.size + 1) hb1 (by first | omega | (simp <;> omega)); have y1x1 : w.heap.size + 1 < w1.heap.size := (by omega))
    | (go_at_call 25; refine (HU.out _).mono ?_; rintro e w2 ⟨rfl, hb2⟩; have z2 := hb2.size; (try simp at z2); have c2x0 := bstep (b := w.heap.size) hb2 (by first | omega | (simp <;> omega)); have y2x0 : w.heap.size < w2.heap.size := (by omega); have c2x1 := bstep (b := w.heap.size + 1) hb2 (by first | omega | (simp <;> omega)); have y2x1 : w.heap.size + 1 < w2.heap.size := (by omega))
    | (go_at_call 26; refine (HF.out _).mono ?_; rintro e w3 ⟨rfl, hb3⟩; have z3 := hb3.size; (try simp at z3); have c3x0 := bstep (b := w.heap.size) hb3 (by first | omega | (simp <;> omega)); have y3x0 : w.heap.size < w3.heap.size := (by omega); have c3x1 := bstep (b := w.heap.size + 1) hb3 (by first | omega | (simp <;> omega)); have y3x1 : w.heap.size + 1 < w3.heap.size := (by omega))
    | (go_at_call 13; refine (HC.out _).mono ?_; rintro e w4 ⟨rfl, hb4⟩; have z4 := hb4.size; (try simp at z4); have c4x0 := bstep (b := w.heap.size) hb4 (by first | omega | (simp <;> omega)); have y4x0 : w.heap.size < w4.heap.size := (by omega); have c4x1 := bstep (b := w.heap.size + 1) hb4 (by first | omega | (simp <;> omega)); have y4x1 : w.heap.size + 1 < w4.heap.size := (by omega))
    | (go_at_call 27; refine (HP.out _).mono ?_; rintro e w8 ⟨rfl, rfl⟩)
    | (go_at_call 28; refine (HRU.out _).mono ?_; rintro e w5 ⟨rfl, hb5⟩; have z5 := hb5.size; (try simp at z5); have c5x0 := bstep (b := w.heap.size) hb5 (by first | omega | (simp <;> omega)); have y5x0 : w.heap.size < w5.heap.size := (by omega); have c5x1 := bstep (b := w.heap.size + 1) hb5 (by first | omega | (simp <;> omega)); have y5x1 : w.heap.size + 1 < w5.heap.size := (by omega))
    | (go_at_call 29; refine (HRF.out _).mono ?_; rintro e w6 ⟨rfl, hb6⟩; have z6 := hb6.size; (try simp at z6); have c6x0 := bstep (b := w.heap.size) hb6 (by first | omega | (simp <;> omega)); have y6x0 : w.heap.size < w6.heap.size := (by omega); have c6x1 := bstep (b := w.heap.size + 1) hb6 (by first | omega | (simp <;> omega)); have y6x1 : w.heap.size + 1 < w6.heap.size := (by omega))
    | (go_at_call 14; first | (with_reducible refine (num_nil _).mono ?_; rintro e w9 ⟨rfl, rfl⟩) | (with_reducible refine (num_err _ _).mono ?_; rintro e w9 ⟨rfl, rfl⟩)))
  go_ret
  have H1 : Below w.heap.size w w1 := (((Below.refl _ _).alloc (Nat.le_refl _) _).alloc (by first | omega | (simp <;> omega)) _).trans (hb1.mono (by first | omega | (simp <;> omega)))
  have H2 : Below w.heap.size w w2 := H1.trans (hb2.mono (by first | omega | (simp <;> omega)))
  have H3 : Below w.heap.size w w3 := H2.trans (hb3.mono (by first | omega | (simp <;> omega)))
  have H4 : Below w.heap.size w w4 := H3.trans (hb4.mono (by first | omega | (simp <;> omega)))
  have H5 : Below w.heap.size w w5 := H4.trans (hb5.mono (by first | omega | (simp <;> omega)))
  have H6 : Below w.heap.size w w6 := H5.trans (hb6.mono (by first | omega | (simp <;> omega)))
  exact ⟨rfl, H6⟩

theorem linkSpans_walk (c : Cfg) (v draw ticks : Int) (w : World) :
    Calls Try.prog 9 #[.agg #[.int .i64 c.num, .int .i64 c.den, .int .i64 c.supply, .int .i64 c.feed, .int .i64 c.ohm, .int .i64 c.on, .int .i64 c.off, .int .i64 c.bohm], .agg #[.int .i64 v, .int .i64 draw, .int .i64 ticks]] w fun e w' => e = .returned (.bool true) ∧ Below w.heap.size w w' := by
  by_cases h : c.code = 0
  · have hk := Cfg.ok_of_code h
    by_cases hr : (0 ≤ v ∧ v ≤ 1048576) ∧ (0 ≤ draw ∧ draw ≤ 4194304) ∧ (0 ≤ ticks ∧ ticks ≤ 1048576)
    · exact linkSpans_ok c hk v draw ticks hr w
    · exact linkSpans_out c hk v draw ticks hr w
  · exact linkSpans_err c h v draw ticks w

set_option maxRecDepth 100000 in
theorem linkSpans_lifted (os : Os) (started : os.Started) (H : Type) (enc : TypeId × Value → H) :
    ReturnsInHanded {} Try.checked os 9 .any (Rows.linkSpansSpec.pre6 enc Try.prog Try.f9 Rows.linkSpansRow.domain false) (Rows.linkSpansSpec.post enc Try.prog Try.f9 false true false false) := by
  refine lift (C := Try.checked) (s := Rows.linkSpansSpec) 4 Try.own started (by kernel_rfl) Try.func9 Try.laidOut rfl rfl Try.underlying4 (by kernel_rfl)
    (fun ds hds => by
      have hl : ds.length = 2 := hds
      match ds, hl with
      | [_, _], _ => rfl)
    (ChangeSpec.witness6 (enc := enc) (C := Try.checked) false ⟨#[], #[.agg #[.int .i64 0, .int .i64 0, .int .i64 0, .int .i64 0, .int .i64 0, .int .i64 0, .int .i64 0, .int .i64 0], .agg #[.int .i64 0, .int .i64 0, .int .i64 0]], []⟩ 8 (by kernel_rfl) (by kernel_rfl) (by kernel_rfl) (by kernel_rfl)) ?_
  intro W base args ds p hval0 hA0
  have hval : ∀ (j : Nat) t v, Try.f9.params[j]? = some t → args[j]? = some v → Value.okWide Try.prog W .any base t v := hval0
  have hA : DataW.TrodAll enc Try.prog W 0 (fun _ => true) true Try.f9.params.toList args.toList ds p := hA0
  clear hval0 hA0
  rw [Try.params9] at hA hval
  obtain ⟨v0, vs0, d0, ds0, p0, q0, hargs, rfl, rfl, h0, r0⟩ := trodAll_cons hA
  obtain ⟨v1, vs1, d1, ds1, p1, q1, rfl, rfl, rfl, h1, r1⟩ := trodAll_cons r0
  obtain ⟨rfl, rfl, rfl⟩ := trodAll_nil r1
  obtain rfl : args = #[v0, v1] := by cases args; simp_all
  obtain ⟨l0, rfl, g0⟩ := arg_struct 4 Try.underlying23 (ks := [some .i64, some .i64, some .i64, some .i64, some .i64, some .i64, some .i64, some .i64]) (by kernel_rfl) (hval 0 23 v0 rfl rfl) h0
  obtain ⟨_, _, rfl, ⟨a0, rfl, wa0⟩, g0x0⟩ := g0
  obtain ⟨_, _, rfl, ⟨a1, rfl, wa1⟩, g0x1⟩ := g0x0
  obtain ⟨_, _, rfl, ⟨a2, rfl, wa2⟩, g0x2⟩ := g0x1
  obtain ⟨_, _, rfl, ⟨a3, rfl, wa3⟩, g0x3⟩ := g0x2
  obtain ⟨_, _, rfl, ⟨a4, rfl, wa4⟩, g0x4⟩ := g0x3
  obtain ⟨_, _, rfl, ⟨a5, rfl, wa5⟩, g0x5⟩ := g0x4
  obtain ⟨_, _, rfl, ⟨a6, rfl, wa6⟩, g0x6⟩ := g0x5
  obtain ⟨_, _, rfl, ⟨a7, rfl, wa7⟩, g0x7⟩ := g0x6
  simp only [Fits] at g0x7
  subst g0x7
  obtain ⟨l1, rfl, g1⟩ := arg_struct 4 Try.underlying56 (ks := [some .i64, some .i64, some .i64]) (by kernel_rfl) (hval 1 56 v1 rfl rfl) h1
  obtain ⟨_, _, rfl, ⟨x0, rfl, wx0⟩, g1x0⟩ := g1
  obtain ⟨_, _, rfl, ⟨x1, rfl, wx1⟩, g1x1⟩ := g1x0
  obtain ⟨_, _, rfl, ⟨x2, rfl, wx2⟩, g1x2⟩ := g1x1
  simp only [Fits] at g1x2
  subst g1x2
  exact linkSpans_walk ⟨a0, a1, a2, a3, a4, a5, a6, a7⟩ x0 x1 x2 W

theorem linkSpans_over : Rows.linkSpansRow.holds Try.pinned (OpenSpec.ofChange Rows.linkSpansSpec) :=
  OpenClaim.holds_of_wide 9 Try.f9 rfl rfl rfl rfl rfl rfl rfl ⟨rfl, rfl, rfl, rfl, rfl⟩ rfl rfl rfl rfl rfl (by kernel_rfl) Try.func9 (by kernel_rfl)
    (of_decide_eq_true (by kernel_rfl)) (by unfold Func.isWrapper; first | (rw [if_pos (by decide +kernel)]; kernel_rfl) | (rw [if_neg (by decide +kernel)]; exact ⟨rfl, rfl⟩))
    (fun os started H enc _ => linkSpans_lifted os started H enc)

theorem linkSpans_holds : Rows.LinkSpansSaid := linkSpans_over
#print axioms linkSpans_holds
end Go.Proofs.Ytahhebeceehbeaa

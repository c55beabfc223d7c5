/- LinkChecks holds: Check accepts exactly the configurations of the specified form; Start returns the state at Supply, or the same error. No condition. -/
import Derived.Test.YtahhebeceehbeaaRows
import Derived.Test.YtahhebeceehbeaaFlat
import Derived.Test.YtahhebeceehbeaaLinkE
import Derived.Deep.RegionHeld3
namespace Go.Proofs.Ytahhebeceehbeaa
open Go.RowKit LM Flat Go.ChangeShapes

set_option maxHeartbeats 2000000 in
theorem linkChecks_ok (c : Cfg) (h : c.Ok) (w : World) :
    Calls Try.prog 6 #[.agg #[.int .i64 c.num, .int .i64 c.den, .int .i64 c.supply, .int .i64 c.feed, .int .i64 c.ohm, .int .i64 c.on, .int .i64 c.off, .int .i64 c.bohm]] w fun e w' => e = .returned (.bool true) ∧ Below w.heap.size w w' := by
  have HS := hide (start_ok c h)
  have HK := hide (fun W => check_ok c W h)
  have HC : Hid (∀ W, Calls Try.prog 13 #[cfgV c] W fun e w' => e = .returned (.int .i64 0) ∧ Below W.heap.size W w') := fun W => by
    have := rcheck_any c W
    rw [Cfg.code_of_ok h] at this
    exact this
  clear h
  go_enter Try.func6, Try.ntmps6
  go_wp2_with (first
    | (go_at_call 11; refine (awake_any _).mono ?_; rintro e w1 ⟨rfl, hb1⟩; have z1 := hb1.size; (try simp at z1); have c1x0 := bstep (b := w.heap.size) hb1 (by first | omega | (simp <;> omega)); have y1x0 : w.heap.size < w1.heap.size := (by omega))
    | (go_at_call 13; refine (HC.out _).mono ?_; rintro e w2 ⟨rfl, hb2⟩; have z2 := hb2.size; (try simp at z2); have c2x0 := bstep (b := w.heap.size) hb2 (by first | omega | (simp <;> omega)); have y2x0 : w.heap.size < w2.heap.size := (by omega))
    | (go_at_call 18; refine (HS.out _).mono ?_; rintro e w3 ⟨rfl, hb3⟩; have z3 := hb3.size; (try simp at z3); have c3x0 := bstep (b := w.heap.size) hb3 (by first | omega | (simp <;> omega)); have y3x0 : w.heap.size < w3.heap.size := (by omega))
    | (go_at_call 16; refine (HK.out _).mono ?_; rintro e w4 ⟨rfl, hb4⟩; have z4 := hb4.size; (try simp at z4); have c4x0 := bstep (b := w.heap.size) hb4 (by first | omega | (simp <;> omega)); have y4x0 : w.heap.size < w4.heap.size := (by omega); have c4x1 := bstep (b := w3.heap.size) hb4 (by first | omega | (simp <;> omega)); have y4x1 : w3.heap.size < w4.heap.size := (by omega))
    | (go_at_call 14; first | (with_reducible refine (num_nil _).mono ?_; rintro e w9 ⟨rfl, rfl⟩) | (with_reducible refine (num_err _ _).mono ?_; rintro e w9 ⟨rfl, rfl⟩)))
  go_ret
  have H1 : Below w.heap.size w w1 := ((Below.refl _ _).alloc (Nat.le_refl _) _).trans (hb1.mono (by first | omega | (simp <;> omega)))
  have H2 : Below w.heap.size w w2 := H1.trans (hb2.mono (by first | omega | (simp <;> omega)))
  have H3 : Below w.heap.size w w3 := H2.trans (hb3.mono (by first | omega | (simp <;> omega)))
  have H4 : Below w.heap.size w w4 := (H3.alloc (by first | omega | (simp <;> omega)) _).trans (hb4.mono (by first | omega | (simp <;> omega)))
  exact ⟨rfl, H4⟩

set_option maxHeartbeats 2000000 in
theorem linkChecks_err (c : Cfg) (h : c.code ≠ 0) (w : World) :
    Calls Try.prog 6 #[.agg #[.int .i64 c.num, .int .i64 c.den, .int .i64 c.supply, .int .i64 c.feed, .int .i64 c.ohm, .int .i64 c.on, .int .i64 c.off, .int .i64 c.bohm]] w fun e w' => e = .returned (.bool true) ∧ Below w.heap.size w w' := by
  have HS := hide (start_err c h)
  have HK := hide (fun W => check_err c W h)
  have HC : Hid (∀ W, Calls Try.prog 13 #[cfgV c] W fun e w' => e = .returned (.int .i64 c.code) ∧ Below W.heap.size W w') := fun W => rcheck_any c W
  have hne : (c.code == 0) = false := by simpa using h
  have hne' : (c.code != 0) = true := by simpa using h
  clear h
  go_enter Try.func6, Try.ntmps6
  go_wp2_with (first
    | (go_at_call 11; refine (awake_any _).mono ?_; rintro e w1 ⟨rfl, hb1⟩; have z1 := hb1.size; (try simp at z1); have c1x0 := bstep (b := w.heap.size) hb1 (by first | omega | (simp <;> omega)); have y1x0 : w.heap.size < w1.heap.size := (by omega))
    | (go_at_call 13; refine (HC.out _).mono ?_; rintro e w2 ⟨rfl, hb2⟩; have z2 := hb2.size; (try simp at z2); have c2x0 := bstep (b := w.heap.size) hb2 (by first | omega | (simp <;> omega)); have y2x0 : w.heap.size < w2.heap.size := (by omega))
    | (go_at_call 18; refine (HS.out _).mono ?_; rintro e w3 ⟨rfl, hb3⟩; have z3 := hb3.size; (try simp at z3); have c3x0 := bstep (b := w.heap.size) hb3 (by first | omega | (simp <;> omega)); have y3x0 : w.heap.size < w3.heap.size := (by omega))
    | (go_at_call 16; refine (HK.out _).mono ?_; rintro e w4 ⟨rfl, hb4⟩; have z4 := hb4.size; (try simp at z4); have c4x0 := bstep (b := w.heap.size) hb4 (by first | omega | (simp <;> omega)); have y4x0 : w.heap.size < w4.heap.size := (by omega); have c4x1 := bstep (b := w3.heap.size) hb4 (by first | omega | (simp <;> omega)); have y4x1 : w3.heap.size < w4.heap.size := (by omega))
    | (go_at_call 14; first | (with_reducible refine (num_nil _).mono ?_; rintro e w9 ⟨rfl, rfl⟩) | (with_reducible refine (num_err _ _).mono ?_; rintro e w9 ⟨rfl, rfl⟩)))
  go_ret
  have H1 : Below w.heap.size w w1 := ((Below.refl _ _).alloc (Nat.le_refl _) _).trans (hb1.mono (by first | omega | (simp <;> omega)))
  have H2 : Below w.heap.size w w2 := H1.trans (hb2.mono (by first | omega | (simp <;> omega)))
  have H3 : Below w.heap.size w w3 := H2.trans (hb3.mono (by first | omega | (simp <;> omega)))
  have H4 : Below w.heap.size w w4 := (H3.alloc (by first | omega | (simp <;> omega)) _).trans (hb4.mono (by first | omega | (simp <;> omega)))
  exact ⟨rfl, H4⟩

theorem linkChecks_walk (c : Cfg) (w : World) :
    Calls Try.prog 6 #[.agg #[.int .i64 c.num, .int .i64 c.den, .int .i64 c.supply, .int .i64 c.feed, .int .i64 c.ohm, .int .i64 c.on, .int .i64 c.off, .int .i64 c.bohm]] w fun e w' => e = .returned (.bool true) ∧ Below w.heap.size w w' := by
  by_cases h : c.code = 0
  · exact linkChecks_ok c (Cfg.ok_of_code h) w
  · exact linkChecks_err c h w

set_option maxRecDepth 100000 in
theorem linkChecks_lifted (os : Os) (started : os.Started) (H : Type) (enc : TypeId × Value → H) :
    ReturnsInHanded {} Try.checked os 6 .any (Rows.linkChecksSpec.pre6 enc Try.prog Try.f6 Rows.linkChecksRow.domain false) (Rows.linkChecksSpec.post enc Try.prog Try.f6 false true false false) := by
  refine lift (C := Try.checked) (s := Rows.linkChecksSpec) 4 Try.own started (by kernel_rfl) Try.func6 Try.laidOut rfl rfl Try.underlying4 (by kernel_rfl)
    (fun ds hds => by
      have hl : ds.length = 1 := hds
      match ds, hl with
      | [_], _ => rfl)
    (ChangeSpec.witness6 (enc := enc) (C := Try.checked) false ⟨#[], #[.agg #[.int .i64 0, .int .i64 0, .int .i64 0, .int .i64 0, .int .i64 0, .int .i64 0, .int .i64 0, .int .i64 0]], []⟩ 8 (by kernel_rfl) (by kernel_rfl) (by kernel_rfl) (by kernel_rfl)) ?_
  intro W base args ds p hval0 hA0
  have hval : ∀ (j : Nat) t v, Try.f6.params[j]? = some t → args[j]? = some v → Value.okWide Try.prog W .any base t v := hval0
  have hA : DataW.TrodAll enc Try.prog W 0 (fun _ => true) true Try.f6.params.toList args.toList ds p := hA0
  clear hval0 hA0
  rw [Try.params6] at hA hval
  obtain ⟨v0, vs0, d0, ds0, p0, q0, hargs, rfl, rfl, h0, r0⟩ := trodAll_cons hA
  obtain ⟨rfl, rfl, rfl⟩ := trodAll_nil r0
  obtain rfl : args = #[v0] := by cases args; simp_all
  obtain ⟨l0, rfl, g0⟩ := arg_struct 4 Try.underlying23 (ks := [some .i64, some .i64, some .i64, some .i64, some .i64, some .i64, some .i64, some .i64]) (by kernel_rfl) (hval 0 23 v0 rfl rfl) h0
  obtain ⟨_, _, rfl, ⟨a0, rfl, wa0⟩, g0x0⟩ := g0
  obtain ⟨_, _, rfl, ⟨a1, rfl, wa1⟩, g0x1⟩ := g0x0
  obtain ⟨_, _, rfl, ⟨a2, rfl, wa2⟩, g0x2⟩ := g0x1
  obtain ⟨_, _, rfl, ⟨a3, rfl, wa3⟩, g0x3⟩ := g0x2
  obtain ⟨_, _, rfl, ⟨a4, rfl, wa4⟩, g0x4⟩ := g0x3
  obtain ⟨_, _, rfl, ⟨a5, rfl, wa5⟩, g0x5⟩ := g0x4
  obtain ⟨_, _, rfl, ⟨a6, rfl, wa6⟩, g0x6⟩ := g0x5
  obtain ⟨_, _, rfl, ⟨a7, rfl, wa7⟩, g0x7⟩ := g0x6
  simp only [Fits] at g0x7
  subst g0x7
  exact linkChecks_walk ⟨a0, a1, a2, a3, a4, a5, a6, a7⟩ W

theorem linkChecks_over : Rows.linkChecksRow.holds Try.pinned (OpenSpec.ofChange Rows.linkChecksSpec) :=
  OpenClaim.holds_of_wide 6 Try.f6 rfl rfl rfl rfl rfl rfl rfl ⟨rfl, rfl, rfl, rfl, rfl⟩ rfl rfl rfl rfl rfl (by kernel_rfl) Try.func6 (by kernel_rfl)
    (of_decide_eq_true (by kernel_rfl)) (by unfold Func.isWrapper; first | (rw [if_pos (by decide +kernel)]; kernel_rfl) | (rw [if_neg (by decide +kernel)]; exact ⟨rfl, rfl⟩))
    (fun os started H enc _ => linkChecks_lifted os started H enc)

theorem linkChecks_holds : Rows.LinkChecksSaid := linkChecks_over
#print axioms linkChecks_holds
end Go.Proofs.Ytahhebeceehbeaa

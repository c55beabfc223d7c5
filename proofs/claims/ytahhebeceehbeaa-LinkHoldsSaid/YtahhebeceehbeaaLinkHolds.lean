/- LinkHolds holds: Holds and Ceiling return what is specified, or the errors as specified. No condition. -/
import Derived.Test.YtahhebeceehbeaaRows
import Derived.Test.YtahhebeceehbeaaFlat
import Derived.Test.YtahhebeceehbeaaLinkE
import Derived.Deep.RegionHeld3
namespace Go.Proofs.Ytahhebeceehbeaa
open Go.RowKit LM Flat Go.ChangeShapes

set_option maxHeartbeats 2000000 in
theorem linkHolds_err (c : Cfg) (h : c.code ≠ 0) (draw : Int) (w : World) :
    Calls Try.prog 7 #[.agg #[.int .i64 c.num, .int .i64 c.den, .int .i64 c.supply, .int .i64 c.feed, .int .i64 c.ohm, .int .i64 c.on, .int .i64 c.off, .int .i64 c.bohm], .int .i64 draw] w fun e w' => e = .returned (.bool true) ∧ Below w.heap.size w w' := by
  have HH := hide (holds_err c h draw)
  have HK := hide (ceiling_err c h draw)
  have HC : Hid (∀ W, Calls Try.prog 13 #[cfgV c] W fun e w' => e = .returned (.int .i64 c.code) ∧ Below W.heap.size W w') := fun W => rcheck_any c W
  have hne : (c.code == 0) = false := by simpa using h
  have hne' : (c.code != 0) = true := by simpa using h
  clear h
  go_enter Try.func7, Try.ntmps7
  go_wp2_with (first
    | (go_at_call 11; refine (awake_any _).mono ?_; rintro e w1 ⟨rfl, hb1⟩; have z1 := hb1.size; (try simp at z1); have c1x0 := bstep (b := w.heap.size) hb1 (by first | omega | (simp <;> omega)); have y1x0 : w.heap.size < w1.heap.size := (by omega))
    | (go_at_call 13; refine (HC.out _).mono ?_; rintro e w4 ⟨rfl, hb4⟩; have z4 := hb4.size; (try simp at z4); have c4x0 := bstep (b := w.heap.size) hb4 (by first | omega | (simp <;> omega)); have y4x0 : w.heap.size < w4.heap.size := (by omega))
    | (go_at_call 19; refine (HH.out _).mono ?_; rintro e w2 ⟨rfl, hb2⟩; have z2 := hb2.size; (try simp at z2); have c2x0 := bstep (b := w.heap.size) hb2 (by first | omega | (simp <;> omega)); have y2x0 : w.heap.size < w2.heap.size := (by omega))
    | (go_at_call 20; refine (HK.out _).mono ?_; rintro e w3 ⟨rfl, hb3⟩; have z3 := hb3.size; (try simp at z3); have c3x0 := bstep (b := w.heap.size) hb3 (by first | omega | (simp <;> omega)); have y3x0 : w.heap.size < w3.heap.size := (by omega))
    | (go_at_call 21; refine (HRH.out _).mono ?_; rintro e w5 ⟨rfl, hb5⟩; have z5 := hb5.size; (try simp at z5); have c5x0 := bstep (b := w.heap.size) hb5 (by first | omega | (simp <;> omega)); have y5x0 : w.heap.size < w5.heap.size := (by omega))
    | (go_at_call 14; first | (with_reducible refine (num_nil _).mono ?_; rintro e w9 ⟨rfl, rfl⟩) | (with_reducible refine (num_err _ _).mono ?_; rintro e w9 ⟨rfl, rfl⟩))
    | (go_at_call 14; first | (with_reducible refine (num_nil _).mono ?_; rintro e w9 ⟨rfl, rfl⟩) | (with_reducible refine (num_err _ _).mono ?_; rintro e w9 ⟨rfl, rfl⟩))
    | (go_at_call 22; refine (is_err _ _).mono ?_; rintro e w9 ⟨rfl, rfl⟩))
  go_ret
  have H1 : Below w.heap.size w w1 := ((Below.refl _ _).alloc (Nat.le_refl _) _).trans (hb1.mono (by first | omega | (simp <;> omega)))
  have H2 : Below w.heap.size w w2 := H1.trans (hb2.mono (by first | omega | (simp <;> omega)))
  have H3 : Below w.heap.size w w3 := H2.trans (hb3.mono (by first | omega | (simp <;> omega)))
  have H4 : Below w.heap.size w w4 := H3.trans (hb4.mono (by first | omega | (simp <;> omega)))
  exact ⟨rfl, H4⟩

set_option maxHeartbeats 2000000 in
theorem linkHolds_out (c : Cfg) (h : c.Ok) (draw : Int) (hd : ¬ (0 ≤ draw ∧ draw ≤ 4194304)) (w : World) :
    Calls Try.prog 7 #[.agg #[.int .i64 c.num, .int .i64 c.den, .int .i64 c.supply, .int .i64 c.feed, .int .i64 c.ohm, .int .i64 c.on, .int .i64 c.off, .int .i64 c.bohm], .int .i64 draw] w fun e w' => e = .returned (.bool true) ∧ Below w.heap.size w w' := by
  have HH := hide (holds_out c h draw hd)
  have HK := hide (ceiling_out c h draw hd)
  have HC : Hid (∀ W, Calls Try.prog 13 #[cfgV c] W fun e w' => e = .returned (.int .i64 0) ∧ Below W.heap.size W w') := fun W => by
    have := rcheck_any c W
    rw [Cfg.code_of_ok h] at this
    exact this
  clear h
  rcases (show draw < 0 ∨ (0 ≤ draw ∧ 4194304 < draw) by omega) with hd1 | hd1
  · clear hd
    go_enter Try.func7, Try.ntmps7
    go_wp2_with (first
      | (go_at_call 11; refine (awake_any _).mono ?_; rintro e w1 ⟨rfl, hb1⟩; have z1 := hb1.size; (try simp at z1); have c1x0 := bstep (b := w.heap.size) hb1 (by first | omega | (simp <;> omega)); have y1x0 : w.heap.size < w1.heap.size := (by omega))
      | (go_at_call 13; refine (HC.out _).mono ?_; rintro e w4 ⟨rfl, hb4⟩; have z4 := hb4.size; (try simp at z4); have c4x0 := bstep (b := w.heap.size) hb4 (by first | omega | (simp <;> omega)); have y4x0 : w.heap.size < w4.heap.size := (by omega))
      | (go_at_call 19; refine (HH.out _).mono ?_; rintro e w2 ⟨rfl, hb2⟩; have z2 := hb2.size; (try simp at z2); have c2x0 := bstep (b := w.heap.size) hb2 (by first | omega | (simp <;> omega)); have y2x0 : w.heap.size < w2.heap.size := (by omega))
      | (go_at_call 20; refine (HK.out _).mono ?_; rintro e w3 ⟨rfl, hb3⟩; have z3 := hb3.size; (try simp at z3); have c3x0 := bstep (b := w.heap.size) hb3 (by first | omega | (simp <;> omega)); have y3x0 : w.heap.size < w3.heap.size := (by omega))
      | (go_at_call 21; refine (HRH.out _).mono ?_; rintro e w5 ⟨rfl, hb5⟩; have z5 := hb5.size; (try simp at z5); have c5x0 := bstep (b := w.heap.size) hb5 (by first | omega | (simp <;> omega)); have y5x0 : w.heap.size < w5.heap.size := (by omega))
      | (go_at_call 14; first | (with_reducible refine (num_nil _).mono ?_; rintro e w9 ⟨rfl, rfl⟩) | (with_reducible refine (num_err _ _).mono ?_; rintro e w9 ⟨rfl, rfl⟩))
      | (go_at_call 14; first | (with_reducible refine (num_nil _).mono ?_; rintro e w9 ⟨rfl, rfl⟩) | (with_reducible refine (num_err _ _).mono ?_; rintro e w9 ⟨rfl, rfl⟩))
      | (go_at_call 22; refine (is_err _ _).mono ?_; rintro e w9 ⟨rfl, rfl⟩))
    go_ret
    have H1 : Below w.heap.size w w1 := ((Below.refl _ _).alloc (Nat.le_refl _) _).trans (hb1.mono (by first | omega | (simp <;> omega)))
    have H2 : Below w.heap.size w w2 := H1.trans (hb2.mono (by first | omega | (simp <;> omega)))
    have H3 : Below w.heap.size w w3 := H2.trans (hb3.mono (by first | omega | (simp <;> omega)))
    have H4 : Below w.heap.size w w4 := H3.trans (hb4.mono (by first | omega | (simp <;> omega)))
    exact ⟨rfl, H4⟩
  · clear hd
    go_enter Try.func7, Try.ntmps7
    go_wp2_with (first
      | (go_at_call 11; refine (awake_any _).mono ?_; rintro e w1 ⟨rfl, hb1⟩; have z1 := hb1.size; (try simp at z1); have c1x0 := bstep (b := w.heap.size) hb1 (by first | omega | (simp <;> omega)); have y1x0 : w.heap.size < w1.heap.size := (by omega))
      | (go_at_call 13; refine (HC.out _).mono ?_; rintro e w4 ⟨rfl, hb4⟩; have z4 := hb4.size; (try simp at z4); have c4x0 := bstep (b := w.heap.size) hb4 (by first | omega | (simp <;> omega)); have y4x0 : w.heap.size < w4.heap.size := (by omega))
      | (go_at_call 19; refine (HH.out _).mono ?_; rintro e w2 ⟨rfl, hb2⟩; have z2 := hb2.size; (try simp at z2); have c2x0 := bstep (b := w.heap.size) hb2 (by first | omega | (simp <;> omega)); have y2x0 : w.heap.size < w2.heap.size := (by omega))
      | (go_at_call 20; refine (HK.out _).mono ?_; rintro e w3 ⟨rfl, hb3⟩; have z3 := hb3.size; (try simp at z3); have c3x0 := bstep (b := w.heap.size) hb3 (by first | omega | (simp <;> omega)); have y3x0 : w.heap.size < w3.heap.size := (by omega))
      | (go_at_call 21; refine (HRH.out _).mono ?_; rintro e w5 ⟨rfl, hb5⟩; have z5 := hb5.size; (try simp at z5); have c5x0 := bstep (b := w.heap.size) hb5 (by first | omega | (simp <;> omega)); have y5x0 : w.heap.size < w5.heap.size := (by omega))
      | (go_at_call 14; first | (with_reducible refine (num_nil _).mono ?_; rintro e w9 ⟨rfl, rfl⟩) | (with_reducible refine (num_err _ _).mono ?_; rintro e w9 ⟨rfl, rfl⟩))
      | (go_at_call 14; first | (with_reducible refine (num_nil _).mono ?_; rintro e w9 ⟨rfl, rfl⟩) | (with_reducible refine (num_err _ _).mono ?_; rintro e w9 ⟨rfl, rfl⟩))
      | (go_at_call 22; refine (is_err _ _).mono ?_; rintro e w9 ⟨rfl, rfl⟩))
    go_ret
    have H1 : Below w.heap.size w w1 := ((Below.refl _ _).alloc (Nat.le_refl _) _).trans (hb1.mono (by first | omega | (simp <;> omega)))
    have H2 : Below w.heap.size w w2 := H1.trans (hb2.mono (by first | omega | (simp <;> omega)))
    have H3 : Below w.heap.size w w3 := H2.trans (hb3.mono (by first | omega | (simp <;> omega)))
    have H4 : Below w.heap.size w w4 := H3.trans (hb4.mono (by first | omega | (simp <;> omega)))
    exact ⟨rfl, H4⟩

set_option maxHeartbeats 2000000 in
theorem linkHolds_no (c : Cfg) (h : c.Ok) (draw : Int) (d0 : 0 ≤ draw) (d1 : draw ≤ 4194304) (hh : holdsB c draw = false) (w : World) :
    Calls Try.prog 7 #[.agg #[.int .i64 c.num, .int .i64 c.den, .int .i64 c.supply, .int .i64 c.feed, .int .i64 c.ohm, .int .i64 c.on, .int .i64 c.off, .int .i64 c.bohm], .int .i64 draw] w fun e w' => e = .returned (.bool true) ∧ Below w.heap.size w w' := by
  have HH := hide (hh ▸ holds_ok c h draw d0 d1)
  have HK := hide (ceiling_no c h draw d0 d1 hh)
  have HC : Hid (∀ W, Calls Try.prog 13 #[cfgV c] W fun e w' => e = .returned (.int .i64 0) ∧ Below W.heap.size W w') := fun W => by
    have := rcheck_any c W
    rw [Cfg.code_of_ok h] at this
    exact this
  have HRH := hide (fun W => hh ▸ rholds_any c h.rng draw W)
  clear h hh
  go_enter Try.func7, Try.ntmps7
  go_wp2_with (first
    | (go_at_call 11; refine (awake_any _).mono ?_; rintro e w1 ⟨rfl, hb1⟩; have z1 := hb1.size; (try simp at z1); have c1x0 := bstep (b := w.heap.size) hb1 (by first | omega | (simp <;> omega)); have y1x0 : w.heap.size < w1.heap.size := (by omega))
    | (go_at_call 13; refine (HC.out _).mono ?_; rintro e w4 ⟨rfl, hb4⟩; have z4 := hb4.size; (try simp at z4); have c4x0 := bstep (b := w.heap.size) hb4 (by first | omega | (simp <;> omega)); have y4x0 : w.heap.size < w4.heap.size := (by omega))
    | (go_at_call 19; refine (HH.out _).mono ?_; rintro e w2 ⟨rfl, hb2⟩; have z2 := hb2.size; (try simp at z2); have c2x0 := bstep (b := w.heap.size) hb2 (by first | omega | (simp <;> omega)); have y2x0 : w.heap.size < w2.heap.size := (by omega))
    | (go_at_call 20; refine (HK.out _).mono ?_; rintro e w3 ⟨rfl, hb3⟩; have z3 := hb3.size; (try simp at z3); have c3x0 := bstep (b := w.heap.size) hb3 (by first | omega | (simp <;> omega)); have y3x0 : w.heap.size < w3.heap.size := (by omega))
    | (go_at_call 21; refine (HRH.out _).mono ?_; rintro e w5 ⟨rfl, hb5⟩; have z5 := hb5.size; (try simp at z5); have c5x0 := bstep (b := w.heap.size) hb5 (by first | omega | (simp <;> omega)); have y5x0 : w.heap.size < w5.heap.size := (by omega))
    | (go_at_call 14; first | (with_reducible refine (num_nil _).mono ?_; rintro e w9 ⟨rfl, rfl⟩) | (with_reducible refine (num_err _ _).mono ?_; rintro e w9 ⟨rfl, rfl⟩))
    | (go_at_call 14; first | (with_reducible refine (num_nil _).mono ?_; rintro e w9 ⟨rfl, rfl⟩) | (with_reducible refine (num_err _ _).mono ?_; rintro e w9 ⟨rfl, rfl⟩))
    | (go_at_call 22; refine (is_err _ _).mono ?_; rintro e w9 ⟨rfl, rfl⟩))
  go_ret
  have H1 : Below w.heap.size w w1 := ((Below.refl _ _).alloc (Nat.le_refl _) _).trans (hb1.mono (by first | omega | (simp <;> omega)))
  have H2 : Below w.heap.size w w2 := H1.trans (hb2.mono (by first | omega | (simp <;> omega)))
  have H3 : Below w.heap.size w w3 := H2.trans (hb3.mono (by first | omega | (simp <;> omega)))
  have H4 : Below w.heap.size w w4 := H3.trans (hb4.mono (by first | omega | (simp <;> omega)))
  have H5 : Below w.heap.size w w5 := H4.trans (hb5.mono (by first | omega | (simp <;> omega)))
  exact ⟨rfl, H5⟩

set_option maxHeartbeats 2000000 in
theorem linkHolds_yes (c : Cfg) (h : c.Ok) (draw : Int) (d0 : 0 ≤ draw) (d1 : draw ≤ 4194304) (hh : holdsB c draw = true) (w : World) :
    Calls Try.prog 7 #[.agg #[.int .i64 c.num, .int .i64 c.den, .int .i64 c.supply, .int .i64 c.feed, .int .i64 c.ohm, .int .i64 c.on, .int .i64 c.off, .int .i64 c.bohm], .int .i64 draw] w fun e w' => e = .returned (.bool true) ∧ Below w.heap.size w w' := by
  have HH := hide (hh ▸ holds_ok c h draw d0 d1)
  have HK := hide (ceiling_ok c h draw d0 d1 hh)
  have HC : Hid (∀ W, Calls Try.prog 13 #[cfgV c] W fun e w' => e = .returned (.int .i64 0) ∧ Below W.heap.size W w') := fun W => by
    have := rcheck_any c W
    rw [Cfg.code_of_ok h] at this
    exact this
  have HRH := hide (fun W => hh ▸ rholds_any c h.rng draw W)
  have HRC := hide (rceiling_any c h.rng draw d0 d1)
  clear h hh
  go_enter Try.func7, Try.ntmps7
  go_wp2_with (first
    | (go_at_call 11; refine (awake_any _).mono ?_; rintro e w1 ⟨rfl, hb1⟩; have z1 := hb1.size; (try simp at z1); have c1x0 := bstep (b := w.heap.size) hb1 (by first | omega | (simp <;> omega)); have y1x0 : w.heap.size < w1.heap.size := (by omega))
    | (go_at_call 13; refine (HC.out _).mono ?_; rintro e w4 ⟨rfl, hb4⟩; have z4 := hb4.size; (try simp at z4); have c4x0 := bstep (b := w.heap.size) hb4 (by first | omega | (simp <;> omega)); have y4x0 : w.heap.size < w4.heap.size := (by omega))
    | (go_at_call 19; refine (HH.out _).mono ?_; rintro e w2 ⟨rfl, hb2⟩; have z2 := hb2.size; (try simp at z2); have c2x0 := bstep (b := w.heap.size) hb2 (by first | omega | (simp <;> omega)); have y2x0 : w.heap.size < w2.heap.size := (by omega))
    | (go_at_call 20; refine (HK.out _).mono ?_; rintro e w3 ⟨rfl, hb3⟩; have z3 := hb3.size; (try simp at z3); have c3x0 := bstep (b := w.heap.size) hb3 (by first | omega | (simp <;> omega)); have y3x0 : w.heap.size < w3.heap.size := (by omega))
    | (go_at_call 21; refine (HRH.out _).mono ?_; rintro e w5 ⟨rfl, hb5⟩; have z5 := hb5.size; (try simp at z5); have c5x0 := bstep (b := w.heap.size) hb5 (by first | omega | (simp <;> omega)); have y5x0 : w.heap.size < w5.heap.size := (by omega))
    | (go_at_call 14; first | (with_reducible refine (num_nil _).mono ?_; rintro e w9 ⟨rfl, rfl⟩) | (with_reducible refine (num_err _ _).mono ?_; rintro e w9 ⟨rfl, rfl⟩))
    | (go_at_call 23; refine (HRC.out _).mono ?_; rintro e w6 ⟨rfl, hb6⟩; have z6 := hb6.size; (try simp at z6); have c6x0 := bstep (b := w.heap.size) hb6 (by first | omega | (simp <;> omega)); have y6x0 : w.heap.size < w6.heap.size := (by omega))
    | (go_at_call 22; refine (is_err _ _).mono ?_; rintro e w9 ⟨rfl, rfl⟩))
  go_ret
  have H1 : Below w.heap.size w w1 := ((Below.refl _ _).alloc (Nat.le_refl _) _).trans (hb1.mono (by first | omega | (simp <;> omega)))
  have H2 : Below w.heap.size w w2 := H1.trans (hb2.mono (by first | omega | (simp <;> omega)))
  have H3 : Below w.heap.size w w3 := H2.trans (hb3.mono (by first | omega | (simp <;> omega)))
  have H4 : Below w.heap.size w w4 := H3.trans (hb4.mono (by first | omega | (simp <;> omega)))
  have H5 : Below w.heap.size w w5 := H4.trans (hb5.mono (by first | omega | (simp <;> omega)))
  have H6 : Below w.heap.size w w6 := H5.trans (hb6.mono (by first | omega | (simp <;> omega)))
  exact ⟨rfl, H6⟩

theorem linkHolds_walk (c : Cfg) (draw : Int) (w : World) :
    Calls Try.prog 7 #[.agg #[.int .i64 c.num, .int .i64 c.den, .int .i64 c.supply, .int .i64 c.feed, .int .i64 c.ohm, .int .i64 c.on, .int .i64 c.off, .int .i64 c.bohm], .int .i64 draw] w fun e w' => e = .returned (.bool true) ∧ Below w.heap.size w w' := by
  by_cases h : c.code = 0
  · have hk := Cfg.ok_of_code h
    by_cases hd : 0 ≤ draw ∧ draw ≤ 4194304
    · cases hh : holdsB c draw with
      | true => exact linkHolds_yes c hk draw hd.1 hd.2 hh w
      | false => exact linkHolds_no c hk draw hd.1 hd.2 hh w
    · exact linkHolds_out c hk draw hd w
  · exact linkHolds_err c h draw w

set_option maxRecDepth 100000 in
theorem linkHolds_lifted (os : Os) (started : os.Started) (H : Type) (enc : TypeId × Value → H) :
    ReturnsInHanded {} Try.checked os 7 .any (Rows.linkHoldsSpec.pre6 enc Try.prog Try.f7 Rows.linkHoldsRow.domain false) (Rows.linkHoldsSpec.post enc Try.prog Try.f7 false true false false) := by
  refine lift (C := Try.checked) (s := Rows.linkHoldsSpec) 4 Try.own started (by kernel_rfl) Try.func7 Try.laidOut rfl rfl Try.underlying4 (by kernel_rfl)
    (fun ds hds => by
      have hl : ds.length = 2 := hds
      match ds, hl with
      | [_, _], _ => rfl)
    (ChangeSpec.witness6 (enc := enc) (C := Try.checked) false ⟨#[], #[.agg #[.int .i64 0, .int .i64 0, .int .i64 0, .int .i64 0, .int .i64 0, .int .i64 0, .int .i64 0, .int .i64 0], .int .i64 0], []⟩ 8 (by kernel_rfl) (by kernel_rfl) (by kernel_rfl) (by kernel_rfl)) ?_
  intro W base args ds p hval0 hA0
  have hval : ∀ (j : Nat) t v, Try.f7.params[j]? = some t → args[j]? = some v → Value.okWide Try.prog W .any base t v := hval0
  have hA : DataW.TrodAll enc Try.prog W 0 (fun _ => true) true Try.f7.params.toList args.toList ds p := hA0
  clear hval0 hA0
  rw [Try.params7] at hA hval
  obtain ⟨v0, vs0, d0, ds0, p0, q0, hargs, rfl, rfl, h0, r0⟩ := trodAll_cons hA
  obtain ⟨v1, vs1, d1, ds1, p1, q1, rfl, rfl, rfl, h1, r1⟩ := trodAll_cons r0
  obtain ⟨rfl, rfl, rfl⟩ := trodAll_nil r1
  obtain rfl : args = #[v0, v1] := by cases args; simp_all
  obtain ⟨l0, rfl, g0⟩ := arg_struct 4 Try.underlying23 (ks := [some .i64, some .i64, some .i64, some .i64, some .i64, some .i64, some .i64, some .i64]) (by kernel_rfl) (hval 0 23 v0 rfl rfl) h0
  obtain ⟨_, _, rfl, ⟨a0, rfl, wa0⟩, g0x0⟩ := g0
  obtain ⟨_, _, rfl, ⟨a1, rfl, wa1⟩, g0x1⟩ := g0x0
  obtain ⟨_, _, rfl, ⟨a2, rfl, wa2⟩, g0x2⟩ := g0x1
  obtain ⟨_, _, rfl, ⟨a3, rfl, wa3⟩, g0x3⟩ := g0x2
  obtain ⟨_, _, rfl, ⟨a4, rfl, wa4⟩, g0x4⟩ := g0x3
  obtain ⟨_, _, rfl, ⟨a5, rfl, wa5⟩, g0x5⟩ := g0x4
  obtain ⟨_, _, rfl, ⟨a6, rfl, wa6⟩, g0x6⟩ := g0x5
  obtain ⟨_, _, rfl, ⟨a7, rfl, wa7⟩, g0x7⟩ := g0x6
  simp only [Fits] at g0x7
  subst g0x7
  obtain ⟨x, rfl, wx⟩ := arg_int Try.underlying3 (hval 1 3 v1 rfl rfl) h1
  exact linkHolds_walk ⟨a0, a1, a2, a3, a4, a5, a6, a7⟩ x W

theorem linkHolds_over : Rows.linkHoldsRow.holds Try.pinned (OpenSpec.ofChange Rows.linkHoldsSpec) :=
  OpenClaim.holds_of_wide 7 Try.f7 rfl rfl rfl rfl rfl rfl rfl ⟨rfl, rfl, rfl, rfl, rfl⟩ rfl rfl rfl rfl rfl (by kernel_rfl) Try.func7 (by kernel_rfl)
    (of_decide_eq_true (by kernel_rfl)) (by unfold Func.isWrapper; first | (rw [if_pos (by decide +kernel)]; kernel_rfl) | (rw [if_neg (by decide +kernel)]; exact ⟨rfl, rfl⟩))
    (fun os started H enc _ => linkHolds_lifted os started H enc)

theorem linkHolds_holds : Rows.LinkHoldsSaid := linkHolds_over
#print axioms linkHolds_holds
end Go.Proofs.Ytahhebeceehbeaa

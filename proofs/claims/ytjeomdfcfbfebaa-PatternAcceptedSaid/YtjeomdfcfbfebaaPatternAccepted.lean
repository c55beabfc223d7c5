/- PatternAccepted holds: what Make returns is accepted; a pulse has the length of its count, or the count is near an end of its range. No condition. -/
import Derived.Test.YtjeomdfcfbfebaaRows
import Derived.Test.YtjeomdfcfbfebaaFlat
import Derived.Test.YtjeomdfcfbfebaaPatH
import Derived.Test.YtjeomdfcfbfebaaPatJ
namespace Go.Proofs.Ytjeomdfcfbfebaa
open Go.RowKit PM Flat Go.ChangeShapes

namespace PM
def Q3 (q0 q1 q2 : Lg) (k : Nat) : Lg := if k = 0 then q0 else if k = 1 then q1 else q2
def C3 (d0 d1 d2 : Int) (k : Nat) : Int := if k = 0 then d0 else if k = 1 then d1 else d2
theorem pulse_cases {d per least : Int} : (d < least ∧ pulse d per least = ⟨0, 0⟩) ∨ (least ≤ d ∧ per - 2 * least < d ∧ pulse d per least = ⟨0, per⟩) ∨ (least ≤ d ∧ d ≤ per - 2 * least ∧ pulse d per least = ⟨(per - d) / 2, (per - d) / 2 + d⟩) := by
  unfold pulse
  by_cases a : d < least
  · exact .inl ⟨a, by rw [if_pos a]⟩
  · by_cases b : per - 2 * least < d
    · exact .inr (.inl ⟨by omega, b, by rw [if_neg a, if_pos b]⟩)
    · exact .inr (.inr ⟨by omega, by omega, by rw [if_neg a, if_neg b]⟩)
end PM
theorem ixQ (q0 q1 q2 : Lg) (k : Nat) (hk : k < 3) (w : World) : (Instr.index 39 (.agg #[.int .i64 q0.a, .int .i64 q0.b, .int .i64 q1.a, .int .i64 q1.b, .int .i64 q2.a, .int .i64 q2.b]) (.int .i64 (k : Int))).run Try.prog w = .ok (.agg #[.int .i64 (Q3 q0 q1 q2 k).a, .int .i64 (Q3 q0 q1 q2 k).b]) w := by
  obtain rfl | rfl | rfl : k = 0 ∨ k = 1 ∨ k = 2 := by omega
  · exact ixLeg0 _ _ _ _ _ _ w
  · exact ixLeg1 _ _ _ _ _ _ w
  · exact ixLeg2 _ _ _ _ _ _ w
theorem cell3 {W : World} {b : Nat} {d0 d1 d2 : Int} (h0 : W.cell? ⟨b, 0, none⟩ = some (.int .i64 d0)) (h1 : W.cell? ⟨b, 1, none⟩ = some (.int .i64 d1)) (h2 : W.cell? ⟨b, 2, none⟩ = some (.int .i64 d2)) (k : Nat) (hk : k < 3) : W.cell? ⟨b, k, none⟩ = some (.int .i64 (C3 d0 d1 d2 k)) := by
  obtain rfl | rfl | rfl : k = 0 ∨ k = 1 ∨ k = 2 := by omega
  · exact h0
  · exact h1
  · exact h2
set_option maxHeartbeats 16000000 in
set_option maxRecDepth 100000 in
theorem patternAccepted_core (d0 d1 d2 per0 least0 per least c0 c1 c2 : Int) (q0 q1 q2 : Lg) (hr : okRng per least) (hc : okCnt c0 c1 c2 per)
    (hF : ∀ W : World, Calls Try.prog 33 #[.agg #[.int .i64 per0, .int .i64 least0]] W fun e w' => e = .returned (.agg #[.int .i64 per, .int .i64 least]) ∧ Below W.heap.size W w')
    (hc0 : ∀ W : World, Calls Try.prog 22 #[.int .i64 d0, .int .i64 0, .int .i64 per] W fun e w' => e = .returned (.int .i64 c0) ∧ w' = W)
    (hc1 : ∀ W : World, Calls Try.prog 22 #[.int .i64 d1, .int .i64 0, .int .i64 per] W fun e w' => e = .returned (.int .i64 c1) ∧ w' = W)
    (hc2 : ∀ W : World, Calls Try.prog 22 #[.int .i64 d2, .int .i64 0, .int .i64 per] W fun e w' => e = .returned (.int .i64 c2) ∧ w' = W)
    (e0 : q0 = pulse c0 per least) (e1 : q1 = pulse c1 per least) (e2 : q2 = pulse c2 per least) (w : World) :
    Calls Try.prog 8 #[.agg #[.int .i64 d0, .int .i64 d1, .int .i64 d2], .agg #[.int .i64 per0, .int .i64 least0]] w fun e w' => e = .returned (.bool true) ∧ Below w.heap.size w w' := by
  have HF := hide hF
  have HCL0 := hide hc0
  have HCL1 := hide hc1
  have HCL2 := hide hc2
  have HMK : Hid (∀ W : World, Calls Try.prog 25 #[.agg #[.int .i64 c0, .int .i64 c1, .int .i64 c2], .int .i64 per, .int .i64 least] W fun e w' => e = .returned (.tuple #[.agg #[.int .i64 q0.a, .int .i64 q0.b, .int .i64 q1.a, .int .i64 q1.b, .int .i64 q2.a, .int .i64 q2.b], .nilIface]) ∧ Below W.heap.size W w') :=
    hide (fun W => by rw [e0, e1, e2]; exact make_ok c0 c1 c2 per least hr hc W)
  have HCK : Hid (∀ W : World, Calls Try.prog 36 #[.agg #[.int .i64 q0.a, .int .i64 q0.b, .int .i64 q1.a, .int .i64 q1.b, .int .i64 q2.a, .int .i64 q2.b], .int .i64 per, .int .i64 least] W fun e w' => e = .returned .nilIface ∧ Below W.heap.size W w') :=
    hide (fun W => by
      have h := check_any (mk c0 c1 c2 per least) per least W
      rw [mk_code hr hc.1 hc.2.1 hc.2.2] at h
      rw [e0, e1, e2]
      exact h)
  have HQ : Hid (∀ k : Nat, k < 3 → (0 ≤ C3 c0 c1 c2 k ∧ C3 c0 c1 c2 k ≤ per) ∧ Q3 q0 q1 q2 k = pulse (C3 c0 c1 c2 k) per least) := hide (fun k hk => by
    obtain rfl | rfl | rfl : k = 0 ∨ k = 1 ∨ k = 2 := by omega
    · exact ⟨hc.1, e0⟩
    · exact ⟨hc.2.1, e1⟩
    · exact ⟨hc.2.2, e2⟩)
  have HR := hide hr
  have HX := hide (ixQ q0 q1 q2)
  obtain ⟨⟨p1, p2⟩, p3, p4⟩ := hr
  clear hF hc0 hc1 hc2 hc e0 e1 e2
  go_enter Try.func8, Try.ntmps8
  go_wp2_with (first
    | (go_at_call 30; refine (awake_any _).mono ?_; rintro e w1 ⟨rfl, hb1⟩; have z1 := hb1.size; (try simp at z1); have c1x0 := bstep (b := w.heap.size) hb1 (by first | omega | (simp <;> omega)); have y1x0 : w.heap.size < w1.heap.size := (by omega); have c1x1 := bstep (b := w.heap.size + 1) hb1 (by first | omega | (simp <;> omega)); have y1x1 : w.heap.size + 1 < w1.heap.size := (by omega); have f1x0 := bfro (b := w.heap.size) hb1 (by first | omega | (simp <;> omega)); have f1x1 := bfro (b := w.heap.size + 1) hb1 (by first | omega | (simp <;> omega)); have H1 : Below w.heap.size w w1 := Below.trans (by repeat (first | with_reducible assumption | with_reducible refine Below.drew ?_ | with_reducible refine below_drewN ?_ _ | with_reducible refine Below.alloc ?_ (by first | omega | (simp <;> omega)) _ | with_reducible refine Below.setCell ?_ (by first | omega | (simp <;> omega)) _ | with_reducible exact Below.refl _ _)) (hb1.mono (by first | omega | (simp <;> omega))))
    | (go_at_call 33; refine (HF.out _).mono ?_; rintro e w2 ⟨rfl, hb2⟩; have z2 := hb2.size; (try simp at z2); have c2x0 := bstep (b := w.heap.size) hb2 (by first | omega | (simp <;> omega)); have y2x0 : w.heap.size < w2.heap.size := (by omega); have c2x1 := bstep (b := w.heap.size + 1) hb2 (by first | omega | (simp <;> omega)); have y2x1 : w.heap.size + 1 < w2.heap.size := (by omega); have f2x0 := bfro (b := w.heap.size) hb2 (by first | omega | (simp <;> omega)); have f2x1 := bfro (b := w.heap.size + 1) hb2 (by first | omega | (simp <;> omega)); have H2 : Below w.heap.size w w2 := Below.trans (by repeat (first | with_reducible assumption | with_reducible refine Below.drew ?_ | with_reducible refine below_drewN ?_ _ | with_reducible refine Below.alloc ?_ (by first | omega | (simp <;> omega)) _ | with_reducible refine Below.setCell ?_ (by first | omega | (simp <;> omega)) _ | with_reducible exact Below.refl _ _)) (hb2.mono (by first | omega | (simp <;> omega)))))
  refine wp_loop_rounds 4 ?_
  rw [rounds_succ]
  go_wp2
  refine region_quiet_tail 8 (by kernel_rfl) (by kernel_rfl) ?_
  simp only [List.take_succ_cons, List.take_zero, List.drop_succ_cons, List.drop_zero]
  repeat (first | go_big_quiet_skip | (go_big_quiet_want; go_big_quiet_op; go_big_quiet_on))
  go_big_quiet_want
  go_big_quiet_op
  apply Exists.intro
  refine ⟨(HCL0.out _), ?_⟩
  go_big_quiet_on
  repeat (first | go_big_quiet_skip | (go_big_quiet_want; go_big_quiet_op; go_big_quiet_on))
  refine wpQuiet_nil ?_
  go_wp2
  rw [rounds_succ]
  go_wp2
  refine region_quiet_tail 8 (by kernel_rfl) (by kernel_rfl) ?_
  simp only [List.take_succ_cons, List.take_zero, List.drop_succ_cons, List.drop_zero]
  repeat (first | go_big_quiet_skip | (go_big_quiet_want; go_big_quiet_op; go_big_quiet_on))
  go_big_quiet_want
  go_big_quiet_op
  apply Exists.intro
  refine ⟨(HCL1.out _), ?_⟩
  go_big_quiet_on
  repeat (first | go_big_quiet_skip | (go_big_quiet_want; go_big_quiet_op; go_big_quiet_on))
  refine wpQuiet_nil ?_
  go_wp2
  rw [rounds_succ]
  go_wp2
  refine region_quiet_tail 8 (by kernel_rfl) (by kernel_rfl) ?_
  simp only [List.take_succ_cons, List.take_zero, List.drop_succ_cons, List.drop_zero]
  repeat (first | go_big_quiet_skip | (go_big_quiet_want; go_big_quiet_op; go_big_quiet_on))
  go_big_quiet_want
  go_big_quiet_op
  apply Exists.intro
  refine ⟨(HCL2.out _), ?_⟩
  go_big_quiet_on
  repeat (first | go_big_quiet_skip | (go_big_quiet_want; go_big_quiet_op; go_big_quiet_on))
  refine wpQuiet_nil ?_
  go_wp2
  rw [rounds_succ]
  go_wp2_with (first
    | (go_at_call 25; refine (HMK.out _).mono ?_; rintro e w4 ⟨rfl, hb4⟩; have z4 := hb4.size; (try simp at z4); have c4x0 := bstep (b := w.heap.size) hb4 (by first | omega | (simp <;> omega)); have y4x0 : w.heap.size < w4.heap.size := (by omega); have c4x1 := bstep (b := w.heap.size + 1) hb4 (by first | omega | (simp <;> omega)); have y4x1 : w.heap.size + 1 < w4.heap.size := (by omega); have H4 : Below w.heap.size w w4 := Below.trans (by repeat (first | with_reducible assumption | with_reducible refine Below.drew ?_ | with_reducible refine below_drewN ?_ _ | with_reducible refine Below.alloc ?_ (by first | omega | (simp <;> omega)) _ | with_reducible refine Below.setCell ?_ (by first | omega | (simp <;> omega)) _ | with_reducible exact Below.refl _ _)) (hb4.mono (by first | omega | (simp <;> omega))))
    | (go_at_call 36; with_reducible refine (HCK.out _).mono ?_; rintro e w5 ⟨rfl, hb5⟩; have z5 := hb5.size; (try simp at z5); have c5x0 := bstep (b := w.heap.size) hb5 (by first | omega | (simp <;> omega)); have y5x0 : w.heap.size < w5.heap.size := (by omega); have c5x1 := bstep (b := w.heap.size + 1) hb5 (by first | omega | (simp <;> omega)); have y5x1 : w.heap.size + 1 < w5.heap.size := (by omega); have c5x2 := bstep (b := w4.heap.size) hb5 (by first | omega | (simp <;> omega)); have y5x2 : w4.heap.size < w5.heap.size := (by omega); have H5 : Below w.heap.size w w5 := Below.trans (by repeat (first | with_reducible assumption | with_reducible refine Below.drew ?_ | with_reducible refine below_drewN ?_ _ | with_reducible refine Below.alloc ?_ (by first | omega | (simp <;> omega)) _ | with_reducible refine Below.setCell ?_ (by first | omega | (simp <;> omega)) _ | with_reducible exact Below.refl _ _)) (hb5.mono (by first | omega | (simp <;> omega)))))
  have k0 : w5.cell? ⟨w.heap.size, 0, none⟩ = some (.int .i64 c0) := by go_simp
  have k1 : w5.cell? ⟨w.heap.size, 1, none⟩ = some (.int .i64 c1) := by go_simp
  have k2 : w5.cell? ⟨w.heap.size, 2, none⟩ = some (.int .i64 c2) := by go_simp
  have k3 : w5.cell? ⟨w.heap.size + 1, 0, none⟩ = some (.int .i64 per) := by go_simp
  have k4 : w5.cell? ⟨w.heap.size + 1, 1, none⟩ = some (.int .i64 least) := by go_simp
  have kk := hide (fun k hk => cell3 k0 k1 k2 k hk)
  clear k0 k1 k2 c1x0 c1x1 c2x0 c2x1 c4x0 c4x1 c5x0 c5x1 c5x2
  go_loopw [49] (fun i wr => ∃ k : Nat, k ≤ 3 ∧ i = .int .i64 (k : Int) ∧ Below w5.heap.size w5 wr) (fun i _ => 3 - (intOf i).toNat)
  case atStart =>
    exact ⟨0, by omega, rfl, Below.refl _ _⟩
  case round =>
    obtain ⟨k, hk, rfl, HW⟩ := hrel
    have hyr := HW.size
    by_cases hlt : k < 3
    · have hI := (HW.cell (p := ⟨w.heap.size, k, none⟩) y5x0).trans (kk.out k hlt)
      have m3 := (HW.cell (p := ⟨w.heap.size + 1, 0, none⟩) y5x1).trans k3
      have m4 := (HW.cell (p := ⟨w.heap.size + 1, 1, none⟩) y5x1).trans k4
      have yw0 : w.heap.size < wr.heap.size := by omega
      have yw1 : w.heap.size + 1 < wr.heap.size := by omega
      have j1 : (0 : Int) ≤ (k : Int) := by omega
      have j2 : (k : Int) < 3 := by omega
      have hix := HX.out k hlt
      obtain ⟨⟨d0', d1'⟩, hq⟩ := HQ.out k hlt
      generalize Q3 q0 q1 q2 k = q at hix hq
      generalize C3 c0 c1 c2 k = d at hI d0' d1' hq
      have g1 : IntKind.i64.wrap (2 * least) = 2 * least := IntWalk.i64_in _ (by omega)
      have g2 : IntKind.i64.wrap (per - 2 * least) = per - 2 * least := IntWalk.i64_in _ (by omega)
      rcases pulse_cases (d := d) (per := per) (least := least) with ⟨e1, e2⟩ | ⟨e1, e2, e3⟩ | ⟨e1, e2, e3⟩
      · obtain rfl : q = ⟨0, 0⟩ := hq.trans e2
        clear hq e2
        by_cases hd : d = 0
        · subst hd
          go_wp2
          go_quiet (fail)
          go_wp2
          go_roundw
          case rel => exact ⟨k + 1, by omega, by go_num, by exact (by repeat (first | with_reducible exact HW | with_reducible refine Below.drew ?_ | with_reducible refine below_drewN ?_ _ | with_reducible refine Below.alloc ?_ (by first | omega | (simp <;> omega)) _))⟩
          case measure => simp [intOf]; omega
        · have n4 : ((0 : Int) != d) = true := by rw [bne_iff_ne]; exact fun e => hd e.symm
          clear hd
          go_wp2
          go_quiet (fail)
          go_wp2
          go_roundw
          case rel => exact ⟨k + 1, by omega, by go_num, by exact (by repeat (first | with_reducible exact HW | with_reducible refine Below.drew ?_ | with_reducible refine below_drewN ?_ _ | with_reducible refine Below.alloc ?_ (by first | omega | (simp <;> omega)) _))⟩
          case measure => simp [intOf]; omega
      · obtain rfl : q = ⟨0, per⟩ := hq.trans e3
        clear hq e3
        have n6 : (per == 0) = false := by rw [beq_eq_false_iff_ne]; omega
        by_cases hd : d = per
        · subst hd
          go_wp2
          go_quiet (fail)
          go_wp2
          go_roundw
          case rel => exact ⟨k + 1, by omega, by go_num, by exact (by repeat (first | with_reducible exact HW | with_reducible refine Below.drew ?_ | with_reducible refine below_drewN ?_ _ | with_reducible refine Below.alloc ?_ (by first | omega | (simp <;> omega)) _))⟩
          case measure => simp [intOf]; omega
        · have n4 : (per != d) = true := by rw [bne_iff_ne]; exact fun e => hd e.symm
          clear hd
          go_wp2
          go_quiet (fail)
          go_wp2
          go_roundw
          case rel => exact ⟨k + 1, by omega, by go_num, by exact (by repeat (first | with_reducible exact HW | with_reducible refine Below.drew ?_ | with_reducible refine below_drewN ?_ _ | with_reducible refine Below.alloc ?_ (by first | omega | (simp <;> omega)) _))⟩
          case measure => simp [intOf]; omega
      · have b1 : 2 * ((per - d) / 2) ≤ per - d ∧ per - d ≤ 2 * ((per - d) / 2) + 1 := by omega
        obtain rfl : q = ⟨(per - d) / 2, (per - d) / 2 + d⟩ := hq.trans e3
        clear hq e3
        generalize (per - d) / 2 = a at b1 hix
        obtain ⟨b1, b2⟩ := b1
        have gl : IntKind.i64.wrap (a + d - a) = d := by rw [show a + d - a = d by omega]; exact IntWalk.i64_in _ (by omega)
        have gl2 : a + d - a = d := by omega
        go_upto_region 16 with fail
        go_quiet (fail)
        go_upto_region 19 with fail
        rcases (show 2 * a + d = per ∨ 2 * a + d = per - 1 by omega) with e | e
        · rw [show a - (per - (a + d)) = 0 by omega]
          clear e
          go_wp2
          go_roundw
          case rel => exact ⟨k + 1, by omega, by go_num, by exact (by repeat (first | with_reducible exact HW | with_reducible refine Below.drew ?_ | with_reducible refine below_drewN ?_ _ | with_reducible refine Below.alloc ?_ (by first | omega | (simp <;> omega)) _))⟩
          case measure => simp [intOf]; omega
        · rw [show a - (per - (a + d)) = -1 by omega]
          clear e
          go_wp2
          go_roundw
          case rel => exact ⟨k + 1, by omega, by go_num, by exact (by repeat (first | with_reducible exact HW | with_reducible refine Below.drew ?_ | with_reducible refine below_drewN ?_ _ | with_reducible refine Below.alloc ?_ (by first | omega | (simp <;> omega)) _))⟩
          case measure => simp [intOf]; omega
    · have ek : k = 3 := by omega
      subst ek
      go_wp2
      go_ret
      exact ⟨rfl, H5.trans (HW.mono (by omega))⟩

theorem patternAccepted_walk (d0 d1 d2 per least : Int) (w : World) :
    Calls Try.prog 8 #[.agg #[.int .i64 d0, .int .i64 d1, .int .i64 d2], .agg #[.int .i64 per, .int .i64 least]] w fun e w' => e = .returned (.bool true) ∧ Below w.heap.size w w' := by
  have hr := fit_ok per least
  have hz : 0 ≤ fitP per := by have := hr.1.1; omega
  exact patternAccepted_core d0 d1 d2 per least (fitP per) (fitL per least) (clip d0 0 (fitP per)) (clip d1 0 (fitP per)) (clip d2 0 (fitP per)) _ _ _ hr ⟨clip_in hz, clip_in hz, clip_in hz⟩
    (fun W => fit_any per least W) (fun W => clip_any _ _ _ W) (fun W => clip_any _ _ _ W) (fun W => clip_any _ _ _ W) rfl rfl rfl w

set_option maxRecDepth 100000 in
theorem patternAccepted_lifted (os : Os) (started : os.Started) (H : Type) (enc : TypeId × Value → H) :
    ReturnsInHanded {} Try.checked os 8 .any (Rows.patternAcceptedSpec.pre6 enc Try.prog Try.f8 Rows.patternAcceptedRow.domain false) (Rows.patternAcceptedSpec.post enc Try.prog Try.f8 false true false false) := by
  refine lift (C := Try.checked) (s := Rows.patternAcceptedSpec) 4 Try.own started (by kernel_rfl) Try.func8 Try.laidOut rfl rfl Try.underlying4 (by kernel_rfl)
    (fun ds hds => by
      have hl : ds.length = 2 := hds
      match ds, hl with
      | [_, _], _ => rfl)
    (ChangeSpec.witness6 (enc := enc) (C := Try.checked) false ⟨#[], #[.agg #[.int .i64 0, .int .i64 0, .int .i64 0], .agg #[.int .i64 0, .int .i64 0]], []⟩ 8 (by kernel_rfl) (by kernel_rfl) (by kernel_rfl) (by kernel_rfl)) ?_
  intro W base args ds p hval0 hA0
  have hval : ∀ (j : Nat) t v, Try.f8.params[j]? = some t → args[j]? = some v → Value.okWide Try.prog W .any base t v := hval0
  have hA : DataW.TrodAll enc Try.prog W 0 (fun _ => true) true Try.f8.params.toList args.toList ds p := hA0
  clear hval0 hA0
  rw [Try.params8] at hA hval
  obtain ⟨v0, vs0, d0, ds0, p0, q0, hargs, rfl, rfl, h0, r0⟩ := trodAll_cons hA
  obtain ⟨v1, vs1, d1, ds1, p1, q1, rfl, rfl, rfl, h1, r1⟩ := trodAll_cons r0
  obtain ⟨rfl, rfl, rfl⟩ := trodAll_nil r1
  obtain rfl : args = #[v0, v1] := by cases args; simp_all
  obtain ⟨l0, rfl, g0⟩ := arg_array 4 Try.underlying26 (ks := [some .i64, some .i64, some .i64]) (by kernel_rfl) (hval 0 26 v0 rfl rfl) h0
  obtain ⟨_, _, rfl, ⟨a0, rfl, wa0⟩, g0x0⟩ := g0
  obtain ⟨_, _, rfl, ⟨a1, rfl, wa1⟩, g0x1⟩ := g0x0
  obtain ⟨_, _, rfl, ⟨a2, rfl, wa2⟩, g0x2⟩ := g0x1
  simp only [Fits] at g0x2
  subst g0x2
  obtain ⟨l1, rfl, g1⟩ := arg_struct 4 Try.underlying55 (ks := [some .i64, some .i64]) (by kernel_rfl) (hval 1 55 v1 rfl rfl) h1
  obtain ⟨_, _, rfl, ⟨s0, rfl, ws0⟩, g1x0⟩ := g1
  obtain ⟨_, _, rfl, ⟨s1, rfl, ws1⟩, g1x1⟩ := g1x0
  simp only [Fits] at g1x1
  subst g1x1
  exact patternAccepted_walk a0 a1 a2 s0 s1 W

theorem j_lifts' (x : Bool) (h : x = Rows.patternMakesRow.lifted) : (x == Try.prog.liftsFinal) = true := by rw [h]; exact j_lifts
theorem j_make' (x) (h : x = Rows.patternMakesRow.make) : (Try.prog.make == some x) = true := by rw [h]; exact j_make
set_option maxHeartbeats 4000000 in
set_option maxRecDepth 100000 in
theorem patternAccepted_joined : joinedFacts Try.prog 8 Try.f8 Rows.patternAcceptedSpec Rows.patternAcceptedRow = true := by
  unfold joinedFacts
  repeat' (with_reducible refine and_split ?_ ?_)
  all_goals first | (with_reducible exact j_may) | (with_reducible refine j_lifts' _ ?_; rfl) | (with_reducible refine j_make' _ ?_; rfl) | (as_aux_lemma => kernel_rfl)

theorem patternAccepted_over : Rows.patternAcceptedRow.holds Try.pinned (OpenSpec.ofChange Rows.patternAcceptedSpec) :=
  OpenClaim.holds_of_wide 8 Try.f8 rfl rfl rfl rfl rfl rfl rfl ⟨rfl, rfl, rfl, rfl, rfl⟩ rfl rfl rfl rfl rfl (by kernel_rfl) Try.func8 patternAccepted_joined
    (of_decide_eq_true (by kernel_rfl)) (by unfold Func.isWrapper; first | (rw [if_pos (by decide +kernel)]; kernel_rfl) | (rw [if_neg (by decide +kernel)]; exact ⟨rfl, rfl⟩))
    (fun os started H enc _ => patternAccepted_lifted os started H enc)

theorem patternAccepted_holds : Rows.PatternAcceptedSaid := patternAccepted_over
#print axioms patternAccepted_holds
end Go.Proofs.Ytjeomdfcfbfebaa

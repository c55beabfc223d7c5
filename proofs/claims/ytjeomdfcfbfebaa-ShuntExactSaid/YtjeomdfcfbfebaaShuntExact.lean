/- ShuntExact holds: the samples at the counts of a plan, joined, are the currents. No condition. -/
import Derived.Test.YtjeomdfcfbfebaaRows
import Derived.Test.YtjeomdfcfbfebaaFlat
import Derived.Test.YtjeomdfcfbfebaaShF
import Derived.Test.YtjeomdfcfbfebaaPatJ
namespace Go.Proofs.Ytjeomdfcfbfebaa
open Go.RowKit PM Flat Go.ChangeShapes

set_option maxHeartbeats 8000000 in
set_option maxRecDepth 100000 in
theorem shuntExact_core (p : Pt) (per st i0 i1 t0 t1 l0 l1 r0 r1 r2 s0 s1 : Int)
    (hP : ∀ W : World, Calls Try.prog 27 #[.agg #[.int .i64 p.l0.a, .int .i64 p.l0.b, .int .i64 p.l1.a, .int .i64 p.l1.b, .int .i64 p.l2.a, .int .i64 p.l2.b], .int .i64 per, .int .i64 st] W fun e w' => e = .returned (.tuple #[.agg #[.int .i64 t0, .int .i64 t1, .int .i64 l0, .int .i64 l1], .nilIface]) ∧ Below W.heap.size W w')
    (hC : ∀ W : World, Calls Try.prog 43 #[.int .i64 i0, .int .i64 i1] W fun e w' => e = .returned (.agg #[.int .i64 r0, .int .i64 r1, .int .i64 r2]) ∧ Below W.heap.size W w')
    (hS1 : ∀ W : World, Calls Try.prog 28 #[.agg #[.int .i64 p.l0.a, .int .i64 p.l0.b, .int .i64 p.l1.a, .int .i64 p.l1.b, .int .i64 p.l2.a, .int .i64 p.l2.b], .int .i64 per, .int .i64 t0, .agg #[.int .i64 r0, .int .i64 r1, .int .i64 r2]] W fun e w' => e = .returned (.tuple #[.int .i64 s0, .nilIface]) ∧ Below W.heap.size W w')
    (hS2 : ∀ W : World, Calls Try.prog 28 #[.agg #[.int .i64 p.l0.a, .int .i64 p.l0.b, .int .i64 p.l1.a, .int .i64 p.l1.b, .int .i64 p.l2.a, .int .i64 p.l2.b], .int .i64 per, .int .i64 t1, .agg #[.int .i64 r0, .int .i64 r1, .int .i64 r2]] W fun e w' => e = .returned (.tuple #[.int .i64 s1, .nilIface]) ∧ Below W.heap.size W w')
    (hJ : ∀ W : World, Calls Try.prog 29 #[.agg #[.int .i64 t0, .int .i64 t1, .int .i64 l0, .int .i64 l1], .agg #[.int .i64 s0, .int .i64 s1]] W fun e w' => e = .returned (.tuple #[.agg #[.int .i64 r0, .int .i64 r1, .int .i64 r2], .nilIface]) ∧ Below W.heap.size W w') (w : World) :
    Calls Try.prog 12 #[.agg #[.int .i64 p.l0.a, .int .i64 p.l0.b, .int .i64 p.l1.a, .int .i64 p.l1.b, .int .i64 p.l2.a, .int .i64 p.l2.b], .agg #[.int .i64 per, .int .i64 st], .agg #[.int .i64 i0, .int .i64 i1]] w fun e w' => e = .returned (.bool true) ∧ Below w.heap.size w w' := by
  have HP := hide hP
  have HC := hide hC
  have HS1 := hide hS1
  have HS2 := hide hS2
  have HJ := hide hJ
  clear hP hC hS1 hS2 hJ
  go_enter Try.func12, Try.ntmps12
  go_wp2_with (first
    | (go_at_call 39; refine (awake25_any _).mono ?_; rintro e w1 ⟨rfl, hb1⟩; have z1 := hb1.size; (try simp at z1); have c1x0 := bstep (b := w.heap.size) hb1 (by first | omega | (simp <;> omega)); have y1x0 : w.heap.size < w1.heap.size := (by omega); have c1x1 := bstep (b := w.heap.size + 1) hb1 (by first | omega | (simp <;> omega)); have y1x1 : w.heap.size + 1 < w1.heap.size := (by omega); have c1x2 := bstep (b := w.heap.size + 1 + 1) hb1 (by first | omega | (simp <;> omega)); have y1x2 : w.heap.size + 1 + 1 < w1.heap.size := (by omega); have H1 : Below w.heap.size w w1 := Below.trans (by repeat (first | with_reducible assumption | with_reducible refine Below.drew ?_ | with_reducible refine below_drewN ?_ _ | with_reducible refine Below.alloc ?_ (by first | omega | (simp <;> omega)) _ | with_reducible refine Below.setCell ?_ (by first | omega | (simp <;> omega)) _ | with_reducible exact Below.refl _ _)) (hb1.mono (by first | omega | (simp <;> omega))))
    | (go_at_call 27; refine (HP.out _).mono ?_; rintro e w2 ⟨rfl, hb2⟩; have z2 := hb2.size; (try simp at z2); have c2x0 := bstep (b := w.heap.size) hb2 (by first | omega | (simp <;> omega)); have y2x0 : w.heap.size < w2.heap.size := (by omega); have c2x1 := bstep (b := w.heap.size + 1) hb2 (by first | omega | (simp <;> omega)); have y2x1 : w.heap.size + 1 < w2.heap.size := (by omega); have c2x2 := bstep (b := w.heap.size + 1 + 1) hb2 (by first | omega | (simp <;> omega)); have y2x2 : w.heap.size + 1 + 1 < w2.heap.size := (by omega); have H2 : Below w.heap.size w w2 := Below.trans (by repeat (first | with_reducible assumption | with_reducible refine Below.drew ?_ | with_reducible refine below_drewN ?_ _ | with_reducible refine Below.alloc ?_ (by first | omega | (simp <;> omega)) _ | with_reducible refine Below.setCell ?_ (by first | omega | (simp <;> omega)) _ | with_reducible exact Below.refl _ _)) (hb2.mono (by first | omega | (simp <;> omega))))
    | (go_at_call 43; refine (HC.out _).mono ?_; rintro e w3 ⟨rfl, hb3⟩; have z3 := hb3.size; (try simp at z3); have c3x0 := bstep (b := w.heap.size) hb3 (by first | omega | (simp <;> omega)); have y3x0 : w.heap.size < w3.heap.size := (by omega); have c3x1 := bstep (b := w.heap.size + 1) hb3 (by first | omega | (simp <;> omega)); have y3x1 : w.heap.size + 1 < w3.heap.size := (by omega); have c3x2 := bstep (b := w.heap.size + 1 + 1) hb3 (by first | omega | (simp <;> omega)); have y3x2 : w.heap.size + 1 + 1 < w3.heap.size := (by omega); have c3x3 := bstep (b := w2.heap.size) hb3 (by first | omega | (simp <;> omega)); have y3x3 : w2.heap.size < w3.heap.size := (by omega); have H3 : Below w.heap.size w w3 := Below.trans (by repeat (first | with_reducible assumption | with_reducible refine Below.drew ?_ | with_reducible refine below_drewN ?_ _ | with_reducible refine Below.alloc ?_ (by first | omega | (simp <;> omega)) _ | with_reducible refine Below.setCell ?_ (by first | omega | (simp <;> omega)) _ | with_reducible exact Below.refl _ _)) (hb3.mono (by first | omega | (simp <;> omega))))
    | (go_at_call 28; first | (with_reducible refine (HS1.out _).mono ?_; rintro e w4 ⟨rfl, hb4⟩; have z4 := hb4.size; (try simp at z4); have c4x0 := bstep (b := w.heap.size) hb4 (by first | omega | (simp <;> omega)); have y4x0 : w.heap.size < w4.heap.size := (by omega); have c4x1 := bstep (b := w.heap.size + 1) hb4 (by first | omega | (simp <;> omega)); have y4x1 : w.heap.size + 1 < w4.heap.size := (by omega); have c4x2 := bstep (b := w.heap.size + 1 + 1) hb4 (by first | omega | (simp <;> omega)); have y4x2 : w.heap.size + 1 + 1 < w4.heap.size := (by omega); have c4x3 := bstep (b := w2.heap.size) hb4 (by first | omega | (simp <;> omega)); have y4x3 : w2.heap.size < w4.heap.size := (by omega); have c4x4 := bstep (b := w3.heap.size) hb4 (by first | omega | (simp <;> omega)); have y4x4 : w3.heap.size < w4.heap.size := (by omega); have H4 : Below w.heap.size w w4 := Below.trans (by repeat (first | with_reducible assumption | with_reducible refine Below.drew ?_ | with_reducible refine below_drewN ?_ _ | with_reducible refine Below.alloc ?_ (by first | omega | (simp <;> omega)) _ | with_reducible refine Below.setCell ?_ (by first | omega | (simp <;> omega)) _ | with_reducible exact Below.refl _ _)) (hb4.mono (by first | omega | (simp <;> omega)))) | (with_reducible refine (HS2.out _).mono ?_; rintro e w5 ⟨rfl, hb5⟩; have z5 := hb5.size; (try simp at z5); have c5x0 := bstep (b := w.heap.size) hb5 (by first | omega | (simp <;> omega)); have y5x0 : w.heap.size < w5.heap.size := (by omega); have c5x1 := bstep (b := w.heap.size + 1) hb5 (by first | omega | (simp <;> omega)); have y5x1 : w.heap.size + 1 < w5.heap.size := (by omega); have c5x2 := bstep (b := w.heap.size + 1 + 1) hb5 (by first | omega | (simp <;> omega)); have y5x2 : w.heap.size + 1 + 1 < w5.heap.size := (by omega); have c5x3 := bstep (b := w2.heap.size) hb5 (by first | omega | (simp <;> omega)); have y5x3 : w2.heap.size < w5.heap.size := (by omega); have c5x4 := bstep (b := w3.heap.size) hb5 (by first | omega | (simp <;> omega)); have y5x4 : w3.heap.size < w5.heap.size := (by omega); have H5 : Below w.heap.size w w5 := Below.trans (by repeat (first | with_reducible assumption | with_reducible refine Below.drew ?_ | with_reducible refine below_drewN ?_ _ | with_reducible refine Below.alloc ?_ (by first | omega | (simp <;> omega)) _ | with_reducible refine Below.setCell ?_ (by first | omega | (simp <;> omega)) _ | with_reducible exact Below.refl _ _)) (hb5.mono (by first | omega | (simp <;> omega)))))
    | (go_at_call 29; refine (HJ.out _).mono ?_; rintro e w6 ⟨rfl, hb6⟩; have z6 := hb6.size; (try simp at z6); have c6x0 := bstep (b := w.heap.size) hb6 (by first | omega | (simp <;> omega)); have y6x0 : w.heap.size < w6.heap.size := (by omega); have c6x1 := bstep (b := w.heap.size + 1) hb6 (by first | omega | (simp <;> omega)); have y6x1 : w.heap.size + 1 < w6.heap.size := (by omega); have c6x2 := bstep (b := w.heap.size + 1 + 1) hb6 (by first | omega | (simp <;> omega)); have y6x2 : w.heap.size + 1 + 1 < w6.heap.size := (by omega); have c6x3 := bstep (b := w2.heap.size) hb6 (by first | omega | (simp <;> omega)); have y6x3 : w2.heap.size < w6.heap.size := (by omega); have c6x4 := bstep (b := w3.heap.size) hb6 (by first | omega | (simp <;> omega)); have y6x4 : w3.heap.size < w6.heap.size := (by omega); have H6 : Below w.heap.size w w6 := Below.trans (by repeat (first | with_reducible assumption | with_reducible refine Below.drew ?_ | with_reducible refine below_drewN ?_ _ | with_reducible refine Below.alloc ?_ (by first | omega | (simp <;> omega)) _ | with_reducible refine Below.setCell ?_ (by first | omega | (simp <;> omega)) _ | with_reducible exact Below.refl _ _)) (hb6.mono (by first | omega | (simp <;> omega)))))
  go_ret
  exact ⟨by simp, by exact (by repeat (first | with_reducible assumption | with_reducible refine Below.drew ?_ | with_reducible refine below_drewN ?_ _ | with_reducible refine Below.alloc ?_ (by first | omega | (simp <;> omega)) _ | with_reducible refine Below.setCell ?_ (by first | omega | (simp <;> omega)) _ | with_reducible exact Below.refl _ _))⟩
set_option maxHeartbeats 4000000 in
set_option maxRecDepth 100000 in
theorem shuntExact_err (p : Pt) (per st i0 i1 c : Int) (hP : ∀ W : World, Calls Try.prog 27 #[.agg #[.int .i64 p.l0.a, .int .i64 p.l0.b, .int .i64 p.l1.a, .int .i64 p.l1.b, .int .i64 p.l2.a, .int .i64 p.l2.b], .int .i64 per, .int .i64 st] W fun e w' => e = .returned (.tuple #[.agg #[.int .i64 0, .int .i64 0, .int .i64 0, .int .i64 0], .iface 96 (.int .i64 c)]) ∧ Below W.heap.size W w') (w : World) :
    Calls Try.prog 12 #[.agg #[.int .i64 p.l0.a, .int .i64 p.l0.b, .int .i64 p.l1.a, .int .i64 p.l1.b, .int .i64 p.l2.a, .int .i64 p.l2.b], .agg #[.int .i64 per, .int .i64 st], .agg #[.int .i64 i0, .int .i64 i1]] w fun e w' => e = .returned (.bool true) ∧ Below w.heap.size w w' := by
  have HP := hide hP
  clear hP
  go_enter Try.func12, Try.ntmps12
  go_wp2_with (first
    | (go_at_call 39; refine (awake25_any _).mono ?_; rintro e w1 ⟨rfl, hb1⟩; have z1 := hb1.size; (try simp at z1); have c1x0 := bstep (b := w.heap.size) hb1 (by first | omega | (simp <;> omega)); have y1x0 : w.heap.size < w1.heap.size := (by omega); have c1x1 := bstep (b := w.heap.size + 1) hb1 (by first | omega | (simp <;> omega)); have y1x1 : w.heap.size + 1 < w1.heap.size := (by omega); have c1x2 := bstep (b := w.heap.size + 1 + 1) hb1 (by first | omega | (simp <;> omega)); have y1x2 : w.heap.size + 1 + 1 < w1.heap.size := (by omega); have H1 : Below w.heap.size w w1 := Below.trans (by repeat (first | with_reducible assumption | with_reducible refine Below.drew ?_ | with_reducible refine below_drewN ?_ _ | with_reducible refine Below.alloc ?_ (by first | omega | (simp <;> omega)) _ | with_reducible refine Below.setCell ?_ (by first | omega | (simp <;> omega)) _ | with_reducible exact Below.refl _ _)) (hb1.mono (by first | omega | (simp <;> omega))))
    | (go_at_call 27; refine (HP.out _).mono ?_; rintro e w2 ⟨rfl, hb2⟩; have z2 := hb2.size; (try simp at z2); have c2x0 := bstep (b := w.heap.size) hb2 (by first | omega | (simp <;> omega)); have y2x0 : w.heap.size < w2.heap.size := (by omega); have c2x1 := bstep (b := w.heap.size + 1) hb2 (by first | omega | (simp <;> omega)); have y2x1 : w.heap.size + 1 < w2.heap.size := (by omega); have c2x2 := bstep (b := w.heap.size + 1 + 1) hb2 (by first | omega | (simp <;> omega)); have y2x2 : w.heap.size + 1 + 1 < w2.heap.size := (by omega); have H2 : Below w.heap.size w w2 := Below.trans (by repeat (first | with_reducible assumption | with_reducible refine Below.drew ?_ | with_reducible refine below_drewN ?_ _ | with_reducible refine Below.alloc ?_ (by first | omega | (simp <;> omega)) _ | with_reducible refine Below.setCell ?_ (by first | omega | (simp <;> omega)) _ | with_reducible exact Below.refl _ _)) (hb2.mono (by first | omega | (simp <;> omega)))))
  go_ret
  exact ⟨by simp, by exact (by repeat (first | with_reducible assumption | with_reducible refine Below.drew ?_ | with_reducible refine below_drewN ?_ _ | with_reducible refine Below.alloc ?_ (by first | omega | (simp <;> omega)) _ | with_reducible refine Below.setCell ?_ (by first | omega | (simp <;> omega)) _ | with_reducible exact Below.refl _ _))⟩
theorem shuntExact_walk (p : Pt) (per st i0 i1 : Int) (w : World) :
    Calls Try.prog 12 #[.agg #[.int .i64 p.l0.a, .int .i64 p.l0.b, .int .i64 p.l1.a, .int .i64 p.l1.b, .int .i64 p.l2.a, .int .i64 p.l2.b], .agg #[.int .i64 per, .int .i64 st], .agg #[.int .i64 i0, .int .i64 i1]] w fun e w' => e = .returned (.bool true) ∧ Below w.heap.size w w' := by
  rcases plan_kinds p per st with ⟨c, hP⟩ | ⟨hper, hin, R, x, y, hS, hx, hy, hh, hP⟩
  · exact shuntExact_err p per st i0 i1 c hP w
  · obtain ⟨c1, c2, c3, c4, c5⟩ := hit_iff.1 hh
    obtain ⟨⟨xa, xb, xc⟩, xon⟩ := segs_mem hS x hx
    obtain ⟨⟨ya, yb, yc⟩, yon⟩ := segs_mem hS y hy
    have ox := xon (x.b - 1) (by omega) (by omega)
    have oy := yon (y.b - 1) (by omega) (by omega)
    have ha := clip_in (n := i0) (lo := -268435456) (hi := 268435456) (by decide)
    have hb := clip_in (n := i1) (lo := -268435456) (hi := 268435456) (by decide)
    have hC := fun W => currents_any i0 i1 W
    generalize clip i0 (-268435456) 268435456 = r0 at ha hC
    generalize clip i1 (-268435456) 268435456 = r1 at hb hC
    have sm0 : PM.small r0 := by unfold PM.small; omega
    have sm1 : PM.small r1 := by unfold PM.small; omega
    have sm2 : PM.small (-r0 - r1) := by unfold PM.small; omega
    have hc1 : smC p per (x.b - 1) r0 r1 (-r0 - r1) = 0 := smC_ok hper hin ⟨⟨by omega, by omega⟩, sm0, sm1, sm2⟩
    have hc2 : smC p per (y.b - 1) r0 r1 (-r0 - r1) = 0 := smC_ok hper hin ⟨⟨by omega, by omega⟩, sm0, sm1, sm2⟩
    have hv1 := (smV_ok hc1).trans (sum_tot (p := p) ox)
    have hv2 := (smV_ok hc2).trans (sum_tot (p := p) oy)
    have hj := join_tot (n := x.n) (m := y.n) (t0 := x.b - 1) (t1 := y.b - 1) ha hb c1 c2 c5
    refine shuntExact_core p per st i0 i1 (x.b - 1) (y.b - 1) (oddOf x.n) (oddOf y.n) r0 r1 (-r0 - r1) (tot x.n r0 r1 (-r0 - r1)) (tot y.n r0 r1 (-r0 - r1)) hP hC (fun W => ?_) (fun W => ?_) hj w
    · have h := sample_any p per (x.b - 1) r0 r1 (-r0 - r1) W
      rw [hc1, hv1] at h
      exact h
    · have h := sample_any p per (y.b - 1) r0 r1 (-r0 - r1) W
      rw [hc2, hv2] at h
      exact h

set_option maxRecDepth 100000 in
theorem shuntExact_lifted (os : Os) (started : os.Started) (H : Type) (enc : TypeId × Value → H) :
    ReturnsInHanded {} Try.checked os 12 .any (Rows.shuntExactSpec.pre6 enc Try.prog Try.f12 Rows.shuntExactRow.domain false) (Rows.shuntExactSpec.post enc Try.prog Try.f12 false true false false) := by
  refine lift (C := Try.checked) (s := Rows.shuntExactSpec) 4 Try.own started (by kernel_rfl) Try.func12 Try.laidOut rfl rfl Try.underlying4 (by kernel_rfl)
    (fun ds hds => by
      have hl : ds.length = 3 := hds
      match ds, hl with
      | [_, _, _], _ => rfl)
    (ChangeSpec.witness6 (enc := enc) (C := Try.checked) false ⟨#[], #[.agg #[.int .i64 0, .int .i64 0, .int .i64 0, .int .i64 0, .int .i64 0, .int .i64 0], .agg #[.int .i64 0, .int .i64 0], .agg #[.int .i64 0, .int .i64 0]], []⟩ 8 (by kernel_rfl) (by kernel_rfl) (by kernel_rfl) (by kernel_rfl)) ?_
  intro W base args ds p hval0 hA0
  have hval : ∀ (j : Nat) t v, Try.f12.params[j]? = some t → args[j]? = some v → Value.okWide Try.prog W .any base t v := hval0
  have hA : DataW.TrodAll enc Try.prog W 0 (fun _ => true) true Try.f12.params.toList args.toList ds p := hA0
  clear hval0 hA0
  rw [Try.params12] at hA hval
  obtain ⟨v0, vs0, d0, ds0, p0, q0, hargs, rfl, rfl, h0, r0⟩ := trodAll_cons hA
  obtain ⟨v1, vs1, d1, ds1, p1, q1, rfl, rfl, rfl, h1, r1⟩ := trodAll_cons r0
  obtain ⟨v2, vs2, d2, ds2, p2, q2, rfl, rfl, rfl, h2, r2⟩ := trodAll_cons r1
  obtain ⟨rfl, rfl, rfl⟩ := trodAll_nil r2
  obtain rfl : args = #[v0, v1, v2] := by cases args; simp_all
  obtain ⟨l0, rfl, g0⟩ := arg_array 4 Try.underlying39 (ks := [some .i64, some .i64, some .i64, some .i64, some .i64, some .i64]) (by kernel_rfl) (hval 0 39 v0 rfl rfl) h0
  obtain ⟨_, _, rfl, ⟨a0, rfl, wa0⟩, g0x0⟩ := g0
  obtain ⟨_, _, rfl, ⟨a1, rfl, wa1⟩, g0x1⟩ := g0x0
  obtain ⟨_, _, rfl, ⟨a2, rfl, wa2⟩, g0x2⟩ := g0x1
  obtain ⟨_, _, rfl, ⟨a3, rfl, wa3⟩, g0x3⟩ := g0x2
  obtain ⟨_, _, rfl, ⟨a4, rfl, wa4⟩, g0x4⟩ := g0x3
  obtain ⟨_, _, rfl, ⟨a5, rfl, wa5⟩, g0x5⟩ := g0x4
  simp only [Fits] at g0x5
  subst g0x5
  obtain ⟨l1, rfl, g1⟩ := arg_array 4 Try.underlying44 (ks := [some .i64, some .i64]) (by kernel_rfl) (hval 1 44 v1 rfl rfl) h1
  obtain ⟨_, _, rfl, ⟨b0, rfl, wb0⟩, g1x0⟩ := g1
  obtain ⟨_, _, rfl, ⟨b1, rfl, wb1⟩, g1x1⟩ := g1x0
  simp only [Fits] at g1x1
  subst g1x1
  obtain ⟨l2, rfl, g2⟩ := arg_array 4 Try.underlying44 (ks := [some .i64, some .i64]) (by kernel_rfl) (hval 2 44 v2 rfl rfl) h2
  obtain ⟨_, _, rfl, ⟨c0, rfl, wc0⟩, g2x0⟩ := g2
  obtain ⟨_, _, rfl, ⟨c1, rfl, wc1⟩, g2x1⟩ := g2x0
  simp only [Fits] at g2x1
  subst g2x1
  exact shuntExact_walk ⟨⟨a0, a1⟩, ⟨a2, a3⟩, ⟨a4, a5⟩⟩ b0 b1 c0 c1 W

theorem j_lifts' (x : Bool) (h : x = Rows.patternMakesRow.lifted) : (x == Try.prog.liftsFinal) = true := by rw [h]; exact j_lifts
theorem j_make' (x) (h : x = Rows.patternMakesRow.make) : (Try.prog.make == some x) = true := by rw [h]; exact j_make
set_option maxHeartbeats 4000000 in
set_option maxRecDepth 100000 in
theorem shuntExact_joined : joinedFacts Try.prog 12 Try.f12 Rows.shuntExactSpec Rows.shuntExactRow = true := by
  unfold joinedFacts
  repeat' (with_reducible refine and_split ?_ ?_)
  all_goals first | (with_reducible exact j_may) | (with_reducible refine j_lifts' _ ?_; rfl) | (with_reducible refine j_make' _ ?_; rfl) | (as_aux_lemma => kernel_rfl)

theorem shuntExact_over : Rows.shuntExactRow.holds Try.pinned (OpenSpec.ofChange Rows.shuntExactSpec) :=
  OpenClaim.holds_of_wide 12 Try.f12 rfl rfl rfl rfl rfl rfl rfl ⟨rfl, rfl, rfl, rfl, rfl⟩ rfl rfl rfl rfl rfl (by kernel_rfl) Try.func12 shuntExact_joined
    (of_decide_eq_true (by kernel_rfl)) (by unfold Func.isWrapper; first | (rw [if_pos (by decide +kernel)]; kernel_rfl) | (rw [if_neg (by decide +kernel)]; exact ⟨rfl, rfl⟩))
    (fun os started H enc _ => shuntExact_lifted os started H enc)

theorem shuntExact_holds : Rows.ShuntExactSaid := shuntExact_over
#print axioms shuntExact_holds
end Go.Proofs.Ytjeomdfcfbfebaa

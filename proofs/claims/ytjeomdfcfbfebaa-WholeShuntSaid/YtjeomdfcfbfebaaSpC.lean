/- The walk of Spread: every pattern, every frame, every need. -/
import Derived.Test.YtjeomdfcfbfebaaSpB
namespace Go.Proofs.Ytjeomdfcfbfebaa
open Go.RowKit PM
set_option maxHeartbeats 4000000 in
set_option maxRecDepth 100000 in
theorem spread_bad (p : Pt) (per least need : Int) (hc : ¬ p.code per least = 0) (w : World) :
    Calls Try.prog 26 #[.agg #[.int .i64 p.l0.a, .int .i64 p.l0.b, .int .i64 p.l1.a, .int .i64 p.l1.b, .int .i64 p.l2.a, .int .i64 p.l2.b], .int .i64 per, .int .i64 least, .int .i64 need] w fun e w' => e = .returned (.tuple #[.agg #[.int .i64 0, .int .i64 0, .int .i64 0, .int .i64 0, .int .i64 0, .int .i64 0], .bool false, errV (p.code per least)]) ∧ Below w.heap.size w w' := by
  have HC := hide (fun W => check_any p per least W)
  rw [errV_pos hc] at HC ⊢
  clear hc
  generalize p.code per least = c at HC
  go_enter Try.func26, Try.ntmps26
  go_wp2_with (go_at_call 36; refine (HC.out _).mono ?_; rintro e w1 ⟨rfl, hb1⟩; have z1 := hb1.size; (try simp at z1); have c1x0 := bstep (b := w.heap.size) hb1 (by first | omega | (simp <;> omega)); have y1x0 : w.heap.size < w1.heap.size := (by omega); have c1x1 := bstep (b := w.heap.size + 1) hb1 (by first | omega | (simp <;> omega)); have y1x1 : w.heap.size + 1 < w1.heap.size := (by omega); have f1x0 := bfro (b := w.heap.size) hb1 (by first | omega | (simp <;> omega)); have f1x1 := bfro (b := w.heap.size + 1) hb1 (by first | omega | (simp <;> omega)); have H1 : Below w.heap.size w w1 := Below.trans (by repeat (first | with_reducible assumption | with_reducible refine Below.drew ?_ | with_reducible refine below_drewN ?_ _ | with_reducible refine Below.alloc ?_ (by first | omega | (simp <;> omega)) _ | with_reducible refine Below.setCell ?_ (by first | omega | (simp <;> omega)) _ | with_reducible exact Below.refl _ _)) (hb1.mono (by first | omega | (simp <;> omega))))
  refine bodyPost_ret (v := .tuple #[.agg #[.int .i64 0, .int .i64 0, .int .i64 0, .int .i64 0, .int .i64 0, .int .i64 0], .bool false, _]) (by simp only [results, Try.results26]; go_simp) rfl ⟨rfl, ?_⟩
  exact (by repeat (first | with_reducible assumption | with_reducible refine Below.drew ?_ | with_reducible refine below_drewN ?_ _ | with_reducible refine Below.alloc ?_ (by first | omega | (simp <;> omega)) _ | with_reducible refine Below.setCell ?_ (by first | omega | (simp <;> omega)) _ | with_reducible exact Below.refl _ _))
set_option maxHeartbeats 4000000 in
set_option maxRecDepth 100000 in
theorem spread_need (p : Pt) (per least need : Int) (hc : p.code per least = 0) (hn : ¬ (0 ≤ need ∧ need ≤ per)) (w : World) :
    Calls Try.prog 26 #[.agg #[.int .i64 p.l0.a, .int .i64 p.l0.b, .int .i64 p.l1.a, .int .i64 p.l1.b, .int .i64 p.l2.a, .int .i64 p.l2.b], .int .i64 per, .int .i64 least, .int .i64 need] w fun e w' => e = .returned (.tuple #[.agg #[.int .i64 0, .int .i64 0, .int .i64 0, .int .i64 0, .int .i64 0, .int .i64 0], .bool false, .iface 96 (.int .i64 3)]) ∧ Below w.heap.size w w' := by
  have HC := hide (fun W => check_any p per least W)
  rw [hc, errV_zero] at HC
  clear hc
  go_enter Try.func26, Try.ntmps26
  go_wp2_with (first | (go_at_call 36; refine (HC.out _).mono ?_; rintro e w1 ⟨rfl, hb1⟩; have z1 := hb1.size; (try simp at z1); have c1x0 := bstep (b := w.heap.size) hb1 (by first | omega | (simp <;> omega)); have y1x0 : w.heap.size < w1.heap.size := (by omega); have c1x1 := bstep (b := w.heap.size + 1) hb1 (by first | omega | (simp <;> omega)); have y1x1 : w.heap.size + 1 < w1.heap.size := (by omega); have f1x0 := bfro (b := w.heap.size) hb1 (by first | omega | (simp <;> omega)); have f1x1 := bfro (b := w.heap.size + 1) hb1 (by first | omega | (simp <;> omega)); have H1 : Below w.heap.size w w1 := Below.trans (by repeat (first | with_reducible assumption | with_reducible refine Below.drew ?_ | with_reducible refine below_drewN ?_ _ | with_reducible refine Below.alloc ?_ (by first | omega | (simp <;> omega)) _ | with_reducible refine Below.setCell ?_ (by first | omega | (simp <;> omega)) _ | with_reducible exact Below.refl _ _)) (hb1.mono (by first | omega | (simp <;> omega)))) | (go_at_call 59; first | (refine (pwithin_yes _ _ _ _ (by omega) (by omega)).mono ?_; rintro e w' ⟨rfl, rfl⟩) | (refine (pwithin_no _ _ _ _ (by omega)).mono ?_; rintro e w' ⟨rfl, rfl⟩)))
  refine bodyPost_ret (v := .tuple #[.agg #[.int .i64 0, .int .i64 0, .int .i64 0, .int .i64 0, .int .i64 0, .int .i64 0], .bool false, _]) (by simp only [results, Try.results26]; go_simp) rfl ⟨rfl, ?_⟩
  exact (by repeat (first | with_reducible assumption | with_reducible refine Below.drew ?_ | with_reducible refine below_drewN ?_ _ | with_reducible refine Below.alloc ?_ (by first | omega | (simp <;> omega)) _ | with_reducible refine Below.setCell ?_ (by first | omega | (simp <;> omega)) _ | with_reducible exact Below.refl _ _))
set_option maxHeartbeats 16000000 in
set_option maxRecDepth 100000 in
theorem spread_ok (p : Pt) (per least need : Int) (hc : p.code per least = 0) (hn : 0 ≤ need ∧ need ≤ per) (w : World) :
    Calls Try.prog 26 #[.agg #[.int .i64 p.l0.a, .int .i64 p.l0.b, .int .i64 p.l1.a, .int .i64 p.l1.b, .int .i64 p.l2.a, .int .i64 p.l2.b], .int .i64 per, .int .i64 least, .int .i64 need] w fun e w' => e = .returned (.tuple #[.agg #[.int .i64 (if spOk p (spOut p need (ordP p)) per least (ordP p) then spOut p need (ordP p) else p).l0.a, .int .i64 (if spOk p (spOut p need (ordP p)) per least (ordP p) then spOut p need (ordP p) else p).l0.b, .int .i64 (if spOk p (spOut p need (ordP p)) per least (ordP p) then spOut p need (ordP p) else p).l1.a, .int .i64 (if spOk p (spOut p need (ordP p)) per least (ordP p) then spOut p need (ordP p) else p).l1.b, .int .i64 (if spOk p (spOut p need (ordP p)) per least (ordP p) then spOut p need (ordP p) else p).l2.a, .int .i64 (if spOk p (spOut p need (ordP p)) per least (ordP p) then spOut p need (ordP p) else p).l2.b], .bool (decide (spOk p (spOut p need (ordP p)) per least (ordP p))), .nilIface]) ∧ Below w.heap.size w w' := by
  have hrg := code_rng hc
  obtain ⟨⟨a01, a02, a03⟩, ⟨a11, a12, a13⟩, a21, a22, a23⟩ := code_In hc
  have HC := hide (fun W => check_any p per least W)
  rw [hc, errV_zero] at HC
  have HQ := hide (fun q W => check_any q per least W)
  have hin := hide (code_In hc)
  obtain ⟨⟨r1, r2⟩, r3, r4⟩ := hrg
  obtain ⟨n1, n2⟩ := hn
  clear hc
  obtain ⟨V, hV⟩ : ∃ V : Value, V = .tuple #[.agg #[.int .i64 (if spOk p (spOut p need (ordP p)) per least (ordP p) then spOut p need (ordP p) else p).l0.a, .int .i64 (if spOk p (spOut p need (ordP p)) per least (ordP p) then spOut p need (ordP p) else p).l0.b, .int .i64 (if spOk p (spOut p need (ordP p)) per least (ordP p) then spOut p need (ordP p) else p).l1.a, .int .i64 (if spOk p (spOut p need (ordP p)) per least (ordP p) then spOut p need (ordP p) else p).l1.b, .int .i64 (if spOk p (spOut p need (ordP p)) per least (ordP p) then spOut p need (ordP p) else p).l2.a, .int .i64 (if spOk p (spOut p need (ordP p)) per least (ordP p) then spOut p need (ordP p) else p).l2.b], .bool (decide (spOk p (spOut p need (ordP p)) per least (ordP p))), .nilIface] := ⟨_, rfl⟩
  rw [← hV]
  go_enter Try.func26, Try.ntmps26
  go_upto_region 7 with (first | (go_at_call 36; refine (HC.out _).mono ?_; rintro e w1 ⟨rfl, hb1⟩; have z1 := hb1.size; (try simp at z1); have c1x0 := bstep (b := w.heap.size) hb1 (by first | omega | (simp <;> omega)); have y1x0 : w.heap.size < w1.heap.size := (by omega); have c1x1 := bstep (b := w.heap.size + 1) hb1 (by first | omega | (simp <;> omega)); have y1x1 : w.heap.size + 1 < w1.heap.size := (by omega); have f1x0 := bfro (b := w.heap.size) hb1 (by first | omega | (simp <;> omega)); have f1x1 := bfro (b := w.heap.size + 1) hb1 (by first | omega | (simp <;> omega)); have H1 : Below w.heap.size w w1 := Below.trans (by repeat (first | with_reducible assumption | with_reducible refine Below.drew ?_ | with_reducible refine below_drewN ?_ _ | with_reducible refine Below.alloc ?_ (by first | omega | (simp <;> omega)) _ | with_reducible refine Below.setCell ?_ (by first | omega | (simp <;> omega)) _ | with_reducible exact Below.refl _ _)) (hb1.mono (by first | omega | (simp <;> omega)))) | (go_at_call 59; first | (refine (pwithin_yes _ _ _ _ (by omega) (by omega)).mono ?_; rintro e w' ⟨rfl, rfl⟩) | (refine (pwithin_no _ _ _ _ (by omega)).mono ?_; rintro e w' ⟨rfl, rfl⟩)))
  have W7 : ∀ W : World, True := fun _ => trivial
  clear W7
  have HS := hide (srt_any (fun k => (p.leg k).a) w.heap.size w1.heap.size (by omega) (by
    intro i j hi hj
    have e0 : (p.leg 0).a = p.l0.a := rfl
    have e1 : (p.leg 1).a = p.l1.a := rfl
    have e2 : (p.leg 2).a = p.l2.a := rfl
    show -1000000 ≤ (p.leg i).a - (p.leg j).a ∧ (p.leg i).a - (p.leg j).a ≤ 1000000
    obtain rfl | rfl | rfl : i = 0 ∨ i = 1 ∨ i = 2 := by omega
    all_goals
      obtain rfl | rfl | rfl : j = 0 ∨ j = 1 ∨ j = 2 := by omega
      all_goals
        omega) (w1.alloc (.cells #[.int .i64 0, .int .i64 1, .int .i64 2] 3)) (by simp) (by
    intro k hk
    obtain rfl | rfl | rfl : k = 0 ∨ k = 1 ∨ k = 2 := by omega
    · show World.cell? _ ⟨w.heap.size, 0, none⟩ = some (.int .i64 p.l0.a)
      go_simp
    · show World.cell? _ ⟨w.heap.size, 2, none⟩ = some (.int .i64 p.l1.a)
      go_simp
    · show World.cell? _ ⟨w.heap.size, 4, none⟩ = some (.int .i64 p.l2.a)
      go_simp) (fun o => by go_simp) ⟨by go_simp, by go_simp, by go_simp⟩)
  go_upto_region 8 with fail
  refine HS.out.mono ?_
  rintro e w2 ⟨rfl, ⟨x, y, z, ⟨d0, d1, d2⟩, hxyz⟩, hb2⟩
  replace hb2 : Below w1.heap.size w1 w2 := ((Below.refl _ _).alloc (Nat.le_refl _) _).trans hb2
  have z2 := hb2.size
  have c2x0 := bstep (b := w.heap.size) hb2 (by first | omega | (simp <;> omega))
  have y2x0 : w.heap.size < w2.heap.size := (by omega)
  have c2x1 := bstep (b := w.heap.size + 1) hb2 (by first | omega | (simp <;> omega))
  have f2x1 := bfro (b := w.heap.size + 1) hb2 (by first | omega | (simp <;> omega))
  have y2x1 : w.heap.size + 1 < w2.heap.size := (by omega)
  go_upto_region 8 with fail
  have H2 : Below w.heap.size w w2 := Below.trans (by repeat (first | with_reducible assumption | with_reducible refine Below.drew ?_ | with_reducible refine below_drewN ?_ _ | with_reducible refine Below.alloc ?_ (by first | omega | (simp <;> omega)) _ | with_reducible refine Below.setCell ?_ (by first | omega | (simp <;> omega)) _ | with_reducible exact Below.refl _ _)) (hb2.mono (by first | omega | (simp <;> omega)))
  clear HS
  have b0 : w2.cell? ⟨w.heap.size, 0, none⟩ = some (.int .i64 p.l0.a) := (c2x0 0).trans (by go_simp)
  have b1 : w2.cell? ⟨w.heap.size, 1, none⟩ = some (.int .i64 p.l0.b) := (c2x0 1).trans (by go_simp)
  have b2 : w2.cell? ⟨w.heap.size, 2, none⟩ = some (.int .i64 p.l1.a) := (c2x0 2).trans (by go_simp)
  have b3 : w2.cell? ⟨w.heap.size, 3, none⟩ = some (.int .i64 p.l1.b) := (c2x0 3).trans (by go_simp)
  have b4 : w2.cell? ⟨w.heap.size, 4, none⟩ = some (.int .i64 p.l2.a) := (c2x0 4).trans (by go_simp)
  have b5 : w2.cell? ⟨w.heap.size, 5, none⟩ = some (.int .i64 p.l2.b) := (c2x0 5).trans (by go_simp)
  have yb : w.heap.size < w2.heap.size := y2x0
  clear c2x0 y2x0
  obtain ⟨x3, y3, z3⟩ := ord_lt hxyz
  have hord := hide (show ordP p = (x, y, z) from hxyz)
  clear hxyz
  have xi1 : (0 : Int) ≤ (x : Int) := by omega
  have xi2 : (x : Int) < 3 := by omega
  have yi1 : (0 : Int) ≤ (y : Int) := by omega
  have yi2 : (y : Int) < 3 := by omega
  have zi1 : (0 : Int) ≤ (z : Int) := by omega
  have zi2 : (z : Int) < 3 := by omega
  obtain ⟨m1, m2, m3⟩ := leg_in hin.out x3
  obtain ⟨m4, m5, m6⟩ := leg_in hin.out y3
  obtain ⟨m7, m8, m9⟩ := leg_in hin.out z3
  go_upto_region 8 with fail
  go_cut [13, 14, 15] (fun sx sy sz wz => sx = .int .i64 (x : Int) ∧ sy = .int .i64 (y : Int) ∧ sz = .int .i64 (z : Int) ∧ Below w2.heap.size w2 wz)
  case first =>
    go_quiet (fail)
    go_wp2
    go_meet
    exact ⟨rfl, rfl, rfl, by repeat (first | with_reducible exact Below.refl _ _ | with_reducible refine Below.drew ?_ | with_reducible refine below_drewN ?_ _)⟩
  case rest =>
  obtain ⟨rfl, rfl, rfl, HXa⟩ := hcut
  rename World => wa
  have t0 := (HXa.cell (p := ⟨w.heap.size, 0, none⟩) yb).trans b0
  have t1 := (HXa.cell (p := ⟨w.heap.size, 1, none⟩) yb).trans b1
  have t2 := (HXa.cell (p := ⟨w.heap.size, 2, none⟩) yb).trans b2
  have t3 := (HXa.cell (p := ⟨w.heap.size, 3, none⟩) yb).trans b3
  have t4 := (HXa.cell (p := ⟨w.heap.size, 4, none⟩) yb).trans b4
  have t5 := (HXa.cell (p := ⟨w.heap.size, 5, none⟩) yb).trans b5
  have yxa := HXa.size
  have yb' : w.heap.size < wa.heap.size := by omega
  go_upto_region 9 with fail
  go_cut [16] (fun s wz => ∃ bo : Nat, s = .pointer (some ⟨bo, 0, none⟩) ∧ w2.heap.size ≤ bo ∧ (∀ o, wz.frozen? ⟨bo, o, none⟩ = false) ∧ bo < wz.heap.size ∧ (wz.cell? ⟨bo, 0, none⟩ = some (.int .i64 p.l0.a) ∧ wz.cell? ⟨bo, 1, none⟩ = some (.int .i64 p.l0.b) ∧ wz.cell? ⟨bo, 2, none⟩ = some (.int .i64 p.l1.a) ∧ wz.cell? ⟨bo, 3, none⟩ = some (.int .i64 p.l1.b) ∧ wz.cell? ⟨bo, 4, none⟩ = some (.int .i64 p.l2.a) ∧ wz.cell? ⟨bo, 5, none⟩ = some (.int .i64 p.l2.b)) ∧ Below w2.heap.size w2 wz)
  case first =>
    go_wp2
    go_meet
    exact ⟨_, rfl, by first | omega | (simp <;> omega), fun o => by go_simp, by first | omega | (simp <;> omega), ⟨by go_simp, by go_simp, by go_simp, by go_simp, by go_simp, by go_simp⟩, by repeat (first | with_reducible exact HXa | with_reducible refine Below.drew ?_ | with_reducible refine below_drewN ?_ _ | with_reducible refine Below.alloc ?_ (by first | omega | (simp <;> omega)) _)⟩
  case rest =>
  clear t0 t1 t2 t3 t4 t5 HXa yb' yxa
  clear d0 d1 d2 xi1 xi2 yi1 yi2 zi1 zi2
  obtain ⟨bo, rfl, ybo, fo, yo, ⟨o0, o1, o2, o3, o4, o5⟩, HXa⟩ := hcut
  rename World => wa
  have t0 := (HXa.cell (p := ⟨w.heap.size, 0, none⟩) yb).trans b0
  have t1 := (HXa.cell (p := ⟨w.heap.size, 1, none⟩) yb).trans b1
  have t2 := (HXa.cell (p := ⟨w.heap.size, 2, none⟩) yb).trans b2
  have t3 := (HXa.cell (p := ⟨w.heap.size, 3, none⟩) yb).trans b3
  have t4 := (HXa.cell (p := ⟨w.heap.size, 4, none⟩) yb).trans b4
  have t5 := (HXa.cell (p := ⟨w.heap.size, 5, none⟩) yb).trans b5
  have xi1 : (0 : Int) ≤ (x : Int) := by omega
  have xi2 : (x : Int) < 3 := by omega
  have yi1 : (0 : Int) ≤ (y : Int) := by omega
  have yi2 : (y : Int) < 3 := by omega
  have ta := legs_a (b := w.heap.size) t0 t2 t4 x x3
  have tb := legs_a (b := w.heap.size) t0 t2 t4 y y3
  have yxa := HXa.size
  have ya : w.heap.size < wa.heap.size := by omega
  obtain ⟨D, hD⟩ : ∃ D, D = need - ((p.leg y).a - (p.leg x).a) := ⟨_, rfl⟩
  have v1 : IntKind.i64.wrap ((p.leg y).a - (p.leg x).a) = (p.leg y).a - (p.leg x).a := IntWalk.i64_in _ (by omega)
  have v2 : IntKind.i64.wrap (need - ((p.leg y).a - (p.leg x).a)) = D := by rw [hD]; exact IntWalk.i64_in _ (by omega)
  have D1 : -5000 ≤ D ∧ D ≤ 10000 := by omega
  have v3 : IntKind.i64.wrap (-D) = -D := IntWalk.i64_in _ (by omega)
  obtain ⟨D1, D2⟩ := D1
  replace hD := hide hD
  go_upto_region 10 with fail
  go_quiet (fail)
  clear v1 v2 ta tb xi1 xi2 yi1 yi2
  go_upto_if 61 with fail
  go_cut [] (fun wz => ∃ q1 : Pt, q1 = spB p need x y ∧ (∀ o, wz.frozen? ⟨bo, o, none⟩ = false) ∧ bo < wz.heap.size ∧ (wz.cell? ⟨bo, 0, none⟩ = some (.int .i64 q1.l0.a) ∧ wz.cell? ⟨bo, 1, none⟩ = some (.int .i64 q1.l0.b) ∧ wz.cell? ⟨bo, 2, none⟩ = some (.int .i64 q1.l1.a) ∧ wz.cell? ⟨bo, 3, none⟩ = some (.int .i64 q1.l1.b) ∧ wz.cell? ⟨bo, 4, none⟩ = some (.int .i64 q1.l2.a) ∧ wz.cell? ⟨bo, 5, none⟩ = some (.int .i64 q1.l2.b)) ∧ Below w2.heap.size w2 wz)
  case first =>
    by_cases hpos : 0 < D
    · obtain rfl | rfl | rfl : x = 0 ∨ x = 1 ∨ x = 2 := by omega
      · have hv := hide (show (⟨⟨p.l0.a + -D, p.l0.b + -D⟩, p.l1, p.l2⟩ : Pt) = spB p need 0 y from spB_yes hD.out hpos)
        go_wp2_with (go_at_call 63; refine (move_any _ _ _ (by omega) (by omega) (by omega) _).mono ?_; rintro e wm ⟨rfl, hbm⟩; have zm := hbm.size; (try simp at zm); have cmo := bstep (b := bo) hbm (by first | omega | (simp <;> omega)); have fmo := bfro (b := bo) hbm (by first | omega | (simp <;> omega)); have ymo : bo < wm.heap.size := (by omega); have HXm : Below w2.heap.size w2 wm := Below.trans (by repeat (first | with_reducible exact HXa | with_reducible exact HXm | with_reducible refine Below.drew ?_ | with_reducible refine below_drewN ?_ _ | with_reducible refine Below.alloc ?_ (by first | omega | (simp <;> omega)) _ | with_reducible refine Below.setCell ?_ (by first | omega | (simp <;> omega)) _ | with_reducible refine Below.setCells ?_)) (hbm.mono (by first | omega | (simp <;> omega))))
        go_meet
        exact ⟨_, hv.out, fun o => by go_simp, by first | omega | (simp <;> omega), ⟨by go_simp, by go_simp, by go_simp, by go_simp, by go_simp, by go_simp⟩, by exact (by repeat (first | with_reducible exact HXa | with_reducible exact HXm | with_reducible refine Below.drew ?_ | with_reducible refine below_drewN ?_ _ | with_reducible refine Below.alloc ?_ (by first | omega | (simp <;> omega)) _ | with_reducible refine Below.setCell ?_ (by first | omega | (simp <;> omega)) _ | with_reducible refine Below.setCells ?_))⟩
      · have hv := hide (show (⟨p.l0, ⟨p.l1.a + -D, p.l1.b + -D⟩, p.l2⟩ : Pt) = spB p need 1 y from spB_yes hD.out hpos)
        go_wp2_with (go_at_call 63; refine (move_any _ _ _ (by omega) (by omega) (by omega) _).mono ?_; rintro e wm ⟨rfl, hbm⟩; have zm := hbm.size; (try simp at zm); have cmo := bstep (b := bo) hbm (by first | omega | (simp <;> omega)); have fmo := bfro (b := bo) hbm (by first | omega | (simp <;> omega)); have ymo : bo < wm.heap.size := (by omega); have HXm : Below w2.heap.size w2 wm := Below.trans (by repeat (first | with_reducible exact HXa | with_reducible exact HXm | with_reducible refine Below.drew ?_ | with_reducible refine below_drewN ?_ _ | with_reducible refine Below.alloc ?_ (by first | omega | (simp <;> omega)) _ | with_reducible refine Below.setCell ?_ (by first | omega | (simp <;> omega)) _ | with_reducible refine Below.setCells ?_)) (hbm.mono (by first | omega | (simp <;> omega))))
        go_meet
        exact ⟨_, hv.out, fun o => by go_simp, by first | omega | (simp <;> omega), ⟨by go_simp, by go_simp, by go_simp, by go_simp, by go_simp, by go_simp⟩, by exact (by repeat (first | with_reducible exact HXa | with_reducible exact HXm | with_reducible refine Below.drew ?_ | with_reducible refine below_drewN ?_ _ | with_reducible refine Below.alloc ?_ (by first | omega | (simp <;> omega)) _ | with_reducible refine Below.setCell ?_ (by first | omega | (simp <;> omega)) _ | with_reducible refine Below.setCells ?_))⟩
      · have hv := hide (show (⟨p.l0, p.l1, ⟨p.l2.a + -D, p.l2.b + -D⟩⟩ : Pt) = spB p need 2 y from spB_yes hD.out hpos)
        go_wp2_with (go_at_call 63; refine (move_any _ _ _ (by omega) (by omega) (by omega) _).mono ?_; rintro e wm ⟨rfl, hbm⟩; have zm := hbm.size; (try simp at zm); have cmo := bstep (b := bo) hbm (by first | omega | (simp <;> omega)); have fmo := bfro (b := bo) hbm (by first | omega | (simp <;> omega)); have ymo : bo < wm.heap.size := (by omega); have HXm : Below w2.heap.size w2 wm := Below.trans (by repeat (first | with_reducible exact HXa | with_reducible exact HXm | with_reducible refine Below.drew ?_ | with_reducible refine below_drewN ?_ _ | with_reducible refine Below.alloc ?_ (by first | omega | (simp <;> omega)) _ | with_reducible refine Below.setCell ?_ (by first | omega | (simp <;> omega)) _ | with_reducible refine Below.setCells ?_)) (hbm.mono (by first | omega | (simp <;> omega))))
        go_meet
        exact ⟨_, hv.out, fun o => by go_simp, by first | omega | (simp <;> omega), ⟨by go_simp, by go_simp, by go_simp, by go_simp, by go_simp, by go_simp⟩, by exact (by repeat (first | with_reducible exact HXa | with_reducible exact HXm | with_reducible refine Below.drew ?_ | with_reducible refine below_drewN ?_ _ | with_reducible refine Below.alloc ?_ (by first | omega | (simp <;> omega)) _ | with_reducible refine Below.setCell ?_ (by first | omega | (simp <;> omega)) _ | with_reducible refine Below.setCells ?_))⟩
    · have hv := hide (spB_no hD.out hpos)
      go_wp2
      go_meet
      exact ⟨_, hv.out, fun o => by go_simp, by first | omega | (simp <;> omega), ⟨by go_simp, by go_simp, by go_simp, by go_simp, by go_simp, by go_simp⟩, by exact (by repeat (first | with_reducible exact HXa | with_reducible exact HXm | with_reducible refine Below.drew ?_ | with_reducible refine below_drewN ?_ _ | with_reducible refine Below.alloc ?_ (by first | omega | (simp <;> omega)) _ | with_reducible refine Below.setCell ?_ (by first | omega | (simp <;> omega)) _ | with_reducible refine Below.setCells ?_))⟩
  case rest =>
  clear D1 D2 hD v3 t0 t1 t2 t3 t4 t5 HXa fo yo ya yxa o0 o1 o2 o3 o4 o5
  obtain ⟨q1, hq1, fo, yo, ⟨o0, o1, o2, o3, o4, o5⟩, HXa⟩ := hcut
  rename World => wa
  replace hq1 := hide hq1
  have t0 := (HXa.cell (p := ⟨w.heap.size, 0, none⟩) yb).trans b0
  have t1 := (HXa.cell (p := ⟨w.heap.size, 1, none⟩) yb).trans b1
  have t2 := (HXa.cell (p := ⟨w.heap.size, 2, none⟩) yb).trans b2
  have t3 := (HXa.cell (p := ⟨w.heap.size, 3, none⟩) yb).trans b3
  have t4 := (HXa.cell (p := ⟨w.heap.size, 4, none⟩) yb).trans b4
  have t5 := (HXa.cell (p := ⟨w.heap.size, 5, none⟩) yb).trans b5
  have yi1 : (0 : Int) ≤ (y : Int) := by omega
  have yi2 : (y : Int) < 3 := by omega
  have zi1 : (0 : Int) ≤ (z : Int) := by omega
  have zi2 : (z : Int) < 3 := by omega
  have ta := legs_a (b := w.heap.size) t0 t2 t4 y y3
  have tb := legs_a (b := w.heap.size) t0 t2 t4 z z3
  have yxa := HXa.size
  have ya : w.heap.size < wa.heap.size := by omega
  obtain ⟨D, hD⟩ : ∃ D, D = need - ((p.leg z).a - (p.leg y).a) := ⟨_, rfl⟩
  have v1 : IntKind.i64.wrap ((p.leg z).a - (p.leg y).a) = (p.leg z).a - (p.leg y).a := IntWalk.i64_in _ (by omega)
  have v2 : IntKind.i64.wrap (need - ((p.leg z).a - (p.leg y).a)) = D := by rw [hD]; exact IntWalk.i64_in _ (by omega)
  have D1 : -5000 ≤ D ∧ D ≤ 10000 := by omega
  have v3 : IntKind.i64.wrap (-D) = -D := IntWalk.i64_in _ (by omega)
  obtain ⟨D1, D2⟩ := D1
  replace hD := hide hD
  go_upto_region 13 with fail
  go_quiet (fail)
  clear v1 v2 ta tb yi1 yi2 zi1 zi2
  go_upto_if 82 with fail
  go_cut [] (fun wz => ∃ q : Pt, q = spC p q1 need y z ∧ (∀ o, wz.frozen? ⟨bo, o, none⟩ = false) ∧ bo < wz.heap.size ∧ (wz.cell? ⟨bo, 0, none⟩ = some (.int .i64 q.l0.a) ∧ wz.cell? ⟨bo, 1, none⟩ = some (.int .i64 q.l0.b) ∧ wz.cell? ⟨bo, 2, none⟩ = some (.int .i64 q.l1.a) ∧ wz.cell? ⟨bo, 3, none⟩ = some (.int .i64 q.l1.b) ∧ wz.cell? ⟨bo, 4, none⟩ = some (.int .i64 q.l2.a) ∧ wz.cell? ⟨bo, 5, none⟩ = some (.int .i64 q.l2.b)) ∧ Below w2.heap.size w2 wz)
  case first =>
    by_cases hpos : 0 < D
    · obtain rfl | rfl | rfl : z = 0 ∨ z = 1 ∨ z = 2 := by omega
      · have hv := hide (show (⟨⟨p.l0.a + D, p.l0.b + D⟩, q1.l1, q1.l2⟩ : Pt) = spC p q1 need y 0 from spC_yes (q := q1) hD.out hpos)
        go_wp2_with (go_at_call 63; refine (move_any _ _ _ (by omega) (by omega) (by omega) _).mono ?_; rintro e wm ⟨rfl, hbm⟩; have zm := hbm.size; (try simp at zm); have cmo := bstep (b := bo) hbm (by first | omega | (simp <;> omega)); have fmo := bfro (b := bo) hbm (by first | omega | (simp <;> omega)); have ymo : bo < wm.heap.size := (by omega); have HXm : Below w2.heap.size w2 wm := Below.trans (by repeat (first | with_reducible exact HXa | with_reducible exact HXm | with_reducible refine Below.drew ?_ | with_reducible refine below_drewN ?_ _ | with_reducible refine Below.alloc ?_ (by first | omega | (simp <;> omega)) _ | with_reducible refine Below.setCell ?_ (by first | omega | (simp <;> omega)) _ | with_reducible refine Below.setCells ?_)) (hbm.mono (by first | omega | (simp <;> omega))))
        go_meet
        exact ⟨_, hv.out, fun o => by go_simp, by first | omega | (simp <;> omega), ⟨by go_simp, by go_simp, by go_simp, by go_simp, by go_simp, by go_simp⟩, by exact (by repeat (first | with_reducible exact HXa | with_reducible exact HXm | with_reducible refine Below.drew ?_ | with_reducible refine below_drewN ?_ _ | with_reducible refine Below.alloc ?_ (by first | omega | (simp <;> omega)) _ | with_reducible refine Below.setCell ?_ (by first | omega | (simp <;> omega)) _ | with_reducible refine Below.setCells ?_))⟩
      · have hv := hide (show (⟨q1.l0, ⟨p.l1.a + D, p.l1.b + D⟩, q1.l2⟩ : Pt) = spC p q1 need y 1 from spC_yes (q := q1) hD.out hpos)
        go_wp2_with (go_at_call 63; refine (move_any _ _ _ (by omega) (by omega) (by omega) _).mono ?_; rintro e wm ⟨rfl, hbm⟩; have zm := hbm.size; (try simp at zm); have cmo := bstep (b := bo) hbm (by first | omega | (simp <;> omega)); have fmo := bfro (b := bo) hbm (by first | omega | (simp <;> omega)); have ymo : bo < wm.heap.size := (by omega); have HXm : Below w2.heap.size w2 wm := Below.trans (by repeat (first | with_reducible exact HXa | with_reducible exact HXm | with_reducible refine Below.drew ?_ | with_reducible refine below_drewN ?_ _ | with_reducible refine Below.alloc ?_ (by first | omega | (simp <;> omega)) _ | with_reducible refine Below.setCell ?_ (by first | omega | (simp <;> omega)) _ | with_reducible refine Below.setCells ?_)) (hbm.mono (by first | omega | (simp <;> omega))))
        go_meet
        exact ⟨_, hv.out, fun o => by go_simp, by first | omega | (simp <;> omega), ⟨by go_simp, by go_simp, by go_simp, by go_simp, by go_simp, by go_simp⟩, by exact (by repeat (first | with_reducible exact HXa | with_reducible exact HXm | with_reducible refine Below.drew ?_ | with_reducible refine below_drewN ?_ _ | with_reducible refine Below.alloc ?_ (by first | omega | (simp <;> omega)) _ | with_reducible refine Below.setCell ?_ (by first | omega | (simp <;> omega)) _ | with_reducible refine Below.setCells ?_))⟩
      · have hv := hide (show (⟨q1.l0, q1.l1, ⟨p.l2.a + D, p.l2.b + D⟩⟩ : Pt) = spC p q1 need y 2 from spC_yes (q := q1) hD.out hpos)
        go_wp2_with (go_at_call 63; refine (move_any _ _ _ (by omega) (by omega) (by omega) _).mono ?_; rintro e wm ⟨rfl, hbm⟩; have zm := hbm.size; (try simp at zm); have cmo := bstep (b := bo) hbm (by first | omega | (simp <;> omega)); have fmo := bfro (b := bo) hbm (by first | omega | (simp <;> omega)); have ymo : bo < wm.heap.size := (by omega); have HXm : Below w2.heap.size w2 wm := Below.trans (by repeat (first | with_reducible exact HXa | with_reducible exact HXm | with_reducible refine Below.drew ?_ | with_reducible refine below_drewN ?_ _ | with_reducible refine Below.alloc ?_ (by first | omega | (simp <;> omega)) _ | with_reducible refine Below.setCell ?_ (by first | omega | (simp <;> omega)) _ | with_reducible refine Below.setCells ?_)) (hbm.mono (by first | omega | (simp <;> omega))))
        go_meet
        exact ⟨_, hv.out, fun o => by go_simp, by first | omega | (simp <;> omega), ⟨by go_simp, by go_simp, by go_simp, by go_simp, by go_simp, by go_simp⟩, by exact (by repeat (first | with_reducible exact HXa | with_reducible exact HXm | with_reducible refine Below.drew ?_ | with_reducible refine below_drewN ?_ _ | with_reducible refine Below.alloc ?_ (by first | omega | (simp <;> omega)) _ | with_reducible refine Below.setCell ?_ (by first | omega | (simp <;> omega)) _ | with_reducible refine Below.setCells ?_))⟩
    · have hv := hide (spC_no (q := q1) hD.out hpos)
      go_wp2
      go_meet
      exact ⟨_, hv.out, fun o => by go_simp, by first | omega | (simp <;> omega), ⟨by go_simp, by go_simp, by go_simp, by go_simp, by go_simp, by go_simp⟩, by exact (by repeat (first | with_reducible exact HXa | with_reducible exact HXm | with_reducible refine Below.drew ?_ | with_reducible refine below_drewN ?_ _ | with_reducible refine Below.alloc ?_ (by first | omega | (simp <;> omega)) _ | with_reducible refine Below.setCell ?_ (by first | omega | (simp <;> omega)) _ | with_reducible refine Below.setCells ?_))⟩
  case rest =>
  clear D1 D2 hD v3 t0 t1 t2 t3 t4 t5 HXa fo yo ya yxa o0 o1 o2 o3 o4 o5
  obtain ⟨q, hq, fo, yo, ⟨o0, o1, o2, o3, o4, o5⟩, HXa⟩ := hcut
  rename World => wa
  have hqq : q = spOut p need (x, y, z) := by rw [hq, hq1.out]; rfl
  clear hq hq1
  have hq := hqq
  clear hqq
  have HX := HXa
  have ybo' := yo
  clear HXa yo ybo fo
  have ybo := ybo'
  clear ybo'
  rename World => wc
  replace b0 := (HX.cell (p := ⟨w.heap.size, 0, none⟩) yb).trans b0
  replace b1 := (HX.cell (p := ⟨w.heap.size, 1, none⟩) yb).trans b1
  replace b2 := (HX.cell (p := ⟨w.heap.size, 2, none⟩) yb).trans b2
  replace b3 := (HX.cell (p := ⟨w.heap.size, 3, none⟩) yb).trans b3
  replace b4 := (HX.cell (p := ⟨w.heap.size, 4, none⟩) yb).trans b4
  replace b5 := (HX.cell (p := ⟨w.heap.size, 5, none⟩) yb).trans b5
  replace hord := hord.out
  have y0 : w.heap.size < wc.heap.size := by have := HX.size; omega
  have y1 : w.heap.size + 1 < wc.heap.size := by have := HX.size; omega
  have cx1 := bstep (b := w.heap.size + 1) HX (by omega)
  have fx1 := bfro (b := w.heap.size + 1) HX (by omega)
  have HW : Below w.heap.size w wc := H2.trans (HX.mono (by omega))
  clear HX
  rw [hord, ← hq] at hV
  have hYes := hide (fun h : spOk p q per least (x, y, z) => hV.trans (by rw [if_pos h, decide_eq_true h]))
  have hNo := hide (fun h : ¬ spOk p q per least (x, y, z) => hV.trans (by rw [if_neg h, decide_eq_false h]))
  clear hV hord hq
  go_wp2
  go_loopw [91] (fun i wr => ∃ k : Nat, k ≤ 3 ∧ i = .int .i64 (k : Int) ∧ (∀ j : Nat, j < k → (p.leg j).plain per) ∧ Below wc.heap.size wc wr) (fun i _ => 3 - (intOf i).toNat)
  case atStart =>
    exact ⟨0, by omega, rfl, fun j hj => absurd hj (by omega), Below.refl _ _⟩
  case round =>
    rename World => wr
    obtain ⟨k, hk, rfl, hpl, HR⟩ := hrel
    have yr := HR.size
    have yr0 : w.heap.size < wr.heap.size := by omega
    have yr1 : w.heap.size + 1 < wr.heap.size := by omega
    have cr0 := bstep (b := w.heap.size) HR (by omega)
    have cr1 := bstep (b := w.heap.size + 1) HR (by omega)
    have fr1 := bfro (b := w.heap.size + 1) HR (by omega)
    have HWR : Below w.heap.size w wr := HW.trans (HR.mono (by omega))
    by_cases hlt : k < 3
    · have hpl' := hide hpl
      clear hpl
      have hix := ixLegN p k hlt
      have hnot := hide (fun h : ¬ (p.leg k).plain per => hNo.out (fun hs => h (plain_at hs.1 hlt)))
      have hmore := hide (fun h : (p.leg k).plain per => plain_more hpl'.out h)
      generalize p.leg k = l at hix hnot hmore
      by_cases hn : l.a = 0 ∧ l.b = 0
      · have hh := hide (hnot.out (fun h => h.1 hn))
        obtain ⟨n1, n2⟩ := hn
        replace n1 : l.a ≤ 0 ∧ 0 ≤ l.a := by omega
        replace n2 : l.b ≤ 0 ∧ 0 ≤ l.b := by omega
        obtain ⟨n1, n1'⟩ := n1
        obtain ⟨n2, n2'⟩ := n2
        go_upto_region 19 with fail
        go_cut [100] (fun s wz => s = .bool true ∧ Below wr.heap.size wr wz)
        case first =>
          go_wp2_with (first | (go_at_call 64; first | (refine (never_yes l (by omega) (by omega) _).mono ?_; rintro e w8 ⟨rfl, rfl⟩) | (refine (never_no l (by omega) _).mono ?_; rintro e w8 ⟨rfl, rfl⟩)) | (go_at_call 65; first | (refine (always_yes l per (by omega) (by omega) _).mono ?_; rintro e w8 ⟨rfl, rfl⟩) | (refine (always_no l per (by omega) _).mono ?_; rintro e w8 ⟨rfl, rfl⟩)))
          go_meet
          exact ⟨rfl, by repeat (first | with_reducible exact Below.refl _ _ | with_reducible refine Below.drew ?_ | with_reducible refine below_drewN ?_ _ | with_reducible refine Below.alloc ?_ (by first | omega | (simp <;> omega)) _)⟩
        case rest =>
        obtain ⟨rfl, HV⟩ := hcut
        rename World => wv
        have yv := HV.size
        have yv0 : w.heap.size < wv.heap.size := by omega
        have yv1 : w.heap.size + 1 < wv.heap.size := by omega
        have cv0 := bstep (b := w.heap.size) HV (by omega)
        have cv1 := bstep (b := w.heap.size + 1) HV (by omega)
        have fv1 := bfro (b := w.heap.size + 1) HV (by omega)
        have HWV : Below w.heap.size w wv := HWR.trans (HV.mono (by omega))
        go_wp2
        refine bodyPost_ret (v := .tuple #[.agg #[.int .i64 p.l0.a, .int .i64 p.l0.b, .int .i64 p.l1.a, .int .i64 p.l1.b, .int .i64 p.l2.a, .int .i64 p.l2.b], .bool false, .nilIface]) (by simp only [results, Try.results26]; go_simp) rfl ⟨congrArg Ending.returned (hh.out).symm, ?_⟩
        exact (by repeat (first | with_reducible exact HWV | with_reducible exact HWR | with_reducible exact HWZ | with_reducible exact H7 | with_reducible refine Below.drew ?_ | with_reducible refine below_drewN ?_ _ | with_reducible refine Below.alloc ?_ (by first | omega | (simp <;> omega)) _ | with_reducible refine Below.setCell ?_ (by first | omega | (simp <;> omega)) _ | with_reducible refine Below.setCells ?_))
      · by_cases ha : l.a = 0 ∧ l.b = per
        · have hh := hide (hnot.out (fun h => h.2 ha))
          obtain ⟨n1, n2⟩ := ha
          replace n1 : l.a ≤ 0 ∧ 0 ≤ l.a := by omega
          replace n2 : l.b ≤ per ∧ per ≤ l.b := by omega
          obtain ⟨n1, n1'⟩ := n1
          obtain ⟨n2, n2'⟩ := n2
          go_upto_region 19 with fail
          go_cut [100] (fun s wz => s = .bool true ∧ Below wr.heap.size wr wz)
          case first =>
            go_wp2_with (first | (go_at_call 64; first | (refine (never_yes l (by omega) (by omega) _).mono ?_; rintro e w8 ⟨rfl, rfl⟩) | (refine (never_no l (by omega) _).mono ?_; rintro e w8 ⟨rfl, rfl⟩)) | (go_at_call 65; first | (refine (always_yes l per (by omega) (by omega) _).mono ?_; rintro e w8 ⟨rfl, rfl⟩) | (refine (always_no l per (by omega) _).mono ?_; rintro e w8 ⟨rfl, rfl⟩)))
            go_meet
            exact ⟨rfl, by repeat (first | with_reducible exact Below.refl _ _ | with_reducible refine Below.drew ?_ | with_reducible refine below_drewN ?_ _ | with_reducible refine Below.alloc ?_ (by first | omega | (simp <;> omega)) _)⟩
          case rest =>
          obtain ⟨rfl, HV⟩ := hcut
          rename World => wv
          have yv := HV.size
          have yv0 : w.heap.size < wv.heap.size := by omega
          have yv1 : w.heap.size + 1 < wv.heap.size := by omega
          have cv0 := bstep (b := w.heap.size) HV (by omega)
          have cv1 := bstep (b := w.heap.size + 1) HV (by omega)
          have fv1 := bfro (b := w.heap.size + 1) HV (by omega)
          have HWV : Below w.heap.size w wv := HWR.trans (HV.mono (by omega))
          go_wp2
          refine bodyPost_ret (v := .tuple #[.agg #[.int .i64 p.l0.a, .int .i64 p.l0.b, .int .i64 p.l1.a, .int .i64 p.l1.b, .int .i64 p.l2.a, .int .i64 p.l2.b], .bool false, .nilIface]) (by simp only [results, Try.results26]; go_simp) rfl ⟨congrArg Ending.returned (hh.out).symm, ?_⟩
          exact (by repeat (first | with_reducible exact HWV | with_reducible exact HWR | with_reducible exact HWZ | with_reducible exact H7 | with_reducible refine Below.drew ?_ | with_reducible refine below_drewN ?_ _ | with_reducible refine Below.alloc ?_ (by first | omega | (simp <;> omega)) _ | with_reducible refine Below.setCell ?_ (by first | omega | (simp <;> omega)) _ | with_reducible refine Below.setCells ?_))
        · have hh := hide (hmore.out ⟨hn, ha⟩)
          go_upto_region 19 with fail
          go_cut [100] (fun s wz => s = .bool false ∧ Below wr.heap.size wr wz)
          case first =>
            go_wp2_with (first | (go_at_call 64; first | (refine (never_yes l (by omega) (by omega) _).mono ?_; rintro e w8 ⟨rfl, rfl⟩) | (refine (never_no l (by omega) _).mono ?_; rintro e w8 ⟨rfl, rfl⟩)) | (go_at_call 65; first | (refine (always_yes l per (by omega) (by omega) _).mono ?_; rintro e w8 ⟨rfl, rfl⟩) | (refine (always_no l per (by omega) _).mono ?_; rintro e w8 ⟨rfl, rfl⟩)))
            go_meet
            exact ⟨rfl, by repeat (first | with_reducible exact Below.refl _ _ | with_reducible refine Below.drew ?_ | with_reducible refine below_drewN ?_ _ | with_reducible refine Below.alloc ?_ (by first | omega | (simp <;> omega)) _)⟩
          case rest =>
          obtain ⟨rfl, HV⟩ := hcut
          rename World => wv
          have yv := HV.size
          have yv0 : w.heap.size < wv.heap.size := by omega
          have yv1 : w.heap.size + 1 < wv.heap.size := by omega
          have cv0 := bstep (b := w.heap.size) HV (by omega)
          have cv1 := bstep (b := w.heap.size + 1) HV (by omega)
          have fv1 := bfro (b := w.heap.size + 1) HV (by omega)
          have HWV : Below w.heap.size w wv := HWR.trans (HV.mono (by omega))
          go_wp2
          go_roundw
          case rel => exact ⟨k + 1, by omega, by go_num, hh.out, by exact (HR.trans (HV.mono (by omega)))⟩
          case measure => simp [intOf]; omega
    · have hall : p.l0.plain per ∧ p.l1.plain per ∧ p.l2.plain per := ⟨hpl 0 (by omega), hpl 1 (by omega), hpl 2 (by omega)⟩
      have ek : k = 3 := by omega
      subst ek
      clear hpl
      have r0 := (HR.cell (p := ⟨bo, 0, none⟩) ybo).trans o0
      have r1 := (HR.cell (p := ⟨bo, 1, none⟩) ybo).trans o1
      have r2 := (HR.cell (p := ⟨bo, 2, none⟩) ybo).trans o2
      have r3 := (HR.cell (p := ⟨bo, 3, none⟩) ybo).trans o3
      have r4 := (HR.cell (p := ⟨bo, 4, none⟩) ybo).trans o4
      have r5 := (HR.cell (p := ⟨bo, 5, none⟩) ybo).trans o5
      have rx := legs_b (b := bo) (p := q) r1 r3 r5 x x3
      have ry := legs_b (b := bo) (p := q) r1 r3 r5 y y3
      have rz := legs_a (b := bo) (p := q) r0 r2 r4 z z3
      have k0 := fun d os => cell_regrown r0 d os
      have k1 := fun d os => cell_regrown r1 d os
      have k2 := fun d os => cell_regrown r2 d os
      have k3 := fun d os => cell_regrown r3 d os
      have k4 := fun d os => cell_regrown r4 d os
      have k5 := fun d os => cell_regrown r5 d os
      have kx := fun d os => cell_regrown rx d os
      have ky := fun d os => cell_regrown ry d os
      have kz := fun d os => cell_regrown rz d os
      have xi1 : (0 : Int) ≤ (x : Int) := by omega
      have xi2 : (x : Int) < 3 := by omega
      have yi1 : (0 : Int) ≤ (y : Int) := by omega
      have yi2 : (y : Int) < 3 := by omega
      have zi1 : (0 : Int) ≤ (z : Int) := by omega
      have zi2 : (z : Int) < 3 := by omega
      have HQq := hide (fun W => HQ.out q W)
      clear HQ
      go_upto_region 22 with fail
      by_cases c1 : q.code per least = 0
      · by_cases c2 : (q.leg x).b < (q.leg z).a
        · have hh := hide (hNo.out (fun hs => hs.2.2.1 c2))
          rw [c1, errV_zero] at HQq
          clear c1 hall hYes hNo
          have cM := fun d os => Calls.regrown_of (HQq.out (Go.Sort.grow (redrawn wr d) os))
          refine wp_region_quiet_below (by kernel_rfl) (by kernel_rfl) ?_
          repeat (go_big_quiet_step (exact cM _ _))
          refine wpQuiet_nil ?_
          rintro wz ⟨⟨dd, os⟩, rfl⟩
          have hz := below_regrown wr dd os
          clear cM k0 k1 k2 k3 k4 k5 kx ky kz
          generalize Go.Sort.grow (redrawn wr dd) os = wz at hz ⊢
          have yz := hz.size
          have cz0 := bstep (b := w.heap.size) hz (by omega)
          have cz1 := bstep (b := w.heap.size + 1) hz (by omega)
          have fz1 := bfro (b := w.heap.size + 1) hz (by omega)
          have czo := bstep (b := bo) hz (by omega)
          have HWZ : Below w.heap.size w wz := HWR.trans (hz.mono (by omega))
          go_wp2
          refine bodyPost_ret (v := .tuple #[.agg #[.int .i64 p.l0.a, .int .i64 p.l0.b, .int .i64 p.l1.a, .int .i64 p.l1.b, .int .i64 p.l2.a, .int .i64 p.l2.b], .bool false, .nilIface]) (by simp only [results, Try.results26]; go_simp) rfl ⟨congrArg Ending.returned (hh.out).symm, ?_⟩
          exact (by repeat (first | with_reducible exact HWV | with_reducible exact HWR | with_reducible exact HWZ | with_reducible exact H7 | with_reducible refine Below.drew ?_ | with_reducible refine below_drewN ?_ _ | with_reducible refine Below.alloc ?_ (by first | omega | (simp <;> omega)) _ | with_reducible refine Below.setCell ?_ (by first | omega | (simp <;> omega)) _ | with_reducible refine Below.setCells ?_))
        · by_cases c3 : (q.leg y).b < (q.leg z).a
          · have hh := hide (hNo.out (fun hs => hs.2.2.2 c3))
            rw [c1, errV_zero] at HQq
            clear c1 hall hYes hNo
            have cM := fun d os => Calls.regrown_of (HQq.out (Go.Sort.grow (redrawn wr d) os))
            refine wp_region_quiet_below (by kernel_rfl) (by kernel_rfl) ?_
            repeat (go_big_quiet_step (exact cM _ _))
            refine wpQuiet_nil ?_
            rintro wz ⟨⟨dd, os⟩, rfl⟩
            have hz := below_regrown wr dd os
            clear cM k0 k1 k2 k3 k4 k5 kx ky kz
            generalize Go.Sort.grow (redrawn wr dd) os = wz at hz ⊢
            have yz := hz.size
            have cz0 := bstep (b := w.heap.size) hz (by omega)
            have cz1 := bstep (b := w.heap.size + 1) hz (by omega)
            have fz1 := bfro (b := w.heap.size + 1) hz (by omega)
            have czo := bstep (b := bo) hz (by omega)
            have HWZ : Below w.heap.size w wz := HWR.trans (hz.mono (by omega))
            go_wp2
            refine bodyPost_ret (v := .tuple #[.agg #[.int .i64 p.l0.a, .int .i64 p.l0.b, .int .i64 p.l1.a, .int .i64 p.l1.b, .int .i64 p.l2.a, .int .i64 p.l2.b], .bool false, .nilIface]) (by simp only [results, Try.results26]; go_simp) rfl ⟨congrArg Ending.returned (hh.out).symm, ?_⟩
            exact (by repeat (first | with_reducible exact HWV | with_reducible exact HWR | with_reducible exact HWZ | with_reducible exact H7 | with_reducible refine Below.drew ?_ | with_reducible refine below_drewN ?_ _ | with_reducible refine Below.alloc ?_ (by first | omega | (simp <;> omega)) _ | with_reducible refine Below.setCell ?_ (by first | omega | (simp <;> omega)) _ | with_reducible refine Below.setCells ?_))
          · have hh := hide (hYes.out ⟨hall, c1, c2, c3⟩)
            rw [c1, errV_zero] at HQq
            clear c1 hall hYes hNo
            have cM := fun d os => Calls.regrown_of (HQq.out (Go.Sort.grow (redrawn wr d) os))
            refine wp_region_quiet_below (by kernel_rfl) (by kernel_rfl) ?_
            repeat (go_big_quiet_step (exact cM _ _))
            refine wpQuiet_nil ?_
            rintro wz ⟨⟨dd, os⟩, rfl⟩
            have hz := below_regrown wr dd os
            clear cM k0 k1 k2 k3 k4 k5 kx ky kz
            generalize Go.Sort.grow (redrawn wr dd) os = wz at hz ⊢
            have yz := hz.size
            have cz0 := bstep (b := w.heap.size) hz (by omega)
            have cz1 := bstep (b := w.heap.size + 1) hz (by omega)
            have fz1 := bfro (b := w.heap.size + 1) hz (by omega)
            have czo := bstep (b := bo) hz (by omega)
            have HWZ : Below w.heap.size w wz := HWR.trans (hz.mono (by omega))
            go_wp2
            refine bodyPost_ret (v := .tuple #[.agg #[.int .i64 q.l0.a, .int .i64 q.l0.b, .int .i64 q.l1.a, .int .i64 q.l1.b, .int .i64 q.l2.a, .int .i64 q.l2.b], .bool true, .nilIface]) (by simp only [results, Try.results26]; go_simp) rfl ⟨congrArg Ending.returned (hh.out).symm, ?_⟩
            exact (by repeat (first | with_reducible exact HWV | with_reducible exact HWR | with_reducible exact HWZ | with_reducible exact H7 | with_reducible refine Below.drew ?_ | with_reducible refine below_drewN ?_ _ | with_reducible refine Below.alloc ?_ (by first | omega | (simp <;> omega)) _ | with_reducible refine Below.setCell ?_ (by first | omega | (simp <;> omega)) _ | with_reducible refine Below.setCells ?_))
      · have hh := hide (hNo.out (fun hs => c1 hs.2.1))
        rw [errV_pos c1] at HQq
        clear c1 hall hYes hNo
        generalize q.code per least = cc at HQq
        have cM := fun d os => Calls.regrown_of (HQq.out (Go.Sort.grow (redrawn wr d) os))
        refine wp_region_quiet_below (by kernel_rfl) (by kernel_rfl) ?_
        repeat (go_big_quiet_step (exact cM _ _))
        refine wpQuiet_nil ?_
        rintro wz ⟨⟨dd, os⟩, rfl⟩
        have hz := below_regrown wr dd os
        clear cM k0 k1 k2 k3 k4 k5 kx ky kz
        generalize Go.Sort.grow (redrawn wr dd) os = wz at hz ⊢
        have yz := hz.size
        have cz0 := bstep (b := w.heap.size) hz (by omega)
        have cz1 := bstep (b := w.heap.size + 1) hz (by omega)
        have fz1 := bfro (b := w.heap.size + 1) hz (by omega)
        have czo := bstep (b := bo) hz (by omega)
        have HWZ : Below w.heap.size w wz := HWR.trans (hz.mono (by omega))
        go_wp2
        refine bodyPost_ret (v := .tuple #[.agg #[.int .i64 p.l0.a, .int .i64 p.l0.b, .int .i64 p.l1.a, .int .i64 p.l1.b, .int .i64 p.l2.a, .int .i64 p.l2.b], .bool false, .nilIface]) (by simp only [results, Try.results26]; go_simp) rfl ⟨congrArg Ending.returned (hh.out).symm, ?_⟩
        exact (by repeat (first | with_reducible exact HWV | with_reducible exact HWR | with_reducible exact HWZ | with_reducible exact H7 | with_reducible refine Below.drew ?_ | with_reducible refine below_drewN ?_ _ | with_reducible refine Below.alloc ?_ (by first | omega | (simp <;> omega)) _ | with_reducible refine Below.setCell ?_ (by first | omega | (simp <;> omega)) _ | with_reducible refine Below.setCells ?_))

end Go.Proofs.Ytjeomdfcfbfebaa

/- PatternCovers holds: parts cover the period without gaps, neighbours differ, and each leg is on in as many counts as its pulse has. No condition. -/
import Derived.Test.YtjeomdfcfbfebaaRows
import Derived.Test.YtjeomdfcfbfebaaFlat
import Derived.Test.YtjeomdfcfbfebaaPatE
import Derived.Test.YtjeomdfcfbfebaaPatK
import Derived.Test.YtjeomdfcfbfebaaPatJ
namespace Go.Proofs.Ytjeomdfcfbfebaa
open Go.RowKit PM Flat Go.ChangeShapes

theorem info_int1 : (Try.prog.info? 3).map (fun i => (i.size)) = some 1 := by kernel_rfl
theorem cells_int1 : Try.prog.cellsOf 3 = 1 := by kernel_rfl
@[go_sem] theorem eqI3 (a b c d e f : Int) (w : World) : (Op.equalIn 10000 26 (.agg #[.int .i64 a, .int .i64 b, .int .i64 c]) (.agg #[.int .i64 d, .int .i64 e, .int .i64 f])).run Try.prog w = .ok (a == d && b == e && c == f) w := by
  obtain ⟨i, hi⟩ : ∃ i, Try.prog.info? 3 = some i := by
    cases h : Try.prog.info? 3 with
    | none => have := info_int1; rw [h] at this; simp at this
    | some i => exact ⟨i, rfl⟩
  rw [show (10000 : Nat) = 9999 + 1 from rfl, run_equalIn_array w 9999 _ _ Try.underlying26 hi]
  rw [cells_int1, show List.range 3 = [0, 1, 2] from rfl]
  simp only [Op.eqItems]
  go_simp
  by_cases h1 : a = d <;> by_cases h2 : b = e <;> by_cases h3 : c = f <;> simp [h1, h2, h3]

set_option maxHeartbeats 16000000 in
set_option maxRecDepth 100000 in
theorem patternCovers_ok (p : Pt) (per : Int) (hper : okPer per) (h : p.In per) (w : World) :
    Calls Try.prog 6 #[.agg #[.int .i64 p.l0.a, .int .i64 p.l0.b, .int .i64 p.l1.a, .int .i64 p.l1.b, .int .i64 p.l2.a, .int .i64 p.l2.b], .int .i64 per] w fun e w' => e = .returned (.bool true) ∧ Below w.heap.size w w' := by
  have HP := hide (parts_ok p per hper h)
  have HH := hide h
  obtain ⟨hp1, hp2⟩ := hper
  clear h
  go_enter Try.func6, Try.ntmps6
  go_upto_region 6 with (first | (go_at_call 30; refine (awake_any _).mono ?_; rintro e w1 ⟨rfl, hb1⟩; have z1 := hb1.size; (try simp at z1); have c1x0 := bstep (b := w.heap.size) hb1 (by first | omega | (simp <;> omega)); have y1x0 : w.heap.size < w1.heap.size := (by omega)) | (go_at_call 34; refine (HP.out _).mono ?_; rintro e w2 ⟨v, R, rfl, hS, hown, hb2⟩; have z2 := hb2.size; (try simp at z2); have c2x0 := bstep (b := w.heap.size) hb2 (by first | omega | (simp <;> omega)); have y2x0 : w.heap.size < w2.heap.size := (by omega)))
  have H1 : Below w.heap.size w w1 := ((Below.refl _ _).alloc (Nat.le_refl _) _).trans (hb1.mono (by first | omega | (simp <;> omega)))
  have H2 : Below w.heap.size w w2 := H1.trans (hb2.mono (by first | omega | (simp <;> omega)))
  have hend := segs_end hS
  have hlen := segs_len hS
  rcases hown.2 with ⟨rfl, hR0⟩ | ⟨g2, cap2, cur2, rfl, hbs, hc2, e1, e2, e3, e4⟩
  · rw [hR0] at hend
    simp only [endAt] at hend
    omega
  have yg2 : g2 < w2.heap.size := (Array.getElem?_eq_some_iff.1 hc2).1
  have hcell := fun k x j (hk : k < R.length) (hx : R.reverse[k]? = some x) (hj : j < 5) => (hown.cellAt (k * 5 + j) (by omega)).trans (flat_at R k x j hx hj)
  replace hcell := hide hcell
  replace hS := hide hS
  replace hend := hide hend
  clear hown hc2 e1 e2 e3 e4 hbs
  generalize hn : R.length = n at hcell hend hlen
  go_wp2
  go_loopw [7, 27] (fun at_ i wr => ∃ k : Nat, k ≤ n ∧ i = .int .i64 k ∧ at_ = .int .i64 (endAt R k) ∧ (wr.cell? ⟨w2.heap.size, 0, none⟩ = some (.int .i64 (p.l0.cnt (endAt R k))) ∧ wr.cell? ⟨w2.heap.size, 1, none⟩ = some (.int .i64 (p.l1.cnt (endAt R k))) ∧ wr.cell? ⟨w2.heap.size, 2, none⟩ = some (.int .i64 (p.l2.cnt (endAt R k)))) ∧ (∀ o, wr.frozen? ⟨w2.heap.size, o, none⟩ = false) ∧ w2.heap.size < wr.heap.size ∧ Below w2.heap.size w2 wr) (fun _ i _ => n - (intOf i).toNat)
  case atStart =>
    have z0 := cnt_zero HH.out.1
    have z1' := cnt_zero HH.out.2.1
    have z2' := cnt_zero HH.out.2.2
    refine ⟨0, Nat.zero_le _, rfl, rfl, ⟨?_, ?_, ?_⟩, ?_, ?_, ?_⟩
    · simp only [endAt, z0]; go_simp
    · simp only [endAt, z1']; go_simp
    · simp only [endAt, z2']; go_simp
    · intro o; go_simp
    · simp
    · exact (Below.refl _ _).alloc (Nat.le_refl _) _
  case round =>
    obtain ⟨k, hk, rfl, rfl, ⟨o0, o1, o2⟩, ofr, oy, HW⟩ := hrel
    have cpx := fun o => (HW.cell (p := ⟨w.heap.size, o, none⟩) (by show w.heap.size < w2.heap.size; omega)).trans (c2x0 o)
    have yw0 : w.heap.size < wr.heap.size := by omega
    have no1 : ¬ w.heap.size = w2.heap.size := by omega
    have no2 : ¬ w2.heap.size = w.heap.size := by omega
    by_cases hlt : k < n
    · obtain ⟨x, hx, ⟨xa, xb, xc⟩, hf, ha, he⟩ := segs_at hS.out k (by omega)
      have hF0 := fun t h1 h2 => congrArg (fun b : B3 => b.1) (hf t h1 h2)
      have hF1 := fun t h1 h2 => congrArg (fun b : B3 => b.2.1) (hf t h1 h2)
      have hF2 := fun t h1 h2 => congrArg (fun b : B3 => b.2.2) (hf t h1 h2)
      have t0 := cnt_step HH.out.1 xb x.n.1 hF0
      have t1 := cnt_step HH.out.2.1 xb x.n.2.1 hF1
      have t2 := cnt_step HH.out.2.2 xb x.n.2.2 hF2
      rw [ha] at t0 t1 t2
      rw [← he] at t0 t1 t2
      clear hf hF0 hF1 hF2
      have q0 := cnt_bd (e := endAt R k) HH.out.1
      have q1 := cnt_bd (e := endAt R k) HH.out.2.1
      have q2 := cnt_bd (e := endAt R k) HH.out.2.2
      have hc0 := hcell.out k x 0 (by omega) hx (by omega)
      have hc1 := hcell.out k x 1 (by omega) hx (by omega)
      have hc2 := hcell.out k x 2 (by omega) hx (by omega)
      have hc3 := hcell.out k x 3 (by omega) hx (by omega)
      have hc4 := hcell.out k x 4 (by omega) hx (by omega)
      have hprev : ∀ j y, k = j + 1 → R.reverse[j]? = some y → (x.n.1 == y.n.1 && x.n.2.1 == y.n.2.1 && x.n.2.2 == y.n.2.2) = false := by
        intro j y hkj hy
        subst hkj
        have hne := segs_differ hS.out j y x hy hx
        rw [Bool.eq_false_iff]
        intro hb
        exact hne ((n_iff x.n y.n.1 y.n.2.1 y.n.2.2).1 hb).symm
      simp only [pcell] at hc0 hc1 hc2 hc3 hc4
      replace hprev := hide hprev
      have d0 : wr.cell? ⟨g2, k * 5, none⟩ = some (.int .i64 x.a) := (HW.cell (p := ⟨g2, k * 5, none⟩) yg2).trans hc0
      have d1 : wr.cell? ⟨g2, k * 5 + 1, none⟩ = some (.int .i64 x.b) := (HW.cell (p := ⟨g2, k * 5 + 1, none⟩) yg2).trans hc1
      have d2 : wr.cell? ⟨g2, k * 5 + 2, none⟩ = some (.bool x.n.1) := (HW.cell (p := ⟨g2, k * 5 + 2, none⟩) yg2).trans hc2
      have d3 : wr.cell? ⟨g2, k * 5 + 3, none⟩ = some (.bool x.n.2.1) := (HW.cell (p := ⟨g2, k * 5 + 3, none⟩) yg2).trans hc3
      have d4 : wr.cell? ⟨g2, k * 5 + 4, none⟩ = some (.bool x.n.2.2) := (HW.cell (p := ⟨g2, k * 5 + 4, none⟩) yg2).trans hc4
      clear hc0 hc1 hc2 hc3 hc4
      have yg : g2 < wr.heap.size := by omega
      have ygo : ¬ g2 = w2.heap.size := by omega
      have ygo2 : ¬ w2.heap.size = g2 := by omega
      have nor : ¬ w2.heap.size = wr.heap.size := by omega
      have nor2 : ¬ wr.heap.size = w2.heap.size := by omega
      have i1 : (0 : Int) ≤ (k : Int) := by omega
      have i2 : (k : Int) < (n : Int) := by omega
      obtain ⟨A, B, n0, n1, n2⟩ := x
      simp only at xa xb xc ha he t0 t1 t2 d0 d1 d2 d3 d4
      generalize hE0 : endAt R k = E0 at ha t0 t1 t2 q0 q1 q2 o0 o1 o2
      subst ha
      generalize hE1 : endAt R (k + 1) = E1 at he t0 t1 t2
      subst he
      replace hE1 := hide hE1
      generalize p.l0.cnt A = s0 at t0 q0 o0
      generalize p.l1.cnt A = s1 at t1 q1 o1
      generalize p.l2.cnt A = s2 at t2 q2 o2
      replace t0 := hide t0
      replace t1 := hide t1
      replace t2 := hide t2
      clear hE0
      obtain ⟨q0a, q0b⟩ := q0
      obtain ⟨q1a, q1b⟩ := q1
      obtain ⟨q2a, q2b⟩ := q2
      have hdec : decide (E1 ≤ A) = false := by rw [decide_eq_false_iff_not]; omega
      cases k with
      | zero =>
        go_wp2
        refine region_quiet_tail 25 (by kernel_rfl) (by kernel_rfl) ?_
        simp only [List.take_succ_cons, List.take_zero, List.drop_succ_cons, List.drop_zero]
        repeat (first | go_big_quiet_skip | (go_big_quiet_want; go_big_quiet_op; go_big_quiet_on))
        refine wpQuiet_nil ?_
        go_wp2
        cases n0 <;> cases n1 <;> cases n2
        all_goals
          simp only [if_true, Bool.false_eq_true, if_false] at t0 t1 t2
          refine wp_loop_rounds 4 ?_
          rw [rounds_succ]
          go_wp2
          try (
            refine region_quiet_tail 10 (by kernel_rfl) (by kernel_rfl) ?_
            simp only [List.take_succ_cons, List.take_zero, List.drop_succ_cons, List.drop_zero]
            repeat (first | go_big_quiet_skip | (go_big_quiet_want; go_big_quiet_op; go_big_quiet_on))
            refine wpQuiet_nil ?_
            go_wp2)
          rw [rounds_succ]
          go_wp2
          try (
            refine region_quiet_tail 10 (by kernel_rfl) (by kernel_rfl) ?_
            simp only [List.take_succ_cons, List.take_zero, List.drop_succ_cons, List.drop_zero]
            repeat (first | go_big_quiet_skip | (go_big_quiet_want; go_big_quiet_op; go_big_quiet_on))
            refine wpQuiet_nil ?_
            go_wp2)
          rw [rounds_succ]
          go_wp2
          try (
            refine region_quiet_tail 10 (by kernel_rfl) (by kernel_rfl) ?_
            simp only [List.take_succ_cons, List.take_zero, List.drop_succ_cons, List.drop_zero]
            repeat (first | go_big_quiet_skip | (go_big_quiet_want; go_big_quiet_op; go_big_quiet_on))
            refine wpQuiet_nil ?_
            go_wp2)
          rw [rounds_succ]
          go_wp2
          go_roundw
          case rel =>
            refine ⟨0 + 1, by omega, by go_num, by rw [hE1.out], ⟨?_, ?_, ?_⟩, ?_, ?_, ?_⟩
            · rw [hE1.out, t0.out]; go_simp
            · rw [hE1.out, t1.out]; go_simp
            · rw [hE1.out, t2.out]; go_simp
            · intro o; go_simp
            · simp <;> omega
            · exact (by repeat (first | with_reducible exact HW | with_reducible refine Below.drew ?_ | with_reducible refine Below.alloc ?_ (by first | omega | (simp <;> omega)) _ | with_reducible refine Below.setCell ?_ (by first | omega | (simp <;> omega)) _))
          case measure => simp [intOf]; omega
      | succ j =>
        obtain ⟨y, hy, _⟩ := segs_at hS.out j (by omega)
        have hdf := hprev.out j y rfl hy
        have hb2' := hcell.out j y 2 (by omega) hy (by omega)
        have hb3' := hcell.out j y 3 (by omega) hy (by omega)
        have hb4' := hcell.out j y 4 (by omega) hy (by omega)
        simp only [pcell] at hb2' hb3' hb4'
        have u2 : wr.cell? ⟨g2, j * 5 + 2, none⟩ = some (.bool y.n.1) := (HW.cell (p := ⟨g2, j * 5 + 2, none⟩) yg2).trans hb2'
        have u3 : wr.cell? ⟨g2, j * 5 + 3, none⟩ = some (.bool y.n.2.1) := (HW.cell (p := ⟨g2, j * 5 + 3, none⟩) yg2).trans hb3'
        have u4 : wr.cell? ⟨g2, j * 5 + 4, none⟩ = some (.bool y.n.2.2) := (HW.cell (p := ⟨g2, j * 5 + 4, none⟩) yg2).trans hb4'
        have u5 : wr.cell? ⟨g2, j * 5 + 2 + 1, none⟩ = some (.bool y.n.2.1) := u3
        have u6' : wr.cell? ⟨g2, j * 5 + 2 + 2, none⟩ = some (.bool y.n.2.2) := u4
        have i3 : (0 : Int) ≤ (j : Int) := by omega
        have i4 : (j : Int) < (n : Int) := by omega
        clear hb2' hb3' hb4' hy
        have hpos : decide ((0 : Int) < (j : Int) + 1) = true := by rw [decide_eq_true_eq]; omega
        go_wp2
        refine region_quiet_tail 25 (by kernel_rfl) (by kernel_rfl) ?_
        simp only [List.take_succ_cons, List.take_zero, List.drop_succ_cons, List.drop_zero]
        repeat (first | go_big_quiet_skip | (go_big_quiet_want; go_big_quiet_op; go_big_quiet_on))
        refine wpQuiet_nil ?_
        go_wp2
        cases n0 <;> cases n1 <;> cases n2
        all_goals
          simp only [if_true, Bool.false_eq_true, if_false] at t0 t1 t2
          refine wp_loop_rounds 4 ?_
          rw [rounds_succ]
          go_wp2
          try (
            refine region_quiet_tail 10 (by kernel_rfl) (by kernel_rfl) ?_
            simp only [List.take_succ_cons, List.take_zero, List.drop_succ_cons, List.drop_zero]
            repeat (first | go_big_quiet_skip | (go_big_quiet_want; go_big_quiet_op; go_big_quiet_on))
            refine wpQuiet_nil ?_
            go_wp2)
          rw [rounds_succ]
          go_wp2
          try (
            refine region_quiet_tail 10 (by kernel_rfl) (by kernel_rfl) ?_
            simp only [List.take_succ_cons, List.take_zero, List.drop_succ_cons, List.drop_zero]
            repeat (first | go_big_quiet_skip | (go_big_quiet_want; go_big_quiet_op; go_big_quiet_on))
            refine wpQuiet_nil ?_
            go_wp2)
          rw [rounds_succ]
          go_wp2
          try (
            refine region_quiet_tail 10 (by kernel_rfl) (by kernel_rfl) ?_
            simp only [List.take_succ_cons, List.take_zero, List.drop_succ_cons, List.drop_zero]
            repeat (first | go_big_quiet_skip | (go_big_quiet_want; go_big_quiet_op; go_big_quiet_on))
            refine wpQuiet_nil ?_
            go_wp2)
          rw [rounds_succ]
          go_wp2
          go_roundw
          case rel =>
            refine ⟨j + 1 + 1, by omega, by go_num, by rw [hE1.out], ⟨?_, ?_, ?_⟩, ?_, ?_, ?_⟩
            · rw [hE1.out, t0.out]; go_simp
            · rw [hE1.out, t1.out]; go_simp
            · rw [hE1.out, t2.out]; go_simp
            · intro o; go_simp
            · simp <;> omega
            · exact (by repeat (first | with_reducible exact HW | with_reducible refine Below.drew ?_ | with_reducible refine Below.alloc ?_ (by first | omega | (simp <;> omega)) _ | with_reducible refine Below.setCell ?_ (by first | omega | (simp <;> omega)) _))
          case measure => simp [intOf]; omega
    · have ek : k = n := by omega
      subst ek
      have f0 := cnt_all HH.out.1
      have f1 := cnt_all HH.out.2.1
      have f2 := cnt_all HH.out.2.2
      rw [hend.out] at o0 o1 o2 ⊢
      rw [f0] at o0
      rw [f1] at o1
      rw [f2] at o2
      obtain ⟨⟨i1, i2, i3⟩, ⟨i4, i5, i6⟩, ⟨i7, i8, i9⟩⟩ := HH.out
      go_wp2
      go_ret
      exact ⟨rfl, H2.trans (HW.mono (by omega))⟩

set_option maxHeartbeats 2000000 in
set_option maxRecDepth 100000 in
theorem patternCovers_per (p : Pt) (per : Int) (h : ¬ okPer per) (w : World) :
    Calls Try.prog 6 #[.agg #[.int .i64 p.l0.a, .int .i64 p.l0.b, .int .i64 p.l1.a, .int .i64 p.l1.b, .int .i64 p.l2.a, .int .i64 p.l2.b], .int .i64 per] w fun e w' => e = .returned (.bool true) ∧ Below w.heap.size w w' := by
  have HP := hide (parts_per p per h)
  clear h
  go_enter Try.func6, Try.ntmps6
  go_wp2_with (first | (go_at_call 30; refine (awake_any _).mono ?_; rintro e w1 ⟨rfl, hb1⟩; have z1 := hb1.size; (try simp at z1); have c1x0 := bstep (b := w.heap.size) hb1 (by first | omega | (simp <;> omega)); have y1x0 : w.heap.size < w1.heap.size := (by omega)) | (go_at_call 34; refine (HP.out _).mono ?_; rintro e w2 ⟨rfl, hb2⟩; have z2 := hb2.size; (try simp at z2); have y2x0 : w.heap.size < w2.heap.size := (by omega)))
  go_ret
  have H1 : Below w.heap.size w w1 := ((Below.refl _ _).alloc (Nat.le_refl _) _).trans (hb1.mono (by first | omega | (simp <;> omega)))
  have H2 : Below w.heap.size w w2 := H1.trans (hb2.mono (by first | omega | (simp <;> omega)))
  exact ⟨rfl, H2⟩

set_option maxHeartbeats 2000000 in
set_option maxRecDepth 100000 in
theorem patternCovers_bad (p : Pt) (per : Int) (hper : okPer per) (h : ¬ p.In per) (w : World) :
    Calls Try.prog 6 #[.agg #[.int .i64 p.l0.a, .int .i64 p.l0.b, .int .i64 p.l1.a, .int .i64 p.l1.b, .int .i64 p.l2.a, .int .i64 p.l2.b], .int .i64 per] w fun e w' => e = .returned (.bool true) ∧ Below w.heap.size w w' := by
  have HP := hide (parts_shape p per hper h)
  clear h
  go_enter Try.func6, Try.ntmps6
  go_wp2_with (first | (go_at_call 30; refine (awake_any _).mono ?_; rintro e w1 ⟨rfl, hb1⟩; have z1 := hb1.size; (try simp at z1); have c1x0 := bstep (b := w.heap.size) hb1 (by first | omega | (simp <;> omega)); have y1x0 : w.heap.size < w1.heap.size := (by omega)) | (go_at_call 34; refine (HP.out _).mono ?_; rintro e w2 ⟨rfl, hb2⟩; have z2 := hb2.size; (try simp at z2); have y2x0 : w.heap.size < w2.heap.size := (by omega)))
  go_ret
  have H1 : Below w.heap.size w w1 := ((Below.refl _ _).alloc (Nat.le_refl _) _).trans (hb1.mono (by first | omega | (simp <;> omega)))
  have H2 : Below w.heap.size w w2 := H1.trans (hb2.mono (by first | omega | (simp <;> omega)))
  exact ⟨rfl, H2⟩

theorem patternCovers_walk (p : Pt) (per : Int) (w : World) :
    Calls Try.prog 6 #[.agg #[.int .i64 p.l0.a, .int .i64 p.l0.b, .int .i64 p.l1.a, .int .i64 p.l1.b, .int .i64 p.l2.a, .int .i64 p.l2.b], .int .i64 per] w fun e w' => e = .returned (.bool true) ∧ Below w.heap.size w w' := by
  by_cases hper : okPer per
  · by_cases h : p.In per
    · exact patternCovers_ok p per hper h w
    · exact patternCovers_bad p per hper h w
  · exact patternCovers_per p per hper w

set_option maxRecDepth 100000 in
theorem patternCovers_lifted (os : Os) (started : os.Started) (H : Type) (enc : TypeId × Value → H) :
    ReturnsInHanded {} Try.checked os 6 .any (Rows.patternCoversSpec.pre6 enc Try.prog Try.f6 Rows.patternCoversRow.domain false) (Rows.patternCoversSpec.post enc Try.prog Try.f6 false true false false) := by
  refine lift (C := Try.checked) (s := Rows.patternCoversSpec) 4 Try.own started (by kernel_rfl) Try.func6 Try.laidOut rfl rfl Try.underlying4 (by kernel_rfl)
    (fun ds hds => by
      have hl : ds.length = 2 := hds
      match ds, hl with
      | [_, _], _ => rfl)
    (ChangeSpec.witness6 (enc := enc) (C := Try.checked) false ⟨#[], #[.agg #[.int .i64 0, .int .i64 0, .int .i64 0, .int .i64 0, .int .i64 0, .int .i64 0], .int .i64 0], []⟩ 8 (by kernel_rfl) (by kernel_rfl) (by kernel_rfl) (by kernel_rfl)) ?_
  intro W base args ds p hval0 hA0
  have hval : ∀ (j : Nat) t v, Try.f6.params[j]? = some t → args[j]? = some v → Value.okWide Try.prog W .any base t v := hval0
  have hA : DataW.TrodAll enc Try.prog W 0 (fun _ => true) true Try.f6.params.toList args.toList ds p := hA0
  clear hval0 hA0
  rw [Try.params6] at hA hval
  obtain ⟨v0, vs0, d0, ds0, p0, q0, hargs, rfl, rfl, h0, r0⟩ := trodAll_cons hA
  obtain ⟨v1, vs1, d1, ds1, p1, q1, rfl, rfl, rfl, h1, r1⟩ := trodAll_cons r0
  obtain ⟨rfl, rfl, rfl⟩ := trodAll_nil r1
  obtain rfl : args = #[v0, v1] := by cases args; simp_all
  obtain ⟨l0, rfl, g0⟩ := arg_array 4 Try.underlying39 (ks := [some .i64, some .i64, some .i64, some .i64, some .i64, some .i64]) (by kernel_rfl) (hval 0 39 v0 rfl rfl) h0
  obtain ⟨_, _, rfl, ⟨a0, rfl, wa0⟩, g0x0⟩ := g0
  obtain ⟨_, _, rfl, ⟨a1, rfl, wa1⟩, g0x1⟩ := g0x0
  obtain ⟨_, _, rfl, ⟨a2, rfl, wa2⟩, g0x2⟩ := g0x1
  obtain ⟨_, _, rfl, ⟨a3, rfl, wa3⟩, g0x3⟩ := g0x2
  obtain ⟨_, _, rfl, ⟨a4, rfl, wa4⟩, g0x4⟩ := g0x3
  obtain ⟨_, _, rfl, ⟨a5, rfl, wa5⟩, g0x5⟩ := g0x4
  simp only [Fits] at g0x5
  subst g0x5
  obtain ⟨x, rfl, wx⟩ := arg_int Try.underlying3 (hval 1 3 v1 rfl rfl) h1
  exact patternCovers_walk ⟨⟨a0, a1⟩, ⟨a2, a3⟩, ⟨a4, a5⟩⟩ x W

theorem j_lifts' (x : Bool) (h : x = Rows.patternMakesRow.lifted) : (x == Try.prog.liftsFinal) = true := by rw [h]; exact j_lifts
theorem j_make' (x) (h : x = Rows.patternMakesRow.make) : (Try.prog.make == some x) = true := by rw [h]; exact j_make
set_option maxHeartbeats 4000000 in
set_option maxRecDepth 100000 in
theorem patternCovers_joined : joinedFacts Try.prog 6 Try.f6 Rows.patternCoversSpec Rows.patternCoversRow = true := by
  unfold joinedFacts
  repeat' (with_reducible refine and_split ?_ ?_)
  all_goals first | (with_reducible exact j_may) | (with_reducible refine j_lifts' _ ?_; rfl) | (with_reducible refine j_make' _ ?_; rfl) | (as_aux_lemma => kernel_rfl)

theorem patternCovers_over : Rows.patternCoversRow.holds Try.pinned (OpenSpec.ofChange Rows.patternCoversSpec) :=
  OpenClaim.holds_of_wide 6 Try.f6 rfl rfl rfl rfl rfl rfl rfl ⟨rfl, rfl, rfl, rfl, rfl⟩ rfl rfl rfl rfl rfl (by kernel_rfl) Try.func6 patternCovers_joined
    (of_decide_eq_true (by kernel_rfl)) (by unfold Func.isWrapper; first | (rw [if_pos (by decide +kernel)]; kernel_rfl) | (rw [if_neg (by decide +kernel)]; exact ⟨rfl, rfl⟩))
    (fun os started H enc _ => patternCovers_lifted os started H enc)

theorem patternCovers_holds : Rows.PatternCoversSaid := patternCovers_over
#print axioms patternCovers_holds
end Go.Proofs.Ytjeomdfcfbfebaa

/- Walks of the reference's At and Parts: the list of parts, gathered count by count. -/
import Derived.Test.YtjeomdfcfbfebaaPatE
import Derived.Test.YtjeomdfcfbfebaaPatK
namespace Go.Proofs.Ytjeomdfcfbfebaa
open Go.RowKit PM

theorem own_drewN {w : World} {b size n : Nat} {e : TypeId} {v : Value} {xs : List Value} (h : w.ownsRow b e size v n xs) (m : Nat) : (w.drewN m).ownsRow b e size v n xs := ⟨h.1, h.2⟩
theorem own_below {w w' : World} {b size n : Nat} {e : TypeId} {v : Value} {xs : List Value} (h : w.ownsRow b e size v n xs) (hb : Below w.heap.size w w') : w'.ownsRow b e size v n xs :=
  ⟨h.1, h.2.imp id fun ⟨g, cap, cur, h1, h2, h3, r⟩ => ⟨g, cap, cur, h1, h2, (hb.block g (Array.getElem?_eq_some_iff.1 h3).1).trans h3, r⟩⟩
theorem on_le {l : Lg} {t : Int} (h : l.a ≤ t) : l.on t = decide (t < l.b) := by simp [Lg.on, h]
theorem on_gt {l : Lg} {t : Int} (h : ¬ l.a ≤ t) : l.on t = false := by simp [Lg.on, h]
set_option maxHeartbeats 4000000 in
theorem at_any (p : Pt) (t : Int) (w : World) :
    Calls Try.prog 44 #[.agg #[.int .i64 p.l0.a, .int .i64 p.l0.b, .int .i64 p.l1.a, .int .i64 p.l1.b, .int .i64 p.l2.a, .int .i64 p.l2.b], .int .i64 t] w fun e w' => e = .returned (.agg #[.bool (p.l0.on t), .bool (p.l1.on t), .bool (p.l2.on t)]) ∧ Below w.heap.size w w' := by
  obtain ⟨x0, hX0⟩ : ∃ x : Bool, x = p.l0.on t := ⟨_, rfl⟩
  obtain ⟨x1, hX1⟩ : ∃ x : Bool, x = p.l1.on t := ⟨_, rfl⟩
  obtain ⟨x2, hX2⟩ : ∃ x : Bool, x = p.l2.on t := ⟨_, rfl⟩
  rw [← hX0, ← hX1, ← hX2]
  by_cases h0 : p.l0.a ≤ t <;> by_cases h1 : p.l1.a ≤ t <;> by_cases h2 : p.l2.a ≤ t
  all_goals
    first
      | (have e : x0 = decide (t < p.l0.b) := hX0.trans (on_le h0)
         subst e)
      | (have e : x0 = false := hX0.trans (on_gt h0)
         subst e)
    clear hX0
    first
      | (have e : x1 = decide (t < p.l1.b) := hX1.trans (on_le h1)
         subst e)
      | (have e : x1 = false := hX1.trans (on_gt h1)
         subst e)
    clear hX1
    first
      | (have e : x2 = decide (t < p.l2.b) := hX2.trans (on_le h2)
         subst e)
      | (have e : x2 = false := hX2.trans (on_gt h2)
         subst e)
    clear hX2
    go_enter Try.func44, Try.ntmps44
    go_wp2
    refine wp_loop_rounds 4 ?_
    rw [rounds_succ]
    go_wp2
    rw [rounds_succ]
    go_wp2
    rw [rounds_succ]
    go_wp2
    rw [rounds_succ]
    go_wp2
    refine bodyPost_ret (v := .agg #[.bool _, .bool _, .bool _]) (by simp only [results, Try.results44]; go_simp) rfl ⟨rfl, by exact (by repeat (first | with_reducible assumption | with_reducible refine Below.drew ?_ | with_reducible refine below_drewN ?_ _ | with_reducible refine Below.alloc ?_ (by first | omega | (simp <;> omega)) _ | with_reducible refine Below.setCell ?_ (by first | omega | (simp <;> omega)) _ | with_reducible exact Below.refl _ _))⟩

theorem rng_one {per : Int} (h : okPer per) : okRng per 1 := by
  obtain ⟨h1, h2⟩ := h
  exact ⟨⟨h1, h2⟩, by omega, by omega⟩
theorem rng_not {per : Int} (h : ¬ okPer per) : ¬ okRng per 1 := fun k => h k.1
set_option maxHeartbeats 4000000 in
theorem rparts_per (p : Pt) (per : Int) (hper : ¬ okPer per) (w : World) :
    Calls Try.prog 35 #[.agg #[.int .i64 p.l0.a, .int .i64 p.l0.b, .int .i64 p.l1.a, .int .i64 p.l1.b, .int .i64 p.l2.a, .int .i64 p.l2.b], .int .i64 per] w fun e w' => e = .returned (.tuple #[.slice none 0 0, .int .i64 3]) ∧ Below w.heap.size w w' := by
  have HR := hide (rranges_err per 1 (rng_not hper))
  clear hper
  go_enter Try.func35, Try.ntmps35
  go_wp2_with (go_at_call 68; refine (HR.out _).mono ?_; rintro e w8 ⟨rfl, rfl⟩)
  refine bodyPost_ret (results_tmp2 rfl _ _ _) rfl ?_
  exact ⟨rfl, (Below.refl _ _).alloc (Nat.le_refl _) _⟩
set_option maxHeartbeats 4000000 in
theorem rparts_bad0 (p : Pt) (per : Int) (hper : okPer per) (h0 : ¬ p.l0.In per) (w : World) :
    Calls Try.prog 35 #[.agg #[.int .i64 p.l0.a, .int .i64 p.l0.b, .int .i64 p.l1.a, .int .i64 p.l1.b, .int .i64 p.l2.a, .int .i64 p.l2.b], .int .i64 per] w fun e w' => e = .returned (.tuple #[.slice none 0 0, .int .i64 11]) ∧ Below w.heap.size w w' := by
  have HR := hide (rranges_ok per 1 (rng_one hper))
  have HS0 := hide (rshape_err p.l0 per h0)
  clear hper h0
  go_enter Try.func35, Try.ntmps35
  go_wp2_with (go_at_call 68; refine (HR.out _).mono ?_; rintro e w8 ⟨rfl, rfl⟩)
  refine wp_loop_rounds 4 ?_
  rw [rounds_succ]
  go_wp2_with (go_at_call 73; refine (HS0.out _).mono ?_; rintro e w8 ⟨rfl, rfl⟩)
  refine bodyPost_ret (results_tmp2 rfl _ _ _) rfl ?_
  exact ⟨rfl, by exact (by repeat (first | with_reducible assumption | with_reducible refine Below.drew ?_ | with_reducible refine below_drewN ?_ _ | with_reducible refine Below.alloc ?_ (by first | omega | (simp <;> omega)) _ | with_reducible refine Below.setCell ?_ (by first | omega | (simp <;> omega)) _ | with_reducible exact Below.refl _ _))⟩
set_option maxHeartbeats 4000000 in
theorem rparts_bad1 (p : Pt) (per : Int) (hper : okPer per) (h0 : p.l0.In per) (h1 : ¬ p.l1.In per) (w : World) :
    Calls Try.prog 35 #[.agg #[.int .i64 p.l0.a, .int .i64 p.l0.b, .int .i64 p.l1.a, .int .i64 p.l1.b, .int .i64 p.l2.a, .int .i64 p.l2.b], .int .i64 per] w fun e w' => e = .returned (.tuple #[.slice none 0 0, .int .i64 11]) ∧ Below w.heap.size w w' := by
  have HR := hide (rranges_ok per 1 (rng_one hper))
  have HS0 := hide (rshape_ok p.l0 per h0)
  have HS1 := hide (rshape_err p.l1 per h1)
  clear hper h0 h1
  go_enter Try.func35, Try.ntmps35
  go_wp2_with (go_at_call 68; refine (HR.out _).mono ?_; rintro e w8 ⟨rfl, rfl⟩)
  refine wp_loop_rounds 4 ?_
  rw [rounds_succ]
  go_wp2_with (go_at_call 73; refine (HS0.out _).mono ?_; rintro e w8 ⟨rfl, rfl⟩)
  rw [rounds_succ]
  go_wp2_with (go_at_call 73; refine (HS1.out _).mono ?_; rintro e w8 ⟨rfl, rfl⟩)
  refine bodyPost_ret (results_tmp2 rfl _ _ _) rfl ?_
  exact ⟨rfl, by exact (by repeat (first | with_reducible assumption | with_reducible refine Below.drew ?_ | with_reducible refine below_drewN ?_ _ | with_reducible refine Below.alloc ?_ (by first | omega | (simp <;> omega)) _ | with_reducible refine Below.setCell ?_ (by first | omega | (simp <;> omega)) _ | with_reducible exact Below.refl _ _))⟩
set_option maxHeartbeats 4000000 in
theorem rparts_bad2 (p : Pt) (per : Int) (hper : okPer per) (h0 : p.l0.In per) (h1 : p.l1.In per) (h2 : ¬ p.l2.In per) (w : World) :
    Calls Try.prog 35 #[.agg #[.int .i64 p.l0.a, .int .i64 p.l0.b, .int .i64 p.l1.a, .int .i64 p.l1.b, .int .i64 p.l2.a, .int .i64 p.l2.b], .int .i64 per] w fun e w' => e = .returned (.tuple #[.slice none 0 0, .int .i64 11]) ∧ Below w.heap.size w w' := by
  have HR := hide (rranges_ok per 1 (rng_one hper))
  have HS0 := hide (rshape_ok p.l0 per h0)
  have HS1 := hide (rshape_ok p.l1 per h1)
  have HS2 := hide (rshape_err p.l2 per h2)
  clear hper h0 h1 h2
  go_enter Try.func35, Try.ntmps35
  go_wp2_with (go_at_call 68; refine (HR.out _).mono ?_; rintro e w8 ⟨rfl, rfl⟩)
  refine wp_loop_rounds 4 ?_
  rw [rounds_succ]
  go_wp2_with (go_at_call 73; refine (HS0.out _).mono ?_; rintro e w8 ⟨rfl, rfl⟩)
  rw [rounds_succ]
  go_wp2_with (go_at_call 73; refine (HS1.out _).mono ?_; rintro e w8 ⟨rfl, rfl⟩)
  rw [rounds_succ]
  go_wp2_with (go_at_call 73; refine (HS2.out _).mono ?_; rintro e w8 ⟨rfl, rfl⟩)
  refine bodyPost_ret (results_tmp2 rfl _ _ _) rfl ?_
  exact ⟨rfl, by exact (by repeat (first | with_reducible assumption | with_reducible refine Below.drew ?_ | with_reducible refine below_drewN ?_ _ | with_reducible refine Below.alloc ?_ (by first | omega | (simp <;> omega)) _ | with_reducible refine Below.setCell ?_ (by first | omega | (simp <;> omega)) _ | with_reducible exact Below.refl _ _))⟩
theorem rparts_shape (p : Pt) (per : Int) (hper : okPer per) (h : ¬ p.In per) (w : World) :
    Calls Try.prog 35 #[.agg #[.int .i64 p.l0.a, .int .i64 p.l0.b, .int .i64 p.l1.a, .int .i64 p.l1.b, .int .i64 p.l2.a, .int .i64 p.l2.b], .int .i64 per] w fun e w' => e = .returned (.tuple #[.slice none 0 0, .int .i64 11]) ∧ Below w.heap.size w w' := by
  by_cases h0 : p.l0.In per
  · by_cases h1 : p.l1.In per
    · by_cases h2 : p.l2.In per
      · exact absurd ⟨h0, h1, h2⟩ h
      · exact rparts_bad2 p per hper h0 h1 h2 w
    · exact rparts_bad1 p per hper h0 h1 w
  · exact rparts_bad0 p per hper h0 w

theorem push_top {f : Int → B3} {k : Nat} {x : Prt} {l : List Prt} (h : Segs f ((k : Int) + 1) (x :: l)) : x.n = f k := by
  obtain ⟨y, m, e, _, h2⟩ := h.last (by omega)
  cases e
  rw [h2]
  congr 1
  omega
set_option maxHeartbeats 8000000 in
set_option maxRecDepth 100000 in
theorem rparts_ok (p : Pt) (per : Int) (hper : okPer per) (h : p.In per) (w : World) :
    Calls Try.prog 35 #[.agg #[.int .i64 p.l0.a, .int .i64 p.l0.b, .int .i64 p.l1.a, .int .i64 p.l1.b, .int .i64 p.l2.a, .int .i64 p.l2.b], .int .i64 per] w fun e w' => ∃ (v : Value) (R : List Prt), e = .returned (.tuple #[v, .int .i64 0]) ∧ Segs p.on per R ∧ w'.ownsRow w.heap.size 69 5 v R.length (flat R) ∧ Below w.heap.size w w' := by
  have HR := hide (rranges_ok per 1 (rng_one hper))
  have HS0 := hide (rshape_ok p.l0 per h.1)
  have HS1 := hide (rshape_ok p.l1 per h.2.1)
  have HS2 := hide (rshape_ok p.l2 per h.2.2)
  obtain ⟨j0, hj, hy0, hy1, hy2⟩ := info_parts info_part
  obtain ⟨hp1, hp2⟩ := hper
  clear h
  go_enter Try.func35, Try.ntmps35
  go_wp2_with (go_at_call 68; refine (HR.out _).mono ?_; rintro e w8 ⟨rfl, rfl⟩)
  refine wp_loop_rounds 4 ?_
  rw [rounds_succ]
  go_wp2_with (go_at_call 73; refine (HS0.out _).mono ?_; rintro e w8 ⟨rfl, rfl⟩)
  rw [rounds_succ]
  go_wp2_with (go_at_call 73; refine (HS1.out _).mono ?_; rintro e w8 ⟨rfl, rfl⟩)
  rw [rounds_succ]
  go_wp2_with (go_at_call 73; refine (HS2.out _).mono ?_; rintro e w8 ⟨rfl, rfl⟩)
  rw [rounds_succ]
  go_wp2
  obtain ⟨ws, hws⟩ : ∃ ws, ws = (((((((w.alloc (.cells #[.int .i64 p.l0.a, .int .i64 p.l0.b, .int .i64 p.l1.a, .int .i64 p.l1.b, .int .i64 p.l2.a, .int .i64 p.l2.b] 39)).alloc (.cells #[.int .i64 p.l0.a, .int .i64 p.l0.b] 38)).alloc (.cells #[.int .i64 p.l0.a, .int .i64 p.l0.b] 38)).alloc (.cells #[.int .i64 p.l1.a, .int .i64 p.l1.b] 38)).alloc (.cells #[.int .i64 p.l1.a, .int .i64 p.l1.b] 38)).alloc (.cells #[.int .i64 p.l2.a, .int .i64 p.l2.b] 38)).alloc (.cells #[.int .i64 p.l2.a, .int .i64 p.l2.b] 38)) := ⟨_, rfl⟩
  rw [← hws]
  have hBS : Below w.heap.size w ws := by rw [hws]; exact (by repeat (first | with_reducible assumption | with_reducible refine Below.drew ?_ | with_reducible refine below_drewN ?_ _ | with_reducible refine Below.alloc ?_ (by first | omega | (simp <;> omega)) _ | with_reducible refine Below.setCell ?_ (by first | omega | (simp <;> omega)) _ | with_reducible exact Below.refl _ _))
  have hzS : w.heap.size < ws.heap.size := by rw [hws]; simp; omega
  have a0 : ws.cell? ⟨w.heap.size, 0, none⟩ = some (.int .i64 p.l0.a) := by rw [hws]; go_simp
  have a1 : ws.cell? ⟨w.heap.size, 1, none⟩ = some (.int .i64 p.l0.b) := by rw [hws]; go_simp
  have a2 : ws.cell? ⟨w.heap.size, 2, none⟩ = some (.int .i64 p.l1.a) := by rw [hws]; go_simp
  have a3 : ws.cell? ⟨w.heap.size, 3, none⟩ = some (.int .i64 p.l1.b) := by rw [hws]; go_simp
  have a4 : ws.cell? ⟨w.heap.size, 4, none⟩ = some (.int .i64 p.l2.a) := by rw [hws]; go_simp
  have a5 : ws.cell? ⟨w.heap.size, 5, none⟩ = some (.int .i64 p.l2.b) := by rw [hws]; go_simp
  clear hws HS0 HS1 HS2 HR
  go_loopw [10, 30] (fun v i wr => ∃ k : Nat, (k : Int) ≤ per ∧ i = .int .i64 (k : Int) ∧ ∃ R : List Prt, Segs p.on k R ∧ R.length ≤ k ∧ wr.ownsRow ws.heap.size 69 5 v R.length (flat R) ∧ Below ws.heap.size ws wr) (fun _ i _ => per.toNat - (intOf i).toNat)
  case atStart =>
    exact ⟨0, by omega, rfl, [], rfl, Nat.le_refl _, World.ownsRow_nil _ _ _ _, Below.refl _ _⟩
  case round =>
    obtain ⟨k, hk, rfl, R, hS, hR, hown, HW⟩ := hrel
    have hl0 := HW.size
    by_cases hlt : (k : Int) < per
    · have HA := hide (fun W => at_any p k W)
      have hpush := hS.push (c' := (k : Int) + 1) (by omega) (fun t h1 h2 => by rw [show t = (k : Int) by omega])
      have hon : p.on k = (p.l0.on k, p.l1.on k, p.l2.on k) := rfl
      rw [hon] at hpush
      generalize p.l0.on k = x0 at HA hpush
      generalize p.l1.on k = x1 at HA hpush
      generalize p.l2.on k = x2 at HA hpush
      replace hpush := hide hpush
      have yw : w.heap.size < wr.heap.size := by omega
      have b0 : wr.cell? ⟨w.heap.size, 0, none⟩ = some (.int .i64 p.l0.a) := (HW.cell (p := ⟨w.heap.size, 0, none⟩) hzS).trans a0
      have b1 : wr.cell? ⟨w.heap.size, 1, none⟩ = some (.int .i64 p.l0.b) := (HW.cell (p := ⟨w.heap.size, 1, none⟩) hzS).trans a1
      have b2 : wr.cell? ⟨w.heap.size, 2, none⟩ = some (.int .i64 p.l1.a) := (HW.cell (p := ⟨w.heap.size, 2, none⟩) hzS).trans a2
      have b3 : wr.cell? ⟨w.heap.size, 3, none⟩ = some (.int .i64 p.l1.b) := (HW.cell (p := ⟨w.heap.size, 3, none⟩) hzS).trans a3
      have b4 : wr.cell? ⟨w.heap.size, 4, none⟩ = some (.int .i64 p.l2.a) := (HW.cell (p := ⟨w.heap.size, 4, none⟩) hzS).trans a4
      have b5 : wr.cell? ⟨w.heap.size, 5, none⟩ = some (.int .i64 p.l2.b) := (HW.cell (p := ⟨w.heap.size, 5, none⟩) hzS).trans a5
      clear hon a0 a1 a2 a3 a4 a5
      cases k with
      | zero =>
        have hR0 : R = [] := List.length_eq_zero_iff.1 (by omega)
        subst hR0
        have hpush' := hpush.out
        rw [push_nil] at hpush'
        replace hpush' := hide hpush'
        clear hpush
        have hi0 : ((0 : Nat) : Int) = 0 := rfl
        go_wp2_with (go_at_call 44; refine (HA.out _).mono ?_; rintro e w5 ⟨rfl, hb5⟩; have z5 := hb5.size; have c5x0 := bstep (b := w.heap.size) hb5 yw; have y5x0 : w.heap.size < w5.heap.size := (by omega))
        go_quiet (fail)
        have HC : Below ws.heap.size ws w5 := HW.trans (hb5.mono (by omega))
        have hownC : w5.ownsRow ws.heap.size 69 5 u10 0 (flat []) := own_below hown hb5
        go_wp2_with (at_builtin; refine wpList_append_own _ ?_ (.tmp 46) (.tmp 50) 64 ?_ ws.heap.size 69 j0 (.agg #[.int .i64 0, .int .i64 0, .bool false, .bool false, .bool false]) 5 24 Try.underlying64 hj hy0 hy1 hy2 rfl (by decide) u10 0 (flat []) ?_ ?_ ⟨w5.heap.size + 1, 0, none⟩ 1 1 (pcell ⟨0, 0, (x0, x1, x2)⟩) ?_ ?_ ?_ ?_ ?_ ?_ ?_ ?_; rfl; rfl; rfl; (exact (by repeat (first | exact hownC | refine World.ownsRow.drew ?_ | refine own_drewN ?_ _ | refine World.ownsRow.alloc ?_ _))); rfl; rfl; (exact part_cells _ _ _ _ (by simp)); (exact part_one _); (unfold maxLen; omega); omega; (simp; omega); intro v' w9 hown' hgrow hnil')
        obtain ⟨m, hm⟩ : ∃ m, m = ([] : List Prt).length := ⟨_, rfl⟩
        have hown2 : w9.ownsRow ws.heap.size 69 5 v' (m + 1) (flat (⟨((0 : Nat) : Int), 0, (x0, x1, x2)⟩ :: [])) := by rw [hm, flat_cons]; exact hown'
        have hown3 := hown2
        rcases hown2.2 with ⟨_, h0⟩ | ⟨g3, cap3, cur3, rfl, hb3, hc3, e1, e2, e3, e4⟩
        · omega
        have yg3 : g3 < w9.heap.size := (Array.getElem?_eq_some_iff.1 hc3).1
        have d3 : w9.cell? ⟨g3, m * 5 + 1, none⟩ = some (.int .i64 0) := (hown3.cellAt (m * 5 + 1) (by omega)).trans (by rw [hm]; exact flat_top ⟨((0 : Nat) : Int), 0, (x0, x1, x2)⟩ ([]) 1)
        have f3 := fun o => hown3.frozenAt o
        have i7 : m ≤ 4096 := (by have := hm; simp only [List.length_nil] at this; omega)
        have i9 : (0 : Int) ≤ (m : Int) := by omega
        have i8 : (m : Int) < (m : Int) + 1 := by omega
        clear hc3 e1 e2 e3 e4 hown2
        replace hm := hide hm
        go_wp2
        go_simp
        go_wp2
        go_roundw
        case rel =>
          refine ⟨0 + 1, by omega, by go_num, ⟨((0 : Nat) : Int), ((0 : Nat) : Int) + 1, (x0, x1, x2)⟩ :: [], hpush'.out, by simp only [List.length_cons, List.length_nil] at hR ⊢; omega, ?_, ?_⟩
          · have hst := (hown3.stored (m * 5 + 1) (.int .i64 (((0 : Nat) : Int) + 1))).1
            rw [hm.out, flat_set] at hst
            rw [← hm.out] at hst
            rw [List.length_cons, ← hm.out]
            exact (by repeat (first | exact hst | refine World.ownsRow.drew ?_ | refine own_drewN ?_ _ | refine World.ownsRow.alloc ?_ _))
          · refine Below.setCell ?_ hb3 _
            exact Below.grown (by exact (by repeat (first | with_reducible exact HW | with_reducible exact HC | with_reducible refine Below.drew ?_ | with_reducible refine below_drewN ?_ _ | with_reducible refine Below.alloc ?_ (by first | omega | (simp <;> omega)) _ | with_reducible refine Below.setCell ?_ (by first | omega | (simp <;> omega)) _))) hgrow (by simp; omega) (fun k hk => (hownC.lt k hk).1)
        case measure => simp [intOf]; omega

      | succ j =>
        cases R with
        | nil =>
          have := segs_end hS
          simp only [endAt, List.length_nil] at this
          omega
        | cons x l =>
        have htop := push_top (by rw [show ((j : Int) + 1) = ((j + 1 : Nat) : Int) by omega]; exact hS)
        have HA2 := hide (fun W => at_any p j W)
        have hon2 : p.on j = (p.l0.on j, p.l1.on j, p.l2.on j) := rfl
        rw [hon2] at htop
        generalize p.l0.on j = y0 at HA2 htop
        generalize p.l1.on j = y1 at HA2 htop
        generalize p.l2.on j = y2 at HA2 htop
        clear hon2 hS
        have gw1 : IntKind.i64.wrap ((j : Int) + 1 - 1) = (j : Int) := by rw [show (j : Int) + 1 - 1 = j by omega]; exact IntWalk.i64_in _ (by omega)
        have gw2 : IntKind.i64.wrap (j : Int) = (j : Int) := IntWalk.i64_in _ (by omega)
        have hj0 : (decide ((j : Int) + 1 = 0)) = false := by rw [decide_eq_false_iff_not]; omega
        have hj1 : (((j : Int) + 1) == 0) = false := by rw [beq_eq_false_iff_ne]; omega
        rcases hown.2 with ⟨_, h0⟩ | ⟨g2, cap2, cur2, rfl, hb2, hc2, e1, e2, e3, e4⟩
        · simp at h0
        have yg2 : g2 < wr.heap.size := (Array.getElem?_eq_some_iff.1 hc2).1
        clear hc2 e1 e2 e3 e4
        go_wp2_with (go_at_call 44; refine (HA.out _).mono ?_; rintro e w5 ⟨rfl, hb5⟩; have z5 := hb5.size; have c5x0 := bstep (b := w.heap.size) hb5 yw; have y5x0 : w.heap.size < w5.heap.size := (by omega); have c5x1 := bstep (b := g2) hb5 yg2; have f5x1 := bfro (b := g2) hb5 yg2; have y5x1 : g2 < w5.heap.size := (by omega))
        have q0 : (w5.alloc (.cells #[.bool x0, .bool x1, .bool x2] 67)).cell? ⟨w5.heap.size, 0, none⟩ = some (.bool x0) := by go_simp
        have q1 : (w5.alloc (.cells #[.bool x0, .bool x1, .bool x2] 67)).cell? ⟨w5.heap.size, 1, none⟩ = some (.bool x1) := by go_simp
        have q2 : (w5.alloc (.cells #[.bool x0, .bool x1, .bool x2] 67)).cell? ⟨w5.heap.size, 2, none⟩ = some (.bool x2) := by go_simp
        have q3 : (w5.alloc (.cells #[.bool x0, .bool x1, .bool x2] 67)).cell? ⟨w.heap.size, 0, none⟩ = some (.int .i64 p.l0.a) := by go_simp
        have q4 : (w5.alloc (.cells #[.bool x0, .bool x1, .bool x2] 67)).cell? ⟨w.heap.size, 1, none⟩ = some (.int .i64 p.l0.b) := by go_simp
        have q5 : (w5.alloc (.cells #[.bool x0, .bool x1, .bool x2] 67)).cell? ⟨w.heap.size, 2, none⟩ = some (.int .i64 p.l1.a) := by go_simp
        have q6 : (w5.alloc (.cells #[.bool x0, .bool x1, .bool x2] 67)).cell? ⟨w.heap.size, 3, none⟩ = some (.int .i64 p.l1.b) := by go_simp
        have q7 : (w5.alloc (.cells #[.bool x0, .bool x1, .bool x2] 67)).cell? ⟨w.heap.size, 4, none⟩ = some (.int .i64 p.l2.a) := by go_simp
        have q8 : (w5.alloc (.cells #[.bool x0, .bool x1, .bool x2] 67)).cell? ⟨w.heap.size, 5, none⟩ = some (.int .i64 p.l2.b) := by go_simp
        have HC : Below ws.heap.size ws w5 := HW.trans (hb5.mono (by omega))
        go_region_held3 (fun w' => w'.cell? ⟨w5.heap.size, 0, none⟩ = some (.bool x0) ∧ w'.cell? ⟨w5.heap.size, 1, none⟩ = some (.bool x1) ∧ w'.cell? ⟨w5.heap.size, 2, none⟩ = some (.bool x2) ∧ w'.cell? ⟨w.heap.size, 0, none⟩ = some (.int .i64 p.l0.a) ∧ w'.cell? ⟨w.heap.size, 1, none⟩ = some (.int .i64 p.l0.b) ∧ w'.cell? ⟨w.heap.size, 2, none⟩ = some (.int .i64 p.l1.a) ∧ w'.cell? ⟨w.heap.size, 3, none⟩ = some (.int .i64 p.l1.b) ∧ w'.cell? ⟨w.heap.size, 4, none⟩ = some (.int .i64 p.l2.a) ∧ w'.cell? ⟨w.heap.size, 5, none⟩ = some (.int .i64 p.l2.b)) ((first | exact ⟨q0, q1, q2, q3, q4, q5, q6, q7, q8⟩ | exact ⟨(hb6.cell (p := ⟨w5.heap.size, 0, none⟩) (by first | omega | (simp <;> omega))).trans q0, (hb6.cell (p := ⟨w5.heap.size, 1, none⟩) (by first | omega | (simp <;> omega))).trans q1, (hb6.cell (p := ⟨w5.heap.size, 2, none⟩) (by first | omega | (simp <;> omega))).trans q2, (hb6.cell (p := ⟨w.heap.size, 0, none⟩) (by first | omega | (simp <;> omega))).trans q3, (hb6.cell (p := ⟨w.heap.size, 1, none⟩) (by first | omega | (simp <;> omega))).trans q4, (hb6.cell (p := ⟨w.heap.size, 2, none⟩) (by first | omega | (simp <;> omega))).trans q5, (hb6.cell (p := ⟨w.heap.size, 3, none⟩) (by first | omega | (simp <;> omega))).trans q6, (hb6.cell (p := ⟨w.heap.size, 4, none⟩) (by first | omega | (simp <;> omega))).trans q7, (hb6.cell (p := ⟨w.heap.size, 5, none⟩) (by first | omega | (simp <;> omega))).trans q8⟩)) (first | (go_at_call 44; refine (HA2.out _).mono ?_; rintro e w6 ⟨rfl, hb6⟩; have z6 := hb6.size; (try simp at z6)))
        have c6x0 := bstep (b := w5.heap.size) hb6 (by first | omega | (simp <;> omega))
        have y6x0 : w5.heap.size < w6.heap.size := (by omega)
        have c6x1 := bstep (b := g2) hb6 (by first | omega | (simp <;> omega))
        have f6x1 := bfro (b := g2) hb6 (by first | omega | (simp <;> omega))
        have y6x1 : g2 < w6.heap.size := (by omega)
        have hownC : w6.ownsRow ws.heap.size 69 5 (.slice (some ⟨g2, 0, none⟩) (l.length + 1) cap2) (l.length + 1) (flat (x :: l)) :=
          own_below (by exact (by repeat (first | exact own_below hown hb5 | refine World.ownsRow.drew ?_ | refine own_drewN ?_ _ | refine World.ownsRow.alloc ?_ _))) hb6
        have HC6 : Below ws.heap.size ws w6 := Below.trans (by exact (by repeat (first | with_reducible exact HW | with_reducible exact HC | with_reducible refine Below.drew ?_ | with_reducible refine below_drewN ?_ _ | with_reducible refine Below.alloc ?_ (by first | omega | (simp <;> omega)) _ | with_reducible refine Below.setCell ?_ (by first | omega | (simp <;> omega)) _))) (hb6.mono (by first | omega | (simp <;> omega)))
        have cN3 : wr.cell? ⟨g2, l.length * 5 + 1, none⟩ = some (.int .i64 x.b) := (hown.cellAt (l.length * 5 + 1) (by simp only [List.length_cons]; omega)).trans (flat_top x l 1)
        have fN := fun o => hown.frozenAt o
        have i1 : (0 : Int) ≤ (l.length : Int) := by omega
        have i2 : (l.length : Int) < (l.length : Int) + 1 := by omega
        have i3 : (0 : Int) < (l.length : Int) + 1 := by omega
        have i4 : l.length ≤ 4096 := by simp only [List.length_cons] at hR; omega
        have hp := hpush.out
        rw [show ((j + 1 : Nat) : Int) = (j : Int) + 1 by omega] at hp
        clear hpush
        generalize hsm : (!x0 == y0 || !x1 == y1 || !x2 == y2) = sm
        cases sm
        · have hne : x.n = (x0, x1, x2) := by
            rw [htop]
            cases x0 <;> cases y0 <;> cases x1 <;> cases y1 <;> cases x2 <;> cases y2 <;> first | rfl | (exact absurd hsm (by decide))
          rw [push_same hne] at hp
          have hpush' := hide hp
          clear hp hsm hne htop
          go_wp2
          go_roundw
          case rel =>
            refine ⟨j + 1 + 1, by omega, by go_num, ⟨x.a, (j : Int) + 1 + 1, x.n⟩ :: l, by rw [show ((j + 1 + 1 : Nat) : Int) = (j : Int) + 1 + 1 by omega]; exact hpush'.out, by simp only [List.length_cons] at hR ⊢; omega, ?_, ?_⟩
            · have hst := (hownC.stored (l.length * 5 + 1) (.int .i64 ((j : Int) + 1 + 1))).1
              rw [flat_set] at hst
              exact (by repeat (first | exact hst | refine World.ownsRow.drew ?_ | refine own_drewN ?_ _ | refine World.ownsRow.alloc ?_ _))
            · exact (by repeat (first | with_reducible exact HC6 | with_reducible refine Below.drew ?_ | with_reducible refine Below.alloc ?_ (by first | omega | (simp <;> omega)) _ | refine Below.setCell ?_ hb2 _))
          case measure => simp [intOf]; omega
        · have hne : ¬ x.n = (x0, x1, x2) := by
            rw [htop]
            intro he
            cases x0 <;> cases y0 <;> cases x1 <;> cases y1 <;> cases x2 <;> cases y2 <;> first | (exact absurd hsm (by decide)) | (exact absurd he (by decide))
          rw [push_other hne] at hp
          have hpush' := hide hp
          clear hp hsm hne htop
          go_wp2_with (at_builtin; refine wpList_append_own _ ?_ (.tmp 46) (.tmp 50) 64 ?_ ws.heap.size 69 j0 (.agg #[.int .i64 0, .int .i64 0, .bool false, .bool false, .bool false]) 5 24 Try.underlying64 hj hy0 hy1 hy2 rfl (by decide) (.slice (some ⟨g2, 0, none⟩) (l.length + 1) cap2) (l.length + 1) (flat (x :: l)) ?_ ?_ ⟨w6.heap.size, 0, none⟩ 1 1 (pcell ⟨(j : Int) + 1, 0, (x0, x1, x2)⟩) ?_ ?_ ?_ ?_ ?_ ?_ ?_ ?_; rfl; rfl; rfl; (exact (by repeat (first | exact hownC | refine World.ownsRow.drew ?_ | refine own_drewN ?_ _ | refine World.ownsRow.alloc ?_ _))); rfl; rfl; (exact part_cells _ _ _ _ (by simp)); (exact part_one _); (unfold maxLen; omega); omega; (simp; omega); intro v' w9 hown' hgrow hnil')
          obtain ⟨m, hm⟩ : ∃ m, m = ((x :: l) : List Prt).length := ⟨_, rfl⟩
          have hown2 : w9.ownsRow ws.heap.size 69 5 v' (m + 1) (flat (⟨(j : Int) + 1, 0, (x0, x1, x2)⟩ :: (x :: l))) := by rw [hm, flat_cons]; exact hown'
          have hown3 := hown2
          rcases hown2.2 with ⟨_, h0⟩ | ⟨g3, cap3, cur3, rfl, hb3, hc3, e1, e2, e3, e4⟩
          · omega
          have yg3 : g3 < w9.heap.size := (Array.getElem?_eq_some_iff.1 hc3).1
          have d3 : w9.cell? ⟨g3, m * 5 + 1, none⟩ = some (.int .i64 0) := (hown3.cellAt (m * 5 + 1) (by omega)).trans (by rw [hm]; exact flat_top ⟨(j : Int) + 1, 0, (x0, x1, x2)⟩ ((x :: l)) 1)
          have f3 := fun o => hown3.frozenAt o
          have i7 : m ≤ 4096 := (by have := hm; simp only [List.length_cons] at this; omega)
          have i9 : (0 : Int) ≤ (m : Int) := by omega
          have i8 : (m : Int) < (m : Int) + 1 := by omega
          clear hc3 e1 e2 e3 e4 hown2
          replace hm := hide hm
          go_wp2
          go_simp
          go_wp2
          go_roundw
          case rel =>
            refine ⟨j + 1 + 1, by omega, by go_num, ⟨(j : Int) + 1, (j : Int) + 1 + 1, (x0, x1, x2)⟩ :: (x :: l), by rw [show ((j + 1 + 1 : Nat) : Int) = (j : Int) + 1 + 1 by omega]; exact hpush'.out, by simp only [List.length_cons] at hR ⊢; omega, ?_, ?_⟩
            · have hst := (hown3.stored (m * 5 + 1) (.int .i64 ((j : Int) + 1 + 1))).1
              rw [hm.out, flat_set] at hst
              rw [← hm.out] at hst
              rw [List.length_cons, ← hm.out]
              exact (by repeat (first | exact hst | refine World.ownsRow.drew ?_ | refine own_drewN ?_ _ | refine World.ownsRow.alloc ?_ _))
            · refine Below.setCell ?_ hb3 _
              exact Below.grown (by exact (by repeat (first | with_reducible exact HW | with_reducible exact HC6 | with_reducible refine Below.drew ?_ | with_reducible refine below_drewN ?_ _ | with_reducible refine Below.alloc ?_ (by first | omega | (simp <;> omega)) _ | with_reducible refine Below.setCell ?_ (by first | omega | (simp <;> omega)) _))) hgrow (by simp; omega) (fun k hk => (hownC.lt k hk).1)
          case measure => simp [intOf]; omega

    · have ek : (k : Int) = per := by omega
      rw [ek] at hS
      go_wp2
      refine bodyPost_ret (results_tmp2 rfl _ _ _) rfl ?_
      refine ⟨_, rfl, R, hS, own_mono hown (by omega), ?_⟩
      exact hBS.trans (HW.mono (by omega))
end Go.Proofs.Ytjeomdfcfbfebaa

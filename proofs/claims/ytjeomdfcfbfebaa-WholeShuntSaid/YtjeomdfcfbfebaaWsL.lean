/- The fixed fact that WholeShunt asks first. Condition: none. -/
import Derived.Test.YtjeomdfcfbfebaaWsJ
import Derived.Test.YtjeomdfcfbfebaaWsK
import Derived.Test.YtjeomdfcfbfebaaWsD
import Derived.Test.YtjeomdfcfbfebaaPatC
namespace Go.Proofs.Ytjeomdfcfbfebaa
open Go.RowKit PM
@[go_sem] theorem eqI3h (w : World) : (Op.equalIn 10000 26 (.agg #[.int .i64 50, .int .i64 50, .int .i64 50]) (.agg #[.int .i64 50, .int .i64 50, .int .i64 50])).run Try.prog w = .ok true w := by kernel_rfl
@[go_sem] theorem eqL2h (w : World) : (Op.equalIn 10000 38 (.agg #[.int .i64 25, .int .i64 75]) (.agg #[.int .i64 25, .int .i64 75])).run Try.prog w = .ok true w := by kernel_rfl
theorem duty_half (W : World) : Calls Try.prog 24 #[.int .i64 0, .int .i64 0, .int .i64 1000, .int .i64 100] W fun e w' => (∃ lim, e = .returned (.tuple #[.agg #[.int .i64 50, .int .i64 50, .int .i64 50, .bool lim], .nilIface])) ∧ Below W.heap.size W w' := by
  have h := duty_any 0 0 1000 100 (by omega) (by omega) (by omega) (by omega) W
  have e1 : dutyC 100 1000 (dutyS 0 (phB 0 0) (-0 - phB 0 0)) 0 = 50 := by decide
  have e2 : dutyC 100 1000 (dutyS 0 (phB 0 0) (-0 - phB 0 0)) (phB 0 0) = 50 := by decide
  have e3 : dutyC 100 1000 (dutyS 0 (phB 0 0) (-0 - phB 0 0)) (-0 - phB 0 0) = 50 := by decide
  rw [e1, e2, e3] at h
  exact h
theorem make_half (W : World) : Calls Try.prog 25 #[.agg #[.int .i64 50, .int .i64 50, .int .i64 50], .int .i64 100, .int .i64 5] W fun e w' => e = .returned (.tuple #[.agg #[.int .i64 25, .int .i64 75, .int .i64 25, .int .i64 75, .int .i64 25, .int .i64 75], .nilIface]) ∧ Below W.heap.size W w' := by
  have h := make_ok 50 50 50 100 5 (by unfold okRng; omega) (by unfold okCnt; omega) W
  have e1 : (pulse 50 100 5).a = 25 := by decide
  have e2 : (pulse 50 100 5).b = 75 := by decide
  rw [e1, e2] at h
  exact h
theorem Edges.setCell {w : World} {g n b o : Nat} {A S : Nat → Int} {B : Nat → Bool} (h : Edges w g n A S B) (hn : ¬ b = g) (v : Value) : Edges (w.setCell ⟨b, o, none⟩ v) g n A S B := fun k hk =>
  ⟨(World.cell?_setCell_far _ _ _ _ hn).trans (h k hk).1, (World.cell?_setCell_far _ _ _ _ hn).trans (h k hk).2.1, (World.cell?_setCell_far _ _ _ _ hn).trans (h k hk).2.2⟩
theorem Edges.alloc {w : World} {g n : Nat} {A S : Nat → Int} {B : Nat → Bool} (h : Edges w g n A S B) (hg : g < w.heap.size) (o : Obj) : Edges (w.alloc o) g n A S B := h.below hg (Below.alloc (Below.refl _ _) (Nat.le_refl _) _)
theorem Edges.drew {w : World} {g n : Nat} {A S : Nat → Int} {B : Nat → Bool} (h : Edges w g n A S B) : Edges w.drew g n A S B := h
theorem Edges.drewN {w : World} {g n : Nat} {A S : Nat → Int} {B : Nat → Bool} (h : Edges w g n A S B) (m : Nat) : Edges (w.drewN m) g n A S B := h
set_option maxHeartbeats 16000000 in
set_option maxRecDepth 100000 in
theorem centred_any (w : World) : Calls Try.prog 20 #[] w fun e w' => e = .returned (.bool true) ∧ Below w.heap.size w w' := by
  go_enter Try.func20, Try.ntmps20
  go_upto_region 3 with (first | (go_at_call 24; refine (duty_half _).mono ?_; rintro e w1 ⟨⟨lim, rfl⟩, hb1⟩; have z1 := hb1.size; (try simp at z1)) | (go_at_call 25; refine (make_half _).mono ?_; rintro e w2 ⟨rfl, hb2⟩; have z2 := hb2.size; (try simp at z2); have D2 := bstep (b := w1.heap.size) hb2 (by first | omega | (simp <;> omega)); have y2 : w1.heap.size < w2.heap.size := (by omega); have d0 : w2.cell? ⟨w1.heap.size, 0, none⟩ = some (.int .i64 50) := (D2 0).trans (by go_simp); have d1 : w2.cell? ⟨w1.heap.size, 1, none⟩ = some (.int .i64 50) := (D2 1).trans (by go_simp); have d2 : w2.cell? ⟨w1.heap.size, 2, none⟩ = some (.int .i64 50) := (D2 2).trans (by go_simp); clear D2))
  have H1 : Below w.heap.size w w1 := hb1
  have H2 : Below w.heap.size w w2 := (H1.alloc (by omega) _).trans (hb2.mono (by first | omega | (simp <;> omega)))
  have H3 : Below w.heap.size w (w2.alloc (.cells #[.int .i64 25, .int .i64 75, .int .i64 25, .int .i64 75, .int .i64 25, .int .i64 75] 39)) := H2.alloc (by omega) _
  have hX : Below w2.heap.size w2 (w2.alloc (.cells #[.int .i64 25, .int .i64 75, .int .i64 25, .int .i64 75, .int .i64 25, .int .i64 75] 39)) := (Below.refl _ _).alloc (Nat.le_refl _) _
  replace d0 := (hX.cell (p := ⟨w1.heap.size, 0, none⟩) y2).trans d0
  replace d1 := (hX.cell (p := ⟨w1.heap.size, 1, none⟩) y2).trans d1
  replace d2 := (hX.cell (p := ⟨w1.heap.size, 2, none⟩) y2).trans d2
  have p0 : (w2.alloc (.cells #[.int .i64 25, .int .i64 75, .int .i64 25, .int .i64 75, .int .i64 25, .int .i64 75] 39)).cell? ⟨w2.heap.size, 0, none⟩ = some (.int .i64 25) := by go_simp
  have p1 : (w2.alloc (.cells #[.int .i64 25, .int .i64 75, .int .i64 25, .int .i64 75, .int .i64 25, .int .i64 75] 39)).cell? ⟨w2.heap.size, 1, none⟩ = some (.int .i64 75) := by go_simp
  have p2 : (w2.alloc (.cells #[.int .i64 25, .int .i64 75, .int .i64 25, .int .i64 75, .int .i64 25, .int .i64 75] 39)).cell? ⟨w2.heap.size, 2, none⟩ = some (.int .i64 25) := by go_simp
  have p3 : (w2.alloc (.cells #[.int .i64 25, .int .i64 75, .int .i64 25, .int .i64 75, .int .i64 25, .int .i64 75] 39)).cell? ⟨w2.heap.size, 3, none⟩ = some (.int .i64 75) := by go_simp
  have p4 : (w2.alloc (.cells #[.int .i64 25, .int .i64 75, .int .i64 25, .int .i64 75, .int .i64 25, .int .i64 75] 39)).cell? ⟨w2.heap.size, 4, none⟩ = some (.int .i64 25) := by go_simp
  have p5 : (w2.alloc (.cells #[.int .i64 25, .int .i64 75, .int .i64 25, .int .i64 75, .int .i64 25, .int .i64 75] 39)).cell? ⟨w2.heap.size, 5, none⟩ = some (.int .i64 75) := by go_simp
  have z3 : (w2.alloc (.cells #[.int .i64 25, .int .i64 75, .int .i64 25, .int .i64 75, .int .i64 25, .int .i64 75] 39)).heap.size = w2.heap.size + 1 := by simp
  clear hX hb1 hb2 H1 H2
  generalize (w2.alloc (.cells #[.int .i64 25, .int .i64 75, .int .i64 25, .int .i64 75, .int .i64 25, .int .i64 75] 39)) = w3 at H3 d0 d1 d2 p0 p1 p2 p3 p4 p5 z3 ⊢
  have yw : w.heap.size ≤ w3.heap.size := H3.size
  have yD : w1.heap.size < w3.heap.size := by omega
  have yP : w2.heap.size < w3.heap.size := by omega
  clear z1 z2 y2 z3
  generalize w1.heap.size = Db at d0 d1 d2 yD ⊢
  generalize w2.heap.size = Pb at p0 p1 p2 p3 p4 p5 yP ⊢
  have HD := hide (And.intro d0 (And.intro d1 d2))
  clear d0 d1 d2
  have S3 : (fun w' => w'.cell? ⟨Pb, 0, none⟩ = some (.int .i64 25) ∧ w'.cell? ⟨Pb, 1, none⟩ = some (.int .i64 75) ∧ w'.cell? ⟨Pb, 2, none⟩ = some (.int .i64 25) ∧ w'.cell? ⟨Pb, 3, none⟩ = some (.int .i64 75) ∧ w'.cell? ⟨Pb, 4, none⟩ = some (.int .i64 25) ∧ w'.cell? ⟨Pb, 5, none⟩ = some (.int .i64 75) ∧ Pb < w'.heap.size) w3 := ⟨p0, p1, p2, p3, p4, p5, yP⟩
  have hk : ∀ W' : World, Below w3.heap.size w3 W' → (fun w' => w'.cell? ⟨Pb, 0, none⟩ = some (.int .i64 25) ∧ w'.cell? ⟨Pb, 1, none⟩ = some (.int .i64 75) ∧ w'.cell? ⟨Pb, 2, none⟩ = some (.int .i64 25) ∧ w'.cell? ⟨Pb, 3, none⟩ = some (.int .i64 75) ∧ w'.cell? ⟨Pb, 4, none⟩ = some (.int .i64 25) ∧ w'.cell? ⟨Pb, 5, none⟩ = some (.int .i64 75) ∧ Pb < w'.heap.size) W' := by
    intro W' hb
    obtain ⟨h0, h1, h2, h3, h4, h5, h6⟩ := S3
    exact ⟨(hb.cell (p := ⟨Pb, 0, none⟩) yP).trans h0, (hb.cell (p := ⟨Pb, 1, none⟩) yP).trans h1, (hb.cell (p := ⟨Pb, 2, none⟩) yP).trans h2, (hb.cell (p := ⟨Pb, 3, none⟩) yP).trans h3, (hb.cell (p := ⟨Pb, 4, none⟩) yP).trans h4, (hb.cell (p := ⟨Pb, 5, none⟩) yP).trans h5, by have := hb.size; omega⟩
  replace hk := hide hk
  clear S3
  go_cut [5, 7] (fun s5 s7 wz => s7 = .nilIface ∧ ∃ b5 g cap, s5 = .pointer (some ⟨b5, 0, none⟩) ∧ b5 < wz.heap.size ∧ wz.cell? ⟨b5, 0, none⟩ = some (.int .i64 100) ∧ wz.cell? ⟨b5, 1, none⟩ = some (.bool false) ∧ wz.cell? ⟨b5, 2, none⟩ = some (.bool false) ∧ wz.cell? ⟨b5, 3, none⟩ = some (.bool false) ∧ wz.cell? ⟨b5, 4, none⟩ = some (.bool false) ∧ wz.cell? ⟨b5, 5, none⟩ = some (.bool false) ∧ wz.cell? ⟨b5, 6, none⟩ = some (.bool false) ∧ wz.cell? ⟨b5, 7, none⟩ = some (.slice (some ⟨g, 0, none⟩) 15 cap) ∧ Edges wz g 15 EA ES EB ∧ g < wz.heap.size ∧ Below w3.heap.size w3 wz)
  case first =>
    go_region_held3 (fun w' => w'.cell? ⟨Pb, 0, none⟩ = some (.int .i64 25) ∧ w'.cell? ⟨Pb, 1, none⟩ = some (.int .i64 75) ∧ w'.cell? ⟨Pb, 2, none⟩ = some (.int .i64 25) ∧ w'.cell? ⟨Pb, 3, none⟩ = some (.int .i64 75) ∧ w'.cell? ⟨Pb, 4, none⟩ = some (.int .i64 25) ∧ w'.cell? ⟨Pb, 5, none⟩ = some (.int .i64 75) ∧ Pb < w'.heap.size) (first | (refine hk.out _ ?_; exact (by repeat (first | with_reducible exact K5 | with_reducible exact K4 | with_reducible exact Below.refl _ _ | with_reducible refine Below.drew ?_ | with_reducible refine below_drewN ?_ _ | with_reducible refine Below.alloc ?_ (by first | omega | (simp <;> omega)) _ | with_reducible refine Below.setCell ?_ (by first | omega | (simp <;> omega)) _)))) (first | (go_at_call 48; with_reducible refine (fresh_any _).mono ?_; rintro e w4 ⟨rfl, hb4⟩; have z4 := hb4.size; (try simp at z4); have K4 : Below w3.heap.size w3 w4 := Below.trans (by repeat (first | with_reducible exact Below.refl _ _ | with_reducible refine Below.drew ?_ | with_reducible refine below_drewN ?_ _ | with_reducible refine Below.alloc ?_ (by first | omega | (simp <;> omega)) _ | with_reducible refine Below.setCell ?_ (by first | omega | (simp <;> omega)) _)) (hb4.mono (by first | omega | (simp <;> omega))); (try (have c4t0 := bstep (b := w3.heap.size) hb4 (by first | omega | (simp; done) | (simp; omega)); have f4t0 := bfro (b := w3.heap.size) hb4 (by first | omega | (simp; done) | (simp; omega)); have y4t0 : w3.heap.size < w4.heap.size := (by omega))); (try (have c4t1 := bstep (b := w3.heap.size + 1) hb4 (by first | omega | (simp; done) | (simp; omega)); have f4t1 := bfro (b := w3.heap.size + 1) hb4 (by first | omega | (simp; done) | (simp; omega)); have y4t1 : w3.heap.size + 1 < w4.heap.size := (by omega)))) | (go_at_call 47; with_reducible refine (run_any _).mono ?_; rintro e w5 ⟨⟨g, cap, rfl, hEg, hg5, hgl⟩, hb5⟩; have z5 := hb5.size; (try simp at z5); (try simp at hgl); have K5 : Below w3.heap.size w3 w5 := Below.trans (by repeat (first | with_reducible exact K4 | with_reducible exact Below.refl _ _ | with_reducible refine Below.drew ?_ | with_reducible refine below_drewN ?_ _ | with_reducible refine Below.alloc ?_ (by first | omega | (simp <;> omega)) _ | with_reducible refine Below.setCell ?_ (by first | omega | (simp <;> omega)) _)) (hb5.mono (by first | omega | (simp <;> omega))); (try (have c5t0 := bstep (b := w3.heap.size) hb5 (by first | omega | (simp; done) | (simp; omega)); have f5t0 := bfro (b := w3.heap.size) hb5 (by first | omega | (simp; done) | (simp; omega)); have y5t0 : w3.heap.size < w5.heap.size := (by omega))); (try (have c5t1 := bstep (b := w3.heap.size + 1) hb5 (by first | omega | (simp; done) | (simp; omega)); have f5t1 := bfro (b := w3.heap.size + 1) hb5 (by first | omega | (simp; done) | (simp; omega)); have y5t1 : w3.heap.size + 1 < w5.heap.size := (by omega))); (try (have c5t2 := bstep (b := w4.heap.size) hb5 (by first | omega | (simp; done) | (simp; omega)); have f5t2 := bfro (b := w4.heap.size) hb5 (by first | omega | (simp; done) | (simp; omega)); have y5t2 : w4.heap.size < w5.heap.size := (by omega))); (try (have c5t3 := bstep (b := w4.heap.size + 1) hb5 (by first | omega | (simp; done) | (simp; omega)); have f5t3 := bfro (b := w4.heap.size + 1) hb5 (by first | omega | (simp; done) | (simp; omega)); have y5t3 : w4.heap.size + 1 < w5.heap.size := (by omega)))))
    all_goals
      go_wp2
      go_meet
      exact ⟨rfl, _, g, cap, rfl, by first | omega | (simp <;> omega), by go_simp, by go_simp, by go_simp, by go_simp, by go_simp, by go_simp, by go_simp, by go_simp, by exact (by repeat (first | with_reducible exact hEg | with_reducible refine Edges.drew ?_ | with_reducible refine Edges.drewN ?_ _ | with_reducible refine Edges.alloc ?_ (by first | omega | (simp <;> omega)) _ | with_reducible refine Edges.setCell ?_ (by first | omega | (simp <;> omega)) _)), by first | omega | (simp <;> omega), by exact (by repeat (first | with_reducible exact K5 | with_reducible exact K4 | with_reducible exact Below.refl _ _ | with_reducible refine Below.drew ?_ | with_reducible refine below_drewN ?_ _ | with_reducible refine Below.alloc ?_ (by first | omega | (simp <;> omega)) _ | with_reducible refine Below.setCell ?_ (by first | omega | (simp <;> omega)) _))⟩
  case rest =>
  obtain ⟨rfl, b5, g, cap, rfl, hb5, g0, g1, g2, g3, g4, g5, g6, g7, hE, hg, hX⟩ := hcut
  rename World => w4
  obtain ⟨d0, d1, d2⟩ := HD.out
  have S3 := hk.out _ hX
  obtain ⟨p0', p1', p2', p3', p4', p5', yP4⟩ := S3
  replace d0 := (hX.cell (p := ⟨Db, 0, none⟩) yD).trans d0
  replace d1 := (hX.cell (p := ⟨Db, 1, none⟩) yD).trans d1
  replace d2 := (hX.cell (p := ⟨Db, 2, none⟩) yD).trans d2
  have H4 : Below w.heap.size w w4 := H3.trans (hX.mono (by omega))
  have yD4 : Db < w4.heap.size := by have := hX.size; omega
  have yw4 : w.heap.size ≤ w4.heap.size := H4.size
  clear p0 p1 p2 p3 p4 p5 HD hk yP yD yw hX H3
  have HD := hide (And.intro d0 (And.intro d1 (And.intro d2 (And.intro p0' p1'))))
  clear d0 d1 d2 p0' p1' p2' p3' p4' p5'
  replace hE := hide hE
  have S4 : (fun w' => w'.cell? ⟨b5, 0, none⟩ = some (.int .i64 100) ∧ w'.cell? ⟨b5, 1, none⟩ = some (.bool false) ∧ w'.cell? ⟨b5, 2, none⟩ = some (.bool false) ∧ w'.cell? ⟨b5, 3, none⟩ = some (.bool false) ∧ w'.cell? ⟨b5, 4, none⟩ = some (.bool false) ∧ w'.cell? ⟨b5, 5, none⟩ = some (.bool false) ∧ w'.cell? ⟨b5, 6, none⟩ = some (.bool false) ∧ w'.cell? ⟨b5, 7, none⟩ = some (.slice (some ⟨g, 0, none⟩) 15 cap) ∧ b5 < w'.heap.size) w4 := ⟨g0, g1, g2, g3, g4, g5, g6, g7, hb5⟩
  have hk : ∀ W' : World, Below w4.heap.size w4 W' → (fun w' => w'.cell? ⟨b5, 0, none⟩ = some (.int .i64 100) ∧ w'.cell? ⟨b5, 1, none⟩ = some (.bool false) ∧ w'.cell? ⟨b5, 2, none⟩ = some (.bool false) ∧ w'.cell? ⟨b5, 3, none⟩ = some (.bool false) ∧ w'.cell? ⟨b5, 4, none⟩ = some (.bool false) ∧ w'.cell? ⟨b5, 5, none⟩ = some (.bool false) ∧ w'.cell? ⟨b5, 6, none⟩ = some (.bool false) ∧ w'.cell? ⟨b5, 7, none⟩ = some (.slice (some ⟨g, 0, none⟩) 15 cap) ∧ b5 < w'.heap.size) W' := by
    intro W' hb
    obtain ⟨h0, h1, h2, h3, h4, h5, h6, h7, h8⟩ := S4
    exact ⟨(hb.cell (p := ⟨b5, 0, none⟩) hb5).trans h0, (hb.cell (p := ⟨b5, 1, none⟩) hb5).trans h1, (hb.cell (p := ⟨b5, 2, none⟩) hb5).trans h2, (hb.cell (p := ⟨b5, 3, none⟩) hb5).trans h3, (hb.cell (p := ⟨b5, 4, none⟩) hb5).trans h4, (hb.cell (p := ⟨b5, 5, none⟩) hb5).trans h5, (hb.cell (p := ⟨b5, 6, none⟩) hb5).trans h6, (hb.cell (p := ⟨b5, 7, none⟩) hb5).trans h7, by have := hb.size; omega⟩
  replace hk := hide hk
  clear S4
  go_upto_region 4 with fail
  go_cut [8, 10] (fun s8 s10 wz => s8 = .bool true ∧ s10 = .nilIface ∧ Below w4.heap.size w4 wz)
  case first =>
    go_region_held3 (fun w' => w'.cell? ⟨b5, 0, none⟩ = some (.int .i64 100) ∧ w'.cell? ⟨b5, 1, none⟩ = some (.bool false) ∧ w'.cell? ⟨b5, 2, none⟩ = some (.bool false) ∧ w'.cell? ⟨b5, 3, none⟩ = some (.bool false) ∧ w'.cell? ⟨b5, 4, none⟩ = some (.bool false) ∧ w'.cell? ⟨b5, 5, none⟩ = some (.bool false) ∧ w'.cell? ⟨b5, 6, none⟩ = some (.bool false) ∧ w'.cell? ⟨b5, 7, none⟩ = some (.slice (some ⟨g, 0, none⟩) 15 cap) ∧ b5 < w'.heap.size) (first | (refine hk.out _ ?_; exact (by repeat (first | with_reducible exact K6 | with_reducible exact K5 | with_reducible exact Below.refl _ _ | with_reducible refine Below.drew ?_ | with_reducible refine below_drewN ?_ _ | with_reducible refine Below.alloc ?_ (by first | omega | (simp <;> omega)) _ | with_reducible refine Below.setCell ?_ (by first | omega | (simp <;> omega)) _)))) (first | (go_at_call 48; with_reducible refine (fresh_any _).mono ?_; rintro e w5 ⟨rfl, hb5'⟩; have z5 := hb5'.size; (try simp at z5); have K5 : Below w4.heap.size w4 w5 := Below.trans (by repeat (first | with_reducible exact Below.refl _ _ | with_reducible refine Below.drew ?_ | with_reducible refine below_drewN ?_ _ | with_reducible refine Below.alloc ?_ (by first | omega | (simp <;> omega)) _ | with_reducible refine Below.setCell ?_ (by first | omega | (simp <;> omega)) _)) (hb5'.mono (by first | omega | (simp <;> omega))); (try (have c5t0 := bstep (b := w4.heap.size) hb5' (by first | omega | (simp; done) | (simp; omega)); have f5t0 := bfro (b := w4.heap.size) hb5' (by first | omega | (simp; done) | (simp; omega)); have y5t0 : w4.heap.size < w5.heap.size := (by omega)))) | (go_at_call 49; with_reducible refine (safe_any _ g cap (hE.out.below hg (by repeat (first | with_reducible exact K5 | with_reducible exact Below.refl _ _ | with_reducible refine Below.drew ?_ | with_reducible refine below_drewN ?_ _ | with_reducible refine Below.alloc ?_ (by first | omega | (simp <;> omega)) _ | with_reducible refine Below.setCell ?_ (by first | omega | (simp <;> omega)) _))) (by first | omega | (simp <;> omega))).mono ?_; rintro e w6 ⟨rfl, hb6⟩; have z6 := hb6.size; (try simp at z6); have K6 : Below w4.heap.size w4 w6 := Below.trans (by repeat (first | with_reducible exact K5 | with_reducible exact Below.refl _ _ | with_reducible refine Below.drew ?_ | with_reducible refine below_drewN ?_ _ | with_reducible refine Below.alloc ?_ (by first | omega | (simp <;> omega)) _ | with_reducible refine Below.setCell ?_ (by first | omega | (simp <;> omega)) _)) (hb6.mono (by first | omega | (simp <;> omega))); (try (have c6t0 := bstep (b := w4.heap.size) hb6 (by first | omega | (simp; done) | (simp; omega)); have f6t0 := bfro (b := w4.heap.size) hb6 (by first | omega | (simp; done) | (simp; omega)); have y6t0 : w4.heap.size < w6.heap.size := (by omega))); (try (have c6t1 := bstep (b := w5.heap.size) hb6 (by first | omega | (simp; done) | (simp; omega)); have f6t1 := bfro (b := w5.heap.size) hb6 (by first | omega | (simp; done) | (simp; omega)); have y6t1 : w5.heap.size < w6.heap.size := (by omega)))))
    all_goals
      go_wp2
      go_meet
      exact ⟨rfl, rfl, by exact (by repeat (first | with_reducible exact K6 | with_reducible exact K5 | with_reducible exact Below.refl _ _ | with_reducible refine Below.drew ?_ | with_reducible refine below_drewN ?_ _ | with_reducible refine Below.alloc ?_ (by first | omega | (simp <;> omega)) _ | with_reducible refine Below.setCell ?_ (by first | omega | (simp <;> omega)) _))⟩
  case rest =>
  obtain ⟨rfl, rfl, hX⟩ := hcut
  rename World => w7
  obtain ⟨d0, d1, d2, p0, p1⟩ := HD.out
  replace d0 := (hX.cell (p := ⟨Db, 0, none⟩) yD4).trans d0
  replace d1 := (hX.cell (p := ⟨Db, 1, none⟩) yD4).trans d1
  replace d2 := (hX.cell (p := ⟨Db, 2, none⟩) yD4).trans d2
  replace p0 := (hX.cell (p := ⟨Pb, 0, none⟩) yP4).trans p0
  replace p1 := (hX.cell (p := ⟨Pb, 1, none⟩) yP4).trans p1
  have H7 : Below w.heap.size w w7 := H4.trans (hX.mono yw4)
  have yD7 : Db < w7.heap.size := by have := hX.size; omega
  have yP7 : Pb < w7.heap.size := by have := hX.size; omega
  clear HD hk hX g0 g1 g2 g3 g4 g5 g6 g7 hE H4
  replace H7 := hide H7
  go_wp2
  go_ret
  exact ⟨rfl, H7.out⟩
end Go.Proofs.Ytjeomdfcfbfebaa

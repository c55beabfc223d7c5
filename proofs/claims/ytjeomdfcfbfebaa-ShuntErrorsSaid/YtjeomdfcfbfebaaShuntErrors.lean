/- ShuntErrors holds: with deviations of the samples the currents still sum to 0, and deviate by no more than these deviations together. No condition. -/
import Derived.Test.YtjeomdfcfbfebaaRows
import Derived.Test.YtjeomdfcfbfebaaFlat
import Derived.Test.YtjeomdfcfbfebaaShF
import Derived.Test.YtjeomdfcfbfebaaPatJ
namespace Go.Proofs.Ytjeomdfcfbfebaa
open Go.RowKit PM Flat Go.ChangeShapes

theorem cellI3 {W : World} {b : Nat} {d0 d1 d2 : Int} (h0 : W.cell? ⟨b, 0, none⟩ = some (.int .i64 d0)) (h1 : W.cell? ⟨b, 1, none⟩ = some (.int .i64 d1)) (h2 : W.cell? ⟨b, 2, none⟩ = some (.int .i64 d2)) (k : Nat) (hk : k < 3) : W.cell? ⟨b, k, none⟩ = some (.int .i64 (I3 d0 d1 d2 k)) := by
  obtain rfl | rfl | rfl : k = 0 ∨ k = 1 ∨ k = 2 := by omega
  · exact h0
  · exact h1
  · exact h2
set_option maxHeartbeats 16000000 in
set_option maxRecDepth 100000 in
theorem shuntErrors_core (t0 t1 a0 a1 i0 i1 v0 v1 r0 r1 r2 j0 j1 j2 ra rb : Int) (l0 l1 : Nat) (hl0 : l0 < 3) (hl1 : l1 < 3) (hne : ¬ l0 = l1) (hv0 : -32768 ≤ v0 ∧ v0 ≤ 32768) (hv1 : -32768 ≤ v1 ∧ v1 ≤ 32768)
    (hra : I3 r0 r1 r2 l0 = ra) (hrb : I3 r0 r1 r2 l1 = rb) (hab : (-536870912 ≤ ra ∧ ra ≤ 536870912) ∧ (-536870912 ≤ rb ∧ rb ≤ 536870912))
    (hj : (-1073741824 ≤ j0 + j1 ∧ j0 + j1 ≤ 1073741824) ∧ j0 + j1 + j2 = 0)
    (hd : ∀ k : Nat, k < 3 → -(max v0 (-v0) + max v1 (-v1)) ≤ I3 j0 j1 j2 k - I3 r0 r1 r2 k ∧ I3 j0 j1 j2 k - I3 r0 r1 r2 k ≤ max v0 (-v0) + max v1 (-v1))
    (e0 : I3 j0 j1 j2 l0 - ra = v0) (e1 : I3 j0 j1 j2 l1 - rb = -v1)
    (hA0 : ∀ W : World, Calls Try.prog 22 #[.int .i64 a0, .int .i64 0, .int .i64 2] W fun e w' => e = .returned (.int .i64 (l0 : Int)) ∧ W = w')
    (hA1 : ∀ W : World, Calls Try.prog 22 #[.int .i64 a1, .int .i64 0, .int .i64 2] W fun e w' => e = .returned (.int .i64 (l1 : Int)) ∧ W = w')
    (hC : ∀ W : World, Calls Try.prog 43 #[.int .i64 i0, .int .i64 i1] W fun e w' => e = .returned (.agg #[.int .i64 r0, .int .i64 r1, .int .i64 r2]) ∧ Below W.heap.size W w')
    (hJ : ∀ W : World, Calls Try.prog 29 #[.agg #[.int .i64 t0, .int .i64 t1, .int .i64 (l0 : Int), .int .i64 (l1 : Int)], .agg #[.int .i64 (ra + v0), .int .i64 (-rb + v1)]] W fun e w' => e = .returned (.tuple #[.agg #[.int .i64 j0, .int .i64 j1, .int .i64 j2], .nilIface]) ∧ Below W.heap.size W w') (w : World) :
    Calls Try.prog 13 #[.agg #[.int .i64 t0, .int .i64 t1, .int .i64 a0, .int .i64 a1], .agg #[.int .i64 i0, .int .i64 i1], .agg #[.int .i16 v0, .int .i16 v1]] w fun e w' => e = .returned (.bool true) ∧ Below w.heap.size w w' := by
  have HA0 := hide hA0
  have HA1 := hide hA1
  have HC := hide hC
  have HJ := hide hJ
  have HD := hide hd
  obtain ⟨v01, v02⟩ := hv0
  obtain ⟨v11, v12⟩ := hv1
  obtain ⟨⟨r01, r02⟩, ⟨r11, r12⟩⟩ := hab
  obtain ⟨⟨gs1, gs2⟩, hsum⟩ := hj
  have ga : IntKind.i64.wrap (ra + v0) = ra + v0 := IntWalk.i64_in _ (by omega)
  have gb : IntKind.i64.wrap (-rb) = -rb := IntWalk.i64_in _ (by omega)
  have gc : IntKind.i64.wrap (-rb + v1) = -rb + v1 := IntWalk.i64_in _ (by omega)
  have gn : IntKind.i64.wrap (-v1) = -v1 := IntWalk.i64_in _ (by omega)
  have gv0 : IntKind.i64.wrap v0 = v0 := IntWalk.i64_in _ (by omega)
  have gv1 : IntKind.i64.wrap v1 = v1 := IntWalk.i64_in _ (by omega)
  have hle : ¬ (l0 : Int) = (l1 : Int) := by omega
  have hlb : ((l0 : Int) == (l1 : Int)) = false := beq_eq_false_iff_ne.2 hle
  have la1 : (0 : Int) ≤ (l0 : Int) := by omega
  have la2 : (l0 : Int) < 3 := by omega
  have lb1 : (0 : Int) ≤ (l1 : Int) := by omega
  have lb2 : (l1 : Int) < 3 := by omega
  have HE0 := hide e0
  have HE1 := hide e1
  have HRA := hide hra
  have HRB := hide hrb
  have HS := hide hsum
  clear hA0 hA1 hC hJ e0 e1 hra hrb hd hsum hne hle
  go_enter Try.func13, Try.ntmps13
  go_upto_region 9 with (first
    | (go_at_call 39; refine (awake25_any _).mono ?_; rintro e w1 ⟨rfl, hb1⟩; have z1 := hb1.size; (try simp at z1); have c1x0 := bstep (b := w.heap.size) hb1 (by first | omega | (simp <;> omega)); have y1x0 : w.heap.size < w1.heap.size := (by omega); have c1x1 := bstep (b := w.heap.size + 1) hb1 (by first | omega | (simp <;> omega)); have y1x1 : w.heap.size + 1 < w1.heap.size := (by omega); have c1x2 := bstep (b := w.heap.size + 1 + 1) hb1 (by first | omega | (simp <;> omega)); have y1x2 : w.heap.size + 1 + 1 < w1.heap.size := (by omega); have f1x0 := bfro (b := w.heap.size) hb1 (by first | omega | (simp <;> omega)); have f1x1 := bfro (b := w.heap.size + 1) hb1 (by first | omega | (simp <;> omega)); have f1x2 := bfro (b := w.heap.size + 1 + 1) hb1 (by first | omega | (simp <;> omega)); have H1 : Below w.heap.size w w1 := Below.trans (by repeat (first | with_reducible assumption | with_reducible refine Below.drew ?_ | with_reducible refine below_drewN ?_ _ | with_reducible refine Below.alloc ?_ (by first | omega | (simp <;> omega)) _ | with_reducible refine Below.setCell ?_ (by first | omega | (simp <;> omega)) _ | with_reducible exact Below.refl _ _)) (hb1.mono (by first | omega | (simp <;> omega))); have x1d00 : w1.cell? ⟨w.heap.size, 0, none⟩ = some (.int .i64 t0) := (c1x0 0).trans (by go_simp); have x1d01 : w1.cell? ⟨w.heap.size, 1, none⟩ = some (.int .i64 t1) := (c1x0 1).trans (by go_simp); have x1d02 : w1.cell? ⟨w.heap.size, 2, none⟩ = some (.int .i64 a0) := (c1x0 2).trans (by go_simp); have x1d03 : w1.cell? ⟨w.heap.size, 3, none⟩ = some (.int .i64 a1) := (c1x0 3).trans (by go_simp); have x1d10 : w1.cell? ⟨w.heap.size + 1, 0, none⟩ = some (.int .i64 i0) := (c1x1 0).trans (by go_simp); have x1d11 : w1.cell? ⟨w.heap.size + 1, 1, none⟩ = some (.int .i64 i1) := (c1x1 1).trans (by go_simp); have x1d20 : w1.cell? ⟨w.heap.size + 1 + 1, 0, none⟩ = some (.int .i16 v0) := (c1x2 0).trans (by go_simp); have x1d21 : w1.cell? ⟨w.heap.size + 1 + 1, 1, none⟩ = some (.int .i16 v1) := (c1x2 1).trans (by go_simp); have x1f0 : ∀ o, w1.frozen? ⟨w.heap.size, o, none⟩ = false := fun o => (f1x0 o).trans (by go_simp); have x1f1 : ∀ o, w1.frozen? ⟨w.heap.size + 1, o, none⟩ = false := fun o => (f1x1 o).trans (by go_simp); have x1f2 : ∀ o, w1.frozen? ⟨w.heap.size + 1 + 1, o, none⟩ = false := fun o => (f1x2 o).trans (by go_simp); clear c1x0 c1x1 c1x2 f1x0 f1x1 f1x2)
    | (go_at_call 22; first | (with_reducible refine (HA0.out _).mono ?_; rintro e w8 ⟨rfl, rfl⟩) | (with_reducible refine (HA1.out _).mono ?_; rintro e w8 ⟨rfl, rfl⟩))
    | (go_at_call 43; refine (HC.out _).mono ?_; rintro e w3 ⟨rfl, hb3⟩; have z3 := hb3.size; (try simp at z3); have c3x0 := bstep (b := w.heap.size) hb3 (by first | omega | (simp <;> omega)); have y3x0 : w.heap.size < w3.heap.size := (by omega); have c3x1 := bstep (b := w.heap.size + 1) hb3 (by first | omega | (simp <;> omega)); have y3x1 : w.heap.size + 1 < w3.heap.size := (by omega); have c3x2 := bstep (b := w.heap.size + 1 + 1) hb3 (by first | omega | (simp <;> omega)); have y3x2 : w.heap.size + 1 + 1 < w3.heap.size := (by omega); have f3x0 := bfro (b := w.heap.size) hb3 (by first | omega | (simp <;> omega)); have f3x1 := bfro (b := w.heap.size + 1) hb3 (by first | omega | (simp <;> omega)); have f3x2 := bfro (b := w.heap.size + 1 + 1) hb3 (by first | omega | (simp <;> omega)); have H3 : Below w.heap.size w w3 := Below.trans (by repeat (first | with_reducible assumption | with_reducible refine Below.drew ?_ | with_reducible refine below_drewN ?_ _ | with_reducible refine Below.alloc ?_ (by first | omega | (simp <;> omega)) _ | with_reducible refine Below.setCell ?_ (by first | omega | (simp <;> omega)) _ | with_reducible exact Below.refl _ _)) (hb3.mono (by first | omega | (simp <;> omega))); have x3d00 : w3.cell? ⟨w.heap.size, 0, none⟩ = some (.int .i64 t0) := (c3x0 0).trans (by go_simp); have x3d01 : w3.cell? ⟨w.heap.size, 1, none⟩ = some (.int .i64 t1) := (c3x0 1).trans (by go_simp); have x3d02 : w3.cell? ⟨w.heap.size, 2, none⟩ = some (.int .i64 (l0 : Int)) := (c3x0 2).trans (by go_simp); have x3d03 : w3.cell? ⟨w.heap.size, 3, none⟩ = some (.int .i64 (l1 : Int)) := (c3x0 3).trans (by go_simp); have x3d10 : w3.cell? ⟨w.heap.size + 1 + 1, 0, none⟩ = some (.int .i16 v0) := (c3x2 0).trans (by go_simp); have x3d11 : w3.cell? ⟨w.heap.size + 1 + 1, 1, none⟩ = some (.int .i16 v1) := (c3x2 1).trans (by go_simp); clear c3x0 c3x1 c3x2 f3x0 f3x1 f3x2))
  have hB9 : Below w.heap.size w ((w3.alloc (.cells #[.int .i64 r0, .int .i64 r1, .int .i64 r2] 26)).alloc (.cells #[.int .i64 v0, .int .i64 v1] 44)) := by exact (by repeat (first | with_reducible assumption | with_reducible refine Below.drew ?_ | with_reducible refine below_drewN ?_ _ | with_reducible refine Below.alloc ?_ (by first | omega | (simp <;> omega)) _ | with_reducible refine Below.setCell ?_ (by first | omega | (simp <;> omega)) _ | with_reducible exact Below.refl _ _))
  have y3a : w.heap.size < w3.heap.size + 1 := by omega
  have y3b : w.heap.size < w3.heap.size + 1 + 1 := by omega
  have y3c : w3.heap.size < w3.heap.size + 1 + 1 := by omega
  have d0 : ((w3.alloc (.cells #[.int .i64 r0, .int .i64 r1, .int .i64 r2] 26)).alloc (.cells #[.int .i64 v0, .int .i64 v1] 44)).cell? ⟨w3.heap.size, 0, none⟩ = some (.int .i64 r0) := by go_simp
  have d1 : ((w3.alloc (.cells #[.int .i64 r0, .int .i64 r1, .int .i64 r2] 26)).alloc (.cells #[.int .i64 v0, .int .i64 v1] 44)).cell? ⟨w3.heap.size, 1, none⟩ = some (.int .i64 r1) := by go_simp
  have d2 : ((w3.alloc (.cells #[.int .i64 r0, .int .i64 r1, .int .i64 r2] 26)).alloc (.cells #[.int .i64 v0, .int .i64 v1] 44)).cell? ⟨w3.heap.size, 2, none⟩ = some (.int .i64 r2) := by go_simp
  have HR3 := hide (cellI3 d0 d1 d2)
  have hs9 : w3.heap.size < ((w3.alloc (.cells #[.int .i64 r0, .int .i64 r1, .int .i64 r2] 26)).alloc (.cells #[.int .i64 v0, .int .i64 v1] 44)).heap.size := by first | omega | (simp <;> omega)
  clear d0 d1 d2
  have q0 : ((w3.alloc (.cells #[.int .i64 r0, .int .i64 r1, .int .i64 r2] 26)).alloc (.cells #[.int .i64 v0, .int .i64 v1] 44)).cell? ⟨w.heap.size, 0, none⟩ = some (.int .i64 t0) := by go_simp
  have q1 : ((w3.alloc (.cells #[.int .i64 r0, .int .i64 r1, .int .i64 r2] 26)).alloc (.cells #[.int .i64 v0, .int .i64 v1] 44)).cell? ⟨w.heap.size, 1, none⟩ = some (.int .i64 t1) := by go_simp
  have q2 : ((w3.alloc (.cells #[.int .i64 r0, .int .i64 r1, .int .i64 r2] 26)).alloc (.cells #[.int .i64 v0, .int .i64 v1] 44)).cell? ⟨w.heap.size, 2, none⟩ = some (.int .i64 (l0 : Int)) := by go_simp
  have q3 : ((w3.alloc (.cells #[.int .i64 r0, .int .i64 r1, .int .i64 r2] 26)).alloc (.cells #[.int .i64 v0, .int .i64 v1] 44)).cell? ⟨w.heap.size, 3, none⟩ = some (.int .i64 (l1 : Int)) := by go_simp
  have q4 : ((w3.alloc (.cells #[.int .i64 r0, .int .i64 r1, .int .i64 r2] 26)).alloc (.cells #[.int .i64 v0, .int .i64 v1] 44)).cell? ⟨w3.heap.size, l0, none⟩ = some (.int .i64 ra) := (HR3.out l0 (by omega)).trans (by rw [HRA.out])
  have q5 : ((w3.alloc (.cells #[.int .i64 r0, .int .i64 r1, .int .i64 r2] 26)).alloc (.cells #[.int .i64 v0, .int .i64 v1] 44)).cell? ⟨w3.heap.size, l1, none⟩ = some (.int .i64 rb) := (HR3.out l1 (by omega)).trans (by rw [HRB.out])
  have q6 : ((w3.alloc (.cells #[.int .i64 r0, .int .i64 r1, .int .i64 r2] 26)).alloc (.cells #[.int .i64 v0, .int .i64 v1] 44)).cell? ⟨w3.heap.size + 1, 0, none⟩ = some (.int .i64 v0) := by go_simp
  have q7 : ((w3.alloc (.cells #[.int .i64 r0, .int .i64 r1, .int .i64 r2] 26)).alloc (.cells #[.int .i64 v0, .int .i64 v1] 44)).cell? ⟨w3.heap.size + 1, 1, none⟩ = some (.int .i64 v1) := by go_simp
  go_cut [9, 10] (fun s9 s10 wz => s10 = .nilIface ∧ (∃ bj, s9 = .pointer (some ⟨bj, 0, none⟩) ∧ bj < wz.heap.size ∧ wz.cell? ⟨bj, 0, none⟩ = some (.int .i64 j0) ∧ wz.cell? ⟨bj, 1, none⟩ = some (.int .i64 j1) ∧ wz.cell? ⟨bj, 2, none⟩ = some (.int .i64 j2)) ∧ Below ((w3.alloc (.cells #[.int .i64 r0, .int .i64 r1, .int .i64 r2] 26)).alloc (.cells #[.int .i64 v0, .int .i64 v1] 44)).heap.size ((w3.alloc (.cells #[.int .i64 r0, .int .i64 r1, .int .i64 r2] 26)).alloc (.cells #[.int .i64 v0, .int .i64 v1] 44)) wz)
  case first =>
    have hk : ∀ W W' : World, (fun w' => w'.cell? ⟨w.heap.size, 0, none⟩ = some (.int .i64 t0) ∧ w'.cell? ⟨w.heap.size, 1, none⟩ = some (.int .i64 t1) ∧ w'.cell? ⟨w.heap.size, 2, none⟩ = some (.int .i64 (l0 : Int)) ∧ w'.cell? ⟨w.heap.size, 3, none⟩ = some (.int .i64 (l1 : Int)) ∧ w'.cell? ⟨w3.heap.size, l0, none⟩ = some (.int .i64 ra) ∧ w'.cell? ⟨w3.heap.size, l1, none⟩ = some (.int .i64 rb) ∧ w'.cell? ⟨w3.heap.size + 1, 0, none⟩ = some (.int .i64 v0) ∧ w'.cell? ⟨w3.heap.size + 1, 1, none⟩ = some (.int .i64 v1) ∧ w3.heap.size + 1 < w'.heap.size) W → Below W.heap.size W W' → (fun w' => w'.cell? ⟨w.heap.size, 0, none⟩ = some (.int .i64 t0) ∧ w'.cell? ⟨w.heap.size, 1, none⟩ = some (.int .i64 t1) ∧ w'.cell? ⟨w.heap.size, 2, none⟩ = some (.int .i64 (l0 : Int)) ∧ w'.cell? ⟨w.heap.size, 3, none⟩ = some (.int .i64 (l1 : Int)) ∧ w'.cell? ⟨w3.heap.size, l0, none⟩ = some (.int .i64 ra) ∧ w'.cell? ⟨w3.heap.size, l1, none⟩ = some (.int .i64 rb) ∧ w'.cell? ⟨w3.heap.size + 1, 0, none⟩ = some (.int .i64 v0) ∧ w'.cell? ⟨w3.heap.size + 1, 1, none⟩ = some (.int .i64 v1) ∧ w3.heap.size + 1 < w'.heap.size) W' := by
      rintro W W' ⟨h0, h1, h2, h3, h4, h5, h6, h7, k3⟩ hb
      exact ⟨(hb.cell (p := ⟨w.heap.size, 0, none⟩) (by show w.heap.size < W.heap.size; omega)).trans h0, (hb.cell (p := ⟨w.heap.size, 1, none⟩) (by show w.heap.size < W.heap.size; omega)).trans h1, (hb.cell (p := ⟨w.heap.size, 2, none⟩) (by show w.heap.size < W.heap.size; omega)).trans h2, (hb.cell (p := ⟨w.heap.size, 3, none⟩) (by show w.heap.size < W.heap.size; omega)).trans h3, (hb.cell (p := ⟨w3.heap.size, l0, none⟩) (by show w3.heap.size < W.heap.size; omega)).trans h4, (hb.cell (p := ⟨w3.heap.size, l1, none⟩) (by show w3.heap.size < W.heap.size; omega)).trans h5, (hb.cell (p := ⟨w3.heap.size + 1, 0, none⟩) (by show w3.heap.size + 1 < W.heap.size; omega)).trans h6, (hb.cell (p := ⟨w3.heap.size + 1, 1, none⟩) (by show w3.heap.size + 1 < W.heap.size; omega)).trans h7, by have := hb.size; omega⟩
    replace hk := hide hk
    have S3 : (fun w' => w'.cell? ⟨w.heap.size, 0, none⟩ = some (.int .i64 t0) ∧ w'.cell? ⟨w.heap.size, 1, none⟩ = some (.int .i64 t1) ∧ w'.cell? ⟨w.heap.size, 2, none⟩ = some (.int .i64 (l0 : Int)) ∧ w'.cell? ⟨w.heap.size, 3, none⟩ = some (.int .i64 (l1 : Int)) ∧ w'.cell? ⟨w3.heap.size, l0, none⟩ = some (.int .i64 ra) ∧ w'.cell? ⟨w3.heap.size, l1, none⟩ = some (.int .i64 rb) ∧ w'.cell? ⟨w3.heap.size + 1, 0, none⟩ = some (.int .i64 v0) ∧ w'.cell? ⟨w3.heap.size + 1, 1, none⟩ = some (.int .i64 v1) ∧ w3.heap.size + 1 < w'.heap.size) ((w3.alloc (.cells #[.int .i64 r0, .int .i64 r1, .int .i64 r2] 26)).alloc (.cells #[.int .i64 v0, .int .i64 v1] 44)) := ⟨q0, q1, q2, q3, q4, q5, q6, q7, by simp⟩
    go_region_held3 (fun w' => w'.cell? ⟨w.heap.size, 0, none⟩ = some (.int .i64 t0) ∧ w'.cell? ⟨w.heap.size, 1, none⟩ = some (.int .i64 t1) ∧ w'.cell? ⟨w.heap.size, 2, none⟩ = some (.int .i64 (l0 : Int)) ∧ w'.cell? ⟨w.heap.size, 3, none⟩ = some (.int .i64 (l1 : Int)) ∧ w'.cell? ⟨w3.heap.size, l0, none⟩ = some (.int .i64 ra) ∧ w'.cell? ⟨w3.heap.size, l1, none⟩ = some (.int .i64 rb) ∧ w'.cell? ⟨w3.heap.size + 1, 0, none⟩ = some (.int .i64 v0) ∧ w'.cell? ⟨w3.heap.size + 1, 1, none⟩ = some (.int .i64 v1) ∧ w3.heap.size + 1 < w'.heap.size) (first | exact S3 | (refine hk.out _ _ S3 ?_; repeat (first | with_reducible exact Below.refl _ _ | with_reducible refine Below.drew ?_ | with_reducible refine below_drewN ?_ _ | with_reducible refine Below.alloc ?_ (by first | omega | (simp <;> omega)) _ | with_reducible refine Below.setCell ?_ (by first | omega | (simp <;> omega)) _ | with_reducible refine Below.setCells ?_ | (refine Below.trans ?_ (hb4.mono (by first | omega | (simp <;> omega))))))) (first | (go_at_call 29; with_reducible refine (HJ.out _).mono ?_; rintro e w4 ⟨rfl, hb4⟩; have z4 := hb4.size; (try simp at z4); (try (have c4t := bstep (b := w3.heap.size + 1 + 1) hb4 (by first | omega | (simp <;> omega)); have f4t := bfro (b := w3.heap.size + 1 + 1) hb4 (by first | omega | (simp <;> omega)); have y4t : w3.heap.size + 1 + 1 < w4.heap.size := (by omega))); have H4 : Below w.heap.size w w4 := Below.trans (by repeat (first | with_reducible exact hB9 | with_reducible exact H4 | with_reducible refine Below.drew ?_ | with_reducible refine below_drewN ?_ _ | with_reducible refine Below.alloc ?_ (by first | omega | (simp <;> omega)) _ | with_reducible refine Below.setCell ?_ (by first | omega | (simp <;> omega)) _ | with_reducible exact Below.refl _ _)) (hb4.mono (by first | omega | (simp <;> omega))); have Y4 : w3.heap.size + 1 < w4.heap.size := (by first | omega | (simp at z4 <;> omega)); have K4 : Below ((w3.alloc (.cells #[.int .i64 r0, .int .i64 r1, .int .i64 r2] 26)).alloc (.cells #[.int .i64 v0, .int .i64 v1] 44)).heap.size ((w3.alloc (.cells #[.int .i64 r0, .int .i64 r1, .int .i64 r2] 26)).alloc (.cells #[.int .i64 v0, .int .i64 v1] 44)) w4 := Below.trans (by repeat (first | with_reducible exact Below.refl _ _ | with_reducible exact K4 | with_reducible refine Below.drew ?_ | with_reducible refine below_drewN ?_ _ | with_reducible refine Below.alloc ?_ (by first | omega | (simp <;> omega)) _ | with_reducible refine Below.setCell ?_ (by first | omega | (simp <;> omega)) _ | with_reducible exact Below.refl _ _)) (hb4.mono (by first | omega | (simp <;> omega)))))
    all_goals
      go_wp2
      go_meet
      exact ⟨rfl, ⟨_, rfl, by first | omega | (simp <;> omega), by go_simp, by go_simp, by go_simp⟩, by exact (by repeat (first | with_reducible exact K4 | with_reducible refine Below.drew ?_ | with_reducible refine below_drewN ?_ _ | with_reducible refine Below.alloc ?_ (by first | omega | (simp <;> omega)) _ | with_reducible refine Below.setCell ?_ (by first | omega | (simp <;> omega)) _ | with_reducible exact Below.refl _ _))⟩
  case rest =>
  obtain ⟨rfl, ⟨bj, rfl, ybj, u0, u1, u2⟩, HZ⟩ := hcut
  have yz := HZ.size
  have yz1 : w3.heap.size + 1 < ((w3.alloc (.cells #[.int .i64 r0, .int .i64 r1, .int .i64 r2] 26)).alloc (.cells #[.int .i64 v0, .int .i64 v1] 44)).heap.size := by simp
  have yz2 : w3.heap.size < wc.heap.size := by omega
  have yz3 : w3.heap.size + 1 < wc.heap.size := by omega
  have yz4 : w.heap.size < wc.heap.size := by omega
  have e2 := (HZ.cell (p := ⟨w.heap.size, 2, none⟩) (by show w.heap.size < ((w3.alloc (.cells #[.int .i64 r0, .int .i64 r1, .int .i64 r2] 26)).alloc (.cells #[.int .i64 v0, .int .i64 v1] 44)).heap.size; omega)).trans q2
  have e3 := (HZ.cell (p := ⟨w.heap.size, 3, none⟩) (by show w.heap.size < ((w3.alloc (.cells #[.int .i64 r0, .int .i64 r1, .int .i64 r2] 26)).alloc (.cells #[.int .i64 v0, .int .i64 v1] 44)).heap.size; omega)).trans q3
  have e4 := (HZ.cell (p := ⟨w3.heap.size, l0, none⟩) (by show w3.heap.size < ((w3.alloc (.cells #[.int .i64 r0, .int .i64 r1, .int .i64 r2] 26)).alloc (.cells #[.int .i64 v0, .int .i64 v1] 44)).heap.size; omega)).trans q4
  have e5 := (HZ.cell (p := ⟨w3.heap.size, l1, none⟩) (by show w3.heap.size < ((w3.alloc (.cells #[.int .i64 r0, .int .i64 r1, .int .i64 r2] 26)).alloc (.cells #[.int .i64 v0, .int .i64 v1] 44)).heap.size; omega)).trans q5
  have e6 := (HZ.cell (p := ⟨w3.heap.size + 1, 0, none⟩) (by show w3.heap.size + 1 < ((w3.alloc (.cells #[.int .i64 r0, .int .i64 r1, .int .i64 r2] 26)).alloc (.cells #[.int .i64 v0, .int .i64 v1] 44)).heap.size; omega)).trans q6
  have e7 := (HZ.cell (p := ⟨w3.heap.size + 1, 1, none⟩) (by show w3.heap.size + 1 < ((w3.alloc (.cells #[.int .i64 r0, .int .i64 r1, .int .i64 r2] 26)).alloc (.cells #[.int .i64 v0, .int .i64 v1] 44)).heap.size; omega)).trans q7
  have hrk := hide (fun k (hk : k < 3) => (HZ.cell (p := ⟨w3.heap.size, k, none⟩) hs9).trans (HR3.out k hk))
  have hjk := hide (cellI3 (b := bj) u0 u1 u2)
  have HW : Below w.heap.size w wc := hB9.trans (HZ.mono (by first | omega | (simp <;> omega)))
  clear q0 q1 q2 q3 q4 q5 q6 q7 HZ HR3 hs9 hB9 yz yz1
  have x0 := hjk.out l0 (by omega)
  have x1 := hjk.out l1 (by omega)
  have gj : IntKind.i64.wrap (j0 + j1) = j0 + j1 := IntWalk.i64_in _ (by omega)
  have gk : IntKind.i64.wrap (j0 + j1 + j2) = 0 := by rw [HS.out]; rfl
  obtain ⟨m0, hm0⟩ : ∃ m, max v0 (-v0) = m := ⟨_, rfl⟩
  obtain ⟨m1, hm1⟩ : ∃ m, max v1 (-v1) = m := ⟨_, rfl⟩
  have gn0 : IntKind.i64.wrap (-v0) = -v0 := IntWalk.i64_in _ (by omega)
  rw [hm0, hm1] at HD
  have k0 : 0 ≤ m0 ∧ m0 ≤ 32768 ∧ 0 ≤ m1 ∧ m1 ≤ 32768 := by omega
  have gm : IntKind.i64.wrap (m0 + m1) = m0 + m1 := IntWalk.i64_in _ (by omega)
  obtain ⟨k01, k02, k03, k04⟩ := k0
  generalize I3 j0 j1 j2 l0 = ja at x0 HE0
  generalize I3 j0 j1 j2 l1 = jb at x1 HE1
  go_upto_region 12 with fail
  clear u0 u1 u2 gj gk
  go_upto_region 13 with fail
  clear hm0 hm1 gm gn0
  go_wp2
  go_loopw [96] (fun i wr => ∃ k : Nat, k ≤ 3 ∧ i = .int .i64 (k : Int) ∧ Below wc.heap.size wc wr) (fun i _ => 3 - (intOf i).toNat)
  case atStart =>
    exact ⟨0, by omega, rfl, Below.refl _ _⟩
  case round =>
    rename World => wr
    obtain ⟨k, hk, rfl, HRR⟩ := hrel
    have hyr := HRR.size
    have yr1 : bj < wr.heap.size := by omega
    have yr2 : w3.heap.size < wr.heap.size := by omega
    have yr3 : w3.heap.size + 1 < wr.heap.size := by omega
    have yr4 : w.heap.size < wr.heap.size := by omega
    by_cases hlt : k < 3
    · have c1 := (HRR.cell (p := ⟨bj, k, none⟩) ybj).trans (hjk.out k hlt)
      have c2 := (HRR.cell (p := ⟨w3.heap.size, k, none⟩) yz2).trans (hrk.out k hlt)
      obtain ⟨f1, f2⟩ := HD.out k hlt
      have j1' : (0 : Int) ≤ (k : Int) := by omega
      have j2' : (k : Int) < 3 := by omega
      generalize I3 j0 j1 j2 k = jk at c1 f1 f2
      generalize I3 r0 r1 r2 k = rk at c2 f1 f2
      have h1 : IntKind.i64.wrap (jk - rk) = jk - rk := IntWalk.i64_in _ (by omega)
      have h2 : IntKind.i64.wrap (-(jk - rk)) = -(jk - rk) := IntWalk.i64_in _ (by omega)
      obtain ⟨D, hD⟩ : ∃ D, jk - rk = D := ⟨_, rfl⟩
      rw [hD] at h1 h2 f1 f2
      have f3 : ¬ m0 + m1 < D := by omega
      have f4 : ¬ m0 + m1 < -D := by omega
      rw [← hD] at h1
      rw [hD] at h1
      have h3 : IntKind.i64.wrap (jk - rk) = D := by rw [hD]; exact h1
      clear hD h1 f1 f2
      go_wp2
      go_quiet (fail)
      go_wp2
      go_roundw
      case rel => exact ⟨k + 1, by omega, by go_num, by exact (by repeat (first | with_reducible exact HRR | with_reducible refine Below.drew ?_ | with_reducible refine below_drewN ?_ _))⟩
      case measure => simp [intOf]; omega
    · have ek : k = 3 := by omega
      subst ek
      have s2 := (HRR.cell (p := ⟨w.heap.size, 2, none⟩) yz4).trans e2
      have s3 := (HRR.cell (p := ⟨w.heap.size, 3, none⟩) yz4).trans e3
      have s4 := (HRR.cell (p := ⟨w3.heap.size, l0, none⟩) yz2).trans e4
      have s5 := (HRR.cell (p := ⟨w3.heap.size, l1, none⟩) yz2).trans e5
      have s6 := (HRR.cell (p := ⟨w3.heap.size + 1, 0, none⟩) yz3).trans e6
      have s7 := (HRR.cell (p := ⟨w3.heap.size + 1, 1, none⟩) yz3).trans e7
      have s0 := (HRR.cell (p := ⟨bj, l0, none⟩) ybj).trans x0
      have s1 := (HRR.cell (p := ⟨bj, l1, none⟩) ybj).trans x1
      have g0 : IntKind.i64.wrap (ja - ra) = v0 := by rw [HE0.out]; exact gv0
      have g1 : IntKind.i64.wrap (jb - rb) = -v1 := by rw [HE1.out]; exact gn
      have HWR : Below w.heap.size w wr := HW.trans (HRR.mono (by omega))
      go_wp2
      go_quiet (fail)
      go_wp2
      go_ret
      exact ⟨by simp, by exact (by repeat (first | with_reducible exact HWR | with_reducible refine Below.drew ?_ | with_reducible refine below_drewN ?_ _))⟩

set_option maxHeartbeats 4000000 in
set_option maxRecDepth 100000 in
theorem shuntErrors_same (t0 t1 a0 a1 i0 i1 v0 v1 l : Int)
    (hA0 : ∀ W : World, Calls Try.prog 22 #[.int .i64 a0, .int .i64 0, .int .i64 2] W fun e w' => e = .returned (.int .i64 l) ∧ W = w')
    (hA1 : ∀ W : World, Calls Try.prog 22 #[.int .i64 a1, .int .i64 0, .int .i64 2] W fun e w' => e = .returned (.int .i64 l) ∧ W = w') (w : World) :
    Calls Try.prog 13 #[.agg #[.int .i64 t0, .int .i64 t1, .int .i64 a0, .int .i64 a1], .agg #[.int .i64 i0, .int .i64 i1], .agg #[.int .i16 v0, .int .i16 v1]] w fun e w' => e = .returned (.bool true) ∧ Below w.heap.size w w' := by
  have HA0 := hide hA0
  have HA1 := hide hA1
  clear hA0 hA1
  go_enter Try.func13, Try.ntmps13
  go_wp2_with (first
    | (go_at_call 39; refine (awake25_any _).mono ?_; rintro e w1 ⟨rfl, hb1⟩; have z1 := hb1.size; (try simp at z1); have c1x0 := bstep (b := w.heap.size) hb1 (by first | omega | (simp <;> omega)); have y1x0 : w.heap.size < w1.heap.size := (by omega); have c1x1 := bstep (b := w.heap.size + 1) hb1 (by first | omega | (simp <;> omega)); have y1x1 : w.heap.size + 1 < w1.heap.size := (by omega); have c1x2 := bstep (b := w.heap.size + 1 + 1) hb1 (by first | omega | (simp <;> omega)); have y1x2 : w.heap.size + 1 + 1 < w1.heap.size := (by omega); have f1x0 := bfro (b := w.heap.size) hb1 (by first | omega | (simp <;> omega)); have f1x1 := bfro (b := w.heap.size + 1) hb1 (by first | omega | (simp <;> omega)); have f1x2 := bfro (b := w.heap.size + 1 + 1) hb1 (by first | omega | (simp <;> omega)); have H1 : Below w.heap.size w w1 := Below.trans (by repeat (first | with_reducible assumption | with_reducible refine Below.drew ?_ | with_reducible refine below_drewN ?_ _ | with_reducible refine Below.alloc ?_ (by first | omega | (simp <;> omega)) _ | with_reducible refine Below.setCell ?_ (by first | omega | (simp <;> omega)) _ | with_reducible exact Below.refl _ _)) (hb1.mono (by first | omega | (simp <;> omega))); have x1d00 : w1.cell? ⟨w.heap.size, 0, none⟩ = some (.int .i64 t0) := (c1x0 0).trans (by go_simp); have x1d01 : w1.cell? ⟨w.heap.size, 1, none⟩ = some (.int .i64 t1) := (c1x0 1).trans (by go_simp); have x1d02 : w1.cell? ⟨w.heap.size, 2, none⟩ = some (.int .i64 a0) := (c1x0 2).trans (by go_simp); have x1d03 : w1.cell? ⟨w.heap.size, 3, none⟩ = some (.int .i64 a1) := (c1x0 3).trans (by go_simp); have x1d10 : w1.cell? ⟨w.heap.size + 1, 0, none⟩ = some (.int .i64 i0) := (c1x1 0).trans (by go_simp); have x1d11 : w1.cell? ⟨w.heap.size + 1, 1, none⟩ = some (.int .i64 i1) := (c1x1 1).trans (by go_simp); have x1d20 : w1.cell? ⟨w.heap.size + 1 + 1, 0, none⟩ = some (.int .i16 v0) := (c1x2 0).trans (by go_simp); have x1d21 : w1.cell? ⟨w.heap.size + 1 + 1, 1, none⟩ = some (.int .i16 v1) := (c1x2 1).trans (by go_simp); have x1f0 : ∀ o, w1.frozen? ⟨w.heap.size, o, none⟩ = false := fun o => (f1x0 o).trans (by go_simp); have x1f1 : ∀ o, w1.frozen? ⟨w.heap.size + 1, o, none⟩ = false := fun o => (f1x1 o).trans (by go_simp); have x1f2 : ∀ o, w1.frozen? ⟨w.heap.size + 1 + 1, o, none⟩ = false := fun o => (f1x2 o).trans (by go_simp); clear c1x0 c1x1 c1x2 f1x0 f1x1 f1x2)
    | (go_at_call 22; first | (with_reducible refine (HA0.out _).mono ?_; rintro e w8 ⟨rfl, rfl⟩) | (with_reducible refine (HA1.out _).mono ?_; rintro e w8 ⟨rfl, rfl⟩)))
  go_ret
  exact ⟨rfl, by exact (by repeat (first | with_reducible assumption | with_reducible refine Below.drew ?_ | with_reducible refine below_drewN ?_ _ | with_reducible refine Below.alloc ?_ (by first | omega | (simp <;> omega)) _ | with_reducible refine Below.setCell ?_ (by first | omega | (simp <;> omega)) _ | with_reducible exact Below.refl _ _))⟩
set_option maxRecDepth 100000 in
theorem shuntErrors_walk (t0 t1 a0 a1 i0 i1 v0 v1 : Int) (hv0 : -32768 ≤ v0 ∧ v0 ≤ 32768) (hv1 : -32768 ≤ v1 ∧ v1 ≤ 32768) (w : World) :
    Calls Try.prog 13 #[.agg #[.int .i64 t0, .int .i64 t1, .int .i64 a0, .int .i64 a1], .agg #[.int .i64 i0, .int .i64 i1], .agg #[.int .i16 v0, .int .i16 v1]] w fun e w' => e = .returned (.bool true) ∧ Below w.heap.size w w' := by
  have ceq : ∀ n lo hi : Int, ∀ W : World, Calls Try.prog 22 #[.int .i64 n, .int .i64 lo, .int .i64 hi] W fun e w' => e = .returned (.int .i64 (clip n lo hi)) ∧ W = w' := fun n lo hi W => (clip_any n lo hi W).mono fun _ _ ⟨a, b⟩ => ⟨a, b.symm⟩
  have hA0 := ceq a0 0 2
  have hA1 := ceq a1 0 2
  have b0 := clip_in (n := a0) (lo := 0) (hi := 2) (by decide)
  have b1 := clip_in (n := a1) (lo := 0) (hi := 2) (by decide)
  generalize clip a0 0 2 = x0 at hA0 b0
  generalize clip a1 0 2 = x1 at hA1 b1
  by_cases he : x0 = x1
  · subst he
    exact shuntErrors_same t0 t1 a0 a1 i0 i1 v0 v1 x0 hA0 hA1 w
  · obtain ⟨l0, rfl⟩ : ∃ l : Nat, x0 = (l : Int) := ⟨x0.toNat, by omega⟩
    obtain ⟨l1, rfl⟩ : ∃ l : Nat, x1 = (l : Int) := ⟨x1.toNat, by omega⟩
    have hC := currents_any i0 i1
    have ha := clip_in (n := i0) (lo := -268435456) (hi := 268435456) (by decide)
    have hb := clip_in (n := i1) (lo := -268435456) (hi := 268435456) (by decide)
    generalize clip i0 (-268435456) 268435456 = r0 at hC ha
    generalize clip i1 (-268435456) 268435456 = r1 at hC hb
    obtain ⟨r2, hr2⟩ : ∃ r, r = -r0 - r1 := ⟨_, rfl⟩
    rw [← hr2] at hC
    have hl0 : l0 = 0 ∨ l0 = 1 ∨ l0 = 2 := by omega
    have hl1 : l1 = 0 ∨ l1 = 1 ∨ l1 = 2 := by omega
    have key : ∀ ra rb j0 j1 j2 : Int, I3 r0 r1 r2 l0 = ra → I3 r0 r1 r2 l1 = rb → ((-536870912 ≤ ra ∧ ra ≤ 536870912) ∧ (-536870912 ≤ rb ∧ rb ≤ 536870912)) →
        (∀ i : Nat, i < 3 → I3 j0 j1 j2 i = if (i : Int) = (l0 : Int) then ra + v0 else if (i : Int) = (l1 : Int) then -(-rb + v1) else -rb + v1 - (ra + v0)) →
        ((-1073741824 ≤ j0 + j1 ∧ j0 + j1 ≤ 1073741824) ∧ j0 + j1 + j2 = 0) →
        (∀ k : Nat, k < 3 → -(max v0 (-v0) + max v1 (-v1)) ≤ I3 j0 j1 j2 k - I3 r0 r1 r2 k ∧ I3 j0 j1 j2 k - I3 r0 r1 r2 k ≤ max v0 (-v0) + max v1 (-v1)) →
        Calls Try.prog 13 #[.agg #[.int .i64 t0, .int .i64 t1, .int .i64 a0, .int .i64 a1], .agg #[.int .i64 i0, .int .i64 i1], .agg #[.int .i16 v0, .int .i16 v1]] w fun e w' => e = .returned (.bool true) ∧ Below w.heap.size w w' := by
      intro ra rb j0 j1 j2 k1 k2 k3 k4 k5 k6
      have hJ : ∀ W : World, Calls Try.prog 29 #[.agg #[.int .i64 t0, .int .i64 t1, .int .i64 (l0 : Int), .int .i64 (l1 : Int)], .agg #[.int .i64 (ra + v0), .int .i64 (-rb + v1)]] W fun e w' => e = .returned (.tuple #[.agg #[.int .i64 j0, .int .i64 j1, .int .i64 j2], .nilIface]) ∧ Below W.heap.size W w' := by
        intro W
        have hc : joinC (l0 : Int) (l1 : Int) (ra + v0) (-rb + v1) = 0 := by
          unfold joinC
          rw [if_pos ⟨by unfold leg02; omega, by unfold leg02; omega⟩, if_neg he, if_pos ⟨by unfold PM.small; omega, by unfold PM.small; omega⟩]
        have k := join_any t0 t1 (l0 : Int) (l1 : Int) (ra + v0) (-rb + v1) W
        have hO : ∀ i, joinO (l0 : Int) (l1 : Int) (ra + v0) (-rb + v1) i = if i = (l0 : Int) then ra + v0 else if i = (l1 : Int) then -(-rb + v1) else -rb + v1 - (ra + v0) := fun i => by unfold joinO; rw [if_pos hc]
        rw [hc, errV_zero, hO 0, hO 1, hO 2] at k
        have q0 : j0 = _ := k4 0 (by omega)
        have q1 : j1 = _ := k4 1 (by omega)
        have q2 : j2 = _ := k4 2 (by omega)
        rw [q0, q1, q2]
        exact k
      have e0 : I3 j0 j1 j2 l0 - ra = v0 := by rw [k4 l0 (by omega), if_pos rfl]; omega
      have e1 : I3 j0 j1 j2 l1 - rb = -v1 := by rw [k4 l1 (by omega), if_neg (fun h => he h.symm), if_pos rfl]; omega
      exact shuntErrors_core t0 t1 a0 a1 i0 i1 v0 v1 r0 r1 r2 j0 j1 j2 ra rb l0 l1 (by omega) (by omega) (fun h => he (by rw [h])) hv0 hv1 k1 k2 k3 k5 k6 e0 e1 hA0 hA1 hC hJ w
    have c3 : ∀ k : Nat, k < 3 → k = 0 ∨ k = 1 ∨ k = 2 := fun k hk => by omega
    rcases hl0 with rfl | rfl | rfl <;> rcases hl1 with rfl | rfl | rfl <;> first
      | (exact absurd rfl he)
      | (exact key r0 r1 (r0 + v0) (r1 - v1) (r2 + (v1 - v0)) rfl rfl ⟨by omega, by omega⟩ (fun i hi => by rcases c3 i hi with rfl | rfl | rfl <;> simp [I3] <;> omega) ⟨by omega, by omega⟩ (fun k hk => by rcases c3 k hk with rfl | rfl | rfl <;> simp only [I3] <;> simp <;> omega))
      | (exact key r0 r2 (r0 + v0) (r1 + (v1 - v0)) (r2 - v1) rfl rfl ⟨by omega, by omega⟩ (fun i hi => by rcases c3 i hi with rfl | rfl | rfl <;> simp [I3] <;> omega) ⟨by omega, by omega⟩ (fun k hk => by rcases c3 k hk with rfl | rfl | rfl <;> simp only [I3] <;> simp <;> omega))
      | (exact key r1 r0 (r0 - v1) (r1 + v0) (r2 + (v1 - v0)) rfl rfl ⟨by omega, by omega⟩ (fun i hi => by rcases c3 i hi with rfl | rfl | rfl <;> simp [I3] <;> omega) ⟨by omega, by omega⟩ (fun k hk => by rcases c3 k hk with rfl | rfl | rfl <;> simp only [I3] <;> simp <;> omega))
      | (exact key r1 r2 (r0 + (v1 - v0)) (r1 + v0) (r2 - v1) rfl rfl ⟨by omega, by omega⟩ (fun i hi => by rcases c3 i hi with rfl | rfl | rfl <;> simp [I3] <;> omega) ⟨by omega, by omega⟩ (fun k hk => by rcases c3 k hk with rfl | rfl | rfl <;> simp only [I3] <;> simp <;> omega))
      | (exact key r2 r0 (r0 - v1) (r1 + (v1 - v0)) (r2 + v0) rfl rfl ⟨by omega, by omega⟩ (fun i hi => by rcases c3 i hi with rfl | rfl | rfl <;> simp [I3] <;> omega) ⟨by omega, by omega⟩ (fun k hk => by rcases c3 k hk with rfl | rfl | rfl <;> simp only [I3] <;> simp <;> omega))
      | (exact key r2 r1 (r0 + (v1 - v0)) (r1 - v1) (r2 + v0) rfl rfl ⟨by omega, by omega⟩ (fun i hi => by rcases c3 i hi with rfl | rfl | rfl <;> simp [I3] <;> omega) ⟨by omega, by omega⟩ (fun k hk => by rcases c3 k hk with rfl | rfl | rfl <;> simp only [I3] <;> simp <;> omega))

set_option maxRecDepth 100000 in
theorem shuntErrors_lifted (os : Os) (started : os.Started) (H : Type) (enc : TypeId × Value → H) :
    ReturnsInHanded {} Try.checked os 13 .any (Rows.shuntErrorsSpec.pre6 enc Try.prog Try.f13 Rows.shuntErrorsRow.domain false) (Rows.shuntErrorsSpec.post enc Try.prog Try.f13 false true false false) := by
  refine lift (C := Try.checked) (s := Rows.shuntErrorsSpec) 4 Try.own started (by kernel_rfl) Try.func13 Try.laidOut rfl rfl Try.underlying4 (by kernel_rfl)
    (fun ds hds => by
      have hl : ds.length = 3 := hds
      match ds, hl with
      | [_, _, _], _ => rfl)
    (ChangeSpec.witness6 (enc := enc) (C := Try.checked) false ⟨#[], #[.agg #[.int .i64 0, .int .i64 0, .int .i64 0, .int .i64 0], .agg #[.int .i64 0, .int .i64 0], .agg #[.int .i16 0, .int .i16 0]], []⟩ 8 (by kernel_rfl) (by kernel_rfl) (by kernel_rfl) (by kernel_rfl)) ?_
  intro W base args ds p hval0 hA0
  have hval : ∀ (j : Nat) t v, Try.f13.params[j]? = some t → args[j]? = some v → Value.okWide Try.prog W .any base t v := hval0
  have hA : DataW.TrodAll enc Try.prog W 0 (fun _ => true) true Try.f13.params.toList args.toList ds p := hA0
  clear hval0 hA0
  rw [Try.params13] at hA hval
  obtain ⟨v0, vs0, d0, ds0, p0, q0, hargs, rfl, rfl, h0, r0⟩ := trodAll_cons hA
  obtain ⟨v1, vs1, d1, ds1, p1, q1, rfl, rfl, rfl, h1, r1⟩ := trodAll_cons r0
  obtain ⟨v2, vs2, d2, ds2, p2, q2, rfl, rfl, rfl, h2, r2⟩ := trodAll_cons r1
  obtain ⟨rfl, rfl, rfl⟩ := trodAll_nil r2
  obtain rfl : args = #[v0, v1, v2] := by cases args; simp_all
  obtain ⟨l0, rfl, g0⟩ := arg_struct 4 Try.underlying46 (ks := [some .i64, some .i64, some .i64, some .i64]) (by kernel_rfl) (hval 0 46 v0 rfl rfl) h0
  obtain ⟨_, _, rfl, ⟨s0, rfl, ws0⟩, g0x0⟩ := g0
  obtain ⟨_, _, rfl, ⟨s1, rfl, ws1⟩, g0x1⟩ := g0x0
  obtain ⟨_, _, rfl, ⟨s2, rfl, ws2⟩, g0x2⟩ := g0x1
  obtain ⟨_, _, rfl, ⟨s3, rfl, ws3⟩, g0x3⟩ := g0x2
  simp only [Fits] at g0x3
  subst g0x3
  obtain ⟨l1, rfl, g1⟩ := arg_array 4 Try.underlying44 (ks := [some .i64, some .i64]) (by kernel_rfl) (hval 1 44 v1 rfl rfl) h1
  obtain ⟨_, _, rfl, ⟨a0, rfl, wa0⟩, g1x0⟩ := g1
  obtain ⟨_, _, rfl, ⟨a1, rfl, wa1⟩, g1x1⟩ := g1x0
  simp only [Fits] at g1x1
  subst g1x1
  obtain ⟨l2, rfl, g2⟩ := arg_array 4 Try.underlying91 (ks := [some .i16, some .i16]) (by kernel_rfl) (hval 2 91 v2 rfl rfl) h2
  obtain ⟨_, _, rfl, ⟨v0, rfl, wv0⟩, g2x0⟩ := g2
  obtain ⟨_, _, rfl, ⟨v1, rfl, wv1⟩, g2x1⟩ := g2x0
  simp only [Fits] at g2x1
  subst g2x1
  have hx0 : -32768 ≤ v0 ∧ v0 ≤ 32767 := by simpa [Lit.wf, IntKind.min, IntKind.max, IntKind.signed, IntKind.bits] using wv0
  have hx1 : -32768 ≤ v1 ∧ v1 ≤ 32767 := by simpa [Lit.wf, IntKind.min, IntKind.max, IntKind.signed, IntKind.bits] using wv1
  exact shuntErrors_walk s0 s1 s2 s3 a0 a1 v0 v1 (by omega) (by omega) W

theorem j_lifts' (x : Bool) (h : x = Rows.patternMakesRow.lifted) : (x == Try.prog.liftsFinal) = true := by rw [h]; exact j_lifts
theorem j_make' (x) (h : x = Rows.patternMakesRow.make) : (Try.prog.make == some x) = true := by rw [h]; exact j_make
set_option maxHeartbeats 4000000 in
set_option maxRecDepth 100000 in
theorem shuntErrors_joined : joinedFacts Try.prog 13 Try.f13 Rows.shuntErrorsSpec Rows.shuntErrorsRow = true := by
  unfold joinedFacts
  repeat' (with_reducible refine and_split ?_ ?_)
  all_goals first | (with_reducible exact j_may) | (with_reducible refine j_lifts' _ ?_; rfl) | (with_reducible refine j_make' _ ?_; rfl) | (as_aux_lemma => kernel_rfl)

theorem shuntErrors_over : Rows.shuntErrorsRow.holds Try.pinned (OpenSpec.ofChange Rows.shuntErrorsSpec) :=
  OpenClaim.holds_of_wide 13 Try.f13 rfl rfl rfl rfl rfl rfl rfl ⟨rfl, rfl, rfl, rfl, rfl⟩ rfl rfl rfl rfl rfl (by kernel_rfl) Try.func13 shuntErrors_joined
    (of_decide_eq_true (by kernel_rfl)) (by unfold Func.isWrapper; first | (rw [if_pos (by decide +kernel)]; kernel_rfl) | (rw [if_neg (by decide +kernel)]; exact ⟨rfl, rfl⟩))
    (fun os started H enc _ => shuntErrors_lifted os started H enc)

theorem shuntErrors_holds : Rows.ShuntErrorsSaid := shuntErrors_over
#print axioms shuntErrors_holds
end Go.Proofs.Ytjeomdfcfbfebaa

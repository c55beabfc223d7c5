/- The walk of PatternEasy. No condition beyond those that a theorem names. -/
import Derived.Test.YtjeomdfcfbfebaaPatH
import Derived.Test.YtjeomdfcfbfebaaSpE
import Derived.Test.YtjeomdfcfbfebaaQTail
namespace Go.Proofs.Ytjeomdfcfbfebaa
open Go.RowKit PM

namespace PM
theorem easy_math {a b c T0 T1 T2 per least : Int} (h1 : 1 ≤ a) (h2 : a ≤ b) (h3 : b ≤ c) (hc : Pt.code ⟨⟨a, T0⟩, ⟨b, T1⟩, ⟨c, T2⟩⟩ per least = 0) (k0 : ¬ T0 < c) (k1 : ¬ T1 < c) (hp : 0 ≤ min (b - a) (c - b) ∧ min (b - a) (c - b) ≤ per) :
    spP ⟨⟨a, T0⟩, ⟨b, T1⟩, ⟨c, T2⟩⟩ per least (min (b - a) (c - b)) = ⟨⟨a, T0⟩, ⟨b, T1⟩, ⟨c, T2⟩⟩ ∧ spG ⟨⟨a, T0⟩, ⟨b, T1⟩, ⟨c, T2⟩⟩ per least (min (b - a) (c - b)) = true ∧ spE ⟨⟨a, T0⟩, ⟨b, T1⟩, ⟨c, T2⟩⟩ per least (min (b - a) (c - b)) = 0 := by
  obtain ⟨e1, e2, e3⟩ := sp_ok hc hp
  have ho : ordP ⟨⟨a, T0⟩, ⟨b, T1⟩, ⟨c, T2⟩⟩ = (0, 1, 2) := by
    show ordOf a b c = (0, 1, 2)
    unfold ordOf
    rw [if_neg (by omega), if_neg (by omega)]
  have hq : spOut ⟨⟨a, T0⟩, ⟨b, T1⟩, ⟨c, T2⟩⟩ (min (b - a) (c - b)) (0, 1, 2) = ⟨⟨a, T0⟩, ⟨b, T1⟩, ⟨c, T2⟩⟩ := by
    have g1 : ¬ 0 < lk ⟨⟨a, T0⟩, ⟨b, T1⟩, ⟨c, T2⟩⟩ (min (b - a) (c - b)) 0 1 := by
      show ¬ 0 < min (b - a) (c - b) - (b - a)
      omega
    have g2 : ¬ 0 < lk ⟨⟨a, T0⟩, ⟨b, T1⟩, ⟨c, T2⟩⟩ (min (b - a) (c - b)) 1 2 := by
      show ¬ 0 < min (b - a) (c - b) - (c - b)
      omega
    unfold spOut spC spB
    simp only
    rw [if_neg g2, if_neg g1]
  have hk : spOk ⟨⟨a, T0⟩, ⟨b, T1⟩, ⟨c, T2⟩⟩ ⟨⟨a, T0⟩, ⟨b, T1⟩, ⟨c, T2⟩⟩ per least (0, 1, 2) :=
    ⟨⟨⟨fun h => by have := h.1; simp only at this; omega, fun h => by have := h.1; simp only at this; omega⟩, ⟨fun h => by have := h.1; simp only at this; omega, fun h => by have := h.1; simp only at this; omega⟩, ⟨fun h => by have := h.1; simp only at this; omega, fun h => by have := h.1; simp only at this; omega⟩⟩, hc, k0, k1⟩
  rw [ho, hq] at e1 e2
  rw [if_pos hk] at e1
  rw [decide_eq_true hk] at e2
  exact ⟨e1, e2, e3⟩
end PM
set_option maxHeartbeats 16000000 in
set_option maxRecDepth 100000 in
theorem patternEasy_core (fr0 fr1 fr2 n0 n1 n2 per0 least0 per least E U0 U1 U2 N0 N1 N2 a b c T0 T1 T2 : Int) (hr : okRng per least)
    (hF : ∀ W : World, Calls Try.prog 33 #[.agg #[.int .i64 per0, .int .i64 least0]] W fun e w' => e = .returned (.agg #[.int .i64 per, .int .i64 least]) ∧ Below W.heap.size W w')
    (hE : per / 8 = E) (hU0 : fr0.tmod E = U0) (hU1 : fr1.tmod E = U1) (hU2 : fr2.tmod E = U2) (hN0 : n0.tmod E = N0) (hN1 : n1.tmod E = N1) (hN2 : n2.tmod E = N2)
    (ru0 : 0 ≤ fr0 ∧ fr0 ≤ 65535) (ru1 : 0 ≤ fr1 ∧ fr1 ≤ 65535) (ru2 : 0 ≤ fr2 ∧ fr2 ≤ 65535) (rn0 : 0 ≤ n0 ∧ n0 ≤ 65535) (rn1 : 0 ≤ n1 ∧ n1 ≤ 65535) (rn2 : 0 ≤ n2 ∧ n2 ≤ 65535)
    (qu0 : 0 ≤ U0 ∧ U0 < E) (qu1 : 0 ≤ U1 ∧ U1 < E) (qu2 : 0 ≤ U2 ∧ U2 < E) (qn0 : 0 ≤ N0 ∧ N0 < E) (qn1 : 0 ≤ N1 ∧ N1 < E) (qn2 : 0 ≤ N2 ∧ N2 < E)
    (ha : least + U0 = a) (hb : a + U1 = b) (hc : b + U2 = c)
    (hT0 : min (max (c + 1) (a + least) + N0) (per - least) = T0) (hT1 : min (max (c + 1) (b + least) + N1) (per - least) = T1) (hT2 : min (c + max 1 least + N2) (per - least) = T2) (w : World) :
    Calls Try.prog 18 #[.agg #[.int .u16 fr0, .int .u16 fr1, .int .u16 fr2], .agg #[.int .u16 n0, .int .u16 n1, .int .u16 n2], .agg #[.int .i64 per0, .int .i64 least0]] w fun e w' => e = .returned (.bool true) ∧ Below w.heap.size w w' := by
  have HF := hide hF
  have HC := hide (fun W => check_any ⟨⟨a, T0⟩, ⟨b, T1⟩, ⟨c, T2⟩⟩ per least W)
  have HS := hide (fun W => spread_any ⟨⟨a, T0⟩, ⟨b, T1⟩, ⟨c, T2⟩⟩ per least (min (b - a) (c - b)) W)
  obtain ⟨⟨p1, p2⟩, p3, p4⟩ := hr
  have hM := hide (easy_math (a := a) (b := b) (c := c) (T0 := T0) (T1 := T1) (T2 := T2) (per := per) (least := least) (by omega) (by omega) (by omega))
  have e1 : 8 ≤ E ∧ E ≤ 512 := by omega
  obtain ⟨e1, e2⟩ := e1
  obtain ⟨hu01, hu02⟩ := ru0
  obtain ⟨hu11, hu12⟩ := ru1
  obtain ⟨hu21, hu22⟩ := ru2
  obtain ⟨hn01, hn02⟩ := rn0
  obtain ⟨hn11, hn12⟩ := rn1
  obtain ⟨hn21, hn22⟩ := rn2
  obtain ⟨hU01x, hU02x⟩ := qu0
  obtain ⟨hU11x, hU12x⟩ := qu1
  obtain ⟨hU21x, hU22x⟩ := qu2
  obtain ⟨hN01x, hN02x⟩ := qn0
  obtain ⟨hN11x, hN12x⟩ := qn1
  obtain ⟨hN21x, hN22x⟩ := qn2
  have gE : per.tdiv 8 = E := by rw [Int.tdiv_eq_ediv_of_nonneg (by omega)]; exact hE
  have gE' : IntKind.i64.wrap E = E := IntWalk.i64_in _ (by omega)
  have gz : ¬ E = 0 := by omega
  have gfr0 : IntKind.i64.wrap fr0 = fr0 := IntWalk.i64_in _ (by omega)
  have gU0 : IntKind.i64.wrap U0 = U0 := IntWalk.i64_in _ (by omega)
  have gfr1 : IntKind.i64.wrap fr1 = fr1 := IntWalk.i64_in _ (by omega)
  have gU1 : IntKind.i64.wrap U1 = U1 := IntWalk.i64_in _ (by omega)
  have gfr2 : IntKind.i64.wrap fr2 = fr2 := IntWalk.i64_in _ (by omega)
  have gU2 : IntKind.i64.wrap U2 = U2 := IntWalk.i64_in _ (by omega)
  have gn0 : IntKind.i64.wrap n0 = n0 := IntWalk.i64_in _ (by omega)
  have gN0 : IntKind.i64.wrap N0 = N0 := IntWalk.i64_in _ (by omega)
  have gn1 : IntKind.i64.wrap n1 = n1 := IntWalk.i64_in _ (by omega)
  have gN1 : IntKind.i64.wrap N1 = N1 := IntWalk.i64_in _ (by omega)
  have gn2 : IntKind.i64.wrap n2 = n2 := IntWalk.i64_in _ (by omega)
  have gN2 : IntKind.i64.wrap N2 = N2 := IntWalk.i64_in _ (by omega)
  have ga : IntKind.i64.wrap (least + U0) = a := by rw [ha]; exact IntWalk.i64_in _ (by omega)
  have gb : IntKind.i64.wrap (a + U1) = b := by rw [hb]; exact IntWalk.i64_in _ (by omega)
  have gc : IntKind.i64.wrap (b + U2) = c := by rw [hc]; exact IntWalk.i64_in _ (by omega)
  have gc1 : IntKind.i64.wrap (c + 1) = c + 1 := IntWalk.i64_in _ (by omega)
  have gpl : IntKind.i64.wrap (per - least) = per - least := IntWalk.i64_in _ (by omega)
  have gf0 : IntKind.i64.wrap (a + least) = a + least := IntWalk.i64_in _ (by omega)
  have gm0 : IntKind.i64.wrap (max (c + 1) (a + least) + N0) = max (c + 1) (a + least) + N0 := IntWalk.i64_in _ (by omega)
  have gf1 : IntKind.i64.wrap (b + least) = b + least := IntWalk.i64_in _ (by omega)
  have gm1 : IntKind.i64.wrap (max (c + 1) (b + least) + N1) = max (c + 1) (b + least) + N1 := IntWalk.i64_in _ (by omega)
  have gm3 : IntKind.i64.wrap (c + max 1 least + N2) = c + max 1 least + N2 := IntWalk.i64_in _ (by omega)
  have gf2 : IntKind.i64.wrap (c + least) = c + least := IntWalk.i64_in _ (by omega)
  have gm2 : IntKind.i64.wrap (max (c + 1) (c + least) + N2) = max (c + 1) (c + least) + N2 := IntWalk.i64_in _ (by omega)
  have gba : IntKind.i64.wrap (b - a) = b - a := IntWalk.i64_in _ (by omega)
  have gcb : IntKind.i64.wrap (c - b) = c - b := IntWalk.i64_in _ (by omega)
  have hpn := hide (show 0 ≤ min (b - a) (c - b) ∧ min (b - a) (c - b) ≤ per by omega)
  clear hF hE ha hb hc e1 e2
  go_enter Try.func18, Try.ntmps18
  go_upto_region 4 with (first
    | (go_at_call 30; refine (awake_any _).mono ?_; rintro e w1 ⟨rfl, hb1⟩; have z1 := hb1.size; (try simp at z1); have c1x0 := bstep (b := w.heap.size) hb1 (by first | omega | (simp <;> omega)); have y1x0 : w.heap.size < w1.heap.size := (by omega); have c1x1 := bstep (b := w.heap.size + 1) hb1 (by first | omega | (simp <;> omega)); have y1x1 : w.heap.size + 1 < w1.heap.size := (by omega); have c1x2 := bstep (b := w.heap.size + 1 + 1) hb1 (by first | omega | (simp <;> omega)); have y1x2 : w.heap.size + 1 + 1 < w1.heap.size := (by omega); have f1x0 := bfro (b := w.heap.size) hb1 (by first | omega | (simp <;> omega)); have f1x1 := bfro (b := w.heap.size + 1) hb1 (by first | omega | (simp <;> omega)); have f1x2 := bfro (b := w.heap.size + 1 + 1) hb1 (by first | omega | (simp <;> omega)); have H1 : Below w.heap.size w w1 := Below.trans (by repeat (first | with_reducible assumption | with_reducible refine Below.drew ?_ | with_reducible refine below_drewN ?_ _ | with_reducible refine Below.alloc ?_ (by first | omega | (simp <;> omega)) _ | with_reducible refine Below.setCell ?_ (by first | omega | (simp <;> omega)) _ | with_reducible exact Below.refl _ _)) (hb1.mono (by first | omega | (simp <;> omega))); have x1d00 : w1.cell? ⟨w.heap.size, 0, none⟩ = some (.int .u16 fr0) := (c1x0 0).trans (by go_simp); have x1d01 : w1.cell? ⟨w.heap.size, 1, none⟩ = some (.int .u16 fr1) := (c1x0 1).trans (by go_simp); have x1d02 : w1.cell? ⟨w.heap.size, 2, none⟩ = some (.int .u16 fr2) := (c1x0 2).trans (by go_simp); have x1d10 : w1.cell? ⟨w.heap.size + 1, 0, none⟩ = some (.int .u16 n0) := (c1x1 0).trans (by go_simp); have x1d11 : w1.cell? ⟨w.heap.size + 1, 1, none⟩ = some (.int .u16 n1) := (c1x1 1).trans (by go_simp); have x1d12 : w1.cell? ⟨w.heap.size + 1, 2, none⟩ = some (.int .u16 n2) := (c1x1 2).trans (by go_simp); have x1d20 : w1.cell? ⟨w.heap.size + 1 + 1, 0, none⟩ = some (.int .i64 per0) := (c1x2 0).trans (by go_simp); have x1d21 : w1.cell? ⟨w.heap.size + 1 + 1, 1, none⟩ = some (.int .i64 least0) := (c1x2 1).trans (by go_simp); have x1f2 : ∀ o, w1.frozen? ⟨w.heap.size + 1 + 1, o, none⟩ = false := fun o => (f1x2 o).trans (by go_simp); clear c1x0 c1x1 c1x2 f1x0 f1x1 f1x2)
    | (go_at_call 33; refine (HF.out _).mono ?_; rintro e w2 ⟨rfl, hb2⟩; have z2 := hb2.size; (try simp at z2); have c2x0 := bstep (b := w.heap.size) hb2 (by first | omega | (simp <;> omega)); have y2x0 : w.heap.size < w2.heap.size := (by omega); have c2x1 := bstep (b := w.heap.size + 1) hb2 (by first | omega | (simp <;> omega)); have y2x1 : w.heap.size + 1 < w2.heap.size := (by omega); have c2x2 := bstep (b := w.heap.size + 1 + 1) hb2 (by first | omega | (simp <;> omega)); have y2x2 : w.heap.size + 1 + 1 < w2.heap.size := (by omega); have f2x0 := bfro (b := w.heap.size) hb2 (by first | omega | (simp <;> omega)); have f2x1 := bfro (b := w.heap.size + 1) hb2 (by first | omega | (simp <;> omega)); have f2x2 := bfro (b := w.heap.size + 1 + 1) hb2 (by first | omega | (simp <;> omega)); have H2 : Below w.heap.size w w2 := Below.trans (by repeat (first | with_reducible assumption | with_reducible refine Below.drew ?_ | with_reducible refine below_drewN ?_ _ | with_reducible refine Below.alloc ?_ (by first | omega | (simp <;> omega)) _ | with_reducible refine Below.setCell ?_ (by first | omega | (simp <;> omega)) _ | with_reducible exact Below.refl _ _)) (hb2.mono (by first | omega | (simp <;> omega))); have x2d00 : w2.cell? ⟨w.heap.size, 0, none⟩ = some (.int .u16 fr0) := (c2x0 0).trans (by go_simp); have x2d01 : w2.cell? ⟨w.heap.size, 1, none⟩ = some (.int .u16 fr1) := (c2x0 1).trans (by go_simp); have x2d02 : w2.cell? ⟨w.heap.size, 2, none⟩ = some (.int .u16 fr2) := (c2x0 2).trans (by go_simp); have x2d10 : w2.cell? ⟨w.heap.size + 1, 0, none⟩ = some (.int .u16 n0) := (c2x1 0).trans (by go_simp); have x2d11 : w2.cell? ⟨w.heap.size + 1, 1, none⟩ = some (.int .u16 n1) := (c2x1 1).trans (by go_simp); have x2d12 : w2.cell? ⟨w.heap.size + 1, 2, none⟩ = some (.int .u16 n2) := (c2x1 2).trans (by go_simp); have x2d20 : w2.cell? ⟨w.heap.size + 1 + 1, 0, none⟩ = some (.int .i64 per0) := (c2x2 0).trans (by go_simp); have x2d21 : w2.cell? ⟨w.heap.size + 1 + 1, 1, none⟩ = some (.int .i64 least0) := (c2x2 1).trans (by go_simp); have x2f2 : ∀ o, w2.frozen? ⟨w.heap.size + 1 + 1, o, none⟩ = false := fun o => (f2x2 o).trans (by go_simp); clear c2x0 c2x1 c2x2 f2x0 f2x1 f2x2))
  have HB : Below w.heap.size w ((w2.setCell ⟨w.heap.size + 1 + 1, 0, none⟩ (.int .i64 per)).setCell ⟨w.heap.size + 1 + 1, 1, none⟩ (.int .i64 least)) := by exact (by repeat (first | with_reducible assumption | with_reducible refine Below.drew ?_ | with_reducible refine below_drewN ?_ _ | with_reducible refine Below.alloc ?_ (by first | omega | (simp <;> omega)) _ | with_reducible refine Below.setCell ?_ (by first | omega | (simp <;> omega)) _ | with_reducible exact Below.refl _ _))
  have yb : w.heap.size + 1 + 1 < ((w2.setCell ⟨w.heap.size + 1 + 1, 0, none⟩ (.int .i64 per)).setCell ⟨w.heap.size + 1 + 1, 1, none⟩ (.int .i64 least)).heap.size := by simp <;> omega
  have q0 : ((w2.setCell ⟨w.heap.size + 1 + 1, 0, none⟩ (.int .i64 per)).setCell ⟨w.heap.size + 1 + 1, 1, none⟩ (.int .i64 least)).cell? ⟨w.heap.size, 0, none⟩ = some (.int .u16 fr0) := by go_simp
  have q1 : ((w2.setCell ⟨w.heap.size + 1 + 1, 0, none⟩ (.int .i64 per)).setCell ⟨w.heap.size + 1 + 1, 1, none⟩ (.int .i64 least)).cell? ⟨w.heap.size, 1, none⟩ = some (.int .u16 fr1) := by go_simp
  have q2 : ((w2.setCell ⟨w.heap.size + 1 + 1, 0, none⟩ (.int .i64 per)).setCell ⟨w.heap.size + 1 + 1, 1, none⟩ (.int .i64 least)).cell? ⟨w.heap.size, 2, none⟩ = some (.int .u16 fr2) := by go_simp
  have q3 : ((w2.setCell ⟨w.heap.size + 1 + 1, 0, none⟩ (.int .i64 per)).setCell ⟨w.heap.size + 1 + 1, 1, none⟩ (.int .i64 least)).cell? ⟨w.heap.size + 1, 0, none⟩ = some (.int .u16 n0) := by go_simp
  have q4 : ((w2.setCell ⟨w.heap.size + 1 + 1, 0, none⟩ (.int .i64 per)).setCell ⟨w.heap.size + 1 + 1, 1, none⟩ (.int .i64 least)).cell? ⟨w.heap.size + 1, 1, none⟩ = some (.int .u16 n1) := by go_simp
  have q5 : ((w2.setCell ⟨w.heap.size + 1 + 1, 0, none⟩ (.int .i64 per)).setCell ⟨w.heap.size + 1 + 1, 1, none⟩ (.int .i64 least)).cell? ⟨w.heap.size + 1, 2, none⟩ = some (.int .u16 n2) := by go_simp
  have q6 : ((w2.setCell ⟨w.heap.size + 1 + 1, 0, none⟩ (.int .i64 per)).setCell ⟨w.heap.size + 1 + 1, 1, none⟩ (.int .i64 least)).cell? ⟨w.heap.size + 1 + 1, 0, none⟩ = some (.int .i64 per) := by go_simp
  have q7 : ((w2.setCell ⟨w.heap.size + 1 + 1, 0, none⟩ (.int .i64 per)).setCell ⟨w.heap.size + 1 + 1, 1, none⟩ (.int .i64 least)).cell? ⟨w.heap.size + 1 + 1, 1, none⟩ = some (.int .i64 least) := by go_simp
  clear x1d00 x1d01 x1d02 x1d10 x1d11 x1d12 x1d20 x1d21 x2d00 x2d01 x2d02 x2d10 x2d11 x2d12 x2d20 x2d21 x1f2 x2f2
  generalize ((w2.setCell ⟨w.heap.size + 1 + 1, 0, none⟩ (.int .i64 per)).setCell ⟨w.heap.size + 1 + 1, 1, none⟩ (.int .i64 least)) = wb at HB yb q0 q1 q2 q3 q4 q5 q6 q7 ⊢
  have yb1 : w.heap.size + 1 < wb.heap.size := by omega
  have yb2 : w.heap.size < wb.heap.size := by omega
  go_cut [7] (fun s wz => s = .int .i64 a ∧ Below wb.heap.size wb wz)
  case first =>
    go_quiet (fail)
    go_wp2
    go_meet
    exact ⟨rfl, by repeat (first | with_reducible exact Below.refl _ _ | with_reducible refine Below.drew ?_ | with_reducible refine below_drewN ?_ _)⟩
  case rest =>
  obtain ⟨rfl, HX⟩ := hcut
  have yx := HX.size
  replace q0 := (HX.cell (p := ⟨w.heap.size, 0, none⟩) (by show w.heap.size < wb.heap.size; omega)).trans q0
  replace q1 := (HX.cell (p := ⟨w.heap.size, 1, none⟩) (by show w.heap.size < wb.heap.size; omega)).trans q1
  replace q2 := (HX.cell (p := ⟨w.heap.size, 2, none⟩) (by show w.heap.size < wb.heap.size; omega)).trans q2
  replace q3 := (HX.cell (p := ⟨w.heap.size + 1, 0, none⟩) (by show w.heap.size + 1 < wb.heap.size; omega)).trans q3
  replace q4 := (HX.cell (p := ⟨w.heap.size + 1, 1, none⟩) (by show w.heap.size + 1 < wb.heap.size; omega)).trans q4
  replace q5 := (HX.cell (p := ⟨w.heap.size + 1, 2, none⟩) (by show w.heap.size + 1 < wb.heap.size; omega)).trans q5
  replace q6 := (HX.cell (p := ⟨w.heap.size + 1 + 1, 0, none⟩) (by show w.heap.size + 1 + 1 < wb.heap.size; omega)).trans q6
  replace q7 := (HX.cell (p := ⟨w.heap.size + 1 + 1, 1, none⟩) (by show w.heap.size + 1 + 1 < wb.heap.size; omega)).trans q7
  have HW : Below w.heap.size w wc := HB.trans (HX.mono (by omega))
  have yw : w.heap.size + 1 + 1 < wc.heap.size := by omega
  have yw1 : w.heap.size + 1 < wc.heap.size := by omega
  have yw2 : w.heap.size < wc.heap.size := by omega
  clear HX HB yx yb yb1 yb2
  go_wp2
  refine wp_loop_rounds 4 ?_
  rw [rounds_succ]
  go_wp2
  refine region_quiet_tail 28 (by kernel_rfl) (by kernel_rfl) ?_
  simp only [List.take_succ_cons, List.take_zero, List.drop_succ_cons, List.drop_zero]
  repeat (first | go_big_quiet_skip | (go_big_quiet_want; go_big_quiet_op; go_big_quiet_on))
  refine wpQuiet_nil ?_
  go_wp2
  rw [rounds_succ]
  go_wp2
  refine region_quiet_tail 28 (by kernel_rfl) (by kernel_rfl) ?_
  simp only [List.take_succ_cons, List.take_zero, List.drop_succ_cons, List.drop_zero]
  repeat (first | go_big_quiet_skip | (go_big_quiet_want; go_big_quiet_op; go_big_quiet_on))
  refine wpQuiet_nil ?_
  go_wp2
  rw [rounds_succ]
  go_wp2
  refine region_quiet_tail 28 (by kernel_rfl) (by kernel_rfl) ?_
  simp only [List.take_succ_cons, List.take_zero, List.drop_succ_cons, List.drop_zero]
  repeat (first | go_big_quiet_skip | (go_big_quiet_want; go_big_quiet_op; go_big_quiet_on))
  refine wpQuiet_nil ?_
  go_wp2
  rw [rounds_succ]
  go_upto_region 13 with fail
  have H13 : Below w.heap.size w ((wc.alloc (.cells #[.int .i64 a, .int .i64 T0, .int .i64 b, .int .i64 T1, .int .i64 c, .int .i64 T2] 39)).drew.drew.drew) := by exact (by repeat (first | with_reducible assumption | with_reducible refine Below.drew ?_ | with_reducible refine below_drewN ?_ _ | with_reducible refine Below.alloc ?_ (by first | omega | (simp <;> omega)) _ | with_reducible refine Below.setCell ?_ (by first | omega | (simp <;> omega)) _ | with_reducible exact Below.refl _ _))
  have P0 : ((wc.alloc (.cells #[.int .i64 a, .int .i64 T0, .int .i64 b, .int .i64 T1, .int .i64 c, .int .i64 T2] 39)).drew.drew.drew).cell? ⟨wc.heap.size, 0, none⟩ = some (.int .i64 a) := by go_simp
  have P1 : ((wc.alloc (.cells #[.int .i64 a, .int .i64 T0, .int .i64 b, .int .i64 T1, .int .i64 c, .int .i64 T2] 39)).drew.drew.drew).cell? ⟨wc.heap.size, 1, none⟩ = some (.int .i64 T0) := by go_simp
  have P2 : ((wc.alloc (.cells #[.int .i64 a, .int .i64 T0, .int .i64 b, .int .i64 T1, .int .i64 c, .int .i64 T2] 39)).drew.drew.drew).cell? ⟨wc.heap.size, 2, none⟩ = some (.int .i64 b) := by go_simp
  have P3 : ((wc.alloc (.cells #[.int .i64 a, .int .i64 T0, .int .i64 b, .int .i64 T1, .int .i64 c, .int .i64 T2] 39)).drew.drew.drew).cell? ⟨wc.heap.size, 3, none⟩ = some (.int .i64 T1) := by go_simp
  have P4 : ((wc.alloc (.cells #[.int .i64 a, .int .i64 T0, .int .i64 b, .int .i64 T1, .int .i64 c, .int .i64 T2] 39)).drew.drew.drew).cell? ⟨wc.heap.size, 4, none⟩ = some (.int .i64 c) := by go_simp
  have P5 : ((wc.alloc (.cells #[.int .i64 a, .int .i64 T0, .int .i64 b, .int .i64 T1, .int .i64 c, .int .i64 T2] 39)).drew.drew.drew).cell? ⟨wc.heap.size, 5, none⟩ = some (.int .i64 T2) := by go_simp
  have R0 : ((wc.alloc (.cells #[.int .i64 a, .int .i64 T0, .int .i64 b, .int .i64 T1, .int .i64 c, .int .i64 T2] 39)).drew.drew.drew).cell? ⟨w.heap.size + 1 + 1, 0, none⟩ = some (.int .i64 per) := by go_simp
  have R1 : ((wc.alloc (.cells #[.int .i64 a, .int .i64 T0, .int .i64 b, .int .i64 T1, .int .i64 c, .int .i64 T2] 39)).drew.drew.drew).cell? ⟨w.heap.size + 1 + 1, 1, none⟩ = some (.int .i64 least) := by go_simp
  have Y0 : wc.heap.size < ((wc.alloc (.cells #[.int .i64 a, .int .i64 T0, .int .i64 b, .int .i64 T1, .int .i64 c, .int .i64 T2] 39)).drew.drew.drew).heap.size := by simp
  have Y1 : w.heap.size + 1 + 1 < ((wc.alloc (.cells #[.int .i64 a, .int .i64 T0, .int .i64 b, .int .i64 T1, .int .i64 c, .int .i64 T2] 39)).drew.drew.drew).heap.size := by simp <;> omega
  generalize (wc.alloc (.cells #[.int .i64 a, .int .i64 T0, .int .i64 b, .int .i64 T1, .int .i64 c, .int .i64 T2] 39)).drew.drew.drew = w13 at H13 P0 P1 P2 P3 P4 P5 R0 R1 Y0 Y1 ⊢
  clear q0 q1 q2 q3 q4 q5 q6 q7 HW hT0 hT1 hT2 hU0 hU1 hU2 hN0 hN1 hN2 gE gE' gz ga gb gc gc1 gpl gf0 gf1 gf2 gm0 gm1 gm2 gm3 gfr0 gfr1 gfr2 gn0 gn1 gn2 gU0 gU1 gU2 gN0 gN1 gN2
  clear hu01 hu02 hu11 hu12 hu21 hu22 hn01 hn02 hn11 hn12 hn21 hn22 hU01x hU02x hU11x hU12x hU21x hU22x hN01x hN02x hN11x hN12x hN21x hN22x
  generalize wc.heap.size = b10 at P0 P1 P2 P3 P4 P5 Y0 ⊢
  by_cases hc : Pt.code ⟨⟨a, T0⟩, ⟨b, T1⟩, ⟨c, T2⟩⟩ per least = 0
  · by_cases k0 : T0 < c
    · rw [hc, errV_zero] at HC
      clear hc
      go_wp2_with (go_at_call 36; with_reducible refine (HC.out _).mono ?_; rintro e w5 ⟨rfl, hb5⟩; have z5 := hb5.size; (try simp at z5); have c5x0 := bstep (b := w.heap.size + 1 + 1) hb5 (by first | omega | (simp <;> omega)); have y5x0 : w.heap.size + 1 + 1 < w5.heap.size := (by omega); have c5x1 := bstep (b := b10) hb5 (by first | omega | (simp <;> omega)); have y5x1 : b10 < w5.heap.size := (by omega); have H5 : Below w.heap.size w w5 := Below.trans (by repeat (first | with_reducible assumption | with_reducible refine Below.drew ?_ | with_reducible refine below_drewN ?_ _ | with_reducible refine Below.alloc ?_ (by first | omega | (simp <;> omega)) _ | with_reducible refine Below.setCell ?_ (by first | omega | (simp <;> omega)) _ | with_reducible exact Below.refl _ _)) (hb5.mono (by first | omega | (simp <;> omega))))
      go_ret
      exact ⟨by simp, by exact (by repeat (first | with_reducible assumption | with_reducible refine Below.drew ?_ | with_reducible refine below_drewN ?_ _ | with_reducible refine Below.alloc ?_ (by first | omega | (simp <;> omega)) _ | with_reducible refine Below.setCell ?_ (by first | omega | (simp <;> omega)) _ | with_reducible exact Below.refl _ _))⟩
    · replace k0 : c ≤ T0 := by omega
      by_cases k1 : T1 < c
      · rw [hc, errV_zero] at HC
        clear hc
        go_wp2_with (go_at_call 36; with_reducible refine (HC.out _).mono ?_; rintro e w5 ⟨rfl, hb5⟩; have z5 := hb5.size; (try simp at z5); have c5x0 := bstep (b := w.heap.size + 1 + 1) hb5 (by first | omega | (simp <;> omega)); have y5x0 : w.heap.size + 1 + 1 < w5.heap.size := (by omega); have c5x1 := bstep (b := b10) hb5 (by first | omega | (simp <;> omega)); have y5x1 : b10 < w5.heap.size := (by omega); have H5 : Below w.heap.size w w5 := Below.trans (by repeat (first | with_reducible assumption | with_reducible refine Below.drew ?_ | with_reducible refine below_drewN ?_ _ | with_reducible refine Below.alloc ?_ (by first | omega | (simp <;> omega)) _ | with_reducible refine Below.setCell ?_ (by first | omega | (simp <;> omega)) _ | with_reducible exact Below.refl _ _)) (hb5.mono (by first | omega | (simp <;> omega))))
        go_ret
        exact ⟨by simp, by exact (by repeat (first | with_reducible assumption | with_reducible refine Below.drew ?_ | with_reducible refine below_drewN ?_ _ | with_reducible refine Below.alloc ?_ (by first | omega | (simp <;> omega)) _ | with_reducible refine Below.setCell ?_ (by first | omega | (simp <;> omega)) _ | with_reducible exact Below.refl _ _))⟩
      · replace k1 : c ≤ T1 := by omega
        obtain ⟨r1, r2, r3⟩ := hM.out hc (by omega) (by omega) hpn.out
        rw [hc, errV_zero] at HC
        rw [r1, r2, r3, errV_zero] at HS
        clear hc r1 r2 r3
        go_wp2_with (first | (go_at_call 36; with_reducible refine (HC.out _).mono ?_; rintro e w5 ⟨rfl, hb5⟩; have z5 := hb5.size; (try simp at z5); have c5x0 := bstep (b := w.heap.size + 1 + 1) hb5 (by first | omega | (simp <;> omega)); have y5x0 : w.heap.size + 1 + 1 < w5.heap.size := (by omega); have c5x1 := bstep (b := b10) hb5 (by first | omega | (simp <;> omega)); have y5x1 : b10 < w5.heap.size := (by omega); have H5 : Below w.heap.size w w5 := Below.trans (by repeat (first | with_reducible assumption | with_reducible refine Below.drew ?_ | with_reducible refine below_drewN ?_ _ | with_reducible refine Below.alloc ?_ (by first | omega | (simp <;> omega)) _ | with_reducible refine Below.setCell ?_ (by first | omega | (simp <;> omega)) _ | with_reducible exact Below.refl _ _)) (hb5.mono (by first | omega | (simp <;> omega)))) | (go_at_call 26; with_reducible refine (HS.out _).mono ?_; rintro e w6 ⟨rfl, hb6⟩; have z6 := hb6.size; (try simp at z6); have c6x1 := bstep (b := b10) hb6 (by first | omega | (simp <;> omega)); have y6x1 : b10 < w6.heap.size := (by omega); have H6 : Below w.heap.size w w6 := Below.trans (by repeat (first | with_reducible assumption | with_reducible refine Below.drew ?_ | with_reducible refine below_drewN ?_ _ | with_reducible refine Below.alloc ?_ (by first | omega | (simp <;> omega)) _ | with_reducible refine Below.setCell ?_ (by first | omega | (simp <;> omega)) _ | with_reducible exact Below.refl _ _)) (hb6.mono (by first | omega | (simp <;> omega)))))
        go_ret
        exact ⟨by simp, by exact (by repeat (first | with_reducible assumption | with_reducible refine Below.drew ?_ | with_reducible refine below_drewN ?_ _ | with_reducible refine Below.alloc ?_ (by first | omega | (simp <;> omega)) _ | with_reducible refine Below.setCell ?_ (by first | omega | (simp <;> omega)) _ | with_reducible exact Below.refl _ _))⟩
  · rw [errV_pos hc] at HC
    generalize Pt.code ⟨⟨a, T0⟩, ⟨b, T1⟩, ⟨c, T2⟩⟩ per least = cc at HC hc
    clear hc
    go_wp2_with (go_at_call 36; with_reducible refine (HC.out _).mono ?_; rintro e w5 ⟨rfl, hb5⟩; have z5 := hb5.size; (try simp at z5); have c5x0 := bstep (b := w.heap.size + 1 + 1) hb5 (by first | omega | (simp <;> omega)); have y5x0 : w.heap.size + 1 + 1 < w5.heap.size := (by omega); have c5x1 := bstep (b := b10) hb5 (by first | omega | (simp <;> omega)); have y5x1 : b10 < w5.heap.size := (by omega); have H5 : Below w.heap.size w w5 := Below.trans (by repeat (first | with_reducible assumption | with_reducible refine Below.drew ?_ | with_reducible refine below_drewN ?_ _ | with_reducible refine Below.alloc ?_ (by first | omega | (simp <;> omega)) _ | with_reducible refine Below.setCell ?_ (by first | omega | (simp <;> omega)) _ | with_reducible exact Below.refl _ _)) (hb5.mono (by first | omega | (simp <;> omega))))
    go_ret
    exact ⟨by simp, by exact (by repeat (first | with_reducible assumption | with_reducible refine Below.drew ?_ | with_reducible refine below_drewN ?_ _ | with_reducible refine Below.alloc ?_ (by first | omega | (simp <;> omega)) _ | with_reducible refine Below.setCell ?_ (by first | omega | (simp <;> omega)) _ | with_reducible exact Below.refl _ _))⟩

set_option maxRecDepth 100000 in
theorem patternEasy_walk (fr0 fr1 fr2 n0 n1 n2 per0 least0 : Int) (ru0 : 0 ≤ fr0 ∧ fr0 ≤ 65535) (ru1 : 0 ≤ fr1 ∧ fr1 ≤ 65535) (ru2 : 0 ≤ fr2 ∧ fr2 ≤ 65535) (rn0 : 0 ≤ n0 ∧ n0 ≤ 65535) (rn1 : 0 ≤ n1 ∧ n1 ≤ 65535) (rn2 : 0 ≤ n2 ∧ n2 ≤ 65535) (w : World) :
    Calls Try.prog 18 #[.agg #[.int .u16 fr0, .int .u16 fr1, .int .u16 fr2], .agg #[.int .u16 n0, .int .u16 n1, .int .u16 n2], .agg #[.int .i64 per0, .int .i64 least0]] w fun e w' => e = .returned (.bool true) ∧ Below w.heap.size w w' := by
  have hr := fit_ok per0 least0
  have hE : 0 < fitP per0 / 8 := by have := hr.1; omega
  have q : ∀ u : Int, 0 ≤ u → 0 ≤ u.tmod (fitP per0 / 8) ∧ u.tmod (fitP per0 / 8) < fitP per0 / 8 := fun u hu => by
    rw [Int.tmod_eq_emod_of_nonneg hu]
    exact ⟨Int.emod_nonneg _ (by omega), Int.emod_lt_of_pos _ hE⟩
  exact patternEasy_core fr0 fr1 fr2 n0 n1 n2 per0 least0 (fitP per0) (fitL per0 least0) (fitP per0 / 8) _ _ _ _ _ _ _ _ _ _ _ _ hr (fit_any per0 least0) rfl rfl rfl rfl rfl rfl rfl ru0 ru1 ru2 rn0 rn1 rn2
    (q fr0 ru0.1) (q fr1 ru1.1) (q fr2 ru2.1) (q n0 rn0.1) (q n1 rn1.1) (q n2 rn2.1) rfl rfl rfl rfl rfl rfl w
end Go.Proofs.Ytjeomdfcfbfebaa

/- The walk of WholeShunt, but for the fixed fact that it asks first. Condition: what each theorem names. -/
import Derived.Test.YtjeomdfcfbfebaaShF
import Derived.Test.YtjeomdfcfbfebaaSpE
import Derived.Test.YtjeomdfcfbfebaaSpF
import Derived.Test.YtjeomdfcfbfebaaWsD
import Derived.Test.YtjeomdfcfbfebaaQTail
namespace Go.Proofs.Ytjeomdfcfbfebaa
open Go.RowKit PM

namespace PM
def okF (link per least dead : Int) : Prop := 16 ≤ link ∧ link ≤ 1048576 ∧ 64 ≤ per ∧ per ≤ 4096 ∧ 1 ≤ least ∧ least ≤ per / 4 ∧ 1 ≤ dead ∧ dead ≤ least ∧ dead ≤ 1024
end PM
set_option maxHeartbeats 4000000 in
theorem fok_yes (link per least dead : Int) (h : okF link per least dead) (w : World) :
    Calls Try.prog 21 #[.agg #[.int .i64 link, .int .i64 per, .int .i64 least, .int .i64 dead]] w fun e w' => e = .returned (.bool true) ∧ Below w.heap.size w w' := by
  obtain ⟨h1, h2, h3, h4, h5, h6, h7, h8, h9⟩ := h
  have gt : per.tdiv 4 = per / 4 := Int.tdiv_eq_ediv_of_nonneg (by omega)
  have gq : IntKind.i64.wrap (per / 4) = per / 4 := IntWalk.i64_in _ (by omega)
  go_enter Try.func21, Try.ntmps21
  go_wp2
  go_ret
  exact ⟨rfl, by exact (by repeat (first | with_reducible assumption | with_reducible refine Below.drew ?_ | with_reducible refine below_drewN ?_ _ | with_reducible refine Below.alloc ?_ (by first | omega | (simp <;> omega)) _ | with_reducible refine Below.setCell ?_ (by first | omega | (simp <;> omega)) _ | with_reducible exact Below.refl _ _))⟩
set_option maxHeartbeats 8000000 in
theorem fok_no (link per least dead : Int) (h : ¬ okF link per least dead) (w : World) :
    Calls Try.prog 21 #[.agg #[.int .i64 link, .int .i64 per, .int .i64 least, .int .i64 dead]] w fun e w' => e = .returned (.bool false) ∧ Below w.heap.size w w' := by
  have hc : link < 16 ∨ (16 ≤ link ∧ (1048576 < link ∨ (link ≤ 1048576 ∧ (per < 64 ∨ (64 ≤ per ∧ (4096 < per ∨ (per ≤ 4096 ∧ (least < 1 ∨ (1 ≤ least ∧ (per / 4 < least ∨ (least ≤ per / 4 ∧ (dead < 1 ∨ (1 ≤ dead ∧ (least < dead ∨ (dead ≤ least ∧ 1024 < dead))))))))))))))) := by
    unfold okF at h
    omega
  clear h
  rcases hc with k1 | ⟨k1, k2 | ⟨k2, k3 | ⟨k3, k4 | ⟨k4, k5 | ⟨k5, k6 | ⟨k6, k7 | ⟨k7, k8 | ⟨k8, k9⟩⟩⟩⟩⟩⟩⟩⟩
  all_goals try (exfalso; omega)
  all_goals
    try have gt : per.tdiv 4 = per / 4 := Int.tdiv_eq_ediv_of_nonneg (by omega)
    try have gq : IntKind.i64.wrap (per / 4) = per / 4 := IntWalk.i64_in _ (by omega)
    go_enter Try.func21, Try.ntmps21
    go_wp2
    go_ret
    exact ⟨rfl, by exact (by repeat (first | with_reducible assumption | with_reducible refine Below.drew ?_ | with_reducible refine below_drewN ?_ _ | with_reducible refine Below.alloc ?_ (by first | omega | (simp <;> omega)) _ | with_reducible refine Below.setCell ?_ (by first | omega | (simp <;> omega)) _ | with_reducible exact Below.refl _ _))⟩
set_option maxHeartbeats 4000000 in
set_option maxRecDepth 100000 in
theorem whole_no (al be link per least dead x0 x1 x2 : Int) (h : ¬ okF link per least dead) (hcen : ∀ W : World, Calls Try.prog 20 #[] W fun e w' => e = .returned (.bool true) ∧ Below W.heap.size W w') (w : World) :
    Calls Try.prog 3 #[.agg #[.int .i64 al, .int .i64 be], .agg #[.int .i64 link, .int .i64 per, .int .i64 least, .int .i64 dead], .agg #[.int .i64 x0, .int .i64 x1, .int .i64 x2]] w fun e w' => e = .returned (.bool true) ∧ Below w.heap.size w w' := by
  have HCEN := hide hcen
  have HOK := hide (fun W => fok_no link per least dead h W)
  clear hcen h
  go_enter Try.func3, Try.ntmps3
  go_upto_region 2 with (first
    | (go_at_call 20; refine (HCEN.out _).mono ?_; rintro e w1 ⟨rfl, hb1⟩; have z1 := hb1.size; (try simp at z1); have c1x0 := bstep (b := w.heap.size) hb1 (by first | omega | (simp <;> omega)); have y1x0 : w.heap.size < w1.heap.size := (by omega); have c1x1 := bstep (b := w.heap.size + 1) hb1 (by first | omega | (simp <;> omega)); have y1x1 : w.heap.size + 1 < w1.heap.size := (by omega); have c1x2 := bstep (b := w.heap.size + 1 + 1) hb1 (by first | omega | (simp <;> omega)); have y1x2 : w.heap.size + 1 + 1 < w1.heap.size := (by omega); have H1 : Below w.heap.size w w1 := Below.trans (by repeat (first | with_reducible assumption | with_reducible refine Below.drew ?_ | with_reducible refine below_drewN ?_ _ | with_reducible refine Below.alloc ?_ (by first | omega | (simp <;> omega)) _ | with_reducible refine Below.setCell ?_ (by first | omega | (simp <;> omega)) _ | with_reducible exact Below.refl _ _)) (hb1.mono (by first | omega | (simp <;> omega))); have x1d00 : w1.cell? ⟨w.heap.size, 0, none⟩ = some (.int .i64 al) := (c1x0 0).trans (by go_simp); have x1d01 : w1.cell? ⟨w.heap.size, 1, none⟩ = some (.int .i64 be) := (c1x0 1).trans (by go_simp); have x1d10 : w1.cell? ⟨w.heap.size + 1, 0, none⟩ = some (.int .i64 link) := (c1x1 0).trans (by go_simp); have x1d11 : w1.cell? ⟨w.heap.size + 1, 1, none⟩ = some (.int .i64 per) := (c1x1 1).trans (by go_simp); have x1d12 : w1.cell? ⟨w.heap.size + 1, 2, none⟩ = some (.int .i64 least) := (c1x1 2).trans (by go_simp); have x1d13 : w1.cell? ⟨w.heap.size + 1, 3, none⟩ = some (.int .i64 dead) := (c1x1 3).trans (by go_simp); have x1d20 : w1.cell? ⟨w.heap.size + 1 + 1, 0, none⟩ = some (.int .i64 x0) := (c1x2 0).trans (by go_simp); have x1d21 : w1.cell? ⟨w.heap.size + 1 + 1, 1, none⟩ = some (.int .i64 x1) := (c1x2 1).trans (by go_simp); have x1d22 : w1.cell? ⟨w.heap.size + 1 + 1, 2, none⟩ = some (.int .i64 x2) := (c1x2 2).trans (by go_simp); clear c1x0 c1x1 c1x2)
    | (go_at_call 21; refine (HOK.out _).mono ?_; rintro e w2 ⟨rfl, hb2⟩; have z2 := hb2.size; (try simp at z2); have c2x0 := bstep (b := w.heap.size) hb2 (by first | omega | (simp <;> omega)); have y2x0 : w.heap.size < w2.heap.size := (by omega); have c2x1 := bstep (b := w.heap.size + 1) hb2 (by first | omega | (simp <;> omega)); have y2x1 : w.heap.size + 1 < w2.heap.size := (by omega); have c2x2 := bstep (b := w.heap.size + 1 + 1) hb2 (by first | omega | (simp <;> omega)); have y2x2 : w.heap.size + 1 + 1 < w2.heap.size := (by omega); have H2 : Below w.heap.size w w2 := Below.trans (by repeat (first | with_reducible assumption | with_reducible refine Below.drew ?_ | with_reducible refine below_drewN ?_ _ | with_reducible refine Below.alloc ?_ (by first | omega | (simp <;> omega)) _ | with_reducible refine Below.setCell ?_ (by first | omega | (simp <;> omega)) _ | with_reducible exact Below.refl _ _)) (hb2.mono (by first | omega | (simp <;> omega))); have x2d00 : w2.cell? ⟨w.heap.size, 0, none⟩ = some (.int .i64 al) := (c2x0 0).trans (by go_simp); have x2d01 : w2.cell? ⟨w.heap.size, 1, none⟩ = some (.int .i64 be) := (c2x0 1).trans (by go_simp); have x2d10 : w2.cell? ⟨w.heap.size + 1, 0, none⟩ = some (.int .i64 link) := (c2x1 0).trans (by go_simp); have x2d11 : w2.cell? ⟨w.heap.size + 1, 1, none⟩ = some (.int .i64 per) := (c2x1 1).trans (by go_simp); have x2d12 : w2.cell? ⟨w.heap.size + 1, 2, none⟩ = some (.int .i64 least) := (c2x1 2).trans (by go_simp); have x2d13 : w2.cell? ⟨w.heap.size + 1, 3, none⟩ = some (.int .i64 dead) := (c2x1 3).trans (by go_simp); have x2d20 : w2.cell? ⟨w.heap.size + 1 + 1, 0, none⟩ = some (.int .i64 x0) := (c2x2 0).trans (by go_simp); have x2d21 : w2.cell? ⟨w.heap.size + 1 + 1, 1, none⟩ = some (.int .i64 x1) := (c2x2 1).trans (by go_simp); have x2d22 : w2.cell? ⟨w.heap.size + 1 + 1, 2, none⟩ = some (.int .i64 x2) := (c2x2 2).trans (by go_simp); clear c2x0 c2x1 c2x2))
  go_wp2_with fail
  refine (HCEN.out _).mono ?_
  rintro e w3 ⟨rfl, hb3⟩
  have H3 : Below w.heap.size w w3 := H2.trans (hb3.mono (by omega))
  go_wp2
  go_ret
  exact ⟨rfl, H3⟩
set_option maxHeartbeats 16000000 in
set_option maxRecDepth 100000 in
theorem whole_spread_no (al be link per least dead x0 x1 x2 a b c need fa fb fu fv d0 d1 d2 : Int) (lim : Bool) (p q : Pt) (h : okF link per least dead) (ha : -268435456 ≤ a ∧ a ≤ 268435456) (hb : -268435456 ≤ b ∧ b ≤ 268435456) (hc : -a - b = c) (hneed : 1 ≤ need ∧ need ≤ 4096)
    (hcen : ∀ W : World, Calls Try.prog 20 #[] W fun e w' => e = .returned (.bool true) ∧ Below W.heap.size W w')
    (h0 : ∀ W : World, Calls Try.prog 22 #[.int .i64 x0, .int .i64 (-268435456), .int .i64 268435456] W fun e w' => e = .returned (.int .i64 a) ∧ Below W.heap.size W w')
    (h1 : ∀ W : World, Calls Try.prog 22 #[.int .i64 x1, .int .i64 (-268435456), .int .i64 268435456] W fun e w' => e = .returned (.int .i64 b) ∧ Below W.heap.size W w')
    (h2 : ∀ W : World, Calls Try.prog 22 #[.int .i64 x2, .int .i64 1, .int .i64 (per / 2)] W fun e w' => e = .returned (.int .i64 need) ∧ Below W.heap.size W w')
    (h3 : ∀ W : World, Calls Try.prog 22 #[.int .i64 al, .int .i64 (-1048576), .int .i64 1048576] W fun e w' => e = .returned (.int .i64 fa) ∧ Below W.heap.size W w')
    (h4 : ∀ W : World, Calls Try.prog 22 #[.int .i64 be, .int .i64 (-1048576), .int .i64 1048576] W fun e w' => e = .returned (.int .i64 fb) ∧ Below W.heap.size W w')
    (hCi : ∀ W : World, Calls Try.prog 23 #[.int .i64 fa, .int .i64 fb, .int .i64 link] W fun e w' => e = .returned (.tuple #[.int .i64 fu, .int .i64 fv, .bool lim, .nilIface]) ∧ Below W.heap.size W w')
    (hD : ∀ W : World, Calls Try.prog 24 #[.int .i64 fu, .int .i64 fv, .int .i64 link, .int .i64 per] W fun e w' => (∃ lm, e = .returned (.tuple #[.agg #[.int .i64 d0, .int .i64 d1, .int .i64 d2, .bool lm], .nilIface])) ∧ Below W.heap.size W w')
    (hM : ∀ W : World, Calls Try.prog 25 #[.agg #[.int .i64 d0, .int .i64 d1, .int .i64 d2], .int .i64 per, .int .i64 least] W fun e w' => e = .returned (.tuple #[.agg #[.int .i64 p.l0.a, .int .i64 p.l0.b, .int .i64 p.l1.a, .int .i64 p.l1.b, .int .i64 p.l2.a, .int .i64 p.l2.b], .nilIface]) ∧ Below W.heap.size W w')
    (hSp : ∀ W : World, Calls Try.prog 26 #[.agg #[.int .i64 p.l0.a, .int .i64 p.l0.b, .int .i64 p.l1.a, .int .i64 p.l1.b, .int .i64 p.l2.a, .int .i64 p.l2.b], .int .i64 per, .int .i64 least, .int .i64 need] W fun e w' => e = .returned (.tuple #[.agg #[.int .i64 p.l0.a, .int .i64 p.l0.b, .int .i64 p.l1.a, .int .i64 p.l1.b, .int .i64 p.l2.a, .int .i64 p.l2.b], .bool false, .nilIface]) ∧ Below W.heap.size W w')
    (hpin : p.In per) (hqin : q.In per) (hlen : ∀ k, (q.leg k).b - (q.leg k).a = (p.leg k).b - (p.leg k).a)
    (w : World) :
    Calls Try.prog 3 #[.agg #[.int .i64 al, .int .i64 be], .agg #[.int .i64 link, .int .i64 per, .int .i64 least, .int .i64 dead], .agg #[.int .i64 x0, .int .i64 x1, .int .i64 x2]] w fun e w' => e = .returned (.bool true) ∧ Below w.heap.size w w' := by
  have HCEN := hide hcen
  have HOK := hide (fun W => fok_yes link per least dead h W)
  have HC0 := hide h0
  have HC1 := hide h1
  have HC2 := hide h2
  have HC3 := hide h3
  have HC4 := hide h4
  have HCI := hide hCi
  have HD := hide hD
  have HM := hide hM
  have HSP := hide hSp
  have HLEN := hide hlen
  have HPI := hide hpin
  have HQI := hide hqin
  obtain ⟨q1, q2, q3, q4, q5, q6, q7, q8, q9⟩ := h
  obtain ⟨ha1, ha2⟩ := ha
  obtain ⟨hb1', hb2'⟩ := hb
  obtain ⟨n1, n2⟩ := hneed
  have gt : per.tdiv 2 = per / 2 := Int.tdiv_eq_ediv_of_nonneg (by omega)
  have gq : IntKind.i64.wrap (per / 2) = per / 2 := IntWalk.i64_in _ (by omega)
  have gna : IntKind.i64.wrap (-a) = -a := IntWalk.i64_in _ (by omega)
  have gnc : IntKind.i64.wrap (-a - b) = c := by rw [hc]; exact IntWalk.i64_in _ (by omega)
  have gn1 : IntKind.i64.wrap (need - 1) = need - 1 := IntWalk.i64_in _ (by omega)
  clear hcen h0 h1 h2 h3 h4 hCi hD hM hSp hpin hqin hlen hc
  go_enter Try.func3, Try.ntmps3
  go_upto_region 3 with (first
    | (go_at_call 20; refine (HCEN.out _).mono ?_; rintro e w1 ⟨rfl, hb1⟩; have z1 := hb1.size; (try simp at z1); have c1x0 := bstep (b := w.heap.size) hb1 (by first | omega | (simp <;> omega)); have y1x0 : w.heap.size < w1.heap.size := (by omega); have c1x1 := bstep (b := w.heap.size + 1) hb1 (by first | omega | (simp <;> omega)); have y1x1 : w.heap.size + 1 < w1.heap.size := (by omega); have c1x2 := bstep (b := w.heap.size + 1 + 1) hb1 (by first | omega | (simp <;> omega)); have y1x2 : w.heap.size + 1 + 1 < w1.heap.size := (by omega); have H1 : Below w.heap.size w w1 := Below.trans (by repeat (first | with_reducible assumption | with_reducible refine Below.drew ?_ | with_reducible refine below_drewN ?_ _ | with_reducible refine Below.alloc ?_ (by first | omega | (simp <;> omega)) _ | with_reducible refine Below.setCell ?_ (by first | omega | (simp <;> omega)) _ | with_reducible exact Below.refl _ _)) (hb1.mono (by first | omega | (simp <;> omega))); have x1d00 : w1.cell? ⟨w.heap.size, 0, none⟩ = some (.int .i64 al) := (c1x0 0).trans (by go_simp); have x1d01 : w1.cell? ⟨w.heap.size, 1, none⟩ = some (.int .i64 be) := (c1x0 1).trans (by go_simp); have x1d10 : w1.cell? ⟨w.heap.size + 1, 0, none⟩ = some (.int .i64 link) := (c1x1 0).trans (by go_simp); have x1d11 : w1.cell? ⟨w.heap.size + 1, 1, none⟩ = some (.int .i64 per) := (c1x1 1).trans (by go_simp); have x1d12 : w1.cell? ⟨w.heap.size + 1, 2, none⟩ = some (.int .i64 least) := (c1x1 2).trans (by go_simp); have x1d13 : w1.cell? ⟨w.heap.size + 1, 3, none⟩ = some (.int .i64 dead) := (c1x1 3).trans (by go_simp); have x1d20 : w1.cell? ⟨w.heap.size + 1 + 1, 0, none⟩ = some (.int .i64 x0) := (c1x2 0).trans (by go_simp); have x1d21 : w1.cell? ⟨w.heap.size + 1 + 1, 1, none⟩ = some (.int .i64 x1) := (c1x2 1).trans (by go_simp); have x1d22 : w1.cell? ⟨w.heap.size + 1 + 1, 2, none⟩ = some (.int .i64 x2) := (c1x2 2).trans (by go_simp); clear c1x0 c1x1 c1x2)
    | (go_at_call 21; refine (HOK.out _).mono ?_; rintro e w2 ⟨rfl, hb2⟩; have z2 := hb2.size; (try simp at z2); have c2x0 := bstep (b := w.heap.size) hb2 (by first | omega | (simp <;> omega)); have y2x0 : w.heap.size < w2.heap.size := (by omega); have c2x1 := bstep (b := w.heap.size + 1) hb2 (by first | omega | (simp <;> omega)); have y2x1 : w.heap.size + 1 < w2.heap.size := (by omega); have c2x2 := bstep (b := w.heap.size + 1 + 1) hb2 (by first | omega | (simp <;> omega)); have y2x2 : w.heap.size + 1 + 1 < w2.heap.size := (by omega); have H2 : Below w.heap.size w w2 := Below.trans (by repeat (first | with_reducible assumption | with_reducible refine Below.drew ?_ | with_reducible refine below_drewN ?_ _ | with_reducible refine Below.alloc ?_ (by first | omega | (simp <;> omega)) _ | with_reducible refine Below.setCell ?_ (by first | omega | (simp <;> omega)) _ | with_reducible exact Below.refl _ _)) (hb2.mono (by first | omega | (simp <;> omega))); have x2d00 : w2.cell? ⟨w.heap.size, 0, none⟩ = some (.int .i64 al) := (c2x0 0).trans (by go_simp); have x2d01 : w2.cell? ⟨w.heap.size, 1, none⟩ = some (.int .i64 be) := (c2x0 1).trans (by go_simp); have x2d10 : w2.cell? ⟨w.heap.size + 1, 0, none⟩ = some (.int .i64 link) := (c2x1 0).trans (by go_simp); have x2d11 : w2.cell? ⟨w.heap.size + 1, 1, none⟩ = some (.int .i64 per) := (c2x1 1).trans (by go_simp); have x2d12 : w2.cell? ⟨w.heap.size + 1, 2, none⟩ = some (.int .i64 least) := (c2x1 2).trans (by go_simp); have x2d13 : w2.cell? ⟨w.heap.size + 1, 3, none⟩ = some (.int .i64 dead) := (c2x1 3).trans (by go_simp); have x2d20 : w2.cell? ⟨w.heap.size + 1 + 1, 0, none⟩ = some (.int .i64 x0) := (c2x2 0).trans (by go_simp); have x2d21 : w2.cell? ⟨w.heap.size + 1 + 1, 1, none⟩ = some (.int .i64 x1) := (c2x2 1).trans (by go_simp); have x2d22 : w2.cell? ⟨w.heap.size + 1 + 1, 2, none⟩ = some (.int .i64 x2) := (c2x2 2).trans (by go_simp); clear c2x0 c2x1 c2x2))
  clear x1d00 x1d01 x1d10 x1d11 x1d12 x1d13 x1d20 x1d21 x1d22 hb1 hb2
  go_cut [7, 8] (fun s7 s8 wz => s7 = .int .i64 a ∧ s8 = .int .i64 b ∧ Below w2.heap.size w2 wz)
  case first =>
    have kx2d20 := fun d os => cell_regrown x2d20 d os
    have kx2d21 := fun d os => cell_regrown x2d21 d os
    have cA := fun d os => Calls.regrown_of (HC0.out (Go.Sort.grow (redrawn w2 d) os))
    have cB := fun d os => Calls.regrown_of (HC1.out (Go.Sort.grow (redrawn w2 d) os))
    refine wp_region_quiet_below (by kernel_rfl) (by kernel_rfl) ?_
    repeat (go_big_quiet_step (first | with_reducible exact cA _ _ | with_reducible exact cB _ _))
    refine wpQuiet_nil ?_
    rintro wz ⟨⟨dd, os⟩, rfl⟩
    have hz := below_regrown w2 dd os
    clear cA cB kx2d20 kx2d21
    generalize Go.Sort.grow (redrawn w2 dd) os = wz at hz ⊢
    go_wp2
    go_meet
    exact ⟨rfl, rfl, hz⟩
  case rest =>
  obtain ⟨rfl, rfl, hX⟩ := hcut
  rename World => w3
  have z3 := hX.size
  replace x2d00 := (hX.cell (p := ⟨w.heap.size, 0, none⟩) (by show w.heap.size < w2.heap.size; omega)).trans x2d00
  replace x2d01 := (hX.cell (p := ⟨w.heap.size, 1, none⟩) (by show w.heap.size < w2.heap.size; omega)).trans x2d01
  replace x2d10 := (hX.cell (p := ⟨w.heap.size + 1, 0, none⟩) (by show w.heap.size + 1 < w2.heap.size; omega)).trans x2d10
  replace x2d11 := (hX.cell (p := ⟨w.heap.size + 1, 1, none⟩) (by show w.heap.size + 1 < w2.heap.size; omega)).trans x2d11
  replace x2d12 := (hX.cell (p := ⟨w.heap.size + 1, 2, none⟩) (by show w.heap.size + 1 < w2.heap.size; omega)).trans x2d12
  replace x2d13 := (hX.cell (p := ⟨w.heap.size + 1, 3, none⟩) (by show w.heap.size + 1 < w2.heap.size; omega)).trans x2d13
  replace x2d20 := (hX.cell (p := ⟨w.heap.size + 1 + 1, 0, none⟩) (by show w.heap.size + 1 + 1 < w2.heap.size; omega)).trans x2d20
  replace x2d21 := (hX.cell (p := ⟨w.heap.size + 1 + 1, 1, none⟩) (by show w.heap.size + 1 + 1 < w2.heap.size; omega)).trans x2d21
  replace x2d22 := (hX.cell (p := ⟨w.heap.size + 1 + 1, 2, none⟩) (by show w.heap.size + 1 + 1 < w2.heap.size; omega)).trans x2d22
  have H3 : Below w.heap.size w w3 := H2.trans (hX.mono (by omega))
  clear hX
  have y3 : w.heap.size + 1 + 1 < w3.heap.size := by omega
  go_upto_region 6 with (go_at_call 22; with_reducible refine (HC2.out _).mono ?_; rintro e w4 ⟨rfl, hb4⟩; have z4 := hb4.size; replace x2d00 := (hb4.cell (p := ⟨w.heap.size, 0, none⟩) (by show w.heap.size < w3.heap.size; omega)).trans x2d00; replace x2d01 := (hb4.cell (p := ⟨w.heap.size, 1, none⟩) (by show w.heap.size < w3.heap.size; omega)).trans x2d01; replace x2d10 := (hb4.cell (p := ⟨w.heap.size + 1, 0, none⟩) (by show w.heap.size + 1 < w3.heap.size; omega)).trans x2d10; replace x2d11 := (hb4.cell (p := ⟨w.heap.size + 1, 1, none⟩) (by show w.heap.size + 1 < w3.heap.size; omega)).trans x2d11; replace x2d12 := (hb4.cell (p := ⟨w.heap.size + 1, 2, none⟩) (by show w.heap.size + 1 < w3.heap.size; omega)).trans x2d12; replace x2d13 := (hb4.cell (p := ⟨w.heap.size + 1, 3, none⟩) (by show w.heap.size + 1 < w3.heap.size; omega)).trans x2d13; replace x2d20 := (hb4.cell (p := ⟨w.heap.size + 1 + 1, 0, none⟩) (by show w.heap.size + 1 + 1 < w3.heap.size; omega)).trans x2d20; replace x2d21 := (hb4.cell (p := ⟨w.heap.size + 1 + 1, 1, none⟩) (by show w.heap.size + 1 + 1 < w3.heap.size; omega)).trans x2d21; replace x2d22 := (hb4.cell (p := ⟨w.heap.size + 1 + 1, 2, none⟩) (by show w.heap.size + 1 + 1 < w3.heap.size; omega)).trans x2d22; have H4 : Below w.heap.size w w4 := H3.trans (hb4.mono (by omega)))
  have HW5 : Below w4.heap.size w4 (w4.alloc (.cells #[.int .i64 a, .int .i64 b, .int .i64 c] 26)) := (Below.refl _ _).alloc (Nat.le_refl _) _
  have r0 : (w4.alloc (.cells #[.int .i64 a, .int .i64 b, .int .i64 c] 26)).cell? ⟨w4.heap.size, 0, none⟩ = some (.int .i64 a) := by go_simp
  have r1 : (w4.alloc (.cells #[.int .i64 a, .int .i64 b, .int .i64 c] 26)).cell? ⟨w4.heap.size, 1, none⟩ = some (.int .i64 b) := by go_simp
  have r2 : (w4.alloc (.cells #[.int .i64 a, .int .i64 b, .int .i64 c] 26)).cell? ⟨w4.heap.size, 2, none⟩ = some (.int .i64 c) := by go_simp
  have yr : w4.heap.size < (w4.alloc (.cells #[.int .i64 a, .int .i64 b, .int .i64 c] 26)).heap.size := by simp
  have y4 : w.heap.size + 1 + 1 < w4.heap.size := by omega
  generalize (w4.alloc (.cells #[.int .i64 a, .int .i64 b, .int .i64 c] 26)) = w5 at HW5 r0 r1 r2 yr ⊢
  replace x2d00 := (HW5.cell (p := ⟨w.heap.size, 0, none⟩) (by show w.heap.size < w4.heap.size; omega)).trans x2d00
  replace x2d01 := (HW5.cell (p := ⟨w.heap.size, 1, none⟩) (by show w.heap.size < w4.heap.size; omega)).trans x2d01
  replace x2d10 := (HW5.cell (p := ⟨w.heap.size + 1, 0, none⟩) (by show w.heap.size + 1 < w4.heap.size; omega)).trans x2d10
  replace x2d11 := (HW5.cell (p := ⟨w.heap.size + 1, 1, none⟩) (by show w.heap.size + 1 < w4.heap.size; omega)).trans x2d11
  replace x2d12 := (HW5.cell (p := ⟨w.heap.size + 1, 2, none⟩) (by show w.heap.size + 1 < w4.heap.size; omega)).trans x2d12
  replace x2d13 := (HW5.cell (p := ⟨w.heap.size + 1, 3, none⟩) (by show w.heap.size + 1 < w4.heap.size; omega)).trans x2d13
  replace x2d20 := (HW5.cell (p := ⟨w.heap.size + 1 + 1, 0, none⟩) (by show w.heap.size + 1 + 1 < w4.heap.size; omega)).trans x2d20
  replace x2d21 := (HW5.cell (p := ⟨w.heap.size + 1 + 1, 1, none⟩) (by show w.heap.size + 1 + 1 < w4.heap.size; omega)).trans x2d21
  replace x2d22 := (HW5.cell (p := ⟨w.heap.size + 1 + 1, 2, none⟩) (by show w.heap.size + 1 + 1 < w4.heap.size; omega)).trans x2d22
  have H5 : Below w.heap.size w w5 := H4.trans (HW5.mono (by omega))
  have y5 : w.heap.size + 1 + 1 < w5.heap.size := by omega
  generalize hbr : w4.heap.size = br at r0 r1 r2 yr ⊢
  clear HW5 hb4 H4 H3 hbr
  go_cut [11, 12, 13, 14] (fun s11 s12 s13 s14 wz => s11 = .int .i64 fu ∧ s12 = .int .i64 fv ∧ s13 = .bool lim ∧ s14 = .nilIface ∧ Below w5.heap.size w5 wz)
  case first =>
    have kx2d00 := fun d os => cell_regrown x2d00 d os
    have kx2d01 := fun d os => cell_regrown x2d01 d os
    have kx2d10 := fun d os => cell_regrown x2d10 d os
    have cA := fun d os => Calls.regrown_of (HC3.out (Go.Sort.grow (redrawn w5 d) os))
    have cB := fun d os => Calls.regrown_of (HC4.out (Go.Sort.grow (redrawn w5 d) os))
    have cC := fun d os => Calls.regrown_of (HCI.out (Go.Sort.grow (redrawn w5 d) os))
    refine wp_region_quiet_below (by kernel_rfl) (by kernel_rfl) ?_
    repeat (go_big_quiet_step (first | with_reducible exact cA _ _ | with_reducible exact cB _ _ | with_reducible exact cC _ _))
    refine wpQuiet_nil ?_
    rintro wz ⟨⟨dd, os⟩, rfl⟩
    have hz := below_regrown w5 dd os
    clear cA cB cC kx2d00 kx2d01 kx2d10
    generalize Go.Sort.grow (redrawn w5 dd) os = wz at hz ⊢
    go_wp2
    go_meet
    exact ⟨rfl, rfl, rfl, rfl, hz⟩
  case rest =>
  obtain ⟨rfl, rfl, rfl, rfl, hX⟩ := hcut
  rename World => w6
  have z6 := hX.size
  replace x2d10 := (hX.cell (p := ⟨w.heap.size + 1, 0, none⟩) (by show w.heap.size + 1 < w5.heap.size; omega)).trans x2d10
  replace x2d11 := (hX.cell (p := ⟨w.heap.size + 1, 1, none⟩) (by show w.heap.size + 1 < w5.heap.size; omega)).trans x2d11
  replace x2d12 := (hX.cell (p := ⟨w.heap.size + 1, 2, none⟩) (by show w.heap.size + 1 < w5.heap.size; omega)).trans x2d12
  replace r0 := (hX.cell (p := ⟨br, 0, none⟩) (by show br < w5.heap.size; omega)).trans r0
  replace r1 := (hX.cell (p := ⟨br, 1, none⟩) (by show br < w5.heap.size; omega)).trans r1
  replace r2 := (hX.cell (p := ⟨br, 2, none⟩) (by show br < w5.heap.size; omega)).trans r2
  have H6 : Below w.heap.size w w6 := H5.trans (hX.mono (by omega))
  have y6 : w.heap.size + 1 < w6.heap.size := by omega
  have y6r : br < w6.heap.size := by omega
  clear hX H5 H2 x2d00 x2d01 x2d13 x2d20 x2d21 x2d22
  go_upto_block 0 with (first
    | (go_at_call 24; refine (HD.out _).mono ?_; rintro e w7 ⟨⟨lm, rfl⟩, hb7⟩; have z7 := hb7.size; (try simp at z7); have c7x0 := bstep (b := w.heap.size + 1) hb7 (by first | omega | (simp <;> omega)); have y7x0 : w.heap.size + 1 < w7.heap.size := (by omega); have c7x1 := bstep (b := br) hb7 (by first | omega | (simp <;> omega)); have y7x1 : br < w7.heap.size := (by omega); have H7 : Below w.heap.size w w7 := Below.trans (by repeat (first | with_reducible assumption | with_reducible refine Below.drew ?_ | with_reducible refine below_drewN ?_ _ | with_reducible refine Below.alloc ?_ (by first | omega | (simp <;> omega)) _ | with_reducible refine Below.setCell ?_ (by first | omega | (simp <;> omega)) _ | with_reducible exact Below.refl _ _)) (hb7.mono (by first | omega | (simp <;> omega))))
    | (go_at_call 25; refine (HM.out _).mono ?_; rintro e w8 ⟨rfl, hb8⟩; have z8 := hb8.size; (try simp at z8); have c8x0 := bstep (b := w.heap.size + 1) hb8 (by first | omega | (simp <;> omega)); have y8x0 : w.heap.size + 1 < w8.heap.size := (by omega); have c8x1 := bstep (b := br) hb8 (by first | omega | (simp <;> omega)); have y8x1 : br < w8.heap.size := (by omega); have c8x2 := bstep (b := w7.heap.size) hb8 (by first | omega | (simp <;> omega)); have y8x2 : w7.heap.size < w8.heap.size := (by omega); have H8 : Below w.heap.size w w8 := Below.trans (by repeat (first | with_reducible assumption | with_reducible refine Below.drew ?_ | with_reducible refine below_drewN ?_ _ | with_reducible refine Below.alloc ?_ (by first | omega | (simp <;> omega)) _ | with_reducible refine Below.setCell ?_ (by first | omega | (simp <;> omega)) _ | with_reducible exact Below.refl _ _)) (hb8.mono (by first | omega | (simp <;> omega))))
    | (go_at_call 26; refine (HSP.out _).mono ?_; rintro e w9 ⟨rfl, hb9⟩; have z9 := hb9.size; (try simp at z9); have c9x0 := bstep (b := w.heap.size + 1) hb9 (by first | omega | (simp <;> omega)); have y9x0 : w.heap.size + 1 < w9.heap.size := (by omega); have c9x1 := bstep (b := br) hb9 (by first | omega | (simp <;> omega)); have y9x1 : br < w9.heap.size := (by omega); have c9x2 := bstep (b := w8.heap.size) hb9 (by first | omega | (simp <;> omega)); have y9x2 : w8.heap.size < w9.heap.size := (by omega); have H9 : Below w.heap.size w w9 := Below.trans (by repeat (first | with_reducible assumption | with_reducible refine Below.drew ?_ | with_reducible refine below_drewN ?_ _ | with_reducible refine Below.alloc ?_ (by first | omega | (simp <;> omega)) _ | with_reducible refine Below.setCell ?_ (by first | omega | (simp <;> omega)) _ | with_reducible exact Below.refl _ _)) (hb9.mono (by first | omega | (simp <;> omega)))))
  have H10 : Below w.heap.size w (w9.alloc (.cells #[.int .i64 p.l0.a, .int .i64 p.l0.b, .int .i64 p.l1.a, .int .i64 p.l1.b, .int .i64 p.l2.a, .int .i64 p.l2.b] 39)) := by exact (by repeat (first | with_reducible assumption | with_reducible refine Below.drew ?_ | with_reducible refine below_drewN ?_ _ | with_reducible refine Below.alloc ?_ (by first | omega | (simp <;> omega)) _ | with_reducible refine Below.setCell ?_ (by first | omega | (simp <;> omega)) _ | with_reducible exact Below.refl _ _))
  have P0 : (w9.alloc (.cells #[.int .i64 p.l0.a, .int .i64 p.l0.b, .int .i64 p.l1.a, .int .i64 p.l1.b, .int .i64 p.l2.a, .int .i64 p.l2.b] 39)).cell? ⟨w8.heap.size, 0, none⟩ = some (.int .i64 p.l0.a) := by go_simp
  have P1 : (w9.alloc (.cells #[.int .i64 p.l0.a, .int .i64 p.l0.b, .int .i64 p.l1.a, .int .i64 p.l1.b, .int .i64 p.l2.a, .int .i64 p.l2.b] 39)).cell? ⟨w8.heap.size, 1, none⟩ = some (.int .i64 p.l0.b) := by go_simp
  have P2 : (w9.alloc (.cells #[.int .i64 p.l0.a, .int .i64 p.l0.b, .int .i64 p.l1.a, .int .i64 p.l1.b, .int .i64 p.l2.a, .int .i64 p.l2.b] 39)).cell? ⟨w8.heap.size, 2, none⟩ = some (.int .i64 p.l1.a) := by go_simp
  have P3 : (w9.alloc (.cells #[.int .i64 p.l0.a, .int .i64 p.l0.b, .int .i64 p.l1.a, .int .i64 p.l1.b, .int .i64 p.l2.a, .int .i64 p.l2.b] 39)).cell? ⟨w8.heap.size, 3, none⟩ = some (.int .i64 p.l1.b) := by go_simp
  have P4 : (w9.alloc (.cells #[.int .i64 p.l0.a, .int .i64 p.l0.b, .int .i64 p.l1.a, .int .i64 p.l1.b, .int .i64 p.l2.a, .int .i64 p.l2.b] 39)).cell? ⟨w8.heap.size, 4, none⟩ = some (.int .i64 p.l2.a) := by go_simp
  have P5 : (w9.alloc (.cells #[.int .i64 p.l0.a, .int .i64 p.l0.b, .int .i64 p.l1.a, .int .i64 p.l1.b, .int .i64 p.l2.a, .int .i64 p.l2.b] 39)).cell? ⟨w8.heap.size, 5, none⟩ = some (.int .i64 p.l2.b) := by go_simp
  have Q0 : (w9.alloc (.cells #[.int .i64 p.l0.a, .int .i64 p.l0.b, .int .i64 p.l1.a, .int .i64 p.l1.b, .int .i64 p.l2.a, .int .i64 p.l2.b] 39)).cell? ⟨w9.heap.size, 0, none⟩ = some (.int .i64 p.l0.a) := by go_simp
  have Q1 : (w9.alloc (.cells #[.int .i64 p.l0.a, .int .i64 p.l0.b, .int .i64 p.l1.a, .int .i64 p.l1.b, .int .i64 p.l2.a, .int .i64 p.l2.b] 39)).cell? ⟨w9.heap.size, 1, none⟩ = some (.int .i64 p.l0.b) := by go_simp
  have Q2 : (w9.alloc (.cells #[.int .i64 p.l0.a, .int .i64 p.l0.b, .int .i64 p.l1.a, .int .i64 p.l1.b, .int .i64 p.l2.a, .int .i64 p.l2.b] 39)).cell? ⟨w9.heap.size, 2, none⟩ = some (.int .i64 p.l1.a) := by go_simp
  have Q3 : (w9.alloc (.cells #[.int .i64 p.l0.a, .int .i64 p.l0.b, .int .i64 p.l1.a, .int .i64 p.l1.b, .int .i64 p.l2.a, .int .i64 p.l2.b] 39)).cell? ⟨w9.heap.size, 3, none⟩ = some (.int .i64 p.l1.b) := by go_simp
  have Q4 : (w9.alloc (.cells #[.int .i64 p.l0.a, .int .i64 p.l0.b, .int .i64 p.l1.a, .int .i64 p.l1.b, .int .i64 p.l2.a, .int .i64 p.l2.b] 39)).cell? ⟨w9.heap.size, 4, none⟩ = some (.int .i64 p.l2.a) := by go_simp
  have Q5 : (w9.alloc (.cells #[.int .i64 p.l0.a, .int .i64 p.l0.b, .int .i64 p.l1.a, .int .i64 p.l1.b, .int .i64 p.l2.a, .int .i64 p.l2.b] 39)).cell? ⟨w9.heap.size, 5, none⟩ = some (.int .i64 p.l2.b) := by go_simp
  have f1 : (w9.alloc (.cells #[.int .i64 p.l0.a, .int .i64 p.l0.b, .int .i64 p.l1.a, .int .i64 p.l1.b, .int .i64 p.l2.a, .int .i64 p.l2.b] 39)).cell? ⟨w.heap.size + 1, 1, none⟩ = some (.int .i64 per) := by go_simp
  have g0 : (w9.alloc (.cells #[.int .i64 p.l0.a, .int .i64 p.l0.b, .int .i64 p.l1.a, .int .i64 p.l1.b, .int .i64 p.l2.a, .int .i64 p.l2.b] 39)).cell? ⟨br, 0, none⟩ = some (.int .i64 a) := by go_simp
  have g1 : (w9.alloc (.cells #[.int .i64 p.l0.a, .int .i64 p.l0.b, .int .i64 p.l1.a, .int .i64 p.l1.b, .int .i64 p.l2.a, .int .i64 p.l2.b] 39)).cell? ⟨br, 1, none⟩ = some (.int .i64 b) := by go_simp
  have g2 : (w9.alloc (.cells #[.int .i64 p.l0.a, .int .i64 p.l0.b, .int .i64 p.l1.a, .int .i64 p.l1.b, .int .i64 p.l2.a, .int .i64 p.l2.b] 39)).cell? ⟨br, 2, none⟩ = some (.int .i64 c) := by go_simp
  have e1 : w8.heap.size < (w9.alloc (.cells #[.int .i64 p.l0.a, .int .i64 p.l0.b, .int .i64 p.l1.a, .int .i64 p.l1.b, .int .i64 p.l2.a, .int .i64 p.l2.b] 39)).heap.size := by simp <;> omega
  have e2 : w9.heap.size < (w9.alloc (.cells #[.int .i64 p.l0.a, .int .i64 p.l0.b, .int .i64 p.l1.a, .int .i64 p.l1.b, .int .i64 p.l2.a, .int .i64 p.l2.b] 39)).heap.size := by simp
  have e3 : w.heap.size + 1 < (w9.alloc (.cells #[.int .i64 p.l0.a, .int .i64 p.l0.b, .int .i64 p.l1.a, .int .i64 p.l1.b, .int .i64 p.l2.a, .int .i64 p.l2.b] 39)).heap.size := by simp <;> omega
  have e4 : br < (w9.alloc (.cells #[.int .i64 p.l0.a, .int .i64 p.l0.b, .int .i64 p.l1.a, .int .i64 p.l1.b, .int .i64 p.l2.a, .int .i64 p.l2.b] 39)).heap.size := by simp <;> omega
  clear r0 r1 r2 x2d10 x2d11 x2d12
  generalize (w9.alloc (.cells #[.int .i64 p.l0.a, .int .i64 p.l0.b, .int .i64 p.l1.a, .int .i64 p.l1.b, .int .i64 p.l2.a, .int .i64 p.l2.b] 39)) = w10 at H10 P0 P1 P2 P3 P4 P5 Q0 Q1 Q2 Q3 Q4 Q5 f1 g0 g1 g2 e1 e2 e3 e4 ⊢
  generalize w8.heap.size = bp at P0 P1 P2 P3 P4 P5 e1 ⊢
  generalize w9.heap.size = bq at Q0 Q1 Q2 Q3 Q4 Q5 e2 ⊢
  clear hb7 hb8 hb9 H6 H7 H8 H9 c7x0 c7x1 c8x0 c8x1 c8x2 c9x0 c9x1 c9x2
  have hPa := hide (legs_a (b := bp) P0 P2 P4)
  have hPb := hide (legs_b (b := bp) P1 P3 P5)
  have hQa := hide (legs_a (b := bq) Q0 Q2 Q4)
  have hQb := hide (legs_b (b := bq) Q1 Q3 Q5)
  go_cut [] (fun wz => Below w10.heap.size w10 wz)
  case first =>
    clear P0 P1 P2 P3 P4 P5 Q0 Q1 Q2 Q3 Q4 Q5 f1 g0 g1 g2
    go_wp2
    go_loopw [117] (fun i wr => ∃ k : Nat, k ≤ 3 ∧ i = .int .i64 (k : Int) ∧ Below w10.heap.size w10 wr) (fun i _ => 3 - (intOf i).toNat)
    case atStart =>
      exact ⟨0, by omega, rfl, Below.refl _ _⟩
    case round =>
      rename World => wr
      obtain ⟨k, hk, rfl, HRR⟩ := hrel
      have hyr := HRR.size
      have yr4 : bp < wr.heap.size := by omega
      have yr5 : bq < wr.heap.size := by omega
      by_cases hlt : k < 3
      · have k1 := (HRR.cell (p := ⟨bp, k * 2, none⟩) e1).trans (hPa.out k hlt)
        have k2 := (HRR.cell (p := ⟨bp, k * 2 + 1, none⟩) e1).trans (hPb.out k hlt)
        have k3 := (HRR.cell (p := ⟨bq, k * 2, none⟩) e2).trans (hQa.out k hlt)
        have k4 := (HRR.cell (p := ⟨bq, k * 2 + 1, none⟩) e2).trans (hQb.out k hlt)
        have i1 : (0 : Int) ≤ (k : Int) := by omega
        have i2 : (k : Int) < 3 := by omega
        obtain ⟨m1, m2, m3⟩ := leg_in HPI.out hlt
        obtain ⟨m4, m5, m6⟩ := leg_in HPI.out hlt
        have hl : (p.leg k).b - (p.leg k).a = (p.leg k).b - (p.leg k).a := rfl
        obtain ⟨D, hD⟩ : ∃ D, (p.leg k).b - (p.leg k).a = D := ⟨_, rfl⟩
        rw [hD] at hl
        have v1 : IntKind.i64.wrap ((p.leg k).b - (p.leg k).a) = D := by rw [hD]; exact IntWalk.i64_in _ (by omega)
        have v2 : IntKind.i64.wrap ((p.leg k).b - (p.leg k).a) = D := by rw [hD]; exact IntWalk.i64_in _ (by omega)
        clear hl hD
        go_wp2
        go_quiet (fail)
        go_wp2
        go_roundw
        case rel => exact ⟨k + 1, by omega, by go_num, by exact (by repeat (first | with_reducible exact HRR | with_reducible refine Below.drew ?_ | with_reducible refine below_drewN ?_ _))⟩
        case measure => simp [intOf]; omega
      · have ek : k = 3 := by omega
        subst ek
        go_wp2
        go_meet
        exact HRR
  case rest =>
  have hX := hcut
  rename World => w11
  have z11 := hX.size
  replace P0 := (hX.cell (p := ⟨bp, 0, none⟩) (by show bp < w10.heap.size; omega)).trans P0
  replace P1 := (hX.cell (p := ⟨bp, 1, none⟩) (by show bp < w10.heap.size; omega)).trans P1
  replace P2 := (hX.cell (p := ⟨bp, 2, none⟩) (by show bp < w10.heap.size; omega)).trans P2
  replace P3 := (hX.cell (p := ⟨bp, 3, none⟩) (by show bp < w10.heap.size; omega)).trans P3
  replace P4 := (hX.cell (p := ⟨bp, 4, none⟩) (by show bp < w10.heap.size; omega)).trans P4
  replace P5 := (hX.cell (p := ⟨bp, 5, none⟩) (by show bp < w10.heap.size; omega)).trans P5
  replace Q0 := (hX.cell (p := ⟨bq, 0, none⟩) (by show bq < w10.heap.size; omega)).trans Q0
  replace Q1 := (hX.cell (p := ⟨bq, 1, none⟩) (by show bq < w10.heap.size; omega)).trans Q1
  replace Q2 := (hX.cell (p := ⟨bq, 2, none⟩) (by show bq < w10.heap.size; omega)).trans Q2
  replace Q3 := (hX.cell (p := ⟨bq, 3, none⟩) (by show bq < w10.heap.size; omega)).trans Q3
  replace Q4 := (hX.cell (p := ⟨bq, 4, none⟩) (by show bq < w10.heap.size; omega)).trans Q4
  replace Q5 := (hX.cell (p := ⟨bq, 5, none⟩) (by show bq < w10.heap.size; omega)).trans Q5
  replace f1 := (hX.cell (p := ⟨w.heap.size + 1, 1, none⟩) (by show w.heap.size + 1 < w10.heap.size; omega)).trans f1
  replace g0 := (hX.cell (p := ⟨br, 0, none⟩) (by show br < w10.heap.size; omega)).trans g0
  replace g1 := (hX.cell (p := ⟨br, 1, none⟩) (by show br < w10.heap.size; omega)).trans g1
  replace g2 := (hX.cell (p := ⟨br, 2, none⟩) (by show br < w10.heap.size; omega)).trans g2
  have H11 : Below w.heap.size w w11 := H10.trans (hX.mono (by omega))
  have y1 : bp < w11.heap.size := by omega
  have y2 : bq < w11.heap.size := by omega
  have y3' : w.heap.size + 1 < w11.heap.size := by omega
  have y4' : br < w11.heap.size := by omega
  clear hX H10 hPa hPb hQa hQb hcut e1 e2 e3 e4
  go_wp2
  go_ret
  exact ⟨by simp, by exact (by repeat (first | with_reducible assumption | with_reducible refine Below.drew ?_ | with_reducible refine below_drewN ?_ _ | with_reducible refine Below.alloc ?_ (by first | omega | (simp <;> omega)) _ | with_reducible refine Below.setCell ?_ (by first | omega | (simp <;> omega)) _ | with_reducible exact Below.refl _ _))⟩
set_option maxHeartbeats 16000000 in
set_option maxRecDepth 100000 in
theorem whole_spread_yes (al be link per least dead x0 x1 x2 a b c need fa fb fu fv d0 d1 d2 t0 t1 l0 l1 s0 s1 : Int) (lim : Bool) (p q : Pt) (h : okF link per least dead) (ha : -268435456 ≤ a ∧ a ≤ 268435456) (hb : -268435456 ≤ b ∧ b ≤ 268435456) (hc : -a - b = c) (hneed : 1 ≤ need ∧ need ≤ 4096)
    (hcen : ∀ W : World, Calls Try.prog 20 #[] W fun e w' => e = .returned (.bool true) ∧ Below W.heap.size W w')
    (h0 : ∀ W : World, Calls Try.prog 22 #[.int .i64 x0, .int .i64 (-268435456), .int .i64 268435456] W fun e w' => e = .returned (.int .i64 a) ∧ Below W.heap.size W w')
    (h1 : ∀ W : World, Calls Try.prog 22 #[.int .i64 x1, .int .i64 (-268435456), .int .i64 268435456] W fun e w' => e = .returned (.int .i64 b) ∧ Below W.heap.size W w')
    (h2 : ∀ W : World, Calls Try.prog 22 #[.int .i64 x2, .int .i64 1, .int .i64 (per / 2)] W fun e w' => e = .returned (.int .i64 need) ∧ Below W.heap.size W w')
    (h3 : ∀ W : World, Calls Try.prog 22 #[.int .i64 al, .int .i64 (-1048576), .int .i64 1048576] W fun e w' => e = .returned (.int .i64 fa) ∧ Below W.heap.size W w')
    (h4 : ∀ W : World, Calls Try.prog 22 #[.int .i64 be, .int .i64 (-1048576), .int .i64 1048576] W fun e w' => e = .returned (.int .i64 fb) ∧ Below W.heap.size W w')
    (hCi : ∀ W : World, Calls Try.prog 23 #[.int .i64 fa, .int .i64 fb, .int .i64 link] W fun e w' => e = .returned (.tuple #[.int .i64 fu, .int .i64 fv, .bool lim, .nilIface]) ∧ Below W.heap.size W w')
    (hD : ∀ W : World, Calls Try.prog 24 #[.int .i64 fu, .int .i64 fv, .int .i64 link, .int .i64 per] W fun e w' => (∃ lm, e = .returned (.tuple #[.agg #[.int .i64 d0, .int .i64 d1, .int .i64 d2, .bool lm], .nilIface])) ∧ Below W.heap.size W w')
    (hM : ∀ W : World, Calls Try.prog 25 #[.agg #[.int .i64 d0, .int .i64 d1, .int .i64 d2], .int .i64 per, .int .i64 least] W fun e w' => e = .returned (.tuple #[.agg #[.int .i64 p.l0.a, .int .i64 p.l0.b, .int .i64 p.l1.a, .int .i64 p.l1.b, .int .i64 p.l2.a, .int .i64 p.l2.b], .nilIface]) ∧ Below W.heap.size W w')
    (hSp : ∀ W : World, Calls Try.prog 26 #[.agg #[.int .i64 p.l0.a, .int .i64 p.l0.b, .int .i64 p.l1.a, .int .i64 p.l1.b, .int .i64 p.l2.a, .int .i64 p.l2.b], .int .i64 per, .int .i64 least, .int .i64 need] W fun e w' => e = .returned (.tuple #[.agg #[.int .i64 q.l0.a, .int .i64 q.l0.b, .int .i64 q.l1.a, .int .i64 q.l1.b, .int .i64 q.l2.a, .int .i64 q.l2.b], .bool true, .nilIface]) ∧ Below W.heap.size W w')
    (hpin : p.In per) (hqin : q.In per) (hlen : ∀ k, (q.leg k).b - (q.leg k).a = (p.leg k).b - (p.leg k).a)
    (hPl : ∀ W : World, Calls Try.prog 27 #[.agg #[.int .i64 q.l0.a, .int .i64 q.l0.b, .int .i64 q.l1.a, .int .i64 q.l1.b, .int .i64 q.l2.a, .int .i64 q.l2.b], .int .i64 per, .int .i64 (need - 1)] W fun e w' => e = .returned (.tuple #[.agg #[.int .i64 t0, .int .i64 t1, .int .i64 l0, .int .i64 l1], .nilIface]) ∧ Below W.heap.size W w')
    (hS1 : ∀ W : World, Calls Try.prog 28 #[.agg #[.int .i64 q.l0.a, .int .i64 q.l0.b, .int .i64 q.l1.a, .int .i64 q.l1.b, .int .i64 q.l2.a, .int .i64 q.l2.b], .int .i64 per, .int .i64 t0, .agg #[.int .i64 a, .int .i64 b, .int .i64 c]] W fun e w' => e = .returned (.tuple #[.int .i64 s0, .nilIface]) ∧ Below W.heap.size W w')
    (hS2 : ∀ W : World, Calls Try.prog 28 #[.agg #[.int .i64 q.l0.a, .int .i64 q.l0.b, .int .i64 q.l1.a, .int .i64 q.l1.b, .int .i64 q.l2.a, .int .i64 q.l2.b], .int .i64 per, .int .i64 t1, .agg #[.int .i64 a, .int .i64 b, .int .i64 c]] W fun e w' => e = .returned (.tuple #[.int .i64 s1, .nilIface]) ∧ Below W.heap.size W w')
    (hJ : ∀ W : World, Calls Try.prog 29 #[.agg #[.int .i64 t0, .int .i64 t1, .int .i64 l0, .int .i64 l1], .agg #[.int .i64 s0, .int .i64 s1]] W fun e w' => e = .returned (.tuple #[.agg #[.int .i64 a, .int .i64 b, .int .i64 c], .nilIface]) ∧ Below W.heap.size W w')
    (w : World) :
    Calls Try.prog 3 #[.agg #[.int .i64 al, .int .i64 be], .agg #[.int .i64 link, .int .i64 per, .int .i64 least, .int .i64 dead], .agg #[.int .i64 x0, .int .i64 x1, .int .i64 x2]] w fun e w' => e = .returned (.bool true) ∧ Below w.heap.size w w' := by
  have HCEN := hide hcen
  have HOK := hide (fun W => fok_yes link per least dead h W)
  have HC0 := hide h0
  have HC1 := hide h1
  have HC2 := hide h2
  have HC3 := hide h3
  have HC4 := hide h4
  have HCI := hide hCi
  have HD := hide hD
  have HM := hide hM
  have HSP := hide hSp
  have HLEN := hide hlen
  have HPI := hide hpin
  have HQI := hide hqin
  have HPL := hide hPl
  have HS1 := hide hS1
  have HS2 := hide hS2
  have HJ := hide hJ
  obtain ⟨q1, q2, q3, q4, q5, q6, q7, q8, q9⟩ := h
  obtain ⟨ha1, ha2⟩ := ha
  obtain ⟨hb1', hb2'⟩ := hb
  obtain ⟨n1, n2⟩ := hneed
  have gt : per.tdiv 2 = per / 2 := Int.tdiv_eq_ediv_of_nonneg (by omega)
  have gq : IntKind.i64.wrap (per / 2) = per / 2 := IntWalk.i64_in _ (by omega)
  have gna : IntKind.i64.wrap (-a) = -a := IntWalk.i64_in _ (by omega)
  have gnc : IntKind.i64.wrap (-a - b) = c := by rw [hc]; exact IntWalk.i64_in _ (by omega)
  have gn1 : IntKind.i64.wrap (need - 1) = need - 1 := IntWalk.i64_in _ (by omega)
  clear hcen h0 h1 h2 h3 h4 hCi hD hM hSp hpin hqin hlen hc hPl hS1 hS2 hJ
  go_enter Try.func3, Try.ntmps3
  go_upto_region 3 with (first
    | (go_at_call 20; refine (HCEN.out _).mono ?_; rintro e w1 ⟨rfl, hb1⟩; have z1 := hb1.size; (try simp at z1); have c1x0 := bstep (b := w.heap.size) hb1 (by first | omega | (simp <;> omega)); have y1x0 : w.heap.size < w1.heap.size := (by omega); have c1x1 := bstep (b := w.heap.size + 1) hb1 (by first | omega | (simp <;> omega)); have y1x1 : w.heap.size + 1 < w1.heap.size := (by omega); have c1x2 := bstep (b := w.heap.size + 1 + 1) hb1 (by first | omega | (simp <;> omega)); have y1x2 : w.heap.size + 1 + 1 < w1.heap.size := (by omega); have H1 : Below w.heap.size w w1 := Below.trans (by repeat (first | with_reducible assumption | with_reducible refine Below.drew ?_ | with_reducible refine below_drewN ?_ _ | with_reducible refine Below.alloc ?_ (by first | omega | (simp <;> omega)) _ | with_reducible refine Below.setCell ?_ (by first | omega | (simp <;> omega)) _ | with_reducible exact Below.refl _ _)) (hb1.mono (by first | omega | (simp <;> omega))); have x1d00 : w1.cell? ⟨w.heap.size, 0, none⟩ = some (.int .i64 al) := (c1x0 0).trans (by go_simp); have x1d01 : w1.cell? ⟨w.heap.size, 1, none⟩ = some (.int .i64 be) := (c1x0 1).trans (by go_simp); have x1d10 : w1.cell? ⟨w.heap.size + 1, 0, none⟩ = some (.int .i64 link) := (c1x1 0).trans (by go_simp); have x1d11 : w1.cell? ⟨w.heap.size + 1, 1, none⟩ = some (.int .i64 per) := (c1x1 1).trans (by go_simp); have x1d12 : w1.cell? ⟨w.heap.size + 1, 2, none⟩ = some (.int .i64 least) := (c1x1 2).trans (by go_simp); have x1d13 : w1.cell? ⟨w.heap.size + 1, 3, none⟩ = some (.int .i64 dead) := (c1x1 3).trans (by go_simp); have x1d20 : w1.cell? ⟨w.heap.size + 1 + 1, 0, none⟩ = some (.int .i64 x0) := (c1x2 0).trans (by go_simp); have x1d21 : w1.cell? ⟨w.heap.size + 1 + 1, 1, none⟩ = some (.int .i64 x1) := (c1x2 1).trans (by go_simp); have x1d22 : w1.cell? ⟨w.heap.size + 1 + 1, 2, none⟩ = some (.int .i64 x2) := (c1x2 2).trans (by go_simp); clear c1x0 c1x1 c1x2)
    | (go_at_call 21; refine (HOK.out _).mono ?_; rintro e w2 ⟨rfl, hb2⟩; have z2 := hb2.size; (try simp at z2); have c2x0 := bstep (b := w.heap.size) hb2 (by first | omega | (simp <;> omega)); have y2x0 : w.heap.size < w2.heap.size := (by omega); have c2x1 := bstep (b := w.heap.size + 1) hb2 (by first | omega | (simp <;> omega)); have y2x1 : w.heap.size + 1 < w2.heap.size := (by omega); have c2x2 := bstep (b := w.heap.size + 1 + 1) hb2 (by first | omega | (simp <;> omega)); have y2x2 : w.heap.size + 1 + 1 < w2.heap.size := (by omega); have H2 : Below w.heap.size w w2 := Below.trans (by repeat (first | with_reducible assumption | with_reducible refine Below.drew ?_ | with_reducible refine below_drewN ?_ _ | with_reducible refine Below.alloc ?_ (by first | omega | (simp <;> omega)) _ | with_reducible refine Below.setCell ?_ (by first | omega | (simp <;> omega)) _ | with_reducible exact Below.refl _ _)) (hb2.mono (by first | omega | (simp <;> omega))); have x2d00 : w2.cell? ⟨w.heap.size, 0, none⟩ = some (.int .i64 al) := (c2x0 0).trans (by go_simp); have x2d01 : w2.cell? ⟨w.heap.size, 1, none⟩ = some (.int .i64 be) := (c2x0 1).trans (by go_simp); have x2d10 : w2.cell? ⟨w.heap.size + 1, 0, none⟩ = some (.int .i64 link) := (c2x1 0).trans (by go_simp); have x2d11 : w2.cell? ⟨w.heap.size + 1, 1, none⟩ = some (.int .i64 per) := (c2x1 1).trans (by go_simp); have x2d12 : w2.cell? ⟨w.heap.size + 1, 2, none⟩ = some (.int .i64 least) := (c2x1 2).trans (by go_simp); have x2d13 : w2.cell? ⟨w.heap.size + 1, 3, none⟩ = some (.int .i64 dead) := (c2x1 3).trans (by go_simp); have x2d20 : w2.cell? ⟨w.heap.size + 1 + 1, 0, none⟩ = some (.int .i64 x0) := (c2x2 0).trans (by go_simp); have x2d21 : w2.cell? ⟨w.heap.size + 1 + 1, 1, none⟩ = some (.int .i64 x1) := (c2x2 1).trans (by go_simp); have x2d22 : w2.cell? ⟨w.heap.size + 1 + 1, 2, none⟩ = some (.int .i64 x2) := (c2x2 2).trans (by go_simp); clear c2x0 c2x1 c2x2))
  clear x1d00 x1d01 x1d10 x1d11 x1d12 x1d13 x1d20 x1d21 x1d22 hb1 hb2
  go_cut [7, 8] (fun s7 s8 wz => s7 = .int .i64 a ∧ s8 = .int .i64 b ∧ Below w2.heap.size w2 wz)
  case first =>
    have kx2d20 := fun d os => cell_regrown x2d20 d os
    have kx2d21 := fun d os => cell_regrown x2d21 d os
    have cA := fun d os => Calls.regrown_of (HC0.out (Go.Sort.grow (redrawn w2 d) os))
    have cB := fun d os => Calls.regrown_of (HC1.out (Go.Sort.grow (redrawn w2 d) os))
    refine wp_region_quiet_below (by kernel_rfl) (by kernel_rfl) ?_
    repeat (go_big_quiet_step (first | with_reducible exact cA _ _ | with_reducible exact cB _ _))
    refine wpQuiet_nil ?_
    rintro wz ⟨⟨dd, os⟩, rfl⟩
    have hz := below_regrown w2 dd os
    clear cA cB kx2d20 kx2d21
    generalize Go.Sort.grow (redrawn w2 dd) os = wz at hz ⊢
    go_wp2
    go_meet
    exact ⟨rfl, rfl, hz⟩
  case rest =>
  obtain ⟨rfl, rfl, hX⟩ := hcut
  rename World => w3
  have z3 := hX.size
  replace x2d00 := (hX.cell (p := ⟨w.heap.size, 0, none⟩) (by show w.heap.size < w2.heap.size; omega)).trans x2d00
  replace x2d01 := (hX.cell (p := ⟨w.heap.size, 1, none⟩) (by show w.heap.size < w2.heap.size; omega)).trans x2d01
  replace x2d10 := (hX.cell (p := ⟨w.heap.size + 1, 0, none⟩) (by show w.heap.size + 1 < w2.heap.size; omega)).trans x2d10
  replace x2d11 := (hX.cell (p := ⟨w.heap.size + 1, 1, none⟩) (by show w.heap.size + 1 < w2.heap.size; omega)).trans x2d11
  replace x2d12 := (hX.cell (p := ⟨w.heap.size + 1, 2, none⟩) (by show w.heap.size + 1 < w2.heap.size; omega)).trans x2d12
  replace x2d13 := (hX.cell (p := ⟨w.heap.size + 1, 3, none⟩) (by show w.heap.size + 1 < w2.heap.size; omega)).trans x2d13
  replace x2d20 := (hX.cell (p := ⟨w.heap.size + 1 + 1, 0, none⟩) (by show w.heap.size + 1 + 1 < w2.heap.size; omega)).trans x2d20
  replace x2d21 := (hX.cell (p := ⟨w.heap.size + 1 + 1, 1, none⟩) (by show w.heap.size + 1 + 1 < w2.heap.size; omega)).trans x2d21
  replace x2d22 := (hX.cell (p := ⟨w.heap.size + 1 + 1, 2, none⟩) (by show w.heap.size + 1 + 1 < w2.heap.size; omega)).trans x2d22
  have H3 : Below w.heap.size w w3 := H2.trans (hX.mono (by omega))
  clear hX
  have y3 : w.heap.size + 1 + 1 < w3.heap.size := by omega
  go_upto_region 6 with (go_at_call 22; with_reducible refine (HC2.out _).mono ?_; rintro e w4 ⟨rfl, hb4⟩; have z4 := hb4.size; replace x2d00 := (hb4.cell (p := ⟨w.heap.size, 0, none⟩) (by show w.heap.size < w3.heap.size; omega)).trans x2d00; replace x2d01 := (hb4.cell (p := ⟨w.heap.size, 1, none⟩) (by show w.heap.size < w3.heap.size; omega)).trans x2d01; replace x2d10 := (hb4.cell (p := ⟨w.heap.size + 1, 0, none⟩) (by show w.heap.size + 1 < w3.heap.size; omega)).trans x2d10; replace x2d11 := (hb4.cell (p := ⟨w.heap.size + 1, 1, none⟩) (by show w.heap.size + 1 < w3.heap.size; omega)).trans x2d11; replace x2d12 := (hb4.cell (p := ⟨w.heap.size + 1, 2, none⟩) (by show w.heap.size + 1 < w3.heap.size; omega)).trans x2d12; replace x2d13 := (hb4.cell (p := ⟨w.heap.size + 1, 3, none⟩) (by show w.heap.size + 1 < w3.heap.size; omega)).trans x2d13; replace x2d20 := (hb4.cell (p := ⟨w.heap.size + 1 + 1, 0, none⟩) (by show w.heap.size + 1 + 1 < w3.heap.size; omega)).trans x2d20; replace x2d21 := (hb4.cell (p := ⟨w.heap.size + 1 + 1, 1, none⟩) (by show w.heap.size + 1 + 1 < w3.heap.size; omega)).trans x2d21; replace x2d22 := (hb4.cell (p := ⟨w.heap.size + 1 + 1, 2, none⟩) (by show w.heap.size + 1 + 1 < w3.heap.size; omega)).trans x2d22; have H4 : Below w.heap.size w w4 := H3.trans (hb4.mono (by omega)))
  have HW5 : Below w4.heap.size w4 (w4.alloc (.cells #[.int .i64 a, .int .i64 b, .int .i64 c] 26)) := (Below.refl _ _).alloc (Nat.le_refl _) _
  have r0 : (w4.alloc (.cells #[.int .i64 a, .int .i64 b, .int .i64 c] 26)).cell? ⟨w4.heap.size, 0, none⟩ = some (.int .i64 a) := by go_simp
  have r1 : (w4.alloc (.cells #[.int .i64 a, .int .i64 b, .int .i64 c] 26)).cell? ⟨w4.heap.size, 1, none⟩ = some (.int .i64 b) := by go_simp
  have r2 : (w4.alloc (.cells #[.int .i64 a, .int .i64 b, .int .i64 c] 26)).cell? ⟨w4.heap.size, 2, none⟩ = some (.int .i64 c) := by go_simp
  have yr : w4.heap.size < (w4.alloc (.cells #[.int .i64 a, .int .i64 b, .int .i64 c] 26)).heap.size := by simp
  have y4 : w.heap.size + 1 + 1 < w4.heap.size := by omega
  generalize (w4.alloc (.cells #[.int .i64 a, .int .i64 b, .int .i64 c] 26)) = w5 at HW5 r0 r1 r2 yr ⊢
  replace x2d00 := (HW5.cell (p := ⟨w.heap.size, 0, none⟩) (by show w.heap.size < w4.heap.size; omega)).trans x2d00
  replace x2d01 := (HW5.cell (p := ⟨w.heap.size, 1, none⟩) (by show w.heap.size < w4.heap.size; omega)).trans x2d01
  replace x2d10 := (HW5.cell (p := ⟨w.heap.size + 1, 0, none⟩) (by show w.heap.size + 1 < w4.heap.size; omega)).trans x2d10
  replace x2d11 := (HW5.cell (p := ⟨w.heap.size + 1, 1, none⟩) (by show w.heap.size + 1 < w4.heap.size; omega)).trans x2d11
  replace x2d12 := (HW5.cell (p := ⟨w.heap.size + 1, 2, none⟩) (by show w.heap.size + 1 < w4.heap.size; omega)).trans x2d12
  replace x2d13 := (HW5.cell (p := ⟨w.heap.size + 1, 3, none⟩) (by show w.heap.size + 1 < w4.heap.size; omega)).trans x2d13
  replace x2d20 := (HW5.cell (p := ⟨w.heap.size + 1 + 1, 0, none⟩) (by show w.heap.size + 1 + 1 < w4.heap.size; omega)).trans x2d20
  replace x2d21 := (HW5.cell (p := ⟨w.heap.size + 1 + 1, 1, none⟩) (by show w.heap.size + 1 + 1 < w4.heap.size; omega)).trans x2d21
  replace x2d22 := (HW5.cell (p := ⟨w.heap.size + 1 + 1, 2, none⟩) (by show w.heap.size + 1 + 1 < w4.heap.size; omega)).trans x2d22
  have H5 : Below w.heap.size w w5 := H4.trans (HW5.mono (by omega))
  have y5 : w.heap.size + 1 + 1 < w5.heap.size := by omega
  generalize hbr : w4.heap.size = br at r0 r1 r2 yr ⊢
  clear HW5 hb4 H4 H3 hbr
  go_cut [11, 12, 13, 14] (fun s11 s12 s13 s14 wz => s11 = .int .i64 fu ∧ s12 = .int .i64 fv ∧ s13 = .bool lim ∧ s14 = .nilIface ∧ Below w5.heap.size w5 wz)
  case first =>
    have kx2d00 := fun d os => cell_regrown x2d00 d os
    have kx2d01 := fun d os => cell_regrown x2d01 d os
    have kx2d10 := fun d os => cell_regrown x2d10 d os
    have cA := fun d os => Calls.regrown_of (HC3.out (Go.Sort.grow (redrawn w5 d) os))
    have cB := fun d os => Calls.regrown_of (HC4.out (Go.Sort.grow (redrawn w5 d) os))
    have cC := fun d os => Calls.regrown_of (HCI.out (Go.Sort.grow (redrawn w5 d) os))
    refine wp_region_quiet_below (by kernel_rfl) (by kernel_rfl) ?_
    repeat (go_big_quiet_step (first | with_reducible exact cA _ _ | with_reducible exact cB _ _ | with_reducible exact cC _ _))
    refine wpQuiet_nil ?_
    rintro wz ⟨⟨dd, os⟩, rfl⟩
    have hz := below_regrown w5 dd os
    clear cA cB cC kx2d00 kx2d01 kx2d10
    generalize Go.Sort.grow (redrawn w5 dd) os = wz at hz ⊢
    go_wp2
    go_meet
    exact ⟨rfl, rfl, rfl, rfl, hz⟩
  case rest =>
  obtain ⟨rfl, rfl, rfl, rfl, hX⟩ := hcut
  rename World => w6
  have z6 := hX.size
  replace x2d10 := (hX.cell (p := ⟨w.heap.size + 1, 0, none⟩) (by show w.heap.size + 1 < w5.heap.size; omega)).trans x2d10
  replace x2d11 := (hX.cell (p := ⟨w.heap.size + 1, 1, none⟩) (by show w.heap.size + 1 < w5.heap.size; omega)).trans x2d11
  replace x2d12 := (hX.cell (p := ⟨w.heap.size + 1, 2, none⟩) (by show w.heap.size + 1 < w5.heap.size; omega)).trans x2d12
  replace r0 := (hX.cell (p := ⟨br, 0, none⟩) (by show br < w5.heap.size; omega)).trans r0
  replace r1 := (hX.cell (p := ⟨br, 1, none⟩) (by show br < w5.heap.size; omega)).trans r1
  replace r2 := (hX.cell (p := ⟨br, 2, none⟩) (by show br < w5.heap.size; omega)).trans r2
  have H6 : Below w.heap.size w w6 := H5.trans (hX.mono (by omega))
  have y6 : w.heap.size + 1 < w6.heap.size := by omega
  have y6r : br < w6.heap.size := by omega
  clear hX H5 H2 x2d00 x2d01 x2d13 x2d20 x2d21 x2d22
  go_upto_block 0 with (first
    | (go_at_call 24; refine (HD.out _).mono ?_; rintro e w7 ⟨⟨lm, rfl⟩, hb7⟩; have z7 := hb7.size; (try simp at z7); have c7x0 := bstep (b := w.heap.size + 1) hb7 (by first | omega | (simp <;> omega)); have y7x0 : w.heap.size + 1 < w7.heap.size := (by omega); have c7x1 := bstep (b := br) hb7 (by first | omega | (simp <;> omega)); have y7x1 : br < w7.heap.size := (by omega); have H7 : Below w.heap.size w w7 := Below.trans (by repeat (first | with_reducible assumption | with_reducible refine Below.drew ?_ | with_reducible refine below_drewN ?_ _ | with_reducible refine Below.alloc ?_ (by first | omega | (simp <;> omega)) _ | with_reducible refine Below.setCell ?_ (by first | omega | (simp <;> omega)) _ | with_reducible exact Below.refl _ _)) (hb7.mono (by first | omega | (simp <;> omega))))
    | (go_at_call 25; refine (HM.out _).mono ?_; rintro e w8 ⟨rfl, hb8⟩; have z8 := hb8.size; (try simp at z8); have c8x0 := bstep (b := w.heap.size + 1) hb8 (by first | omega | (simp <;> omega)); have y8x0 : w.heap.size + 1 < w8.heap.size := (by omega); have c8x1 := bstep (b := br) hb8 (by first | omega | (simp <;> omega)); have y8x1 : br < w8.heap.size := (by omega); have c8x2 := bstep (b := w7.heap.size) hb8 (by first | omega | (simp <;> omega)); have y8x2 : w7.heap.size < w8.heap.size := (by omega); have H8 : Below w.heap.size w w8 := Below.trans (by repeat (first | with_reducible assumption | with_reducible refine Below.drew ?_ | with_reducible refine below_drewN ?_ _ | with_reducible refine Below.alloc ?_ (by first | omega | (simp <;> omega)) _ | with_reducible refine Below.setCell ?_ (by first | omega | (simp <;> omega)) _ | with_reducible exact Below.refl _ _)) (hb8.mono (by first | omega | (simp <;> omega))))
    | (go_at_call 26; refine (HSP.out _).mono ?_; rintro e w9 ⟨rfl, hb9⟩; have z9 := hb9.size; (try simp at z9); have c9x0 := bstep (b := w.heap.size + 1) hb9 (by first | omega | (simp <;> omega)); have y9x0 : w.heap.size + 1 < w9.heap.size := (by omega); have c9x1 := bstep (b := br) hb9 (by first | omega | (simp <;> omega)); have y9x1 : br < w9.heap.size := (by omega); have c9x2 := bstep (b := w8.heap.size) hb9 (by first | omega | (simp <;> omega)); have y9x2 : w8.heap.size < w9.heap.size := (by omega); have H9 : Below w.heap.size w w9 := Below.trans (by repeat (first | with_reducible assumption | with_reducible refine Below.drew ?_ | with_reducible refine below_drewN ?_ _ | with_reducible refine Below.alloc ?_ (by first | omega | (simp <;> omega)) _ | with_reducible refine Below.setCell ?_ (by first | omega | (simp <;> omega)) _ | with_reducible exact Below.refl _ _)) (hb9.mono (by first | omega | (simp <;> omega)))))
  have H10 : Below w.heap.size w (w9.alloc (.cells #[.int .i64 q.l0.a, .int .i64 q.l0.b, .int .i64 q.l1.a, .int .i64 q.l1.b, .int .i64 q.l2.a, .int .i64 q.l2.b] 39)) := by exact (by repeat (first | with_reducible assumption | with_reducible refine Below.drew ?_ | with_reducible refine below_drewN ?_ _ | with_reducible refine Below.alloc ?_ (by first | omega | (simp <;> omega)) _ | with_reducible refine Below.setCell ?_ (by first | omega | (simp <;> omega)) _ | with_reducible exact Below.refl _ _))
  have P0 : (w9.alloc (.cells #[.int .i64 q.l0.a, .int .i64 q.l0.b, .int .i64 q.l1.a, .int .i64 q.l1.b, .int .i64 q.l2.a, .int .i64 q.l2.b] 39)).cell? ⟨w8.heap.size, 0, none⟩ = some (.int .i64 p.l0.a) := by go_simp
  have P1 : (w9.alloc (.cells #[.int .i64 q.l0.a, .int .i64 q.l0.b, .int .i64 q.l1.a, .int .i64 q.l1.b, .int .i64 q.l2.a, .int .i64 q.l2.b] 39)).cell? ⟨w8.heap.size, 1, none⟩ = some (.int .i64 p.l0.b) := by go_simp
  have P2 : (w9.alloc (.cells #[.int .i64 q.l0.a, .int .i64 q.l0.b, .int .i64 q.l1.a, .int .i64 q.l1.b, .int .i64 q.l2.a, .int .i64 q.l2.b] 39)).cell? ⟨w8.heap.size, 2, none⟩ = some (.int .i64 p.l1.a) := by go_simp
  have P3 : (w9.alloc (.cells #[.int .i64 q.l0.a, .int .i64 q.l0.b, .int .i64 q.l1.a, .int .i64 q.l1.b, .int .i64 q.l2.a, .int .i64 q.l2.b] 39)).cell? ⟨w8.heap.size, 3, none⟩ = some (.int .i64 p.l1.b) := by go_simp
  have P4 : (w9.alloc (.cells #[.int .i64 q.l0.a, .int .i64 q.l0.b, .int .i64 q.l1.a, .int .i64 q.l1.b, .int .i64 q.l2.a, .int .i64 q.l2.b] 39)).cell? ⟨w8.heap.size, 4, none⟩ = some (.int .i64 p.l2.a) := by go_simp
  have P5 : (w9.alloc (.cells #[.int .i64 q.l0.a, .int .i64 q.l0.b, .int .i64 q.l1.a, .int .i64 q.l1.b, .int .i64 q.l2.a, .int .i64 q.l2.b] 39)).cell? ⟨w8.heap.size, 5, none⟩ = some (.int .i64 p.l2.b) := by go_simp
  have Q0 : (w9.alloc (.cells #[.int .i64 q.l0.a, .int .i64 q.l0.b, .int .i64 q.l1.a, .int .i64 q.l1.b, .int .i64 q.l2.a, .int .i64 q.l2.b] 39)).cell? ⟨w9.heap.size, 0, none⟩ = some (.int .i64 q.l0.a) := by go_simp
  have Q1 : (w9.alloc (.cells #[.int .i64 q.l0.a, .int .i64 q.l0.b, .int .i64 q.l1.a, .int .i64 q.l1.b, .int .i64 q.l2.a, .int .i64 q.l2.b] 39)).cell? ⟨w9.heap.size, 1, none⟩ = some (.int .i64 q.l0.b) := by go_simp
  have Q2 : (w9.alloc (.cells #[.int .i64 q.l0.a, .int .i64 q.l0.b, .int .i64 q.l1.a, .int .i64 q.l1.b, .int .i64 q.l2.a, .int .i64 q.l2.b] 39)).cell? ⟨w9.heap.size, 2, none⟩ = some (.int .i64 q.l1.a) := by go_simp
  have Q3 : (w9.alloc (.cells #[.int .i64 q.l0.a, .int .i64 q.l0.b, .int .i64 q.l1.a, .int .i64 q.l1.b, .int .i64 q.l2.a, .int .i64 q.l2.b] 39)).cell? ⟨w9.heap.size, 3, none⟩ = some (.int .i64 q.l1.b) := by go_simp
  have Q4 : (w9.alloc (.cells #[.int .i64 q.l0.a, .int .i64 q.l0.b, .int .i64 q.l1.a, .int .i64 q.l1.b, .int .i64 q.l2.a, .int .i64 q.l2.b] 39)).cell? ⟨w9.heap.size, 4, none⟩ = some (.int .i64 q.l2.a) := by go_simp
  have Q5 : (w9.alloc (.cells #[.int .i64 q.l0.a, .int .i64 q.l0.b, .int .i64 q.l1.a, .int .i64 q.l1.b, .int .i64 q.l2.a, .int .i64 q.l2.b] 39)).cell? ⟨w9.heap.size, 5, none⟩ = some (.int .i64 q.l2.b) := by go_simp
  have f1 : (w9.alloc (.cells #[.int .i64 q.l0.a, .int .i64 q.l0.b, .int .i64 q.l1.a, .int .i64 q.l1.b, .int .i64 q.l2.a, .int .i64 q.l2.b] 39)).cell? ⟨w.heap.size + 1, 1, none⟩ = some (.int .i64 per) := by go_simp
  have g0 : (w9.alloc (.cells #[.int .i64 q.l0.a, .int .i64 q.l0.b, .int .i64 q.l1.a, .int .i64 q.l1.b, .int .i64 q.l2.a, .int .i64 q.l2.b] 39)).cell? ⟨br, 0, none⟩ = some (.int .i64 a) := by go_simp
  have g1 : (w9.alloc (.cells #[.int .i64 q.l0.a, .int .i64 q.l0.b, .int .i64 q.l1.a, .int .i64 q.l1.b, .int .i64 q.l2.a, .int .i64 q.l2.b] 39)).cell? ⟨br, 1, none⟩ = some (.int .i64 b) := by go_simp
  have g2 : (w9.alloc (.cells #[.int .i64 q.l0.a, .int .i64 q.l0.b, .int .i64 q.l1.a, .int .i64 q.l1.b, .int .i64 q.l2.a, .int .i64 q.l2.b] 39)).cell? ⟨br, 2, none⟩ = some (.int .i64 c) := by go_simp
  have e1 : w8.heap.size < (w9.alloc (.cells #[.int .i64 q.l0.a, .int .i64 q.l0.b, .int .i64 q.l1.a, .int .i64 q.l1.b, .int .i64 q.l2.a, .int .i64 q.l2.b] 39)).heap.size := by simp <;> omega
  have e2 : w9.heap.size < (w9.alloc (.cells #[.int .i64 q.l0.a, .int .i64 q.l0.b, .int .i64 q.l1.a, .int .i64 q.l1.b, .int .i64 q.l2.a, .int .i64 q.l2.b] 39)).heap.size := by simp
  have e3 : w.heap.size + 1 < (w9.alloc (.cells #[.int .i64 q.l0.a, .int .i64 q.l0.b, .int .i64 q.l1.a, .int .i64 q.l1.b, .int .i64 q.l2.a, .int .i64 q.l2.b] 39)).heap.size := by simp <;> omega
  have e4 : br < (w9.alloc (.cells #[.int .i64 q.l0.a, .int .i64 q.l0.b, .int .i64 q.l1.a, .int .i64 q.l1.b, .int .i64 q.l2.a, .int .i64 q.l2.b] 39)).heap.size := by simp <;> omega
  clear r0 r1 r2 x2d10 x2d11 x2d12
  generalize (w9.alloc (.cells #[.int .i64 q.l0.a, .int .i64 q.l0.b, .int .i64 q.l1.a, .int .i64 q.l1.b, .int .i64 q.l2.a, .int .i64 q.l2.b] 39)) = w10 at H10 P0 P1 P2 P3 P4 P5 Q0 Q1 Q2 Q3 Q4 Q5 f1 g0 g1 g2 e1 e2 e3 e4 ⊢
  generalize w8.heap.size = bp at P0 P1 P2 P3 P4 P5 e1 ⊢
  generalize w9.heap.size = bq at Q0 Q1 Q2 Q3 Q4 Q5 e2 ⊢
  clear hb7 hb8 hb9 H6 H7 H8 H9 c7x0 c7x1 c8x0 c8x1 c8x2 c9x0 c9x1 c9x2
  have hPa := hide (legs_a (b := bp) P0 P2 P4)
  have hPb := hide (legs_b (b := bp) P1 P3 P5)
  have hQa := hide (legs_a (b := bq) Q0 Q2 Q4)
  have hQb := hide (legs_b (b := bq) Q1 Q3 Q5)
  go_cut [] (fun wz => Below w10.heap.size w10 wz)
  case first =>
    clear P0 P1 P2 P3 P4 P5 Q0 Q1 Q2 Q3 Q4 Q5 f1 g0 g1 g2
    go_wp2
    go_loopw [117] (fun i wr => ∃ k : Nat, k ≤ 3 ∧ i = .int .i64 (k : Int) ∧ Below w10.heap.size w10 wr) (fun i _ => 3 - (intOf i).toNat)
    case atStart =>
      exact ⟨0, by omega, rfl, Below.refl _ _⟩
    case round =>
      rename World => wr
      obtain ⟨k, hk, rfl, HRR⟩ := hrel
      have hyr := HRR.size
      have yr4 : bp < wr.heap.size := by omega
      have yr5 : bq < wr.heap.size := by omega
      by_cases hlt : k < 3
      · have k1 := (HRR.cell (p := ⟨bp, k * 2, none⟩) e1).trans (hPa.out k hlt)
        have k2 := (HRR.cell (p := ⟨bp, k * 2 + 1, none⟩) e1).trans (hPb.out k hlt)
        have k3 := (HRR.cell (p := ⟨bq, k * 2, none⟩) e2).trans (hQa.out k hlt)
        have k4 := (HRR.cell (p := ⟨bq, k * 2 + 1, none⟩) e2).trans (hQb.out k hlt)
        have i1 : (0 : Int) ≤ (k : Int) := by omega
        have i2 : (k : Int) < 3 := by omega
        obtain ⟨m1, m2, m3⟩ := leg_in HQI.out hlt
        obtain ⟨m4, m5, m6⟩ := leg_in HPI.out hlt
        have hl : (q.leg k).b - (q.leg k).a = (p.leg k).b - (p.leg k).a := HLEN.out k
        obtain ⟨D, hD⟩ : ∃ D, (q.leg k).b - (q.leg k).a = D := ⟨_, rfl⟩
        rw [hD] at hl
        have v1 : IntKind.i64.wrap ((q.leg k).b - (q.leg k).a) = D := by rw [hD]; exact IntWalk.i64_in _ (by omega)
        have v2 : IntKind.i64.wrap ((p.leg k).b - (p.leg k).a) = D := by rw [← hl]; exact IntWalk.i64_in _ (by omega)
        clear hl hD
        go_wp2
        go_quiet (fail)
        go_wp2
        go_roundw
        case rel => exact ⟨k + 1, by omega, by go_num, by exact (by repeat (first | with_reducible exact HRR | with_reducible refine Below.drew ?_ | with_reducible refine below_drewN ?_ _))⟩
        case measure => simp [intOf]; omega
      · have ek : k = 3 := by omega
        subst ek
        go_wp2
        go_meet
        exact HRR
  case rest =>
  have hX := hcut
  rename World => w11
  have z11 := hX.size
  replace P0 := (hX.cell (p := ⟨bp, 0, none⟩) (by show bp < w10.heap.size; omega)).trans P0
  replace P1 := (hX.cell (p := ⟨bp, 1, none⟩) (by show bp < w10.heap.size; omega)).trans P1
  replace P2 := (hX.cell (p := ⟨bp, 2, none⟩) (by show bp < w10.heap.size; omega)).trans P2
  replace P3 := (hX.cell (p := ⟨bp, 3, none⟩) (by show bp < w10.heap.size; omega)).trans P3
  replace P4 := (hX.cell (p := ⟨bp, 4, none⟩) (by show bp < w10.heap.size; omega)).trans P4
  replace P5 := (hX.cell (p := ⟨bp, 5, none⟩) (by show bp < w10.heap.size; omega)).trans P5
  replace Q0 := (hX.cell (p := ⟨bq, 0, none⟩) (by show bq < w10.heap.size; omega)).trans Q0
  replace Q1 := (hX.cell (p := ⟨bq, 1, none⟩) (by show bq < w10.heap.size; omega)).trans Q1
  replace Q2 := (hX.cell (p := ⟨bq, 2, none⟩) (by show bq < w10.heap.size; omega)).trans Q2
  replace Q3 := (hX.cell (p := ⟨bq, 3, none⟩) (by show bq < w10.heap.size; omega)).trans Q3
  replace Q4 := (hX.cell (p := ⟨bq, 4, none⟩) (by show bq < w10.heap.size; omega)).trans Q4
  replace Q5 := (hX.cell (p := ⟨bq, 5, none⟩) (by show bq < w10.heap.size; omega)).trans Q5
  replace f1 := (hX.cell (p := ⟨w.heap.size + 1, 1, none⟩) (by show w.heap.size + 1 < w10.heap.size; omega)).trans f1
  replace g0 := (hX.cell (p := ⟨br, 0, none⟩) (by show br < w10.heap.size; omega)).trans g0
  replace g1 := (hX.cell (p := ⟨br, 1, none⟩) (by show br < w10.heap.size; omega)).trans g1
  replace g2 := (hX.cell (p := ⟨br, 2, none⟩) (by show br < w10.heap.size; omega)).trans g2
  have H11 : Below w.heap.size w w11 := H10.trans (hX.mono (by omega))
  have y1 : bp < w11.heap.size := by omega
  have y2 : bq < w11.heap.size := by omega
  have y3' : w.heap.size + 1 < w11.heap.size := by omega
  have y4' : br < w11.heap.size := by omega
  clear hX H10 hPa hPb hQa hQb hcut e1 e2 e3 e4
  go_wp2_with (first
    | (go_at_call 27; refine (HPL.out _).mono ?_; rintro e w12 ⟨rfl, hb12⟩; have z12 := hb12.size; (try simp at z12); have c12x0 := bstep (b := w.heap.size + 1) hb12 (by first | omega | (simp <;> omega)); have y12x0 : w.heap.size + 1 < w12.heap.size := (by omega); have c12x1 := bstep (b := br) hb12 (by first | omega | (simp <;> omega)); have y12x1 : br < w12.heap.size := (by omega); have c12x2 := bstep (b := bq) hb12 (by first | omega | (simp <;> omega)); have y12x2 : bq < w12.heap.size := (by omega); have H12 : Below w.heap.size w w12 := Below.trans (by repeat (first | with_reducible assumption | with_reducible refine Below.drew ?_ | with_reducible refine below_drewN ?_ _ | with_reducible refine Below.alloc ?_ (by first | omega | (simp <;> omega)) _ | with_reducible refine Below.setCell ?_ (by first | omega | (simp <;> omega)) _ | with_reducible exact Below.refl _ _)) (hb12.mono (by first | omega | (simp <;> omega))))
    | (go_at_call 28; first | (with_reducible refine (HS1.out _).mono ?_; rintro e w13 ⟨rfl, hb13⟩; have z13 := hb13.size; (try simp at z13); have c13x0 := bstep (b := w.heap.size + 1) hb13 (by first | omega | (simp <;> omega)); have y13x0 : w.heap.size + 1 < w13.heap.size := (by omega); have c13x1 := bstep (b := br) hb13 (by first | omega | (simp <;> omega)); have y13x1 : br < w13.heap.size := (by omega); have c13x2 := bstep (b := bq) hb13 (by first | omega | (simp <;> omega)); have y13x2 : bq < w13.heap.size := (by omega); have c13x3 := bstep (b := w12.heap.size) hb13 (by first | omega | (simp <;> omega)); have y13x3 : w12.heap.size < w13.heap.size := (by omega); have H13 : Below w.heap.size w w13 := Below.trans (by repeat (first | with_reducible assumption | with_reducible refine Below.drew ?_ | with_reducible refine below_drewN ?_ _ | with_reducible refine Below.alloc ?_ (by first | omega | (simp <;> omega)) _ | with_reducible refine Below.setCell ?_ (by first | omega | (simp <;> omega)) _ | with_reducible exact Below.refl _ _)) (hb13.mono (by first | omega | (simp <;> omega)))) | (with_reducible refine (HS2.out _).mono ?_; rintro e w14 ⟨rfl, hb14⟩; have z14 := hb14.size; (try simp at z14); have c14x0 := bstep (b := w.heap.size + 1) hb14 (by first | omega | (simp <;> omega)); have y14x0 : w.heap.size + 1 < w14.heap.size := (by omega); have c14x1 := bstep (b := br) hb14 (by first | omega | (simp <;> omega)); have y14x1 : br < w14.heap.size := (by omega); have c14x2 := bstep (b := bq) hb14 (by first | omega | (simp <;> omega)); have y14x2 : bq < w14.heap.size := (by omega); have c14x3 := bstep (b := w12.heap.size) hb14 (by first | omega | (simp <;> omega)); have y14x3 : w12.heap.size < w14.heap.size := (by omega); have H14 : Below w.heap.size w w14 := Below.trans (by repeat (first | with_reducible assumption | with_reducible refine Below.drew ?_ | with_reducible refine below_drewN ?_ _ | with_reducible refine Below.alloc ?_ (by first | omega | (simp <;> omega)) _ | with_reducible refine Below.setCell ?_ (by first | omega | (simp <;> omega)) _ | with_reducible exact Below.refl _ _)) (hb14.mono (by first | omega | (simp <;> omega)))))
    | (go_at_call 29; refine (HJ.out _).mono ?_; rintro e w15 ⟨rfl, hb15⟩; have z15 := hb15.size; (try simp at z15); have c15x0 := bstep (b := br) hb15 (by first | omega | (simp <;> omega)); have y15x0 : br < w15.heap.size := (by omega); have H15 : Below w.heap.size w w15 := Below.trans (by repeat (first | with_reducible assumption | with_reducible refine Below.drew ?_ | with_reducible refine below_drewN ?_ _ | with_reducible refine Below.alloc ?_ (by first | omega | (simp <;> omega)) _ | with_reducible refine Below.setCell ?_ (by first | omega | (simp <;> omega)) _ | with_reducible exact Below.refl _ _)) (hb15.mono (by first | omega | (simp <;> omega)))))
  go_ret
  exact ⟨by simp, by exact (by repeat (first | with_reducible assumption | with_reducible refine Below.drew ?_ | with_reducible refine below_drewN ?_ _ | with_reducible refine Below.alloc ?_ (by first | omega | (simp <;> omega)) _ | with_reducible refine Below.setCell ?_ (by first | omega | (simp <;> omega)) _ | with_reducible exact Below.refl _ _))⟩
end Go.Proofs.Ytjeomdfcfbfebaa

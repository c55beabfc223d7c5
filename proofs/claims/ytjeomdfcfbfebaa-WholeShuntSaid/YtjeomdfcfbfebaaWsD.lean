/- The walk of Duty: the counts of three legs. Condition: the ranges that each theorem names. -/
import Derived.Test.YtjeomdfcfbfebaaWsC
namespace Go.Proofs.Ytjeomdfcfbfebaa
open Go.RowKit PM
@[go_sem] theorem ixI3c0 (a b c : Int) (w : World) : (Instr.index 26 (.agg #[.int .i64 a, .int .i64 b, .int .i64 c]) (.int .i64 0)).run Try.prog w = .ok (.int .i64 a) w := by kernel_rfl
@[go_sem] theorem ixI3c1 (a b c : Int) (w : World) : (Instr.index 26 (.agg #[.int .i64 a, .int .i64 b, .int .i64 c]) (.int .i64 1)).run Try.prog w = .ok (.int .i64 b) w := by kernel_rfl
@[go_sem] theorem ixI3c2 (a b c : Int) (w : World) : (Instr.index 26 (.agg #[.int .i64 a, .int .i64 b, .int .i64 c]) (.int .i64 2)).run Try.prog w = .ok (.int .i64 c) w := by kernel_rfl
set_option maxHeartbeats 16000000 in
set_option maxRecDepth 100000 in
theorem duty_core (a b link per v0 v1 v2 s N0 N1 N2 C0 C1 C2 : Int) (ha : -1048576 ≤ a ∧ a ≤ 1048576) (hb : -1048576 ≤ b ∧ b ≤ 1048576) (hl : 16 ≤ link ∧ link ≤ 1048576) (hp : 64 ≤ per ∧ per ≤ 4096)
    (hv0 : -4000000 ≤ v0 ∧ v0 ≤ 4000000) (hv1 : -4000000 ≤ v1 ∧ v1 ≤ 4000000) (hv2 : -4000000 ≤ v2 ∧ v2 ≤ 4000000) (hs : max (max v0 v1) v2 + min (min v0 v1) v2 = s)
    (hB : ∀ W : World, Calls Try.prog 56 #[.int .i64 a, .int .i64 b] W fun e w' => e = .returned (.tuple #[.agg #[.int .i64 v0, .int .i64 v1, .int .i64 v2], .nilIface]) ∧ Below W.heap.size W w')
    (hN0 : (per * (link + 2 * v0 - s)) / (2 * link) = N0) (hN1 : (per * (link + 2 * v1 - s)) / (2 * link) = N1) (hN2 : (per * (link + 2 * v2 - s)) / (2 * link) = N2)
    (hC0 : max 0 (min N0 per) = C0) (hC1 : max 0 (min N1 per) = C1) (hC2 : max 0 (min N2 per) = C2) (w : World) :
    Calls Try.prog 24 #[.int .i64 a, .int .i64 b, .int .i64 link, .int .i64 per] w fun e w' => (∃ lim, e = .returned (.tuple #[.agg #[.int .i64 C0, .int .i64 C1, .int .i64 C2, .bool lim], .nilIface])) ∧ Below w.heap.size w w' := by
  have HB := hide hB
  have bs : -8000000 ≤ s ∧ s ≤ 8000000 := by omega
  have bt : ∀ v : Int, -4000000 ≤ v ∧ v ≤ 4000000 → -(4096 * 100000000) ≤ per * (link + 2 * v - s) ∧ per * (link + 2 * v - s) ≤ 4096 * 100000000 := by
    intro v hv
    have h1 : -(100000000 * per) ≤ (link + 2 * v - s) * per ∧ (link + 2 * v - s) * per ≤ 100000000 * per := mul_bd ⟨by omega, by omega⟩ (by omega)
    rw [Int.mul_comm per]
    omega
  have t0 := bt v0 hv0
  have t1 := bt v1 hv1
  have t2 := bt v2 hv2
  have HF0 := hide (fun W => floor_any (per * (link + 2 * v0 - s)) (2 * link) W (by omega) (by omega))
  have HF1 := hide (fun W => floor_any (per * (link + 2 * v1 - s)) (2 * link) W (by omega) (by omega))
  have HF2 := hide (fun W => floor_any (per * (link + 2 * v2 - s)) (2 * link) W (by omega) (by omega))
  rw [hN0] at HF0
  rw [hN1] at HF1
  rw [hN2] at HF2
  have g2l : IntKind.i64.wrap (2 * link) = 2 * link := IntWalk.i64_in _ (by omega)
  have gs : IntKind.i64.wrap s = s := IntWalk.i64_in _ (by omega)
  have ga0 : IntKind.i64.wrap (2 * v0) = 2 * v0 := IntWalk.i64_in _ (by omega)
  have gb0 : IntKind.i64.wrap (link + 2 * v0) = link + 2 * v0 := IntWalk.i64_in _ (by omega)
  have gc0 : IntKind.i64.wrap (link + 2 * v0 - s) = link + 2 * v0 - s := IntWalk.i64_in _ (by omega)
  have gd0 : IntKind.i64.wrap (per * (link + 2 * v0 - s)) = (per * (link + 2 * v0 - s)) := IntWalk.i64_in _ (by omega)
  have ga1 : IntKind.i64.wrap (2 * v1) = 2 * v1 := IntWalk.i64_in _ (by omega)
  have gb1 : IntKind.i64.wrap (link + 2 * v1) = link + 2 * v1 := IntWalk.i64_in _ (by omega)
  have gc1 : IntKind.i64.wrap (link + 2 * v1 - s) = link + 2 * v1 - s := IntWalk.i64_in _ (by omega)
  have gd1 : IntKind.i64.wrap (per * (link + 2 * v1 - s)) = (per * (link + 2 * v1 - s)) := IntWalk.i64_in _ (by omega)
  have ga2 : IntKind.i64.wrap (2 * v2) = 2 * v2 := IntWalk.i64_in _ (by omega)
  have gb2 : IntKind.i64.wrap (link + 2 * v2) = link + 2 * v2 := IntWalk.i64_in _ (by omega)
  have gc2 : IntKind.i64.wrap (link + 2 * v2 - s) = link + 2 * v2 - s := IntWalk.i64_in _ (by omega)
  have gd2 : IntKind.i64.wrap (per * (link + 2 * v2 - s)) = (per * (link + 2 * v2 - s)) := IntWalk.i64_in _ (by omega)
  clear bt t0 t1 t2 hB hN0 hN1 hN2 bs
  obtain ⟨b0, hb0⟩ : ∃ b, (C0 != N0) = b := ⟨_, rfl⟩
  obtain ⟨b1, hb1'⟩ : ∃ b, (C1 != N1) = b := ⟨_, rfl⟩
  obtain ⟨b2, hb2'⟩ : ∃ b, (C2 != N2) = b := ⟨_, rfl⟩
  go_enter Try.func24, Try.ntmps24
  go_upto_region 6 with (first | (first | (go_at_call 53; refine (isLink_yes _ _ (by omega)).mono ?_; rintro e w8 ⟨rfl, rfl⟩) | (go_at_call 54; refine (visPeriod_yes _ _ (by omega)).mono ?_; rintro e w8 ⟨rfl, rfl⟩) | (go_at_call 55; refine (isVector_yes _ _ _ (by omega) (by omega)).mono ?_; rintro e w8 ⟨rfl, rfl⟩)) | (go_at_call 56; refine (HB.out _).mono ?_; rintro e w1 ⟨rfl, hb1⟩; have z1 := hb1.size; (try simp at z1); have c1x0 := bstep (b := w.heap.size) hb1 (by first | omega | (simp <;> omega)); have y1x0 : w.heap.size < w1.heap.size := (by omega); have f1x0 := bfro (b := w.heap.size) hb1 (by first | omega | (simp <;> omega)); have H1 : Below w.heap.size w w1 := Below.trans (by repeat (first | with_reducible assumption | with_reducible refine Below.drew ?_ | with_reducible refine below_drewN ?_ _ | with_reducible refine Below.alloc ?_ (by first | omega | (simp <;> omega)) _ | with_reducible refine Below.setCell ?_ (by first | omega | (simp <;> omega)) _ | with_reducible exact Below.refl _ _)) (hb1.mono (by first | omega | (simp <;> omega)))))
  go_cut [12] (fun sv wz => sv = .int .i64 s ∧ wz = (w1.alloc (.cells #[.int .i64 v0, .int .i64 v1, .int .i64 v2] 26)))
  case first =>
    clear HF0 HF1 HF2 hC0 hC1 hC2 hb0 hb1' hb2' ga0 ga1 ga2 gb0 gb1 gb2 gc0 gc1 gc2 gd0 gd1 gd2 g2l gs HB
    go_wp2
    all_goals
      go_meet
      refine ⟨congrArg (Value.int .i64) ?_, rfl⟩
      first
      | exact (IntWalk.i64_in _ (by omega)).trans (by omega)
      | omega
  case rest =>
  obtain ⟨rfl, rfl⟩ := hcut
  clear hs hv0 hv1 hv2
  go_upto_region 9 with fail
  have HB2 : Below w.heap.size w ((w1.alloc (.cells #[.int .i64 v0, .int .i64 v1, .int .i64 v2] 26)).alloc (.cells #[.int .i64 0, .int .i64 0, .int .i64 0, .bool false] 34)) := by exact (by repeat (first | with_reducible assumption | with_reducible refine Below.drew ?_ | with_reducible refine below_drewN ?_ _ | with_reducible refine Below.alloc ?_ (by first | omega | (simp <;> omega)) _ | with_reducible refine Below.setCell ?_ (by first | omega | (simp <;> omega)) _ | with_reducible exact Below.refl _ _))
  have c0 : ((w1.alloc (.cells #[.int .i64 v0, .int .i64 v1, .int .i64 v2] 26)).alloc (.cells #[.int .i64 0, .int .i64 0, .int .i64 0, .bool false] 34)).cell? ⟨w1.heap.size + 1, 0, none⟩ = some (.int .i64 0) := by go_simp
  have c1 : ((w1.alloc (.cells #[.int .i64 v0, .int .i64 v1, .int .i64 v2] 26)).alloc (.cells #[.int .i64 0, .int .i64 0, .int .i64 0, .bool false] 34)).cell? ⟨w1.heap.size + 1, 1, none⟩ = some (.int .i64 0) := by go_simp
  have c2 : ((w1.alloc (.cells #[.int .i64 v0, .int .i64 v1, .int .i64 v2] 26)).alloc (.cells #[.int .i64 0, .int .i64 0, .int .i64 0, .bool false] 34)).cell? ⟨w1.heap.size + 1, 2, none⟩ = some (.int .i64 0) := by go_simp
  have c3 : ((w1.alloc (.cells #[.int .i64 v0, .int .i64 v1, .int .i64 v2] 26)).alloc (.cells #[.int .i64 0, .int .i64 0, .int .i64 0, .bool false] 34)).cell? ⟨w1.heap.size + 1, 3, none⟩ = some (.bool false) := by go_simp
  have cf : ∀ o, ((w1.alloc (.cells #[.int .i64 v0, .int .i64 v1, .int .i64 v2] 26)).alloc (.cells #[.int .i64 0, .int .i64 0, .int .i64 0, .bool false] 34)).frozen? ⟨w1.heap.size + 1, o, none⟩ = false := fun o => by go_simp
  have e0 : ((w1.alloc (.cells #[.int .i64 v0, .int .i64 v1, .int .i64 v2] 26)).alloc (.cells #[.int .i64 0, .int .i64 0, .int .i64 0, .bool false] 34)).cell? ⟨w.heap.size, 0, none⟩ = some (.int .i64 0) := by go_simp
  have e1 : ((w1.alloc (.cells #[.int .i64 v0, .int .i64 v1, .int .i64 v2] 26)).alloc (.cells #[.int .i64 0, .int .i64 0, .int .i64 0, .bool false] 34)).cell? ⟨w.heap.size, 1, none⟩ = some (.int .i64 0) := by go_simp
  have e2 : ((w1.alloc (.cells #[.int .i64 v0, .int .i64 v1, .int .i64 v2] 26)).alloc (.cells #[.int .i64 0, .int .i64 0, .int .i64 0, .bool false] 34)).cell? ⟨w.heap.size, 2, none⟩ = some (.int .i64 0) := by go_simp
  have e3 : ((w1.alloc (.cells #[.int .i64 v0, .int .i64 v1, .int .i64 v2] 26)).alloc (.cells #[.int .i64 0, .int .i64 0, .int .i64 0, .bool false] 34)).cell? ⟨w.heap.size, 3, none⟩ = some (.bool false) := by go_simp
  have ef : ∀ o, ((w1.alloc (.cells #[.int .i64 v0, .int .i64 v1, .int .i64 v2] 26)).alloc (.cells #[.int .i64 0, .int .i64 0, .int .i64 0, .bool false] 34)).frozen? ⟨w.heap.size, o, none⟩ = false := fun o => by go_simp
  have y13 : w1.heap.size + 1 < ((w1.alloc (.cells #[.int .i64 v0, .int .i64 v1, .int .i64 v2] 26)).alloc (.cells #[.int .i64 0, .int .i64 0, .int .i64 0, .bool false] 34)).heap.size := by simp
  have y8 : w.heap.size < w1.heap.size + 1 := by omega
  generalize ((w1.alloc (.cells #[.int .i64 v0, .int .i64 v1, .int .i64 v2] 26)).alloc (.cells #[.int .i64 0, .int .i64 0, .int .i64 0, .bool false] 34)) = wb at HB2 c0 c1 c2 c3 cf e0 e1 e2 e3 ef y13 ⊢
  generalize w1.heap.size + 1 = b13 at c0 c1 c2 c3 cf y13 y8 ⊢
  have HX : Below b13 wb wb := Below.refl _ _
  have y13b := y13
  obtain ⟨lim, hlim⟩ : ∃ b : Bool, b = false := ⟨_, rfl⟩
  rw [← hlim] at c3
  clear hlim hb1 c1x0 f1x0 H1
  go_wp2
  go_loopw [60] (fun i wz => ∃ lm : Bool, ((i = .int .i64 0 ∧ wz.cell? ⟨b13, 0, none⟩ = some (.int .i64 0) ∧ wz.cell? ⟨b13, 1, none⟩ = some (.int .i64 0) ∧ wz.cell? ⟨b13, 2, none⟩ = some (.int .i64 0)) ∨ (i = .int .i64 1 ∧ wz.cell? ⟨b13, 0, none⟩ = some (.int .i64 C0) ∧ wz.cell? ⟨b13, 1, none⟩ = some (.int .i64 0) ∧ wz.cell? ⟨b13, 2, none⟩ = some (.int .i64 0)) ∨ (i = .int .i64 2 ∧ wz.cell? ⟨b13, 0, none⟩ = some (.int .i64 C0) ∧ wz.cell? ⟨b13, 1, none⟩ = some (.int .i64 C1) ∧ wz.cell? ⟨b13, 2, none⟩ = some (.int .i64 0)) ∨ (i = .int .i64 3 ∧ wz.cell? ⟨b13, 0, none⟩ = some (.int .i64 C0) ∧ wz.cell? ⟨b13, 1, none⟩ = some (.int .i64 C1) ∧ wz.cell? ⟨b13, 2, none⟩ = some (.int .i64 C2))) ∧ wz.cell? ⟨b13, 3, none⟩ = some (.bool lm) ∧ (∀ o, wz.frozen? ⟨b13, o, none⟩ = false) ∧ b13 < wz.heap.size ∧ Below b13 wb wz) (fun i _ => 3 - (intOf i).toNat)
  case atStart =>
    exact ⟨lim, .inl ⟨rfl, c0, c1, c2⟩, c3, cf, y13, HX⟩
  case round =>
  clear c0 c1 c2 c3 cf y13 HX lim
  rename World => wb2
  obtain ⟨lim, hst, c3, cf, y13, HX⟩ := hrel
  rcases hst with ⟨rfl, c0, c1, c2⟩ | ⟨rfl, c0, c1, c2⟩ | ⟨rfl, c0, c1, c2⟩ | ⟨rfl, c0, c1, c2⟩
  · cases lim <;> cases b0
    all_goals
      go_wp2_with (go_at_call 57; first | (with_reducible refine (HF0.out _).mono ?_; rintro e w8 ⟨rfl, rfl⟩) | (with_reducible refine (HF1.out _).mono ?_; rintro e w8 ⟨rfl, rfl⟩) | (with_reducible refine (HF2.out _).mono ?_; rintro e w8 ⟨rfl, rfl⟩))
      go_roundw
      case rel => exact ⟨_, .inr (.inl ⟨by go_num, by go_simp, by go_simp, by go_simp⟩), by go_simp; rfl, fun o => by go_simp, by first | omega | (simp <;> omega), by exact (by repeat (first | with_reducible exact HX | with_reducible refine Below.drew ?_ | with_reducible refine Below.setCell ?_ (by first | omega | (simp <;> omega)) _))⟩
      case measure => simp [intOf]
  · cases lim <;> cases b1
    all_goals
      go_wp2_with (go_at_call 57; first | (with_reducible refine (HF0.out _).mono ?_; rintro e w8 ⟨rfl, rfl⟩) | (with_reducible refine (HF1.out _).mono ?_; rintro e w8 ⟨rfl, rfl⟩) | (with_reducible refine (HF2.out _).mono ?_; rintro e w8 ⟨rfl, rfl⟩))
      go_roundw
      case rel => exact ⟨_, .inr (.inr (.inl ⟨by go_num, by go_simp, by go_simp, by go_simp⟩)), by go_simp; rfl, fun o => by go_simp, by first | omega | (simp <;> omega), by exact (by repeat (first | with_reducible exact HX | with_reducible refine Below.drew ?_ | with_reducible refine Below.setCell ?_ (by first | omega | (simp <;> omega)) _))⟩
      case measure => simp [intOf]
  · cases lim <;> cases b2
    all_goals
      go_wp2_with (go_at_call 57; first | (with_reducible refine (HF0.out _).mono ?_; rintro e w8 ⟨rfl, rfl⟩) | (with_reducible refine (HF1.out _).mono ?_; rintro e w8 ⟨rfl, rfl⟩) | (with_reducible refine (HF2.out _).mono ?_; rintro e w8 ⟨rfl, rfl⟩))
      go_roundw
      case rel => exact ⟨_, .inr (.inr (.inr (⟨by go_num, by go_simp, by go_simp, by go_simp⟩))), by go_simp; rfl, fun o => by go_simp, by first | omega | (simp <;> omega), by exact (by repeat (first | with_reducible exact HX | with_reducible refine Below.drew ?_ | with_reducible refine Below.setCell ?_ (by first | omega | (simp <;> omega)) _))⟩
      case measure => simp [intOf]
  have k0 := (HX.cell (p := ⟨w.heap.size, 0, none⟩) y8).trans e0
  have k1 := (HX.cell (p := ⟨w.heap.size, 1, none⟩) y8).trans e1
  have k2 := (HX.cell (p := ⟨w.heap.size, 2, none⟩) y8).trans e2
  have k3 := (HX.cell (p := ⟨w.heap.size, 3, none⟩) y8).trans e3
  have kf := fun o => (HX.frozen (p := ⟨w.heap.size, o, none⟩) y8).trans (ef o)
  have y8' : w.heap.size < wb.heap.size := by omega
  have HW : Below w.heap.size w wb2 := HB2.trans (HX.mono (by omega))
  have yw : w.heap.size < wb2.heap.size := by omega
  go_wp2
  refine bodyPost_ret (v := .tuple #[.agg #[.int .i64 C0, .int .i64 C1, .int .i64 C2, .bool lim], .nilIface]) (by simp only [results, Try.results24]; go_simp) rfl ⟨⟨_, rfl⟩, by exact (by repeat (first | with_reducible exact HW | with_reducible refine Below.drew ?_ | with_reducible refine below_drewN ?_ _ | with_reducible refine Below.setCells ?_ | with_reducible refine Below.setCell ?_ (by first | omega | (simp <;> omega)) _))⟩

theorem duty_any (a b link per : Int) (ha : -1048576 ≤ a ∧ a ≤ 1048576) (hb : -1048576 ≤ b ∧ b ≤ 1048576) (hl : 16 ≤ link ∧ link ≤ 1048576) (hp : 64 ≤ per ∧ per ≤ 4096) (w : World) :
    Calls Try.prog 24 #[.int .i64 a, .int .i64 b, .int .i64 link, .int .i64 per] w fun e w' => (∃ lim, e = .returned (.tuple #[.agg #[.int .i64 (dutyC per link (dutyS a (phB a b) (-a - phB a b)) a), .int .i64 (dutyC per link (dutyS a (phB a b) (-a - phB a b)) (phB a b)), .int .i64 (dutyC per link (dutyS a (phB a b) (-a - phB a b)) (-a - phB a b)), .bool lim], .nilIface])) ∧ Below w.heap.size w w' := by
  have hph := phB_bd ha hb
  exact duty_core a b link per a (phB a b) (-a - phB a b) _ _ _ _ _ _ _ ha hb hl hp (by omega) (by omega) (by omega) rfl (back_any a b ha hb) rfl rfl rfl rfl rfl rfl w
theorem dutyC_bd (per link s x : Int) (hp : 0 ≤ per) : 0 ≤ dutyC per link s x ∧ dutyC per link s x ≤ per := by unfold dutyC; omega
end Go.Proofs.Ytjeomdfcfbfebaa

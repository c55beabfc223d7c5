/- ShuntSpread holds: a pattern that Spread has moved for a need has a plan for every settle below it. No condition. -/
import Derived.Test.YtjeomdfcfbfebaaRows
import Derived.Test.YtjeomdfcfbfebaaFlat
import Derived.Test.YtjeomdfcfbfebaaShF
import Derived.Test.YtjeomdfcfbfebaaPatJ
import Derived.Test.YtjeomdfcfbfebaaSpE
import Derived.Test.YtjeomdfcfbfebaaSpF
namespace Go.Proofs.Ytjeomdfcfbfebaa
open Go.RowKit PM Flat Go.ChangeShapes

theorem clip_eq (n lo hi : Int) : ∀ W : World, Calls Try.prog 22 #[.int .i64 n, .int .i64 lo, .int .i64 hi] W fun e w' => e = .returned (.int .i64 (clip n lo hi)) ∧ W = w' := fun W => (clip_any n lo hi W).mono fun _ _ ⟨a, b⟩ => ⟨a, b.symm⟩
set_option maxHeartbeats 8000000 in
set_option maxRecDepth 100000 in
theorem shuntSpread_no (d0 d1 d2 t1 t2 t3 st per least c0 c1 c2 need s : Int) (p q : Pt) (hper : 64 ≤ per ∧ per ≤ 4096) (hneed : 1 ≤ need ∧ need ≤ per)
    (hP : ∀ W : World, Calls Try.prog 22 #[.int .i64 t1, .int .i64 64, .int .i64 4096] W fun e w' => e = .returned (.int .i64 per) ∧ W = w')
    (hL : ∀ W : World, Calls Try.prog 22 #[.int .i64 t2, .int .i64 1, .int .i64 (per / 4)] W fun e w' => e = .returned (.int .i64 least) ∧ W = w')
    (h0 : ∀ W : World, Calls Try.prog 22 #[.int .i64 d0, .int .i64 0, .int .i64 per] W fun e w' => e = .returned (.int .i64 c0) ∧ W = w')
    (h1 : ∀ W : World, Calls Try.prog 22 #[.int .i64 d1, .int .i64 0, .int .i64 per] W fun e w' => e = .returned (.int .i64 c1) ∧ W = w')
    (h2 : ∀ W : World, Calls Try.prog 22 #[.int .i64 d2, .int .i64 0, .int .i64 per] W fun e w' => e = .returned (.int .i64 c2) ∧ W = w')
    (hN : ∀ W : World, Calls Try.prog 22 #[.int .i64 t3, .int .i64 1, .int .i64 per] W fun e w' => e = .returned (.int .i64 need) ∧ W = w')
    (hS : ∀ W : World, Calls Try.prog 22 #[.int .i64 st, .int .i64 0, .int .i64 (need - 1)] W fun e w' => e = .returned (.int .i64 s) ∧ W = w')
    (hM : ∀ W : World, Calls Try.prog 25 #[.agg #[.int .i64 c0, .int .i64 c1, .int .i64 c2], .int .i64 per, .int .i64 least] W fun e w' => e = .returned (.tuple #[.agg #[.int .i64 p.l0.a, .int .i64 p.l0.b, .int .i64 p.l1.a, .int .i64 p.l1.b, .int .i64 p.l2.a, .int .i64 p.l2.b], .nilIface]) ∧ Below W.heap.size W w')
    (hSp : ∀ W : World, Calls Try.prog 26 #[.agg #[.int .i64 p.l0.a, .int .i64 p.l0.b, .int .i64 p.l1.a, .int .i64 p.l1.b, .int .i64 p.l2.a, .int .i64 p.l2.b], .int .i64 per, .int .i64 least, .int .i64 need] W fun e w' => e = .returned (.tuple #[.agg #[.int .i64 q.l0.a, .int .i64 q.l0.b, .int .i64 q.l1.a, .int .i64 q.l1.b, .int .i64 q.l2.a, .int .i64 q.l2.b], .bool false, .nilIface]) ∧ Below W.heap.size W w')
    (w : World) :
    Calls Try.prog 19 #[.agg #[.int .i64 d0, .int .i64 d1, .int .i64 d2, .int .i64 t1, .int .i64 t2, .int .i64 t3], .int .i64 st] w fun e w' => e = .returned (.bool true) ∧ Below w.heap.size w w' := by
  have HP := hide hP
  have HL := hide hL
  have HD0 := hide h0
  have HD1 := hide h1
  have HD2 := hide h2
  have HN := hide hN
  have HS := hide hS
  have HM := hide hM
  have HSP := hide hSp
  obtain ⟨p1, p2⟩ := hper
  obtain ⟨n1, n2⟩ := hneed
  have gt : Int.tdiv per 4 = per / 4 := Int.tdiv_eq_ediv_of_nonneg (by omega)
  have gq : IntKind.i64.wrap (per / 4) = per / 4 := IntWalk.i64_in _ (by omega)
  have gn : IntKind.i64.wrap (need - 1) = need - 1 := IntWalk.i64_in _ (by omega)
  clear hP hL h0 h1 h2 hN hS hM hSp
  go_enter Try.func19, Try.ntmps19
  go_wp2_with (first
    | (go_at_call 39; refine (awake25_any _).mono ?_; rintro e w1 ⟨rfl, hb1⟩; have z1 := hb1.size; (try simp at z1); have c1x0 := bstep (b := w.heap.size) hb1 (by first | omega | (simp <;> omega)); have y1x0 : w.heap.size < w1.heap.size := (by omega); have f1x0 := bfro (b := w.heap.size) hb1 (by first | omega | (simp <;> omega)); have H1 : Below w.heap.size w w1 := Below.trans (by repeat (first | with_reducible assumption | with_reducible refine Below.drew ?_ | with_reducible refine below_drewN ?_ _ | with_reducible refine Below.alloc ?_ (by first | omega | (simp <;> omega)) _ | with_reducible refine Below.setCell ?_ (by first | omega | (simp <;> omega)) _ | with_reducible exact Below.refl _ _)) (hb1.mono (by first | omega | (simp <;> omega))))
    | (go_at_call 22; first | (with_reducible refine (HP.out _).mono ?_; rintro e w8 ⟨rfl, rfl⟩) | (with_reducible refine (HL.out _).mono ?_; rintro e w8 ⟨rfl, rfl⟩) | (with_reducible refine (HD0.out _).mono ?_; rintro e w8 ⟨rfl, rfl⟩) | (with_reducible refine (HD1.out _).mono ?_; rintro e w8 ⟨rfl, rfl⟩) | (with_reducible refine (HD2.out _).mono ?_; rintro e w8 ⟨rfl, rfl⟩) | (with_reducible refine (HN.out _).mono ?_; rintro e w8 ⟨rfl, rfl⟩) | (with_reducible refine (HS.out _).mono ?_; rintro e w8 ⟨rfl, rfl⟩)))
  refine wp_loop_rounds 4 ?_
  rw [rounds_succ]
  go_wp2_with (go_at_call 22; first | (with_reducible refine (HP.out _).mono ?_; rintro e w8 ⟨rfl, rfl⟩) | (with_reducible refine (HL.out _).mono ?_; rintro e w8 ⟨rfl, rfl⟩) | (with_reducible refine (HD0.out _).mono ?_; rintro e w8 ⟨rfl, rfl⟩) | (with_reducible refine (HD1.out _).mono ?_; rintro e w8 ⟨rfl, rfl⟩) | (with_reducible refine (HD2.out _).mono ?_; rintro e w8 ⟨rfl, rfl⟩) | (with_reducible refine (HN.out _).mono ?_; rintro e w8 ⟨rfl, rfl⟩) | (with_reducible refine (HS.out _).mono ?_; rintro e w8 ⟨rfl, rfl⟩))

  rw [rounds_succ]
  go_wp2_with (go_at_call 22; first | (with_reducible refine (HP.out _).mono ?_; rintro e w8 ⟨rfl, rfl⟩) | (with_reducible refine (HL.out _).mono ?_; rintro e w8 ⟨rfl, rfl⟩) | (with_reducible refine (HD0.out _).mono ?_; rintro e w8 ⟨rfl, rfl⟩) | (with_reducible refine (HD1.out _).mono ?_; rintro e w8 ⟨rfl, rfl⟩) | (with_reducible refine (HD2.out _).mono ?_; rintro e w8 ⟨rfl, rfl⟩) | (with_reducible refine (HN.out _).mono ?_; rintro e w8 ⟨rfl, rfl⟩) | (with_reducible refine (HS.out _).mono ?_; rintro e w8 ⟨rfl, rfl⟩))
  rw [rounds_succ]
  go_wp2_with (go_at_call 22; first | (with_reducible refine (HP.out _).mono ?_; rintro e w8 ⟨rfl, rfl⟩) | (with_reducible refine (HL.out _).mono ?_; rintro e w8 ⟨rfl, rfl⟩) | (with_reducible refine (HD0.out _).mono ?_; rintro e w8 ⟨rfl, rfl⟩) | (with_reducible refine (HD1.out _).mono ?_; rintro e w8 ⟨rfl, rfl⟩) | (with_reducible refine (HD2.out _).mono ?_; rintro e w8 ⟨rfl, rfl⟩) | (with_reducible refine (HN.out _).mono ?_; rintro e w8 ⟨rfl, rfl⟩) | (with_reducible refine (HS.out _).mono ?_; rintro e w8 ⟨rfl, rfl⟩))
  rw [rounds_succ]
  go_wp2_with (first
    | (go_at_call 22; first | (with_reducible refine (HP.out _).mono ?_; rintro e w8 ⟨rfl, rfl⟩) | (with_reducible refine (HL.out _).mono ?_; rintro e w8 ⟨rfl, rfl⟩) | (with_reducible refine (HD0.out _).mono ?_; rintro e w8 ⟨rfl, rfl⟩) | (with_reducible refine (HD1.out _).mono ?_; rintro e w8 ⟨rfl, rfl⟩) | (with_reducible refine (HD2.out _).mono ?_; rintro e w8 ⟨rfl, rfl⟩) | (with_reducible refine (HN.out _).mono ?_; rintro e w8 ⟨rfl, rfl⟩) | (with_reducible refine (HS.out _).mono ?_; rintro e w8 ⟨rfl, rfl⟩))
    | (go_at_call 25; refine (HM.out _).mono ?_; rintro e w4 ⟨rfl, hb4⟩; have z4 := hb4.size; (try simp at z4); have c4x0 := bstep (b := w.heap.size) hb4 (by first | omega | (simp <;> omega)); have y4x0 : w.heap.size < w4.heap.size := (by omega); have H4 : Below w.heap.size w w4 := Below.trans (by repeat (first | with_reducible assumption | with_reducible refine Below.drew ?_ | with_reducible refine below_drewN ?_ _ | with_reducible refine Below.alloc ?_ (by first | omega | (simp <;> omega)) _ | with_reducible refine Below.setCell ?_ (by first | omega | (simp <;> omega)) _ | with_reducible exact Below.refl _ _)) (hb4.mono (by first | omega | (simp <;> omega))))
    | (go_at_call 26; refine (HSP.out _).mono ?_; rintro e w5 ⟨rfl, hb5⟩; have z5 := hb5.size; (try simp at z5); have c5x0 := bstep (b := w.heap.size) hb5 (by first | omega | (simp <;> omega)); have y5x0 : w.heap.size < w5.heap.size := (by omega); have c5x1 := bstep (b := w4.heap.size) hb5 (by first | omega | (simp <;> omega)); have y5x1 : w4.heap.size < w5.heap.size := (by omega); have H5 : Below w.heap.size w w5 := Below.trans (by repeat (first | with_reducible assumption | with_reducible refine Below.drew ?_ | with_reducible refine below_drewN ?_ _ | with_reducible refine Below.alloc ?_ (by first | omega | (simp <;> omega)) _ | with_reducible refine Below.setCell ?_ (by first | omega | (simp <;> omega)) _ | with_reducible exact Below.refl _ _)) (hb5.mono (by first | omega | (simp <;> omega)))))
  go_ret
  exact ⟨by simp, by exact (by repeat (first | with_reducible assumption | with_reducible refine Below.drew ?_ | with_reducible refine below_drewN ?_ _ | with_reducible refine Below.alloc ?_ (by first | omega | (simp <;> omega)) _ | with_reducible refine Below.setCell ?_ (by first | omega | (simp <;> omega)) _ | with_reducible exact Below.refl _ _))⟩
set_option maxHeartbeats 8000000 in
set_option maxRecDepth 100000 in
theorem shuntSpread_yes (d0 d1 d2 t1 t2 t3 st per least c0 c1 c2 need s o0 o1 o2 o3 : Int) (p q : Pt) (hper : 64 ≤ per ∧ per ≤ 4096) (hneed : 1 ≤ need ∧ need ≤ per)
    (hP : ∀ W : World, Calls Try.prog 22 #[.int .i64 t1, .int .i64 64, .int .i64 4096] W fun e w' => e = .returned (.int .i64 per) ∧ W = w')
    (hL : ∀ W : World, Calls Try.prog 22 #[.int .i64 t2, .int .i64 1, .int .i64 (per / 4)] W fun e w' => e = .returned (.int .i64 least) ∧ W = w')
    (h0 : ∀ W : World, Calls Try.prog 22 #[.int .i64 d0, .int .i64 0, .int .i64 per] W fun e w' => e = .returned (.int .i64 c0) ∧ W = w')
    (h1 : ∀ W : World, Calls Try.prog 22 #[.int .i64 d1, .int .i64 0, .int .i64 per] W fun e w' => e = .returned (.int .i64 c1) ∧ W = w')
    (h2 : ∀ W : World, Calls Try.prog 22 #[.int .i64 d2, .int .i64 0, .int .i64 per] W fun e w' => e = .returned (.int .i64 c2) ∧ W = w')
    (hN : ∀ W : World, Calls Try.prog 22 #[.int .i64 t3, .int .i64 1, .int .i64 per] W fun e w' => e = .returned (.int .i64 need) ∧ W = w')
    (hS : ∀ W : World, Calls Try.prog 22 #[.int .i64 st, .int .i64 0, .int .i64 (need - 1)] W fun e w' => e = .returned (.int .i64 s) ∧ W = w')
    (hM : ∀ W : World, Calls Try.prog 25 #[.agg #[.int .i64 c0, .int .i64 c1, .int .i64 c2], .int .i64 per, .int .i64 least] W fun e w' => e = .returned (.tuple #[.agg #[.int .i64 p.l0.a, .int .i64 p.l0.b, .int .i64 p.l1.a, .int .i64 p.l1.b, .int .i64 p.l2.a, .int .i64 p.l2.b], .nilIface]) ∧ Below W.heap.size W w')
    (hSp : ∀ W : World, Calls Try.prog 26 #[.agg #[.int .i64 p.l0.a, .int .i64 p.l0.b, .int .i64 p.l1.a, .int .i64 p.l1.b, .int .i64 p.l2.a, .int .i64 p.l2.b], .int .i64 per, .int .i64 least, .int .i64 need] W fun e w' => e = .returned (.tuple #[.agg #[.int .i64 q.l0.a, .int .i64 q.l0.b, .int .i64 q.l1.a, .int .i64 q.l1.b, .int .i64 q.l2.a, .int .i64 q.l2.b], .bool true, .nilIface]) ∧ Below W.heap.size W w')
    (hPl : ∀ W : World, Calls Try.prog 27 #[.agg #[.int .i64 q.l0.a, .int .i64 q.l0.b, .int .i64 q.l1.a, .int .i64 q.l1.b, .int .i64 q.l2.a, .int .i64 q.l2.b], .int .i64 per, .int .i64 s] W fun e w' => e = .returned (.tuple #[.agg #[.int .i64 o0, .int .i64 o1, .int .i64 o2, .int .i64 o3], .nilIface]) ∧ Below W.heap.size W w')
    (w : World) :
    Calls Try.prog 19 #[.agg #[.int .i64 d0, .int .i64 d1, .int .i64 d2, .int .i64 t1, .int .i64 t2, .int .i64 t3], .int .i64 st] w fun e w' => e = .returned (.bool true) ∧ Below w.heap.size w w' := by
  have HP := hide hP
  have HL := hide hL
  have HD0 := hide h0
  have HD1 := hide h1
  have HD2 := hide h2
  have HN := hide hN
  have HS := hide hS
  have HM := hide hM
  have HSP := hide hSp
  have HPL := hide hPl
  obtain ⟨p1, p2⟩ := hper
  obtain ⟨n1, n2⟩ := hneed
  have gt : Int.tdiv per 4 = per / 4 := Int.tdiv_eq_ediv_of_nonneg (by omega)
  have gq : IntKind.i64.wrap (per / 4) = per / 4 := IntWalk.i64_in _ (by omega)
  have gn : IntKind.i64.wrap (need - 1) = need - 1 := IntWalk.i64_in _ (by omega)
  clear hP hL h0 h1 h2 hN hS hM hSp hPl
  go_enter Try.func19, Try.ntmps19
  go_wp2_with (first
    | (go_at_call 39; refine (awake25_any _).mono ?_; rintro e w1 ⟨rfl, hb1⟩; have z1 := hb1.size; (try simp at z1); have c1x0 := bstep (b := w.heap.size) hb1 (by first | omega | (simp <;> omega)); have y1x0 : w.heap.size < w1.heap.size := (by omega); have f1x0 := bfro (b := w.heap.size) hb1 (by first | omega | (simp <;> omega)); have H1 : Below w.heap.size w w1 := Below.trans (by repeat (first | with_reducible assumption | with_reducible refine Below.drew ?_ | with_reducible refine below_drewN ?_ _ | with_reducible refine Below.alloc ?_ (by first | omega | (simp <;> omega)) _ | with_reducible refine Below.setCell ?_ (by first | omega | (simp <;> omega)) _ | with_reducible exact Below.refl _ _)) (hb1.mono (by first | omega | (simp <;> omega))))
    | (go_at_call 22; first | (with_reducible refine (HP.out _).mono ?_; rintro e w8 ⟨rfl, rfl⟩) | (with_reducible refine (HL.out _).mono ?_; rintro e w8 ⟨rfl, rfl⟩) | (with_reducible refine (HD0.out _).mono ?_; rintro e w8 ⟨rfl, rfl⟩) | (with_reducible refine (HD1.out _).mono ?_; rintro e w8 ⟨rfl, rfl⟩) | (with_reducible refine (HD2.out _).mono ?_; rintro e w8 ⟨rfl, rfl⟩) | (with_reducible refine (HN.out _).mono ?_; rintro e w8 ⟨rfl, rfl⟩) | (with_reducible refine (HS.out _).mono ?_; rintro e w8 ⟨rfl, rfl⟩)))
  refine wp_loop_rounds 4 ?_
  rw [rounds_succ]
  go_wp2_with (go_at_call 22; first | (with_reducible refine (HP.out _).mono ?_; rintro e w8 ⟨rfl, rfl⟩) | (with_reducible refine (HL.out _).mono ?_; rintro e w8 ⟨rfl, rfl⟩) | (with_reducible refine (HD0.out _).mono ?_; rintro e w8 ⟨rfl, rfl⟩) | (with_reducible refine (HD1.out _).mono ?_; rintro e w8 ⟨rfl, rfl⟩) | (with_reducible refine (HD2.out _).mono ?_; rintro e w8 ⟨rfl, rfl⟩) | (with_reducible refine (HN.out _).mono ?_; rintro e w8 ⟨rfl, rfl⟩) | (with_reducible refine (HS.out _).mono ?_; rintro e w8 ⟨rfl, rfl⟩))

  rw [rounds_succ]
  go_wp2_with (go_at_call 22; first | (with_reducible refine (HP.out _).mono ?_; rintro e w8 ⟨rfl, rfl⟩) | (with_reducible refine (HL.out _).mono ?_; rintro e w8 ⟨rfl, rfl⟩) | (with_reducible refine (HD0.out _).mono ?_; rintro e w8 ⟨rfl, rfl⟩) | (with_reducible refine (HD1.out _).mono ?_; rintro e w8 ⟨rfl, rfl⟩) | (with_reducible refine (HD2.out _).mono ?_; rintro e w8 ⟨rfl, rfl⟩) | (with_reducible refine (HN.out _).mono ?_; rintro e w8 ⟨rfl, rfl⟩) | (with_reducible refine (HS.out _).mono ?_; rintro e w8 ⟨rfl, rfl⟩))
  rw [rounds_succ]
  go_wp2_with (go_at_call 22; first | (with_reducible refine (HP.out _).mono ?_; rintro e w8 ⟨rfl, rfl⟩) | (with_reducible refine (HL.out _).mono ?_; rintro e w8 ⟨rfl, rfl⟩) | (with_reducible refine (HD0.out _).mono ?_; rintro e w8 ⟨rfl, rfl⟩) | (with_reducible refine (HD1.out _).mono ?_; rintro e w8 ⟨rfl, rfl⟩) | (with_reducible refine (HD2.out _).mono ?_; rintro e w8 ⟨rfl, rfl⟩) | (with_reducible refine (HN.out _).mono ?_; rintro e w8 ⟨rfl, rfl⟩) | (with_reducible refine (HS.out _).mono ?_; rintro e w8 ⟨rfl, rfl⟩))
  rw [rounds_succ]
  go_upto_region 17 with (first
    | (go_at_call 22; first | (with_reducible refine (HP.out _).mono ?_; rintro e w8 ⟨rfl, rfl⟩) | (with_reducible refine (HL.out _).mono ?_; rintro e w8 ⟨rfl, rfl⟩) | (with_reducible refine (HD0.out _).mono ?_; rintro e w8 ⟨rfl, rfl⟩) | (with_reducible refine (HD1.out _).mono ?_; rintro e w8 ⟨rfl, rfl⟩) | (with_reducible refine (HD2.out _).mono ?_; rintro e w8 ⟨rfl, rfl⟩) | (with_reducible refine (HN.out _).mono ?_; rintro e w8 ⟨rfl, rfl⟩) | (with_reducible refine (HS.out _).mono ?_; rintro e w8 ⟨rfl, rfl⟩))
    | (go_at_call 25; refine (HM.out _).mono ?_; rintro e w4 ⟨rfl, hb4⟩; have z4 := hb4.size; (try simp at z4); have c4x0 := bstep (b := w.heap.size) hb4 (by first | omega | (simp <;> omega)); have y4x0 : w.heap.size < w4.heap.size := (by omega); have H4 : Below w.heap.size w w4 := Below.trans (by repeat (first | with_reducible assumption | with_reducible refine Below.drew ?_ | with_reducible refine below_drewN ?_ _ | with_reducible refine Below.alloc ?_ (by first | omega | (simp <;> omega)) _ | with_reducible refine Below.setCell ?_ (by first | omega | (simp <;> omega)) _ | with_reducible exact Below.refl _ _)) (hb4.mono (by first | omega | (simp <;> omega))))
    | (go_at_call 26; refine (HSP.out _).mono ?_; rintro e w5 ⟨rfl, hb5⟩; have z5 := hb5.size; (try simp at z5); have c5x0 := bstep (b := w.heap.size) hb5 (by first | omega | (simp <;> omega)); have y5x0 : w.heap.size < w5.heap.size := (by omega); have c5x1 := bstep (b := w4.heap.size) hb5 (by first | omega | (simp <;> omega)); have y5x1 : w4.heap.size < w5.heap.size := (by omega); have H5 : Below w.heap.size w w5 := Below.trans (by repeat (first | with_reducible assumption | with_reducible refine Below.drew ?_ | with_reducible refine below_drewN ?_ _ | with_reducible refine Below.alloc ?_ (by first | omega | (simp <;> omega)) _ | with_reducible refine Below.setCell ?_ (by first | omega | (simp <;> omega)) _ | with_reducible exact Below.refl _ _)) (hb5.mono (by first | omega | (simp <;> omega)))))
  have q0 : (w5.alloc (.cells #[.int .i64 q.l0.a, .int .i64 q.l0.b, .int .i64 q.l1.a, .int .i64 q.l1.b, .int .i64 q.l2.a, .int .i64 q.l2.b] 39)).cell? ⟨w5.heap.size, 0, none⟩ = some (.int .i64 q.l0.a) := by go_simp
  have q1 : (w5.alloc (.cells #[.int .i64 q.l0.a, .int .i64 q.l0.b, .int .i64 q.l1.a, .int .i64 q.l1.b, .int .i64 q.l2.a, .int .i64 q.l2.b] 39)).cell? ⟨w5.heap.size, 1, none⟩ = some (.int .i64 q.l0.b) := by go_simp
  have q2 : (w5.alloc (.cells #[.int .i64 q.l0.a, .int .i64 q.l0.b, .int .i64 q.l1.a, .int .i64 q.l1.b, .int .i64 q.l2.a, .int .i64 q.l2.b] 39)).cell? ⟨w5.heap.size, 2, none⟩ = some (.int .i64 q.l1.a) := by go_simp
  have q3 : (w5.alloc (.cells #[.int .i64 q.l0.a, .int .i64 q.l0.b, .int .i64 q.l1.a, .int .i64 q.l1.b, .int .i64 q.l2.a, .int .i64 q.l2.b] 39)).cell? ⟨w5.heap.size, 3, none⟩ = some (.int .i64 q.l1.b) := by go_simp
  have q4 : (w5.alloc (.cells #[.int .i64 q.l0.a, .int .i64 q.l0.b, .int .i64 q.l1.a, .int .i64 q.l1.b, .int .i64 q.l2.a, .int .i64 q.l2.b] 39)).cell? ⟨w5.heap.size, 4, none⟩ = some (.int .i64 q.l2.a) := by go_simp
  have q5 : (w5.alloc (.cells #[.int .i64 q.l0.a, .int .i64 q.l0.b, .int .i64 q.l1.a, .int .i64 q.l1.b, .int .i64 q.l2.a, .int .i64 q.l2.b] 39)).cell? ⟨w5.heap.size, 5, none⟩ = some (.int .i64 q.l2.b) := by go_simp
  have hk : ∀ W W' : World, (fun w' => w'.cell? ⟨w5.heap.size, 0, none⟩ = some (.int .i64 q.l0.a) ∧ w'.cell? ⟨w5.heap.size, 1, none⟩ = some (.int .i64 q.l0.b) ∧ w'.cell? ⟨w5.heap.size, 2, none⟩ = some (.int .i64 q.l1.a) ∧ w'.cell? ⟨w5.heap.size, 3, none⟩ = some (.int .i64 q.l1.b) ∧ w'.cell? ⟨w5.heap.size, 4, none⟩ = some (.int .i64 q.l2.a) ∧ w'.cell? ⟨w5.heap.size, 5, none⟩ = some (.int .i64 q.l2.b) ∧ w5.heap.size < w'.heap.size) W → Below W.heap.size W W' → (fun w' => w'.cell? ⟨w5.heap.size, 0, none⟩ = some (.int .i64 q.l0.a) ∧ w'.cell? ⟨w5.heap.size, 1, none⟩ = some (.int .i64 q.l0.b) ∧ w'.cell? ⟨w5.heap.size, 2, none⟩ = some (.int .i64 q.l1.a) ∧ w'.cell? ⟨w5.heap.size, 3, none⟩ = some (.int .i64 q.l1.b) ∧ w'.cell? ⟨w5.heap.size, 4, none⟩ = some (.int .i64 q.l2.a) ∧ w'.cell? ⟨w5.heap.size, 5, none⟩ = some (.int .i64 q.l2.b) ∧ w5.heap.size < w'.heap.size) W' := by
    rintro W W' ⟨h0, h1, h2, h3, h4, h5, k3⟩ hb
    exact ⟨(hb.cell (p := ⟨w5.heap.size, 0, none⟩) (by show w5.heap.size < W.heap.size; omega)).trans h0, (hb.cell (p := ⟨w5.heap.size, 1, none⟩) (by show w5.heap.size < W.heap.size; omega)).trans h1, (hb.cell (p := ⟨w5.heap.size, 2, none⟩) (by show w5.heap.size < W.heap.size; omega)).trans h2, (hb.cell (p := ⟨w5.heap.size, 3, none⟩) (by show w5.heap.size < W.heap.size; omega)).trans h3, (hb.cell (p := ⟨w5.heap.size, 4, none⟩) (by show w5.heap.size < W.heap.size; omega)).trans h4, (hb.cell (p := ⟨w5.heap.size, 5, none⟩) (by show w5.heap.size < W.heap.size; omega)).trans h5, by have := hb.size; omega⟩
  replace hk := hide hk
  have S3 : (fun w' => w'.cell? ⟨w5.heap.size, 0, none⟩ = some (.int .i64 q.l0.a) ∧ w'.cell? ⟨w5.heap.size, 1, none⟩ = some (.int .i64 q.l0.b) ∧ w'.cell? ⟨w5.heap.size, 2, none⟩ = some (.int .i64 q.l1.a) ∧ w'.cell? ⟨w5.heap.size, 3, none⟩ = some (.int .i64 q.l1.b) ∧ w'.cell? ⟨w5.heap.size, 4, none⟩ = some (.int .i64 q.l2.a) ∧ w'.cell? ⟨w5.heap.size, 5, none⟩ = some (.int .i64 q.l2.b) ∧ w5.heap.size < w'.heap.size) (w5.alloc (.cells #[.int .i64 q.l0.a, .int .i64 q.l0.b, .int .i64 q.l1.a, .int .i64 q.l1.b, .int .i64 q.l2.a, .int .i64 q.l2.b] 39)) := ⟨q0, q1, q2, q3, q4, q5, by simp⟩
  go_cut [14] (fun s wz => s = .nilIface ∧ Below w.heap.size w wz)
  case first =>
    go_region_held3 (fun w' => w'.cell? ⟨w5.heap.size, 0, none⟩ = some (.int .i64 q.l0.a) ∧ w'.cell? ⟨w5.heap.size, 1, none⟩ = some (.int .i64 q.l0.b) ∧ w'.cell? ⟨w5.heap.size, 2, none⟩ = some (.int .i64 q.l1.a) ∧ w'.cell? ⟨w5.heap.size, 3, none⟩ = some (.int .i64 q.l1.b) ∧ w'.cell? ⟨w5.heap.size, 4, none⟩ = some (.int .i64 q.l2.a) ∧ w'.cell? ⟨w5.heap.size, 5, none⟩ = some (.int .i64 q.l2.b) ∧ w5.heap.size < w'.heap.size) (first | exact S3 | (refine hk.out _ _ S3 ?_; repeat (first | with_reducible exact Below.refl _ _ | with_reducible refine Below.drew ?_ | with_reducible refine below_drewN ?_ _ | with_reducible refine Below.alloc ?_ (by first | omega | (simp <;> omega)) _ | with_reducible refine Below.setCell ?_ (by first | omega | (simp <;> omega)) _ | with_reducible refine Below.setCells ?_ | (refine Below.trans ?_ (hb6.mono (by first | omega | (simp <;> omega))))))) (first | (go_at_call 27; with_reducible refine (HPL.out _).mono ?_; rintro e w6 ⟨rfl, hb6⟩; have z6 := hb6.size; (try simp at z6); (try (have c6t := bstep (b := w5.heap.size + 1) hb6 (by first | omega | (simp <;> omega)); have f6t := bfro (b := w5.heap.size + 1) hb6 (by first | omega | (simp <;> omega)); have y6t : w5.heap.size + 1 < w6.heap.size := (by omega))); have H6 : Below w.heap.size w w6 := Below.trans (by repeat (first | with_reducible assumption | with_reducible refine Below.drew ?_ | with_reducible refine below_drewN ?_ _ | with_reducible refine Below.alloc ?_ (by first | omega | (simp <;> omega)) _ | with_reducible refine Below.setCell ?_ (by first | omega | (simp <;> omega)) _ | with_reducible exact Below.refl _ _)) (hb6.mono (by first | omega | (simp <;> omega)))) | (go_at_call 22; with_reducible refine (HS.out _).mono ?_; rintro e w8 ⟨rfl, rfl⟩))
    all_goals
      go_wp2
      go_meet
      exact ⟨rfl, by exact (by repeat (first | with_reducible assumption | with_reducible refine Below.drew ?_ | with_reducible refine below_drewN ?_ _ | with_reducible refine Below.alloc ?_ (by first | omega | (simp <;> omega)) _ | with_reducible refine Below.setCell ?_ (by first | omega | (simp <;> omega)) _ | with_reducible exact Below.refl _ _))⟩
  case rest =>
  obtain ⟨rfl, HZ⟩ := hcut
  go_wp2
  go_ret
  exact ⟨rfl, by exact (by repeat (first | with_reducible assumption | with_reducible refine Below.drew ?_ | with_reducible refine below_drewN ?_ _ | with_reducible refine Below.alloc ?_ (by first | omega | (simp <;> omega)) _ | with_reducible refine Below.setCell ?_ (by first | omega | (simp <;> omega)) _ | with_reducible exact Below.refl _ _))⟩

set_option maxRecDepth 100000 in
theorem shuntSpread_walk (d0 d1 d2 t1 t2 t3 st : Int) (w : World) :
    Calls Try.prog 19 #[.agg #[.int .i64 d0, .int .i64 d1, .int .i64 d2, .int .i64 t1, .int .i64 t2, .int .i64 t3], .int .i64 st] w fun e w' => e = .returned (.bool true) ∧ Below w.heap.size w w' := by
  have hr := fit_ok t1 t2
  obtain ⟨c0, hc0⟩ : ∃ c, c = clip d0 0 (fitP t1) := ⟨_, rfl⟩
  obtain ⟨c1, hc1⟩ : ∃ c, c = clip d1 0 (fitP t1) := ⟨_, rfl⟩
  obtain ⟨c2, hc2⟩ : ∃ c, c = clip d2 0 (fitP t1) := ⟨_, rfl⟩
  obtain ⟨need, hneed⟩ : ∃ c, c = clip t3 1 (fitP t1) := ⟨_, rfl⟩
  obtain ⟨s, hs⟩ : ∃ c, c = clip st 0 (need - 1) := ⟨_, rfl⟩
  have hP := clip_eq t1 64 4096
  have hL := clip_eq t2 1 (fitP t1 / 4)
  have h0 := clip_eq d0 0 (fitP t1)
  have h1 := clip_eq d1 0 (fitP t1)
  have h2 := clip_eq d2 0 (fitP t1)
  have hN := clip_eq t3 1 (fitP t1)
  have hS := clip_eq st 0 (need - 1)
  rw [show clip t1 64 4096 = fitP t1 from rfl] at hP
  rw [show clip t2 1 (fitP t1 / 4) = fitL t1 t2 from rfl] at hL
  have b0 := clip_in (n := d0) (lo := 0) (hi := fitP t1) (by have := hr.1; omega)
  have b1 := clip_in (n := d1) (lo := 0) (hi := fitP t1) (by have := hr.1; omega)
  have b2 := clip_in (n := d2) (lo := 0) (hi := fitP t1) (by have := hr.1; omega)
  have bN := clip_in (n := t3) (lo := 1) (hi := fitP t1) (by have := hr.1; omega)
  rw [← hc0] at h0 b0
  rw [← hc1] at h1 b1
  rw [← hc2] at h2 b2
  rw [← hneed] at hN bN
  have bS := clip_in (n := st) (lo := 0) (hi := need - 1) (by omega)
  rw [← hs] at hS bS
  generalize fitP t1 = per at *
  generalize fitL t1 t2 = least at *
  have hM := fun W => make_ok c0 c1 c2 per least hr ⟨b0, b1, b2⟩ W
  have hcode := mk_code hr b0 b1 b2
  obtain ⟨p, hp⟩ : ∃ p, p = mk c0 c1 c2 per least := ⟨_, rfl⟩
  have hM' : ∀ W : World, Calls Try.prog 25 #[.agg #[.int .i64 c0, .int .i64 c1, .int .i64 c2], .int .i64 per, .int .i64 least] W fun e w' => e = .returned (.tuple #[.agg #[.int .i64 p.l0.a, .int .i64 p.l0.b, .int .i64 p.l1.a, .int .i64 p.l1.b, .int .i64 p.l2.a, .int .i64 p.l2.b], .nilIface]) ∧ Below W.heap.size W w' := by rw [hp]; exact hM
  rw [← hp] at hcode
  have hSp := fun W => spread_any p per least need W
  obtain ⟨e1, e2, e3⟩ := sp_ok (need := need) hcode ⟨by omega, bN.2⟩
  obtain ⟨⟨x, y, z⟩, ho⟩ : ∃ o, ordP p = o := ⟨_, rfl⟩
  rw [ho] at e1 e2
  by_cases hok : spOk p (spOut p need (x, y, z)) per least (x, y, z)
  · rw [if_pos hok] at e1
    rw [decide_eq_true hok] at e2
    rw [e1, e2, e3, errV_zero] at hSp
    obtain ⟨q, hq⟩ : ∃ q, q = spOut p need (x, y, z) := ⟨_, rfl⟩
    rw [← hq] at hSp hok
    have hin := code_In hok.2.1
    obtain ⟨R, hR⟩ := segs_ex (f := q.on) (e := per) (by have := hr.1; omega)
    obtain ⟨v, hv⟩ := spread_find ho hq hok bN.1 (show s < need by omega) hR
    have hPl := fun W => plan_ok q per s R hr.1 hin ⟨bS.1, by omega⟩ hR W
    rw [plC_some hr.1 hin ⟨bS.1, by omega⟩ hv, errV_zero] at hPl
    exact shuntSpread_yes d0 d1 d2 t1 t2 t3 st per least c0 c1 c2 need s _ _ _ _ p q hr.1 bN hP hL h0 h1 h2 hN hS hM' hSp hPl w
  · rw [if_neg hok] at e1
    rw [decide_eq_false hok] at e2
    rw [e1, e2, e3, errV_zero] at hSp
    exact shuntSpread_no d0 d1 d2 t1 t2 t3 st per least c0 c1 c2 need s p p hr.1 bN hP hL h0 h1 h2 hN hS hM' hSp w

set_option maxRecDepth 100000 in
theorem shuntSpread_lifted (os : Os) (started : os.Started) (H : Type) (enc : TypeId × Value → H) :
    ReturnsInHanded {} Try.checked os 19 .any (Rows.shuntSpreadSpec.pre6 enc Try.prog Try.f19 Rows.shuntSpreadRow.domain false) (Rows.shuntSpreadSpec.post enc Try.prog Try.f19 false true false false) := by
  refine lift (C := Try.checked) (s := Rows.shuntSpreadSpec) 4 Try.own started (by kernel_rfl) Try.func19 Try.laidOut rfl rfl Try.underlying4 (by kernel_rfl)
    (fun ds hds => by
      have hl : ds.length = 2 := hds
      match ds, hl with
      | [_, _], _ => rfl)
    (ChangeSpec.witness6 (enc := enc) (C := Try.checked) false ⟨#[], #[.agg #[.int .i64 0, .int .i64 0, .int .i64 0, .int .i64 0, .int .i64 0, .int .i64 0], .int .i64 0], []⟩ 8 (by kernel_rfl) (by kernel_rfl) (by kernel_rfl) (by kernel_rfl)) ?_
  intro W base args ds p hval0 hA0
  have hval : ∀ (j : Nat) t v, Try.f19.params[j]? = some t → args[j]? = some v → Value.okWide Try.prog W .any base t v := hval0
  have hA : DataW.TrodAll enc Try.prog W 0 (fun _ => true) true Try.f19.params.toList args.toList ds p := hA0
  clear hval0 hA0
  rw [Try.params19] at hA hval
  obtain ⟨v0, vs0, d0, ds0, p0, q0, hargs, rfl, rfl, h0, r0⟩ := trodAll_cons hA
  obtain ⟨v1, vs1, d1, ds1, p1, q1, rfl, rfl, rfl, h1, r1⟩ := trodAll_cons r0
  obtain ⟨rfl, rfl, rfl⟩ := trodAll_nil r1
  obtain rfl : args = #[v0, v1] := by cases args; simp_all
  obtain ⟨l0, rfl, g0⟩ := arg_struct 4 Try.underlying107 (ks := [some .i64, some .i64, some .i64, some .i64, some .i64, some .i64]) (by kernel_rfl) (hval 0 107 v0 rfl rfl) h0
  obtain ⟨_, _, rfl, ⟨s0, rfl, ws0⟩, g0x0⟩ := g0
  obtain ⟨_, _, rfl, ⟨s1, rfl, ws1⟩, g0x1⟩ := g0x0
  obtain ⟨_, _, rfl, ⟨s2, rfl, ws2⟩, g0x2⟩ := g0x1
  obtain ⟨_, _, rfl, ⟨s3, rfl, ws3⟩, g0x3⟩ := g0x2
  obtain ⟨_, _, rfl, ⟨s4, rfl, ws4⟩, g0x4⟩ := g0x3
  obtain ⟨_, _, rfl, ⟨s5, rfl, ws5⟩, g0x5⟩ := g0x4
  simp only [Fits] at g0x5
  subst g0x5
  obtain ⟨x, rfl, wx⟩ := arg_int Try.underlying3 (hval 1 3 v1 rfl rfl) h1
  exact shuntSpread_walk s0 s1 s2 s3 s4 s5 x W

theorem j_lifts' (x : Bool) (h : x = Rows.patternMakesRow.lifted) : (x == Try.prog.liftsFinal) = true := by rw [h]; exact j_lifts
theorem j_make' (x) (h : x = Rows.patternMakesRow.make) : (Try.prog.make == some x) = true := by rw [h]; exact j_make
set_option maxHeartbeats 4000000 in
set_option maxRecDepth 100000 in
theorem shuntSpread_joined : joinedFacts Try.prog 19 Try.f19 Rows.shuntSpreadSpec Rows.shuntSpreadRow = true := by
  unfold joinedFacts
  repeat' (with_reducible refine and_split ?_ ?_)
  all_goals first | (with_reducible exact j_may) | (with_reducible refine j_lifts' _ ?_; rfl) | (with_reducible refine j_make' _ ?_; rfl) | (as_aux_lemma => kernel_rfl)

theorem shuntSpread_over : Rows.shuntSpreadRow.holds Try.pinned (OpenSpec.ofChange Rows.shuntSpreadSpec) :=
  OpenClaim.holds_of_wide 19 Try.f19 rfl rfl rfl rfl rfl rfl rfl ⟨rfl, rfl, rfl, rfl, rfl⟩ rfl rfl rfl rfl rfl (by kernel_rfl) Try.func19 shuntSpread_joined
    (of_decide_eq_true (by kernel_rfl)) (by unfold Func.isWrapper; first | (rw [if_pos (by decide +kernel)]; kernel_rfl) | (rw [if_neg (by decide +kernel)]; exact ⟨rfl, rfl⟩))
    (fun os started H enc _ => shuntSpread_lifted os started H enc)

theorem shuntSpread_holds : Rows.ShuntSpreadSaid := shuntSpread_over
#print axioms shuntSpread_holds
end Go.Proofs.Ytjeomdfcfbfebaa

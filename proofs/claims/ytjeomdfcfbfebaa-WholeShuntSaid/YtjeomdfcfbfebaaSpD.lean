/- The walk of the reference's Spread: every pattern, every frame, every need. -/
import Derived.Test.YtjeomdfcfbfebaaSpB
namespace Go.Proofs.Ytjeomdfcfbfebaa
open Go.RowKit PM
set_option maxHeartbeats 4000000 in
set_option maxRecDepth 100000 in
theorem rspread_bad (p : Pt) (per least need : Int) (hc : ¬ p.code per least = 0) (w : World) :
    Calls Try.prog 46 #[.agg #[.int .i64 p.l0.a, .int .i64 p.l0.b, .int .i64 p.l1.a, .int .i64 p.l1.b, .int .i64 p.l2.a, .int .i64 p.l2.b], .int .i64 per, .int .i64 least, .int .i64 need] w fun e w' => e = .returned (.tuple #[.agg #[.int .i64 0, .int .i64 0, .int .i64 0, .int .i64 0, .int .i64 0, .int .i64 0], .bool false, .int .i64 (p.code per least)]) ∧ Below w.heap.size w w' := by
  have HC := hide (fun W => rcheck_any p per least W)
  have hc' : (p.code per least != 0) = true := by simp [hc]
  clear hc
  generalize p.code per least = c at HC hc'
  go_enter Try.func46, Try.ntmps46
  go_wp2_with (go_at_call 37; refine (HC.out _).mono ?_; rintro e w1 ⟨rfl, hb1⟩; have z1 := hb1.size; (try simp at z1); have c1x0 := bstep (b := w.heap.size) hb1 (by first | omega | (simp <;> omega)); have y1x0 : w.heap.size < w1.heap.size := (by omega); have c1x1 := bstep (b := w.heap.size + 1) hb1 (by first | omega | (simp <;> omega)); have y1x1 : w.heap.size + 1 < w1.heap.size := (by omega); have f1x0 := bfro (b := w.heap.size) hb1 (by first | omega | (simp <;> omega)); have f1x1 := bfro (b := w.heap.size + 1) hb1 (by first | omega | (simp <;> omega)); have H1 : Below w.heap.size w w1 := Below.trans (by repeat (first | with_reducible assumption | with_reducible refine Below.drew ?_ | with_reducible refine below_drewN ?_ _ | with_reducible refine Below.alloc ?_ (by first | omega | (simp <;> omega)) _ | with_reducible refine Below.setCell ?_ (by first | omega | (simp <;> omega)) _ | with_reducible exact Below.refl _ _)) (hb1.mono (by first | omega | (simp <;> omega))))
  refine bodyPost_ret (v := .tuple #[.agg #[.int .i64 0, .int .i64 0, .int .i64 0, .int .i64 0, .int .i64 0, .int .i64 0], .bool false, _]) (by simp only [results, Try.results46]; go_simp) rfl ⟨rfl, ?_⟩
  exact (by repeat (first | with_reducible assumption | with_reducible refine Below.drew ?_ | with_reducible refine below_drewN ?_ _ | with_reducible refine Below.alloc ?_ (by first | omega | (simp <;> omega)) _ | with_reducible refine Below.setCell ?_ (by first | omega | (simp <;> omega)) _ | with_reducible exact Below.refl _ _))
set_option maxHeartbeats 4000000 in
set_option maxRecDepth 100000 in
theorem rspread_need (p : Pt) (per least need : Int) (hc : p.code per least = 0) (hn : ¬ (0 ≤ need ∧ need ≤ per)) (w : World) :
    Calls Try.prog 46 #[.agg #[.int .i64 p.l0.a, .int .i64 p.l0.b, .int .i64 p.l1.a, .int .i64 p.l1.b, .int .i64 p.l2.a, .int .i64 p.l2.b], .int .i64 per, .int .i64 least, .int .i64 need] w fun e w' => e = .returned (.tuple #[.agg #[.int .i64 0, .int .i64 0, .int .i64 0, .int .i64 0, .int .i64 0, .int .i64 0], .bool false, .int .i64 3]) ∧ Below w.heap.size w w' := by
  have HC := hide (fun W => rcheck_any p per least W)
  rw [hc] at HC
  have hr := (code_rng hc).1
  obtain ⟨r1, r2⟩ := hr
  have hn' : need < 0 ∨ (0 ≤ need ∧ per < need) := by omega
  clear hc hn
  rcases hn' with k | ⟨k, k2⟩
  all_goals
    go_enter Try.func46, Try.ntmps46
    go_wp2_with (go_at_call 37; refine (HC.out _).mono ?_; rintro e w1 ⟨rfl, hb1⟩; have z1 := hb1.size; (try simp at z1); have c1x0 := bstep (b := w.heap.size) hb1 (by first | omega | (simp <;> omega)); have y1x0 : w.heap.size < w1.heap.size := (by omega); have c1x1 := bstep (b := w.heap.size + 1) hb1 (by first | omega | (simp <;> omega)); have y1x1 : w.heap.size + 1 < w1.heap.size := (by omega); have f1x0 := bfro (b := w.heap.size) hb1 (by first | omega | (simp <;> omega)); have f1x1 := bfro (b := w.heap.size + 1) hb1 (by first | omega | (simp <;> omega)); have H1 : Below w.heap.size w w1 := Below.trans (by repeat (first | with_reducible assumption | with_reducible refine Below.drew ?_ | with_reducible refine below_drewN ?_ _ | with_reducible refine Below.alloc ?_ (by first | omega | (simp <;> omega)) _ | with_reducible refine Below.setCell ?_ (by first | omega | (simp <;> omega)) _ | with_reducible exact Below.refl _ _)) (hb1.mono (by first | omega | (simp <;> omega))))
    refine bodyPost_ret (v := .tuple #[.agg #[.int .i64 0, .int .i64 0, .int .i64 0, .int .i64 0, .int .i64 0, .int .i64 0], .bool false, _]) (by simp only [results, Try.results46]; go_simp) rfl ⟨rfl, ?_⟩
    exact (by repeat (first | with_reducible assumption | with_reducible refine Below.drew ?_ | with_reducible refine below_drewN ?_ _ | with_reducible refine Below.alloc ?_ (by first | omega | (simp <;> omega)) _ | with_reducible refine Below.setCell ?_ (by first | omega | (simp <;> omega)) _ | with_reducible exact Below.refl _ _))
set_option maxHeartbeats 16000000 in
set_option maxRecDepth 100000 in
theorem rspread_ok (p : Pt) (per least need : Int) (hc : p.code per least = 0) (hn : 0 ≤ need ∧ need ≤ per) (w : World) :
    Calls Try.prog 46 #[.agg #[.int .i64 p.l0.a, .int .i64 p.l0.b, .int .i64 p.l1.a, .int .i64 p.l1.b, .int .i64 p.l2.a, .int .i64 p.l2.b], .int .i64 per, .int .i64 least, .int .i64 need] w fun e w' => e = .returned (.tuple #[.agg #[.int .i64 (if spOk p (spOut p need (ordP p)) per least (ordP p) then spOut p need (ordP p) else p).l0.a, .int .i64 (if spOk p (spOut p need (ordP p)) per least (ordP p) then spOut p need (ordP p) else p).l0.b, .int .i64 (if spOk p (spOut p need (ordP p)) per least (ordP p) then spOut p need (ordP p) else p).l1.a, .int .i64 (if spOk p (spOut p need (ordP p)) per least (ordP p) then spOut p need (ordP p) else p).l1.b, .int .i64 (if spOk p (spOut p need (ordP p)) per least (ordP p) then spOut p need (ordP p) else p).l2.a, .int .i64 (if spOk p (spOut p need (ordP p)) per least (ordP p) then spOut p need (ordP p) else p).l2.b], .bool (decide (spOk p (spOut p need (ordP p)) per least (ordP p))), .int .i64 0]) ∧ Below w.heap.size w w' := by
  have hrg := code_rng hc
  obtain ⟨⟨a01, a02, a03⟩, ⟨a11, a12, a13⟩, a21, a22, a23⟩ := code_In hc
  have HC := hide (fun W => rcheck_any p per least W)
  rw [hc] at HC
  have HQ := hide (fun q W => rcheck_any q per least W)
  have hin := hide (code_In hc)
  obtain ⟨⟨r1, r2⟩, r3, r4⟩ := hrg
  obtain ⟨n1, n2⟩ := hn
  clear hc
  obtain ⟨V, hV⟩ : ∃ V : Value, V = .tuple #[.agg #[.int .i64 (if spOk p (spOut p need (ordP p)) per least (ordP p) then spOut p need (ordP p) else p).l0.a, .int .i64 (if spOk p (spOut p need (ordP p)) per least (ordP p) then spOut p need (ordP p) else p).l0.b, .int .i64 (if spOk p (spOut p need (ordP p)) per least (ordP p) then spOut p need (ordP p) else p).l1.a, .int .i64 (if spOk p (spOut p need (ordP p)) per least (ordP p) then spOut p need (ordP p) else p).l1.b, .int .i64 (if spOk p (spOut p need (ordP p)) per least (ordP p) then spOut p need (ordP p) else p).l2.a, .int .i64 (if spOk p (spOut p need (ordP p)) per least (ordP p) then spOut p need (ordP p) else p).l2.b], .bool (decide (spOk p (spOut p need (ordP p)) per least (ordP p))), .int .i64 0] := ⟨_, rfl⟩
  rw [← hV]
  go_enter Try.func46, Try.ntmps46
  go_upto_region 7 with (go_at_call 37; refine (HC.out _).mono ?_; rintro e w1 ⟨rfl, hb1⟩; have z1 := hb1.size; (try simp at z1); have c1x0 := bstep (b := w.heap.size) hb1 (by first | omega | (simp <;> omega)); have y1x0 : w.heap.size < w1.heap.size := (by omega); have c1x1 := bstep (b := w.heap.size + 1) hb1 (by first | omega | (simp <;> omega)); have y1x1 : w.heap.size + 1 < w1.heap.size := (by omega); have f1x0 := bfro (b := w.heap.size) hb1 (by first | omega | (simp <;> omega)); have f1x1 := bfro (b := w.heap.size + 1) hb1 (by first | omega | (simp <;> omega)); have H1 : Below w.heap.size w w1 := Below.trans (by repeat (first | with_reducible assumption | with_reducible refine Below.drew ?_ | with_reducible refine below_drewN ?_ _ | with_reducible refine Below.alloc ?_ (by first | omega | (simp <;> omega)) _ | with_reducible refine Below.setCell ?_ (by first | omega | (simp <;> omega)) _ | with_reducible exact Below.refl _ _)) (hb1.mono (by first | omega | (simp <;> omega))))
  have HB : Below w1.heap.size w1 (w1.alloc (.cells #[.int .i64 0, .int .i64 1, .int .i64 2] 26)) := (Below.refl _ _).alloc (Nat.le_refl _) _
  have t0 : (w1.alloc (.cells #[.int .i64 0, .int .i64 1, .int .i64 2] 26)).cell? ⟨w1.heap.size, 0, none⟩ = some (.int .i64 0) := by go_simp
  have t1 : (w1.alloc (.cells #[.int .i64 0, .int .i64 1, .int .i64 2] 26)).cell? ⟨w1.heap.size, 1, none⟩ = some (.int .i64 1) := by go_simp
  have t2 : (w1.alloc (.cells #[.int .i64 0, .int .i64 1, .int .i64 2] 26)).cell? ⟨w1.heap.size, 2, none⟩ = some (.int .i64 2) := by go_simp
  have tf : ∀ o, (w1.alloc (.cells #[.int .i64 0, .int .i64 1, .int .i64 2] 26)).frozen? ⟨w1.heap.size, o, none⟩ = false := fun o => by go_simp
  have ty : w1.heap.size < (w1.alloc (.cells #[.int .i64 0, .int .i64 1, .int .i64 2] 26)).heap.size := by simp
  have b0 : (w1.alloc (.cells #[.int .i64 0, .int .i64 1, .int .i64 2] 26)).cell? ⟨w.heap.size, 0, none⟩ = some (.int .i64 p.l0.a) := by go_simp
  have b1 : (w1.alloc (.cells #[.int .i64 0, .int .i64 1, .int .i64 2] 26)).cell? ⟨w.heap.size, 1, none⟩ = some (.int .i64 p.l0.b) := by go_simp
  have b2 : (w1.alloc (.cells #[.int .i64 0, .int .i64 1, .int .i64 2] 26)).cell? ⟨w.heap.size, 2, none⟩ = some (.int .i64 p.l1.a) := by go_simp
  have b3 : (w1.alloc (.cells #[.int .i64 0, .int .i64 1, .int .i64 2] 26)).cell? ⟨w.heap.size, 3, none⟩ = some (.int .i64 p.l1.b) := by go_simp
  have b4 : (w1.alloc (.cells #[.int .i64 0, .int .i64 1, .int .i64 2] 26)).cell? ⟨w.heap.size, 4, none⟩ = some (.int .i64 p.l2.a) := by go_simp
  have b5 : (w1.alloc (.cells #[.int .i64 0, .int .i64 1, .int .i64 2] 26)).cell? ⟨w.heap.size, 5, none⟩ = some (.int .i64 p.l2.b) := by go_simp
  generalize (w1.alloc (.cells #[.int .i64 0, .int .i64 1, .int .i64 2] 26)) = wb at HB t0 t1 t2 tf ty b0 b1 b2 b3 b4 b5 ⊢
  have HLA := hide (legs_a (b := w.heap.size) b0 b2 b4)
  go_upto_block 0 with fail
  go_cut [] (fun wz => ∃ x y z : Nat, ordP p = (x, y, z) ∧ (wz.cell? ⟨w1.heap.size, 0, none⟩ = some (.int .i64 (x : Int)) ∧ wz.cell? ⟨w1.heap.size, 1, none⟩ = some (.int .i64 (y : Int)) ∧ wz.cell? ⟨w1.heap.size, 2, none⟩ = some (.int .i64 (z : Int))) ∧ Below w1.heap.size wb wz)
  case first =>
    go_wp2
    go_loopw [38] (fun i wr => ∃ r : Nat, r ≤ 2 ∧ i = .int .i64 (r : Int) ∧ ∃ x y z : Nat, (x < 3 ∧ y < 3 ∧ z < 3) ∧ bub (fun k => (p.leg k).a) (2 * r) = (x, y, z) ∧ (wr.cell? ⟨w1.heap.size, 0, none⟩ = some (.int .i64 (x : Int)) ∧ wr.cell? ⟨w1.heap.size, 1, none⟩ = some (.int .i64 (y : Int)) ∧ wr.cell? ⟨w1.heap.size, 2, none⟩ = some (.int .i64 (z : Int))) ∧ (∀ o, wr.frozen? ⟨w1.heap.size, o, none⟩ = false) ∧ Below w1.heap.size wb wr ∧ w1.heap.size < wr.heap.size) (fun i _ => 2 - (intOf i).toNat)
    case atStart =>
      exact ⟨0, by omega, rfl, 0, 1, 2, ⟨by omega, by omega, by omega⟩, rfl, ⟨t0, t1, t2⟩, tf, Below.refl _ _, ty⟩
    case round =>
      rename World => wr
      obtain ⟨r, hr, rfl, x, y, z, hx3, hbub, hcs, df, HX, yb⟩ := hrel
      by_cases hlt : r < 2
      · go_wp2
        go_loopw [40] (fun j wx => ∃ m : Nat, m ≤ 2 ∧ j = .int .i64 (m : Int) ∧ ∃ x y z : Nat, (x < 3 ∧ y < 3 ∧ z < 3) ∧ bub (fun k => (p.leg k).a) (2 * r + m) = (x, y, z) ∧ (wx.cell? ⟨w1.heap.size, 0, none⟩ = some (.int .i64 (x : Int)) ∧ wx.cell? ⟨w1.heap.size, 1, none⟩ = some (.int .i64 (y : Int)) ∧ wx.cell? ⟨w1.heap.size, 2, none⟩ = some (.int .i64 (z : Int))) ∧ (∀ o, wx.frozen? ⟨w1.heap.size, o, none⟩ = false) ∧ Below w1.heap.size wb wx ∧ w1.heap.size < wx.heap.size) (fun j _ => 2 - (intOf j).toNat)
        case atStart =>
          exact ⟨0, by omega, rfl, x, y, z, hx3, hbub, hcs, df, HX, yb⟩
        case round =>
          clear hx3 hbub hcs df HX yb x y z
          rename World => wx
          obtain ⟨m, hm, rfl, x, y, z, ⟨x3, y3, z3⟩, hbub, ⟨d0, d1, d2⟩, df, HX, yb⟩ := hrel
          have xc := (HX.cell (p := ⟨w.heap.size, x * 2, none⟩) y1x0).trans (HLA.out x x3)
          have xi1 : (0 : Int) ≤ (x : Int) := by omega
          have xi2 : (x : Int) < 3 := by omega
          have yc := (HX.cell (p := ⟨w.heap.size, y * 2, none⟩) y1x0).trans (HLA.out y y3)
          have yi1 : (0 : Int) ≤ (y : Int) := by omega
          have yi2 : (y : Int) < 3 := by omega
          have zc := (HX.cell (p := ⟨w.heap.size, z * 2, none⟩) y1x0).trans (HLA.out z z3)
          have zi1 : (0 : Int) ≤ (z : Int) := by omega
          have zi2 : (z : Int) < 3 := by omega
          obtain rfl | rfl | rfl : m = 0 ∨ m = 1 ∨ m = 2 := by omega
          · go_upto_region 12 with fail
            go_quiet (fail)
            by_cases hs : (p.leg y).a < (p.leg x).a
            · have hh := hide (bub_sw0 (f := fun k => (p.leg k).a) hbub hs)
              go_upto_region 13 with fail
              go_region
              all_goals
                go_wp2
                go_roundw
                case rel => exact ⟨1, by omega, by go_num, y, x, z, ⟨by omega, by omega, by omega⟩, hh.out, ⟨by go_simp, by go_simp, by go_simp⟩, fun o => by go_simp, by exact (by repeat (first | with_reducible exact HX | with_reducible refine Below.drew ?_ | with_reducible refine below_drewN ?_ _ | with_reducible refine Below.setCell ?_ (by first | omega | (simp <;> omega)) _)), by first | omega | (simp <;> omega)⟩
                case measure => simp [intOf]
            · have hh := hide (bub_no0 (f := fun k => (p.leg k).a) hbub hs)
              go_wp2
              go_roundw
              case rel => exact ⟨1, by omega, by go_num, x, y, z, ⟨by omega, by omega, by omega⟩, hh.out, ⟨by go_simp, by go_simp, by go_simp⟩, fun o => by go_simp, by exact (by repeat (first | with_reducible exact HX | with_reducible refine Below.drew ?_ | with_reducible refine below_drewN ?_ _ | with_reducible refine Below.setCell ?_ (by first | omega | (simp <;> omega)) _)), by first | omega | (simp <;> omega)⟩
              case measure => simp [intOf]
          · go_upto_region 12 with fail
            go_quiet (fail)
            by_cases hs : (p.leg z).a < (p.leg y).a
            · have hh := hide (bub_sw1 (f := fun k => (p.leg k).a) hbub hs)
              go_upto_region 13 with fail
              go_region
              all_goals
                go_wp2
                go_roundw
                case rel => exact ⟨2, by omega, by go_num, x, z, y, ⟨by omega, by omega, by omega⟩, hh.out, ⟨by go_simp, by go_simp, by go_simp⟩, fun o => by go_simp, by exact (by repeat (first | with_reducible exact HX | with_reducible refine Below.drew ?_ | with_reducible refine below_drewN ?_ _ | with_reducible refine Below.setCell ?_ (by first | omega | (simp <;> omega)) _)), by first | omega | (simp <;> omega)⟩
                case measure => simp [intOf]
            · have hh := hide (bub_no1 (f := fun k => (p.leg k).a) hbub hs)
              go_wp2
              go_roundw
              case rel => exact ⟨2, by omega, by go_num, x, y, z, ⟨by omega, by omega, by omega⟩, hh.out, ⟨by go_simp, by go_simp, by go_simp⟩, fun o => by go_simp, by exact (by repeat (first | with_reducible exact HX | with_reducible refine Below.drew ?_ | with_reducible refine below_drewN ?_ _ | with_reducible refine Below.setCell ?_ (by first | omega | (simp <;> omega)) _)), by first | omega | (simp <;> omega)⟩
              case measure => simp [intOf]
          · go_wp2
            go_roundw
            case rel => exact ⟨r + 1, by omega, by go_num, x, y, z, ⟨x3, y3, z3⟩, hbub, ⟨d0, d1, d2⟩, df, HX, yb⟩
            case measure => simp [intOf]; omega
      · have hxyz : ordP p = (x, y, z) := by rw [show r = 2 by omega] at hbub; exact (bub_four (fun k => (p.leg k).a)).symm.trans hbub
        clear hbub hx3
        go_wp2
        go_meet
        exact ⟨x, y, z, hxyz, hcs, HX⟩
  case rest =>
  obtain ⟨x, y, z, hxyz, ⟨d0, d1, d2⟩, HX⟩ := hcut
  rename World => wr
  have s0 := (HX.cell (p := ⟨w.heap.size, 0, none⟩) y1x0).trans b0
  have s1 := (HX.cell (p := ⟨w.heap.size, 1, none⟩) y1x0).trans b1
  have s2 := (HX.cell (p := ⟨w.heap.size, 2, none⟩) y1x0).trans b2
  have s3 := (HX.cell (p := ⟨w.heap.size, 3, none⟩) y1x0).trans b3
  have s4 := (HX.cell (p := ⟨w.heap.size, 4, none⟩) y1x0).trans b4
  have s5 := (HX.cell (p := ⟨w.heap.size, 5, none⟩) y1x0).trans b5
  have HL : Below w1.heap.size w1 wr := HB.trans HX
  have hsz := HX.size
  have yw0 : w.heap.size < wr.heap.size := by omega
  clear b0 b1 b2 b3 b4 b5 t0 t1 t2 tf HLA
  have H2 : Below w.heap.size w wr := H1.trans (HL.mono (by omega))
  have cl1 := bstep (b := w.heap.size + 1) HL y1x1
  have fl1 := bfro (b := w.heap.size + 1) HL y1x1
  have yl1 : w.heap.size + 1 < wr.heap.size := by omega
  have yb := yw0
  clear HB HX
  go_upto_region 16 with fail
  have b0 := s0
  have b1 := s1
  have b2 := s2
  have b3 := s3
  have b4 := s4
  have b5 := s5
  clear s0 s1 s2 s3 s4 s5
  obtain ⟨x3, y3, z3⟩ := ord_lt hxyz
  have hord := hide (show ordP p = (x, y, z) from hxyz)
  clear hxyz
  have xi1 : (0 : Int) ≤ (x : Int) := by omega
  have xi2 : (x : Int) < 3 := by omega
  have yi1 : (0 : Int) ≤ (y : Int) := by omega
  have yi2 : (y : Int) < 3 := by omega
  have zi1 : (0 : Int) ≤ (z : Int) := by omega
  have zi2 : (z : Int) < 3 := by omega
  obtain ⟨m1, m2, m3⟩ := leg_in hin.out x3
  obtain ⟨m4, m5, m6⟩ := leg_in hin.out y3
  obtain ⟨m7, m8, m9⟩ := leg_in hin.out z3
  go_upto_region 16 with fail
  go_cut [14, 15, 16] (fun sx sy sz wz => sx = .int .i64 (x : Int) ∧ sy = .int .i64 (y : Int) ∧ sz = .int .i64 (z : Int) ∧ Below wr.heap.size wr wz)
  case first =>
    go_quiet (fail)
    go_wp2
    go_meet
    exact ⟨rfl, rfl, rfl, by repeat (first | with_reducible exact Below.refl _ _ | with_reducible refine Below.drew ?_ | with_reducible refine below_drewN ?_ _)⟩
  case rest =>
  obtain ⟨rfl, rfl, rfl, HXa⟩ := hcut
  rename World => wa
  have t0 := (HXa.cell (p := ⟨w.heap.size, 0, none⟩) yb).trans b0
  have t1 := (HXa.cell (p := ⟨w.heap.size, 1, none⟩) yb).trans b1
  have t2 := (HXa.cell (p := ⟨w.heap.size, 2, none⟩) yb).trans b2
  have t3 := (HXa.cell (p := ⟨w.heap.size, 3, none⟩) yb).trans b3
  have t4 := (HXa.cell (p := ⟨w.heap.size, 4, none⟩) yb).trans b4
  have t5 := (HXa.cell (p := ⟨w.heap.size, 5, none⟩) yb).trans b5
  have yxa := HXa.size
  have yb' : w.heap.size < wa.heap.size := by omega
  go_upto_region 17 with fail
  go_cut [17] (fun s wz => ∃ bo : Nat, s = .pointer (some ⟨bo, 0, none⟩) ∧ wr.heap.size ≤ bo ∧ (∀ o, wz.frozen? ⟨bo, o, none⟩ = false) ∧ bo < wz.heap.size ∧ (wz.cell? ⟨bo, 0, none⟩ = some (.int .i64 p.l0.a) ∧ wz.cell? ⟨bo, 1, none⟩ = some (.int .i64 p.l0.b) ∧ wz.cell? ⟨bo, 2, none⟩ = some (.int .i64 p.l1.a) ∧ wz.cell? ⟨bo, 3, none⟩ = some (.int .i64 p.l1.b) ∧ wz.cell? ⟨bo, 4, none⟩ = some (.int .i64 p.l2.a) ∧ wz.cell? ⟨bo, 5, none⟩ = some (.int .i64 p.l2.b)) ∧ Below wr.heap.size wr wz)
  case first =>
    go_wp2
    go_meet
    exact ⟨_, rfl, by first | omega | (simp <;> omega), fun o => by go_simp, by first | omega | (simp <;> omega), ⟨by go_simp, by go_simp, by go_simp, by go_simp, by go_simp, by go_simp⟩, by repeat (first | with_reducible exact HXa | with_reducible refine Below.drew ?_ | with_reducible refine below_drewN ?_ _ | with_reducible refine Below.alloc ?_ (by first | omega | (simp <;> omega)) _)⟩
  case rest =>
  clear t0 t1 t2 t3 t4 t5 HXa yb' yxa
  clear d0 d1 d2 xi1 xi2 yi1 yi2 zi1 zi2
  obtain ⟨bo, rfl, ybo, fo, yo, ⟨o0, o1, o2, o3, o4, o5⟩, HXa⟩ := hcut
  rename World => wa
  have t0 := (HXa.cell (p := ⟨w.heap.size, 0, none⟩) yb).trans b0
  have t1 := (HXa.cell (p := ⟨w.heap.size, 1, none⟩) yb).trans b1
  have t2 := (HXa.cell (p := ⟨w.heap.size, 2, none⟩) yb).trans b2
  have t3 := (HXa.cell (p := ⟨w.heap.size, 3, none⟩) yb).trans b3
  have t4 := (HXa.cell (p := ⟨w.heap.size, 4, none⟩) yb).trans b4
  have t5 := (HXa.cell (p := ⟨w.heap.size, 5, none⟩) yb).trans b5
  have xi1 : (0 : Int) ≤ (x : Int) := by omega
  have xi2 : (x : Int) < 3 := by omega
  have yi1 : (0 : Int) ≤ (y : Int) := by omega
  have yi2 : (y : Int) < 3 := by omega
  have ta := legs_a (b := w.heap.size) t0 t2 t4 x x3
  have tb := legs_a (b := w.heap.size) t0 t2 t4 y y3
  have yxa := HXa.size
  have ya : w.heap.size < wa.heap.size := by omega
  obtain ⟨D, hD⟩ : ∃ D, D = need - ((p.leg y).a - (p.leg x).a) := ⟨_, rfl⟩
  have v1 : IntKind.i64.wrap ((p.leg y).a - (p.leg x).a) = (p.leg y).a - (p.leg x).a := IntWalk.i64_in _ (by omega)
  have v2 : IntKind.i64.wrap (need - ((p.leg y).a - (p.leg x).a)) = D := by rw [hD]; exact IntWalk.i64_in _ (by omega)
  have D1 : -5000 ≤ D ∧ D ≤ 10000 := by omega
  have v3 : IntKind.i64.wrap (-D) = -D := IntWalk.i64_in _ (by omega)
  obtain ⟨D1, D2⟩ := D1
  replace hD := hide hD
  go_upto_region 18 with fail
  go_quiet (fail)
  clear v1 v2 ta tb xi1 xi2 yi1 yi2
  go_upto_if 90 with fail
  go_cut [] (fun wz => ∃ q1 : Pt, q1 = spB p need x y ∧ (∀ o, wz.frozen? ⟨bo, o, none⟩ = false) ∧ bo < wz.heap.size ∧ (wz.cell? ⟨bo, 0, none⟩ = some (.int .i64 q1.l0.a) ∧ wz.cell? ⟨bo, 1, none⟩ = some (.int .i64 q1.l0.b) ∧ wz.cell? ⟨bo, 2, none⟩ = some (.int .i64 q1.l1.a) ∧ wz.cell? ⟨bo, 3, none⟩ = some (.int .i64 q1.l1.b) ∧ wz.cell? ⟨bo, 4, none⟩ = some (.int .i64 q1.l2.a) ∧ wz.cell? ⟨bo, 5, none⟩ = some (.int .i64 q1.l2.b)) ∧ Below wr.heap.size wr wz)
  case first =>
    by_cases hpos : 0 < D
    · obtain rfl | rfl | rfl : x = 0 ∨ x = 1 ∨ x = 2 := by omega
      · have hv := hide (show (⟨⟨p.l0.a + -D, p.l0.b + -D⟩, p.l1, p.l2⟩ : Pt) = spB p need 0 y from spB_yes hD.out hpos)
        have ga : IntKind.i64.wrap (p.l0.a - D) = p.l0.a + -D := by rw [Int.sub_eq_add_neg]; exact IntWalk.i64_in _ (by omega)
        have gb : IntKind.i64.wrap (p.l0.b - D) = p.l0.b + -D := by rw [Int.sub_eq_add_neg]; exact IntWalk.i64_in _ (by omega)
        go_wp2
        go_meet
        exact ⟨_, hv.out, fun o => by go_simp, by first | omega | (simp <;> omega), ⟨by go_simp, by go_simp, by go_simp, by go_simp, by go_simp, by go_simp⟩, by exact (by repeat (first | with_reducible exact HXa | with_reducible exact HXm | with_reducible refine Below.drew ?_ | with_reducible refine below_drewN ?_ _ | with_reducible refine Below.alloc ?_ (by first | omega | (simp <;> omega)) _ | with_reducible refine Below.setCell ?_ (by first | omega | (simp <;> omega)) _ | with_reducible refine Below.setCells ?_))⟩
      · have hv := hide (show (⟨p.l0, ⟨p.l1.a + -D, p.l1.b + -D⟩, p.l2⟩ : Pt) = spB p need 1 y from spB_yes hD.out hpos)
        have ga : IntKind.i64.wrap (p.l1.a - D) = p.l1.a + -D := by rw [Int.sub_eq_add_neg]; exact IntWalk.i64_in _ (by omega)
        have gb : IntKind.i64.wrap (p.l1.b - D) = p.l1.b + -D := by rw [Int.sub_eq_add_neg]; exact IntWalk.i64_in _ (by omega)
        go_wp2
        go_meet
        exact ⟨_, hv.out, fun o => by go_simp, by first | omega | (simp <;> omega), ⟨by go_simp, by go_simp, by go_simp, by go_simp, by go_simp, by go_simp⟩, by exact (by repeat (first | with_reducible exact HXa | with_reducible exact HXm | with_reducible refine Below.drew ?_ | with_reducible refine below_drewN ?_ _ | with_reducible refine Below.alloc ?_ (by first | omega | (simp <;> omega)) _ | with_reducible refine Below.setCell ?_ (by first | omega | (simp <;> omega)) _ | with_reducible refine Below.setCells ?_))⟩
      · have hv := hide (show (⟨p.l0, p.l1, ⟨p.l2.a + -D, p.l2.b + -D⟩⟩ : Pt) = spB p need 2 y from spB_yes hD.out hpos)
        have ga : IntKind.i64.wrap (p.l2.a - D) = p.l2.a + -D := by rw [Int.sub_eq_add_neg]; exact IntWalk.i64_in _ (by omega)
        have gb : IntKind.i64.wrap (p.l2.b - D) = p.l2.b + -D := by rw [Int.sub_eq_add_neg]; exact IntWalk.i64_in _ (by omega)
        go_wp2
        go_meet
        exact ⟨_, hv.out, fun o => by go_simp, by first | omega | (simp <;> omega), ⟨by go_simp, by go_simp, by go_simp, by go_simp, by go_simp, by go_simp⟩, by exact (by repeat (first | with_reducible exact HXa | with_reducible exact HXm | with_reducible refine Below.drew ?_ | with_reducible refine below_drewN ?_ _ | with_reducible refine Below.alloc ?_ (by first | omega | (simp <;> omega)) _ | with_reducible refine Below.setCell ?_ (by first | omega | (simp <;> omega)) _ | with_reducible refine Below.setCells ?_))⟩
    · have hv := hide (spB_no hD.out hpos)
      go_wp2
      go_meet
      exact ⟨_, hv.out, fun o => by go_simp, by first | omega | (simp <;> omega), ⟨by go_simp, by go_simp, by go_simp, by go_simp, by go_simp, by go_simp⟩, by exact (by repeat (first | with_reducible exact HXa | with_reducible exact HXm | with_reducible refine Below.drew ?_ | with_reducible refine below_drewN ?_ _ | with_reducible refine Below.alloc ?_ (by first | omega | (simp <;> omega)) _ | with_reducible refine Below.setCell ?_ (by first | omega | (simp <;> omega)) _ | with_reducible refine Below.setCells ?_))⟩
  case rest =>
  clear D1 D2 hD v3 t0 t1 t2 t3 t4 t5 HXa fo yo ya yxa o0 o1 o2 o3 o4 o5
  obtain ⟨q1, hq1, fo, yo, ⟨o0, o1, o2, o3, o4, o5⟩, HXa⟩ := hcut
  rename World => wa
  have hql := hide (show q1.leg z = p.leg z by rw [hq1]; exact spB_leg hord.out)
  replace hq1 := hide hq1
  have t0 := (HXa.cell (p := ⟨w.heap.size, 0, none⟩) yb).trans b0
  have t1 := (HXa.cell (p := ⟨w.heap.size, 1, none⟩) yb).trans b1
  have t2 := (HXa.cell (p := ⟨w.heap.size, 2, none⟩) yb).trans b2
  have t3 := (HXa.cell (p := ⟨w.heap.size, 3, none⟩) yb).trans b3
  have t4 := (HXa.cell (p := ⟨w.heap.size, 4, none⟩) yb).trans b4
  have t5 := (HXa.cell (p := ⟨w.heap.size, 5, none⟩) yb).trans b5
  have yi1 : (0 : Int) ≤ (y : Int) := by omega
  have yi2 : (y : Int) < 3 := by omega
  have zi1 : (0 : Int) ≤ (z : Int) := by omega
  have zi2 : (z : Int) < 3 := by omega
  have ta := legs_a (b := w.heap.size) t0 t2 t4 y y3
  have tb := legs_a (b := w.heap.size) t0 t2 t4 z z3
  have yxa := HXa.size
  have ya : w.heap.size < wa.heap.size := by omega
  obtain ⟨D, hD⟩ : ∃ D, D = need - ((p.leg z).a - (p.leg y).a) := ⟨_, rfl⟩
  have v1 : IntKind.i64.wrap ((p.leg z).a - (p.leg y).a) = (p.leg z).a - (p.leg y).a := IntWalk.i64_in _ (by omega)
  have v2 : IntKind.i64.wrap (need - ((p.leg z).a - (p.leg y).a)) = D := by rw [hD]; exact IntWalk.i64_in _ (by omega)
  have D1 : -5000 ≤ D ∧ D ≤ 10000 := by omega
  have v3 : IntKind.i64.wrap (-D) = -D := IntWalk.i64_in _ (by omega)
  obtain ⟨D1, D2⟩ := D1
  replace hD := hide hD
  go_upto_region 22 with fail
  go_quiet (fail)
  clear v1 v2 ta tb yi1 yi2 zi1 zi2
  go_upto_if 119 with fail
  go_cut [] (fun wz => ∃ q : Pt, q = spC p q1 need y z ∧ (∀ o, wz.frozen? ⟨bo, o, none⟩ = false) ∧ bo < wz.heap.size ∧ (wz.cell? ⟨bo, 0, none⟩ = some (.int .i64 q.l0.a) ∧ wz.cell? ⟨bo, 1, none⟩ = some (.int .i64 q.l0.b) ∧ wz.cell? ⟨bo, 2, none⟩ = some (.int .i64 q.l1.a) ∧ wz.cell? ⟨bo, 3, none⟩ = some (.int .i64 q.l1.b) ∧ wz.cell? ⟨bo, 4, none⟩ = some (.int .i64 q.l2.a) ∧ wz.cell? ⟨bo, 5, none⟩ = some (.int .i64 q.l2.b)) ∧ Below wr.heap.size wr wz)
  case first =>
    by_cases hpos : 0 < D
    · obtain rfl | rfl | rfl : z = 0 ∨ z = 1 ∨ z = 2 := by omega
      · have hv := hide (show (⟨⟨q1.l0.a + D, q1.l0.b + D⟩, q1.l1, q1.l2⟩ : Pt) = spC p q1 need y 0 from spC_own (q := q1) hD.out hpos hql.out)
        have hqn : q1.l0 = p.l0 := hql.out
        have k1 : 0 ≤ q1.l0.a ∧ q1.l0.a ≤ 4096 ∧ 0 ≤ q1.l0.b ∧ q1.l0.b ≤ 4096 := by rw [hqn]; exact ⟨by omega, by omega, by omega, by omega⟩
        obtain ⟨k1, k2, k3, k4⟩ := k1
        clear hqn
        have ga : IntKind.i64.wrap (q1.l0.a + D) = q1.l0.a + D := IntWalk.i64_in _ (by omega)
        have gb : IntKind.i64.wrap (q1.l0.b + D) = q1.l0.b + D := IntWalk.i64_in _ (by omega)
        go_wp2
        go_meet
        exact ⟨_, hv.out, fun o => by go_simp, by first | omega | (simp <;> omega), ⟨by go_simp, by go_simp, by go_simp, by go_simp, by go_simp, by go_simp⟩, by exact (by repeat (first | with_reducible exact HXa | with_reducible exact HXm | with_reducible refine Below.drew ?_ | with_reducible refine below_drewN ?_ _ | with_reducible refine Below.alloc ?_ (by first | omega | (simp <;> omega)) _ | with_reducible refine Below.setCell ?_ (by first | omega | (simp <;> omega)) _ | with_reducible refine Below.setCells ?_))⟩
      · have hv := hide (show (⟨q1.l0, ⟨q1.l1.a + D, q1.l1.b + D⟩, q1.l2⟩ : Pt) = spC p q1 need y 1 from spC_own (q := q1) hD.out hpos hql.out)
        have hqn : q1.l1 = p.l1 := hql.out
        have k1 : 0 ≤ q1.l1.a ∧ q1.l1.a ≤ 4096 ∧ 0 ≤ q1.l1.b ∧ q1.l1.b ≤ 4096 := by rw [hqn]; exact ⟨by omega, by omega, by omega, by omega⟩
        obtain ⟨k1, k2, k3, k4⟩ := k1
        clear hqn
        have ga : IntKind.i64.wrap (q1.l1.a + D) = q1.l1.a + D := IntWalk.i64_in _ (by omega)
        have gb : IntKind.i64.wrap (q1.l1.b + D) = q1.l1.b + D := IntWalk.i64_in _ (by omega)
        go_wp2
        go_meet
        exact ⟨_, hv.out, fun o => by go_simp, by first | omega | (simp <;> omega), ⟨by go_simp, by go_simp, by go_simp, by go_simp, by go_simp, by go_simp⟩, by exact (by repeat (first | with_reducible exact HXa | with_reducible exact HXm | with_reducible refine Below.drew ?_ | with_reducible refine below_drewN ?_ _ | with_reducible refine Below.alloc ?_ (by first | omega | (simp <;> omega)) _ | with_reducible refine Below.setCell ?_ (by first | omega | (simp <;> omega)) _ | with_reducible refine Below.setCells ?_))⟩
      · have hv := hide (show (⟨q1.l0, q1.l1, ⟨q1.l2.a + D, q1.l2.b + D⟩⟩ : Pt) = spC p q1 need y 2 from spC_own (q := q1) hD.out hpos hql.out)
        have hqn : q1.l2 = p.l2 := hql.out
        have k1 : 0 ≤ q1.l2.a ∧ q1.l2.a ≤ 4096 ∧ 0 ≤ q1.l2.b ∧ q1.l2.b ≤ 4096 := by rw [hqn]; exact ⟨by omega, by omega, by omega, by omega⟩
        obtain ⟨k1, k2, k3, k4⟩ := k1
        clear hqn
        have ga : IntKind.i64.wrap (q1.l2.a + D) = q1.l2.a + D := IntWalk.i64_in _ (by omega)
        have gb : IntKind.i64.wrap (q1.l2.b + D) = q1.l2.b + D := IntWalk.i64_in _ (by omega)
        go_wp2
        go_meet
        exact ⟨_, hv.out, fun o => by go_simp, by first | omega | (simp <;> omega), ⟨by go_simp, by go_simp, by go_simp, by go_simp, by go_simp, by go_simp⟩, by exact (by repeat (first | with_reducible exact HXa | with_reducible exact HXm | with_reducible refine Below.drew ?_ | with_reducible refine below_drewN ?_ _ | with_reducible refine Below.alloc ?_ (by first | omega | (simp <;> omega)) _ | with_reducible refine Below.setCell ?_ (by first | omega | (simp <;> omega)) _ | with_reducible refine Below.setCells ?_))⟩
    · have hv := hide (spC_no (q := q1) hD.out hpos)
      go_wp2
      go_meet
      exact ⟨_, hv.out, fun o => by go_simp, by first | omega | (simp <;> omega), ⟨by go_simp, by go_simp, by go_simp, by go_simp, by go_simp, by go_simp⟩, by exact (by repeat (first | with_reducible exact HXa | with_reducible exact HXm | with_reducible refine Below.drew ?_ | with_reducible refine below_drewN ?_ _ | with_reducible refine Below.alloc ?_ (by first | omega | (simp <;> omega)) _ | with_reducible refine Below.setCell ?_ (by first | omega | (simp <;> omega)) _ | with_reducible refine Below.setCells ?_))⟩
  case rest =>
  clear D1 D2 hD v3 t0 t1 t2 t3 t4 t5 HXa fo yo ya yxa o0 o1 o2 o3 o4 o5
  obtain ⟨q, hq, fo, yo, ⟨o0, o1, o2, o3, o4, o5⟩, HXa⟩ := hcut
  rename World => wa
  have hqq : q = spOut p need (x, y, z) := by rw [hq, hq1.out]; rfl
  clear hq hq1 hql
  have hq := hqq
  clear hqq
  have HX := HXa
  have ybo' := yo
  clear HXa yo ybo fo
  have ybo := ybo'
  clear ybo'
  rename World => wc
  replace b0 := (HX.cell (p := ⟨w.heap.size, 0, none⟩) yb).trans b0
  replace b1 := (HX.cell (p := ⟨w.heap.size, 1, none⟩) yb).trans b1
  replace b2 := (HX.cell (p := ⟨w.heap.size, 2, none⟩) yb).trans b2
  replace b3 := (HX.cell (p := ⟨w.heap.size, 3, none⟩) yb).trans b3
  replace b4 := (HX.cell (p := ⟨w.heap.size, 4, none⟩) yb).trans b4
  replace b5 := (HX.cell (p := ⟨w.heap.size, 5, none⟩) yb).trans b5
  replace hord := hord.out
  have y0 : w.heap.size < wc.heap.size := by have := HX.size; omega
  have y1 : w.heap.size + 1 < wc.heap.size := by have := HX.size; omega
  have cx1 := bstep (b := w.heap.size + 1) HX (by omega)
  have fx1 := bfro (b := w.heap.size + 1) HX (by omega)
  have HW : Below w.heap.size w wc := H2.trans (HX.mono (by omega))
  clear HX
  rw [hord, ← hq] at hV
  have hYes := hide (fun h : spOk p q per least (x, y, z) => hV.trans (by rw [if_pos h, decide_eq_true h]))
  have hNo := hide (fun h : ¬ spOk p q per least (x, y, z) => hV.trans (by rw [if_neg h, decide_eq_false h]))
  clear hV hord hq
  go_wp2
  go_loopw [136] (fun i wr => ∃ k : Nat, k ≤ 3 ∧ i = .int .i64 (k : Int) ∧ (∀ j : Nat, j < k → (p.leg j).plain per) ∧ Below wc.heap.size wc wr) (fun i _ => 3 - (intOf i).toNat)
  case atStart =>
    exact ⟨0, by omega, rfl, fun j hj => absurd hj (by omega), Below.refl _ _⟩
  case round =>
    rename World => wr
    obtain ⟨k, hk, rfl, hpl, HR⟩ := hrel
    have yr := HR.size
    have yr0 : w.heap.size < wr.heap.size := by omega
    have yr1 : w.heap.size + 1 < wr.heap.size := by omega
    have cr0 := bstep (b := w.heap.size) HR (by omega)
    have cr1 := bstep (b := w.heap.size + 1) HR (by omega)
    have fr1 := bfro (b := w.heap.size + 1) HR (by omega)
    have HWR : Below w.heap.size w wr := HW.trans (HR.mono (by omega))
    by_cases hlt : k < 3
    · have hpl' := hide hpl
      clear hpl
      have hnot := hide (fun h : ¬ (p.leg k).plain per => hNo.out (fun hs => h (plain_at hs.1 hlt)))
      have hmore := hide (fun h : (p.leg k).plain per => plain_more hpl'.out h)
      have l0 := (HR.cell (p := ⟨w.heap.size, k * 2, none⟩) y0).trans (legs_a (b := w.heap.size) b0 b2 b4 k hlt)
      have l1 := (HR.cell (p := ⟨w.heap.size, k * 2 + 1, none⟩) y0).trans (legs_b (b := w.heap.size) b1 b3 b5 k hlt)
      have i1 : (0 : Int) ≤ (k : Int) := by omega
      have i2 : (k : Int) < 3 := by omega
      have t0 := (HR.cell (p := ⟨w.heap.size, 0, none⟩) y0).trans b0
      have t1 := (HR.cell (p := ⟨w.heap.size, 1, none⟩) y0).trans b1
      have t2 := (HR.cell (p := ⟨w.heap.size, 2, none⟩) y0).trans b2
      have t3 := (HR.cell (p := ⟨w.heap.size, 3, none⟩) y0).trans b3
      have t4 := (HR.cell (p := ⟨w.heap.size, 4, none⟩) y0).trans b4
      have t5 := (HR.cell (p := ⟨w.heap.size, 5, none⟩) y0).trans b5
      clear cr0
      generalize p.leg k = l at l0 l1 hnot hmore
      by_cases hp : l.plain per
      · have HPL := hide (plain_yes l per hp)
        have hh := hide (hmore.out hp)
        clear hp hnot hmore
        go_wp2_with (go_at_call 74; refine (HPL.out _).mono ?_; rintro e w7 ⟨rfl, hb7⟩; have z7 := hb7.size; (try simp at z7); have c7x0 := bstep (b := w.heap.size) hb7 (by first | omega | (simp <;> omega)); have c7x1 := bstep (b := w.heap.size + 1) hb7 (by first | omega | (simp <;> omega)); have f7x1 := bfro (b := w.heap.size + 1) hb7 (by first | omega | (simp <;> omega)); have y7x0 : w.heap.size < w7.heap.size := (by omega); have y7x1 : w.heap.size + 1 < w7.heap.size := (by omega); have H7 : Below w.heap.size w w7 := Below.trans (by repeat (first | with_reducible exact HWV | with_reducible exact HWR | with_reducible exact HWZ | with_reducible exact H7 | with_reducible refine Below.drew ?_ | with_reducible refine below_drewN ?_ _ | with_reducible refine Below.alloc ?_ (by first | omega | (simp <;> omega)) _ | with_reducible refine Below.setCell ?_ (by first | omega | (simp <;> omega)) _ | with_reducible refine Below.setCells ?_)) (hb7.mono (by first | omega | (simp <;> omega))); have H7c : Below wc.heap.size wc w7 := Below.trans (by repeat (first | with_reducible exact HR | with_reducible exact H7c | with_reducible refine Below.drew ?_ | with_reducible refine below_drewN ?_ _ | with_reducible refine Below.alloc ?_ (by first | omega | (simp <;> omega)) _ | with_reducible refine Below.setCell ?_ (by first | omega | (simp <;> omega)) _)) (hb7.mono (by first | omega | (simp <;> omega))))
        go_roundw
        case rel => exact ⟨k + 1, by omega, by go_num, hh.out, by exact (by repeat (first | with_reducible exact HR | with_reducible exact H7c | with_reducible refine Below.drew ?_ | with_reducible refine below_drewN ?_ _ | with_reducible refine Below.alloc ?_ (by first | omega | (simp <;> omega)) _ | with_reducible refine Below.setCell ?_ (by first | omega | (simp <;> omega)) _))⟩
        case measure => simp [intOf]; omega
      · have HPL := hide (plain_no l per hp)
        have hh := hide (hnot.out hp)
        clear hp hnot hmore
        go_wp2_with (go_at_call 74; refine (HPL.out _).mono ?_; rintro e w7 ⟨rfl, hb7⟩; have z7 := hb7.size; (try simp at z7); have c7x0 := bstep (b := w.heap.size) hb7 (by first | omega | (simp <;> omega)); have c7x1 := bstep (b := w.heap.size + 1) hb7 (by first | omega | (simp <;> omega)); have f7x1 := bfro (b := w.heap.size + 1) hb7 (by first | omega | (simp <;> omega)); have y7x0 : w.heap.size < w7.heap.size := (by omega); have y7x1 : w.heap.size + 1 < w7.heap.size := (by omega); have H7 : Below w.heap.size w w7 := Below.trans (by repeat (first | with_reducible exact HWV | with_reducible exact HWR | with_reducible exact HWZ | with_reducible exact H7 | with_reducible refine Below.drew ?_ | with_reducible refine below_drewN ?_ _ | with_reducible refine Below.alloc ?_ (by first | omega | (simp <;> omega)) _ | with_reducible refine Below.setCell ?_ (by first | omega | (simp <;> omega)) _ | with_reducible refine Below.setCells ?_)) (hb7.mono (by first | omega | (simp <;> omega))); have H7c : Below wc.heap.size wc w7 := Below.trans (by repeat (first | with_reducible exact HR | with_reducible exact H7c | with_reducible refine Below.drew ?_ | with_reducible refine below_drewN ?_ _ | with_reducible refine Below.alloc ?_ (by first | omega | (simp <;> omega)) _ | with_reducible refine Below.setCell ?_ (by first | omega | (simp <;> omega)) _)) (hb7.mono (by first | omega | (simp <;> omega))))
        refine bodyPost_ret (v := .tuple #[.agg #[.int .i64 p.l0.a, .int .i64 p.l0.b, .int .i64 p.l1.a, .int .i64 p.l1.b, .int .i64 p.l2.a, .int .i64 p.l2.b], .bool false, .int .i64 0]) (by simp only [results, Try.results46]; go_simp) rfl ⟨congrArg Ending.returned (hh.out).symm, ?_⟩
        exact (by repeat (first | with_reducible exact HWV | with_reducible exact HWR | with_reducible exact HWZ | with_reducible exact H7 | with_reducible refine Below.drew ?_ | with_reducible refine below_drewN ?_ _ | with_reducible refine Below.alloc ?_ (by first | omega | (simp <;> omega)) _ | with_reducible refine Below.setCell ?_ (by first | omega | (simp <;> omega)) _ | with_reducible refine Below.setCells ?_))
    · have hall : p.l0.plain per ∧ p.l1.plain per ∧ p.l2.plain per := ⟨hpl 0 (by omega), hpl 1 (by omega), hpl 2 (by omega)⟩
      have ek : k = 3 := by omega
      subst ek
      clear hpl
      have r0 := (HR.cell (p := ⟨bo, 0, none⟩) ybo).trans o0
      have r1 := (HR.cell (p := ⟨bo, 1, none⟩) ybo).trans o1
      have r2 := (HR.cell (p := ⟨bo, 2, none⟩) ybo).trans o2
      have r3 := (HR.cell (p := ⟨bo, 3, none⟩) ybo).trans o3
      have r4 := (HR.cell (p := ⟨bo, 4, none⟩) ybo).trans o4
      have r5 := (HR.cell (p := ⟨bo, 5, none⟩) ybo).trans o5
      have rx := legs_b (b := bo) (p := q) r1 r3 r5 x x3
      have ry := legs_b (b := bo) (p := q) r1 r3 r5 y y3
      have rz := legs_a (b := bo) (p := q) r0 r2 r4 z z3
      have k0 := fun d os => cell_regrown r0 d os
      have k1 := fun d os => cell_regrown r1 d os
      have k2 := fun d os => cell_regrown r2 d os
      have k3 := fun d os => cell_regrown r3 d os
      have k4 := fun d os => cell_regrown r4 d os
      have k5 := fun d os => cell_regrown r5 d os
      have kx := fun d os => cell_regrown rx d os
      have ky := fun d os => cell_regrown ry d os
      have kz := fun d os => cell_regrown rz d os
      have xi1 : (0 : Int) ≤ (x : Int) := by omega
      have xi2 : (x : Int) < 3 := by omega
      have yi1 : (0 : Int) ≤ (y : Int) := by omega
      have yi2 : (y : Int) < 3 := by omega
      have zi1 : (0 : Int) ≤ (z : Int) := by omega
      have zi2 : (z : Int) < 3 := by omega
      have HQq := hide (fun W => HQ.out q W)
      clear HQ
      go_upto_region 32 with fail
      by_cases c1 : q.code per least = 0
      · by_cases c2 : (q.leg x).b < (q.leg z).a
        · have hh := hide (hNo.out (fun hs => hs.2.2.1 c2))
          rw [c1] at HQq
          clear c1 hall hYes hNo
          have cM := fun d os => Calls.regrown_of (HQq.out (Go.Sort.grow (redrawn wr d) os))
          refine wp_region_quiet_below (by kernel_rfl) (by kernel_rfl) ?_
          repeat (go_big_quiet_step (exact cM _ _))
          refine wpQuiet_nil ?_
          rintro wz ⟨⟨dd, os⟩, rfl⟩
          have hz := below_regrown wr dd os
          clear cM k0 k1 k2 k3 k4 k5 kx ky kz
          generalize Go.Sort.grow (redrawn wr dd) os = wz at hz ⊢
          have yz := hz.size
          have cz0 := bstep (b := w.heap.size) hz (by omega)
          have cz1 := bstep (b := w.heap.size + 1) hz (by omega)
          have fz1 := bfro (b := w.heap.size + 1) hz (by omega)
          have czo := bstep (b := bo) hz (by omega)
          have HWZ : Below w.heap.size w wz := HWR.trans (hz.mono (by omega))
          go_wp2
          refine bodyPost_ret (v := .tuple #[.agg #[.int .i64 p.l0.a, .int .i64 p.l0.b, .int .i64 p.l1.a, .int .i64 p.l1.b, .int .i64 p.l2.a, .int .i64 p.l2.b], .bool false, .int .i64 0]) (by simp only [results, Try.results46]; go_simp) rfl ⟨congrArg Ending.returned (hh.out).symm, ?_⟩
          exact (by repeat (first | with_reducible exact HWV | with_reducible exact HWR | with_reducible exact HWZ | with_reducible exact H7 | with_reducible refine Below.drew ?_ | with_reducible refine below_drewN ?_ _ | with_reducible refine Below.alloc ?_ (by first | omega | (simp <;> omega)) _ | with_reducible refine Below.setCell ?_ (by first | omega | (simp <;> omega)) _ | with_reducible refine Below.setCells ?_))
        · by_cases c3 : (q.leg y).b < (q.leg z).a
          · have hh := hide (hNo.out (fun hs => hs.2.2.2 c3))
            rw [c1] at HQq
            clear c1 hall hYes hNo
            have cM := fun d os => Calls.regrown_of (HQq.out (Go.Sort.grow (redrawn wr d) os))
            refine wp_region_quiet_below (by kernel_rfl) (by kernel_rfl) ?_
            repeat (go_big_quiet_step (exact cM _ _))
            refine wpQuiet_nil ?_
            rintro wz ⟨⟨dd, os⟩, rfl⟩
            have hz := below_regrown wr dd os
            clear cM k0 k1 k2 k3 k4 k5 kx ky kz
            generalize Go.Sort.grow (redrawn wr dd) os = wz at hz ⊢
            have yz := hz.size
            have cz0 := bstep (b := w.heap.size) hz (by omega)
            have cz1 := bstep (b := w.heap.size + 1) hz (by omega)
            have fz1 := bfro (b := w.heap.size + 1) hz (by omega)
            have czo := bstep (b := bo) hz (by omega)
            have HWZ : Below w.heap.size w wz := HWR.trans (hz.mono (by omega))
            go_wp2
            refine bodyPost_ret (v := .tuple #[.agg #[.int .i64 p.l0.a, .int .i64 p.l0.b, .int .i64 p.l1.a, .int .i64 p.l1.b, .int .i64 p.l2.a, .int .i64 p.l2.b], .bool false, .int .i64 0]) (by simp only [results, Try.results46]; go_simp) rfl ⟨congrArg Ending.returned (hh.out).symm, ?_⟩
            exact (by repeat (first | with_reducible exact HWV | with_reducible exact HWR | with_reducible exact HWZ | with_reducible exact H7 | with_reducible refine Below.drew ?_ | with_reducible refine below_drewN ?_ _ | with_reducible refine Below.alloc ?_ (by first | omega | (simp <;> omega)) _ | with_reducible refine Below.setCell ?_ (by first | omega | (simp <;> omega)) _ | with_reducible refine Below.setCells ?_))
          · have hh := hide (hYes.out ⟨hall, c1, c2, c3⟩)
            rw [c1] at HQq
            clear c1 hall hYes hNo
            have cM := fun d os => Calls.regrown_of (HQq.out (Go.Sort.grow (redrawn wr d) os))
            refine wp_region_quiet_below (by kernel_rfl) (by kernel_rfl) ?_
            repeat (go_big_quiet_step (exact cM _ _))
            refine wpQuiet_nil ?_
            rintro wz ⟨⟨dd, os⟩, rfl⟩
            have hz := below_regrown wr dd os
            clear cM k0 k1 k2 k3 k4 k5 kx ky kz
            generalize Go.Sort.grow (redrawn wr dd) os = wz at hz ⊢
            have yz := hz.size
            have cz0 := bstep (b := w.heap.size) hz (by omega)
            have cz1 := bstep (b := w.heap.size + 1) hz (by omega)
            have fz1 := bfro (b := w.heap.size + 1) hz (by omega)
            have czo := bstep (b := bo) hz (by omega)
            have HWZ : Below w.heap.size w wz := HWR.trans (hz.mono (by omega))
            go_wp2
            refine bodyPost_ret (v := .tuple #[.agg #[.int .i64 q.l0.a, .int .i64 q.l0.b, .int .i64 q.l1.a, .int .i64 q.l1.b, .int .i64 q.l2.a, .int .i64 q.l2.b], .bool true, .int .i64 0]) (by simp only [results, Try.results46]; go_simp) rfl ⟨congrArg Ending.returned (hh.out).symm, ?_⟩
            exact (by repeat (first | with_reducible exact HWV | with_reducible exact HWR | with_reducible exact HWZ | with_reducible exact H7 | with_reducible refine Below.drew ?_ | with_reducible refine below_drewN ?_ _ | with_reducible refine Below.alloc ?_ (by first | omega | (simp <;> omega)) _ | with_reducible refine Below.setCell ?_ (by first | omega | (simp <;> omega)) _ | with_reducible refine Below.setCells ?_))
      · have hh := hide (hNo.out (fun hs => c1 hs.2.1))
        have cq : (q.code per least != 0) = true := by simp [c1]
        clear hall hYes hNo
        generalize q.code per least = cc at HQq cq c1
        have cM := fun d os => Calls.regrown_of (HQq.out (Go.Sort.grow (redrawn wr d) os))
        refine wp_region_quiet_below (by kernel_rfl) (by kernel_rfl) ?_
        repeat (go_big_quiet_step (exact cM _ _))
        refine wpQuiet_nil ?_
        rintro wz ⟨⟨dd, os⟩, rfl⟩
        have hz := below_regrown wr dd os
        clear cM k0 k1 k2 k3 k4 k5 kx ky kz
        generalize Go.Sort.grow (redrawn wr dd) os = wz at hz ⊢
        have yz := hz.size
        have cz0 := bstep (b := w.heap.size) hz (by omega)
        have cz1 := bstep (b := w.heap.size + 1) hz (by omega)
        have fz1 := bfro (b := w.heap.size + 1) hz (by omega)
        have czo := bstep (b := bo) hz (by omega)
        have HWZ : Below w.heap.size w wz := HWR.trans (hz.mono (by omega))
        go_wp2
        refine bodyPost_ret (v := .tuple #[.agg #[.int .i64 p.l0.a, .int .i64 p.l0.b, .int .i64 p.l1.a, .int .i64 p.l1.b, .int .i64 p.l2.a, .int .i64 p.l2.b], .bool false, .int .i64 0]) (by simp only [results, Try.results46]; go_simp) rfl ⟨congrArg Ending.returned (hh.out).symm, ?_⟩
        exact (by repeat (first | with_reducible exact HWV | with_reducible exact HWR | with_reducible exact HWZ | with_reducible exact H7 | with_reducible refine Below.drew ?_ | with_reducible refine below_drewN ?_ _ | with_reducible refine Below.alloc ?_ (by first | omega | (simp <;> omega)) _ | with_reducible refine Below.setCell ?_ (by first | omega | (simp <;> omega)) _ | with_reducible refine Below.setCells ?_))

end Go.Proofs.Ytjeomdfcfbfebaa

/- The walk of the reference's Plan where the period, the legs and the settling are in their ranges. -/
import Derived.Test.YtjeomdfcfbfebaaShD
import Derived.Lib.QuietBelow
import Derived.Test.YtjeomdfcfbfebaaQTail
namespace Go.Proofs.Ytjeomdfcfbfebaa
open Go.RowKit PM

theorem hit_val {s : Int} {a b : Prt} (c1 : cntOn a.n = 1) (c3 : cntOn b.n = 2) (c2 : s < a.b - a.a) (c4 : s < b.b - b.a) : hit s a b = !(oddOf a.n == oddOf b.n) := by
  rw [Bool.eq_iff_iff, hit_iff]
  simp [c1, c3, c2, c4]
theorem cnt4 (n : B3) : cntOn n = 0 ∨ cntOn n = 1 ∨ cntOn n = 2 ∨ cntOn n = 3 := by
  obtain ⟨a, b, c⟩ := n
  cases a <;> cases b <;> cases c <;> decide
theorem count_n (x : Prt) (w : World) : Calls Try.prog 76 #[.agg #[.bool x.n.1, .bool x.n.2.1, .bool x.n.2.2]] w fun e w' => e = .returned (.int .i64 (cntOn x.n)) ∧ Below w.heap.size w w' := count_b x.n.1 x.n.2.1 x.n.2.2 w
theorem odd_n (x : Prt) (w : World) : Calls Try.prog 77 #[.agg #[.bool x.n.1, .bool x.n.2.1, .bool x.n.2.2]] w fun e w' => e = .returned (.int .i64 (oddOf x.n)) ∧ Below w.heap.size w w' := odd_b x.n.1 x.n.2.1 x.n.2.2 w
set_option maxHeartbeats 16000000 in
set_option maxRecDepth 100000 in
theorem rplan_ok (p : Pt) (per st : Int) (R : List Prt) (h : okPer per) (h2 : p.In per) (h3 : 0 ≤ st ∧ st ≤ per) (hS : Segs p.on per R) (w : World) :
    Calls Try.prog 40 #[.agg #[.int .i64 p.l0.a, .int .i64 p.l0.b, .int .i64 p.l1.a, .int .i64 p.l1.b, .int .i64 p.l2.a, .int .i64 p.l2.b], .int .i64 per, .int .i64 st] w fun e w' => e = .returned (.tuple #[.agg #[.int .i64 (plO (find st R.reverse) 0), .int .i64 (plO (find st R.reverse) 1), .int .i64 (plO (find st R.reverse) 2), .int .i64 (plO (find st R.reverse) 3)], .int .i64 (plC p per st R)]) ∧ Below w.heap.size w w' := by
  have HP := hide (rparts_ok p per h h2)
  have hN := hide (fun h4 => plC_none (p := p) (R := R) h h2 h3 h4)
  have hY := hide (fun x h4 => plC_some (p := p) (R := R) (x := x) h h2 h3 h4)
  have hSS := hide hS
  obtain ⟨L, hL⟩ : ∃ L, L = R.reverse := ⟨_, rfl⟩
  rw [← hL] at hN hY ⊢
  replace hL := hide hL
  obtain ⟨p1, p2⟩ := h
  obtain ⟨s1, s2⟩ := h3
  clear h2 hS
  go_enter Try.func40, Try.ntmps40
  go_upto_region 6 with (go_at_call 35; refine (HP.out _).mono ?_; rintro e w2 ⟨v2, R2, rfl, hS2, hown2, hb2⟩; have z2 := hb2.size; (try simp at z2); have c2x0 := bstep (b := w.heap.size) hb2 (by first | omega | (simp <;> omega)); have f2x0 := bfro (b := w.heap.size) hb2 (by first | omega | (simp <;> omega)); have y2x0 : w.heap.size < w2.heap.size := (by omega); have c2x1 := bstep (b := w.heap.size + 1) hb2 (by first | omega | (simp <;> omega)); have f2x1 := bfro (b := w.heap.size + 1) hb2 (by first | omega | (simp <;> omega)); have y2x1 : w.heap.size + 1 < w2.heap.size := (by omega))
  have H2 : Below w.heap.size w w2 := Below.trans (by repeat (first | with_reducible assumption | with_reducible refine Below.drew ?_ | with_reducible refine below_drewN ?_ _ | with_reducible refine Below.alloc ?_ (by first | omega | (simp <;> omega)) _ | with_reducible refine Below.setCell ?_ (by first | omega | (simp <;> omega)) _ | with_reducible exact Below.refl _ _)) (hb2.mono (by first | omega | (simp <;> omega)))
  obtain rfl : R2 = R := hS2.unique hSS.out
  have hlen := segs_len hS2
  have hend := segs_end hS2
  clear hS2
  rcases hown2.2 with ⟨rfl, hR0⟩ | ⟨g2, cap2, cur2, rfl, hbs, hc2, e1, e2, e3, e4⟩
  · rw [hR0] at hend
    simp only [endAt] at hend
    omega
  have yg2 : g2 < w2.heap.size := (Array.getElem?_eq_some_iff.1 hc2).1
  have hcell := fun k x j (hk : k < R2.length) (hx : R2.reverse[k]? = some x) (hj : j < 5) => (hown2.cellAt (k * 5 + j) (by omega)).trans (flat_at R2 k x j hx hj)
  have hsat := fun k (hk : k < R2.length) => segs_at hSS.out k hk
  have htop := fun k (hk : R2.length ≤ k) x => segs_len' k hk x
  rw [← hL.out] at hcell hsat htop
  replace hcell := hide hcell
  replace hsat := hide hsat
  replace htop := hide htop
  clear hown2 hc2 e1 e2 e3 e4 hend HP hSS
  generalize hn : R2.length = n at hcell hlen hsat htop
  clear hn hL
  go_wp2
  go_loopw [34] (fun i wo => ∃ k : Nat, k ≤ n ∧ i = .int .i64 (k : Int) ∧ (∀ (i' : Nat) a', i' < k → L[i']? = some a' → ∀ (j' : Nat) b', L[j']? = some b' → hit st a' b' = false) ∧ Below w2.heap.size w2 wo) (fun i _ => n - (intOf i).toNat)
  case atStart =>
    exact ⟨0, Nat.zero_le _, rfl, fun i' a' hi => absurd hi (by omega), Below.refl _ _⟩
  case round =>
    rename World => wo
    obtain ⟨k, hk, rfl, hno, HWX⟩ := hrel
    have hyr := HWX.size
    have crx := fun o => (HWX.cell (p := ⟨w.heap.size + 1, o, none⟩) y2x1).trans (c2x1 o)
    have frx := fun o => (HWX.frozen (p := ⟨w.heap.size + 1, o, none⟩) y2x1).trans (f2x1 o)
    have yr1 : w.heap.size + 1 < wo.heap.size := by omega
    have yrg : g2 < wo.heap.size := by omega
    by_cases hlt : k < n
    · obtain ⟨x, ha, hx4⟩ := hsat.out k hlt
      obtain ⟨xa, xb, xc⟩ := hx4.1
      clear hx4
      have j1 : (0 : Int) ≤ (k : Int) := by omega
      have j2 : (k : Int) < (n : Int) := by omega
      have a0 : wo.cell? ⟨g2, k * 5, none⟩ = some (.int .i64 x.a) := (HWX.cell (p := ⟨g2, k * 5, none⟩) yg2).trans (hcell.out k x 0 (by omega) ha (by omega))
      have a1 : wo.cell? ⟨g2, k * 5 + 1, none⟩ = some (.int .i64 x.b) := (HWX.cell (p := ⟨g2, k * 5 + 1, none⟩) yg2).trans (hcell.out k x 1 (by omega) ha (by omega))
      have a2 : wo.cell? ⟨g2, k * 5 + 2, none⟩ = some (.bool x.n.1) := (HWX.cell (p := ⟨g2, k * 5 + 2, none⟩) yg2).trans (hcell.out k x 2 (by omega) ha (by omega))
      have a3 : wo.cell? ⟨g2, k * 5 + 3, none⟩ = some (.bool x.n.2.1) := (HWX.cell (p := ⟨g2, k * 5 + 3, none⟩) yg2).trans (hcell.out k x 3 (by omega) ha (by omega))
      have a4 : wo.cell? ⟨g2, k * 5 + 4, none⟩ = some (.bool x.n.2.2) := (HWX.cell (p := ⟨g2, k * 5 + 4, none⟩) yg2).trans (hcell.out k x 4 (by omega) ha (by omega))
      have a5 : wo.cell? ⟨g2, k * 5 + 2 + 1, none⟩ = some (.bool x.n.2.1) := a3
      have a6 : wo.cell? ⟨g2, k * 5 + 2 + 2, none⟩ = some (.bool x.n.2.2) := a4
      have HNO := hide (fun h2 => NoOut_more ha hno h2)
      have hno' := hide hno
      clear hno
      obtain ⟨w3, hw3⟩ : ∃ w3, w3 = (wo.alloc (.cells #[.int .i64 x.a, .int .i64 x.b, .bool x.n.1, .bool x.n.2.1, .bool x.n.2.2] 69)) := ⟨_, rfl⟩
      have c3x := fun o => (show w3.cell? ⟨wo.heap.size, o, none⟩ = (wo.alloc (.cells #[.int .i64 x.a, .int .i64 x.b, .bool x.n.1, .bool x.n.2.1, .bool x.n.2.2] 69)).cell? ⟨wo.heap.size, o, none⟩ by rw [hw3])
      have z3 : wo.heap.size < w3.heap.size := by rw [hw3]; simp
      have HX3 : Below w2.heap.size w2 w3 := by rw [hw3]; exact HWX.alloc (by omega) _
      replace hw3 := hide hw3
      go_upto_region 9 with fail
      rw [← hw3.out]
      go_wp2
      go_loopw [40] (fun j wx => ∃ m : Nat, m ≤ n ∧ j = .int .i64 (m : Int) ∧ (∀ (j' : Nat) b', j' < m → L[j']? = some b' → hit st x b' = false) ∧ Below w3.heap.size w3 wx) (fun j _ => n - (intOf j).toNat)
      case atStart =>
        exact ⟨0, Nat.zero_le _, rfl, fun j' b' hj => absurd hj (by omega), Below.refl _ _⟩
      case round =>
        rename World => wx
        obtain ⟨m, hm, rfl, hnj, HXX⟩ := hrel
        have hyx := HXX.size
        have HX : Below w2.heap.size w2 wx := HX3.trans (HXX.mono (by omega))
        have crx' := fun o => (HX.cell (p := ⟨w.heap.size + 1, o, none⟩) y2x1).trans (c2x1 o)
        have frx' := fun o => (HX.frozen (p := ⟨w.heap.size + 1, o, none⟩) y2x1).trans (f2x1 o)
        have cxx := fun o => (HXX.cell (p := ⟨wo.heap.size, o, none⟩) z3).trans (c3x o)
        have yx1 : w.heap.size + 1 < wx.heap.size := by omega
        have yxg : g2 < wx.heap.size := by omega
        have yxr : wo.heap.size < wx.heap.size := by omega
        by_cases hlm : m < n
        · obtain ⟨y, hb, hy4⟩ := hsat.out m hlm
          obtain ⟨ya, yb, yc⟩ := hy4.1
          clear hy4
          have j3 : (0 : Int) ≤ (m : Int) := by omega
          have j4 : (m : Int) < (n : Int) := by omega
          have b0 : wx.cell? ⟨g2, m * 5, none⟩ = some (.int .i64 y.a) := (HX.cell (p := ⟨g2, m * 5, none⟩) yg2).trans (hcell.out m y 0 (by omega) hb (by omega))
          have b1 : wx.cell? ⟨g2, m * 5 + 1, none⟩ = some (.int .i64 y.b) := (HX.cell (p := ⟨g2, m * 5 + 1, none⟩) yg2).trans (hcell.out m y 1 (by omega) hb (by omega))
          have b2 : wx.cell? ⟨g2, m * 5 + 2, none⟩ = some (.bool y.n.1) := (HX.cell (p := ⟨g2, m * 5 + 2, none⟩) yg2).trans (hcell.out m y 2 (by omega) hb (by omega))
          have b3 : wx.cell? ⟨g2, m * 5 + 3, none⟩ = some (.bool y.n.2.1) := (HX.cell (p := ⟨g2, m * 5 + 3, none⟩) yg2).trans (hcell.out m y 3 (by omega) hb (by omega))
          have b4 : wx.cell? ⟨g2, m * 5 + 4, none⟩ = some (.bool y.n.2.2) := (HX.cell (p := ⟨g2, m * 5 + 4, none⟩) yg2).trans (hcell.out m y 4 (by omega) hb (by omega))
          have b5 : wx.cell? ⟨g2, m * 5 + 2 + 1, none⟩ = some (.bool y.n.2.1) := b3
          have b6 : wx.cell? ⟨g2, m * 5 + 2 + 2, none⟩ = some (.bool y.n.2.2) := b4
          have HNI := hide (fun h2 => NoIn_more hb hnj h2)
          have hnj' := hide hnj
          clear hnj
          have gx : IntKind.i64.wrap (x.b - x.a) = x.b - x.a := IntWalk.i64_in _ (by omega)
          have gy : IntKind.i64.wrap (y.b - y.a) = y.b - y.a := IntWalk.i64_in _ (by omega)
          have HCX := hide (fun W => count_n x W)
          have HCY := hide (fun W => count_n y W)
          have HOX := hide (fun W => odd_n x W)
          have HOY := hide (fun W => odd_n y W)
          have hhit := hide (hit_iff (s := st) (a := x) (b := y))
          have hfind := hide (fun h => find_at (s := st) ha hb h hno'.out hnj'.out)
          have hk : ∀ W W' : World, (fun w' => w'.cell? ⟨wo.heap.size, 0, none⟩ = some (.int .i64 x.a) ∧ w'.cell? ⟨wo.heap.size, 1, none⟩ = some (.int .i64 x.b) ∧ w'.cell? ⟨wo.heap.size, 2, none⟩ = some (.bool x.n.1) ∧ w'.cell? ⟨wo.heap.size, 3, none⟩ = some (.bool x.n.2.1) ∧ w'.cell? ⟨wo.heap.size, 4, none⟩ = some (.bool x.n.2.2) ∧ w'.cell? ⟨wx.heap.size, 0, none⟩ = some (.int .i64 y.a) ∧ w'.cell? ⟨wx.heap.size, 1, none⟩ = some (.int .i64 y.b) ∧ w'.cell? ⟨wx.heap.size, 2, none⟩ = some (.bool y.n.1) ∧ w'.cell? ⟨wx.heap.size, 3, none⟩ = some (.bool y.n.2.1) ∧ w'.cell? ⟨wx.heap.size, 4, none⟩ = some (.bool y.n.2.2) ∧ wx.heap.size < w'.heap.size) W → Below W.heap.size W W' → (fun w' => w'.cell? ⟨wo.heap.size, 0, none⟩ = some (.int .i64 x.a) ∧ w'.cell? ⟨wo.heap.size, 1, none⟩ = some (.int .i64 x.b) ∧ w'.cell? ⟨wo.heap.size, 2, none⟩ = some (.bool x.n.1) ∧ w'.cell? ⟨wo.heap.size, 3, none⟩ = some (.bool x.n.2.1) ∧ w'.cell? ⟨wo.heap.size, 4, none⟩ = some (.bool x.n.2.2) ∧ w'.cell? ⟨wx.heap.size, 0, none⟩ = some (.int .i64 y.a) ∧ w'.cell? ⟨wx.heap.size, 1, none⟩ = some (.int .i64 y.b) ∧ w'.cell? ⟨wx.heap.size, 2, none⟩ = some (.bool y.n.1) ∧ w'.cell? ⟨wx.heap.size, 3, none⟩ = some (.bool y.n.2.1) ∧ w'.cell? ⟨wx.heap.size, 4, none⟩ = some (.bool y.n.2.2) ∧ wx.heap.size < w'.heap.size) W' := by
            rintro W W' ⟨h0, h1, h2, h3, h4, h5, h6, h7, h8, h9, k3⟩ hb
            exact ⟨(hb.cell (p := ⟨wo.heap.size, 0, none⟩) (by show wo.heap.size < W.heap.size; omega)).trans h0, (hb.cell (p := ⟨wo.heap.size, 1, none⟩) (by show wo.heap.size < W.heap.size; omega)).trans h1, (hb.cell (p := ⟨wo.heap.size, 2, none⟩) (by show wo.heap.size < W.heap.size; omega)).trans h2, (hb.cell (p := ⟨wo.heap.size, 3, none⟩) (by show wo.heap.size < W.heap.size; omega)).trans h3, (hb.cell (p := ⟨wo.heap.size, 4, none⟩) (by show wo.heap.size < W.heap.size; omega)).trans h4, (hb.cell (p := ⟨wx.heap.size, 0, none⟩) (by show wx.heap.size < W.heap.size; omega)).trans h5, (hb.cell (p := ⟨wx.heap.size, 1, none⟩) (by show wx.heap.size < W.heap.size; omega)).trans h6, (hb.cell (p := ⟨wx.heap.size, 2, none⟩) (by show wx.heap.size < W.heap.size; omega)).trans h7, (hb.cell (p := ⟨wx.heap.size, 3, none⟩) (by show wx.heap.size < W.heap.size; omega)).trans h8, (hb.cell (p := ⟨wx.heap.size, 4, none⟩) (by show wx.heap.size < W.heap.size; omega)).trans h9, by have := hb.size; omega⟩
          replace hk := hide hk
          go_upto_region 12 with fail
          have q0 : (wx.alloc (.cells #[.int .i64 y.a, .int .i64 y.b, .bool y.n.1, .bool y.n.2.1, .bool y.n.2.2] 69)).cell? ⟨wo.heap.size, 0, none⟩ = some (.int .i64 x.a) := by go_simp
          have q1 : (wx.alloc (.cells #[.int .i64 y.a, .int .i64 y.b, .bool y.n.1, .bool y.n.2.1, .bool y.n.2.2] 69)).cell? ⟨wo.heap.size, 1, none⟩ = some (.int .i64 x.b) := by go_simp
          have q2 : (wx.alloc (.cells #[.int .i64 y.a, .int .i64 y.b, .bool y.n.1, .bool y.n.2.1, .bool y.n.2.2] 69)).cell? ⟨wo.heap.size, 2, none⟩ = some (.bool x.n.1) := by go_simp
          have q3 : (wx.alloc (.cells #[.int .i64 y.a, .int .i64 y.b, .bool y.n.1, .bool y.n.2.1, .bool y.n.2.2] 69)).cell? ⟨wo.heap.size, 3, none⟩ = some (.bool x.n.2.1) := by go_simp
          have q4 : (wx.alloc (.cells #[.int .i64 y.a, .int .i64 y.b, .bool y.n.1, .bool y.n.2.1, .bool y.n.2.2] 69)).cell? ⟨wo.heap.size, 4, none⟩ = some (.bool x.n.2.2) := by go_simp
          have q5 : (wx.alloc (.cells #[.int .i64 y.a, .int .i64 y.b, .bool y.n.1, .bool y.n.2.1, .bool y.n.2.2] 69)).cell? ⟨wx.heap.size, 0, none⟩ = some (.int .i64 y.a) := by go_simp
          have q6 : (wx.alloc (.cells #[.int .i64 y.a, .int .i64 y.b, .bool y.n.1, .bool y.n.2.1, .bool y.n.2.2] 69)).cell? ⟨wx.heap.size, 1, none⟩ = some (.int .i64 y.b) := by go_simp
          have q7 : (wx.alloc (.cells #[.int .i64 y.a, .int .i64 y.b, .bool y.n.1, .bool y.n.2.1, .bool y.n.2.2] 69)).cell? ⟨wx.heap.size, 2, none⟩ = some (.bool y.n.1) := by go_simp
          have q8 : (wx.alloc (.cells #[.int .i64 y.a, .int .i64 y.b, .bool y.n.1, .bool y.n.2.1, .bool y.n.2.2] 69)).cell? ⟨wx.heap.size, 3, none⟩ = some (.bool y.n.2.1) := by go_simp
          have q9 : (wx.alloc (.cells #[.int .i64 y.a, .int .i64 y.b, .bool y.n.1, .bool y.n.2.1, .bool y.n.2.2] 69)).cell? ⟨wx.heap.size, 4, none⟩ = some (.bool y.n.2.2) := by go_simp
          have S3 : (fun w' => w'.cell? ⟨wo.heap.size, 0, none⟩ = some (.int .i64 x.a) ∧ w'.cell? ⟨wo.heap.size, 1, none⟩ = some (.int .i64 x.b) ∧ w'.cell? ⟨wo.heap.size, 2, none⟩ = some (.bool x.n.1) ∧ w'.cell? ⟨wo.heap.size, 3, none⟩ = some (.bool x.n.2.1) ∧ w'.cell? ⟨wo.heap.size, 4, none⟩ = some (.bool x.n.2.2) ∧ w'.cell? ⟨wx.heap.size, 0, none⟩ = some (.int .i64 y.a) ∧ w'.cell? ⟨wx.heap.size, 1, none⟩ = some (.int .i64 y.b) ∧ w'.cell? ⟨wx.heap.size, 2, none⟩ = some (.bool y.n.1) ∧ w'.cell? ⟨wx.heap.size, 3, none⟩ = some (.bool y.n.2.1) ∧ w'.cell? ⟨wx.heap.size, 4, none⟩ = some (.bool y.n.2.2) ∧ wx.heap.size < w'.heap.size) (wx.alloc (.cells #[.int .i64 y.a, .int .i64 y.b, .bool y.n.1, .bool y.n.2.1, .bool y.n.2.2] 69)) := ⟨q0, q1, q2, q3, q4, q5, q6, q7, q8, q9, by simp⟩
          have HXB : Below w3.heap.size w3 (wx.alloc (.cells #[.int .i64 y.a, .int .i64 y.b, .bool y.n.1, .bool y.n.2.1, .bool y.n.2.2] 69)) := HXX.alloc (by omega) _
          have kq0 := fun d os => cell_regrown q0 d os
          have kq1 := fun d os => cell_regrown q1 d os
          have kq2 := fun d os => cell_regrown q2 d os
          have kq3 := fun d os => cell_regrown q3 d os
          have kq4 := fun d os => cell_regrown q4 d os
          have kq5 := fun d os => cell_regrown q5 d os
          have kq6 := fun d os => cell_regrown q6 d os
          have kq7 := fun d os => cell_regrown q7 d os
          have kq8 := fun d os => cell_regrown q8 d os
          have kq9 := fun d os => cell_regrown q9 d os
          go_cut [80] (fun s80 wz => s80 = .bool (hit st x y) ∧ (fun w' => w'.cell? ⟨wo.heap.size, 0, none⟩ = some (.int .i64 x.a) ∧ w'.cell? ⟨wo.heap.size, 1, none⟩ = some (.int .i64 x.b) ∧ w'.cell? ⟨wo.heap.size, 2, none⟩ = some (.bool x.n.1) ∧ w'.cell? ⟨wo.heap.size, 3, none⟩ = some (.bool x.n.2.1) ∧ w'.cell? ⟨wo.heap.size, 4, none⟩ = some (.bool x.n.2.2) ∧ w'.cell? ⟨wx.heap.size, 0, none⟩ = some (.int .i64 y.a) ∧ w'.cell? ⟨wx.heap.size, 1, none⟩ = some (.int .i64 y.b) ∧ w'.cell? ⟨wx.heap.size, 2, none⟩ = some (.bool y.n.1) ∧ w'.cell? ⟨wx.heap.size, 3, none⟩ = some (.bool y.n.2.1) ∧ w'.cell? ⟨wx.heap.size, 4, none⟩ = some (.bool y.n.2.2) ∧ wx.heap.size < w'.heap.size) wz ∧ Below w3.heap.size w3 wz)
          case first =>
            by_cases c1 : cntOn x.n = 1
            · by_cases c3 : cntOn y.n = 2
              · by_cases c2 : st < x.b - x.a
                · by_cases c4 : st < y.b - y.a
                  · rw [c1] at HCX
                    rw [c3] at HCY
                    have hv := hide (hit_val c1 c3 c2 c4)
                    clear c1 c3
                    have cX := fun d os => Calls.regrown_of (HCX.out (Go.Sort.grow (redrawn (wx.alloc (.cells #[.int .i64 y.a, .int .i64 y.b, .bool y.n.1, .bool y.n.2.1, .bool y.n.2.2] 69)) d) os))
                    have cY := fun d os => Calls.regrown_of (HCY.out (Go.Sort.grow (redrawn (wx.alloc (.cells #[.int .i64 y.a, .int .i64 y.b, .bool y.n.1, .bool y.n.2.1, .bool y.n.2.2] 69)) d) os))
                    have oX := fun d os => Calls.regrown_of (HOX.out (Go.Sort.grow (redrawn (wx.alloc (.cells #[.int .i64 y.a, .int .i64 y.b, .bool y.n.1, .bool y.n.2.1, .bool y.n.2.2] 69)) d) os))
                    have oY := fun d os => Calls.regrown_of (HOY.out (Go.Sort.grow (redrawn (wx.alloc (.cells #[.int .i64 y.a, .int .i64 y.b, .bool y.n.1, .bool y.n.2.1, .bool y.n.2.2] 69)) d) os))
                    refine wp_region_quiet_below (by kernel_rfl) (by kernel_rfl) ?_
                    repeat (go_big_quiet_step (first | with_reducible exact cX _ _ | with_reducible exact cY _ _ | with_reducible exact oX _ _ | with_reducible exact oY _ _))
                    refine wpQuiet_nil ?_
                    rintro wz ⟨⟨dd, os⟩, rfl⟩
                    have hz := below_regrown (wx.alloc (.cells #[.int .i64 y.a, .int .i64 y.b, .bool y.n.1, .bool y.n.2.1, .bool y.n.2.2] 69)) dd os
                    generalize Go.Sort.grow (redrawn (wx.alloc (.cells #[.int .i64 y.a, .int .i64 y.b, .bool y.n.1, .bool y.n.2.1, .bool y.n.2.2] 69)) dd) os = wz at hz ⊢
                    clear cX cY oX oY kq0 kq1 kq2 kq3 kq4 kq5 kq6 kq7 kq8 kq9
                    go_wp2
                    go_meet
                    exact ⟨congrArg Value.bool hv.out.symm, hk.out _ _ S3 hz, HXB.trans (hz.mono (by first | omega | (simp <;> omega)))⟩
                  · rw [c1] at HCX
                    rw [c3] at HCY
                    have hv := hide (hit_no4 (s := st) (a := x) c4)
                    clear c1 c3
                    have cX := fun d os => Calls.regrown_of (HCX.out (Go.Sort.grow (redrawn (wx.alloc (.cells #[.int .i64 y.a, .int .i64 y.b, .bool y.n.1, .bool y.n.2.1, .bool y.n.2.2] 69)) d) os))
                    have cY := fun d os => Calls.regrown_of (HCY.out (Go.Sort.grow (redrawn (wx.alloc (.cells #[.int .i64 y.a, .int .i64 y.b, .bool y.n.1, .bool y.n.2.1, .bool y.n.2.2] 69)) d) os))
                    have oX := fun d os => Calls.regrown_of (HOX.out (Go.Sort.grow (redrawn (wx.alloc (.cells #[.int .i64 y.a, .int .i64 y.b, .bool y.n.1, .bool y.n.2.1, .bool y.n.2.2] 69)) d) os))
                    have oY := fun d os => Calls.regrown_of (HOY.out (Go.Sort.grow (redrawn (wx.alloc (.cells #[.int .i64 y.a, .int .i64 y.b, .bool y.n.1, .bool y.n.2.1, .bool y.n.2.2] 69)) d) os))
                    refine wp_region_quiet_below (by kernel_rfl) (by kernel_rfl) ?_
                    repeat (go_big_quiet_step (first | with_reducible exact cX _ _ | with_reducible exact cY _ _ | with_reducible exact oX _ _ | with_reducible exact oY _ _))
                    refine wpQuiet_nil ?_
                    rintro wz ⟨⟨dd, os⟩, rfl⟩
                    have hz := below_regrown (wx.alloc (.cells #[.int .i64 y.a, .int .i64 y.b, .bool y.n.1, .bool y.n.2.1, .bool y.n.2.2] 69)) dd os
                    generalize Go.Sort.grow (redrawn (wx.alloc (.cells #[.int .i64 y.a, .int .i64 y.b, .bool y.n.1, .bool y.n.2.1, .bool y.n.2.2] 69)) dd) os = wz at hz ⊢
                    clear cX cY oX oY kq0 kq1 kq2 kq3 kq4 kq5 kq6 kq7 kq8 kq9
                    go_wp2
                    go_meet
                    exact ⟨congrArg Value.bool hv.out.symm, hk.out _ _ S3 hz, HXB.trans (hz.mono (by first | omega | (simp <;> omega)))⟩
                · rw [c1] at HCX
                  rw [c3] at HCY
                  have hv := hide (hit_no3 (s := st) (b := y) c2)
                  clear c1 c3
                  have cX := fun d os => Calls.regrown_of (HCX.out (Go.Sort.grow (redrawn (wx.alloc (.cells #[.int .i64 y.a, .int .i64 y.b, .bool y.n.1, .bool y.n.2.1, .bool y.n.2.2] 69)) d) os))
                  have cY := fun d os => Calls.regrown_of (HCY.out (Go.Sort.grow (redrawn (wx.alloc (.cells #[.int .i64 y.a, .int .i64 y.b, .bool y.n.1, .bool y.n.2.1, .bool y.n.2.2] 69)) d) os))
                  have oX := fun d os => Calls.regrown_of (HOX.out (Go.Sort.grow (redrawn (wx.alloc (.cells #[.int .i64 y.a, .int .i64 y.b, .bool y.n.1, .bool y.n.2.1, .bool y.n.2.2] 69)) d) os))
                  have oY := fun d os => Calls.regrown_of (HOY.out (Go.Sort.grow (redrawn (wx.alloc (.cells #[.int .i64 y.a, .int .i64 y.b, .bool y.n.1, .bool y.n.2.1, .bool y.n.2.2] 69)) d) os))
                  refine wp_region_quiet_below (by kernel_rfl) (by kernel_rfl) ?_
                  repeat (go_big_quiet_step (first | with_reducible exact cX _ _ | with_reducible exact cY _ _ | with_reducible exact oX _ _ | with_reducible exact oY _ _))
                  refine wpQuiet_nil ?_
                  rintro wz ⟨⟨dd, os⟩, rfl⟩
                  have hz := below_regrown (wx.alloc (.cells #[.int .i64 y.a, .int .i64 y.b, .bool y.n.1, .bool y.n.2.1, .bool y.n.2.2] 69)) dd os
                  generalize Go.Sort.grow (redrawn (wx.alloc (.cells #[.int .i64 y.a, .int .i64 y.b, .bool y.n.1, .bool y.n.2.1, .bool y.n.2.2] 69)) dd) os = wz at hz ⊢
                  clear cX cY oX oY kq0 kq1 kq2 kq3 kq4 kq5 kq6 kq7 kq8 kq9
                  go_wp2
                  go_meet
                  exact ⟨congrArg Value.bool hv.out.symm, hk.out _ _ S3 hz, HXB.trans (hz.mono (by first | omega | (simp <;> omega)))⟩
              · rw [c1] at HCX
                have hb3 : (cntOn y.n == 2) = false := beq_eq_false_iff_ne.2 c3
                have hv := hide (hit_no2 (s := st) (a := x) (b := y) c3)
                clear c1 c3
                generalize cntOn y.n = cy at HCY hb3
                have cX := fun d os => Calls.regrown_of (HCX.out (Go.Sort.grow (redrawn (wx.alloc (.cells #[.int .i64 y.a, .int .i64 y.b, .bool y.n.1, .bool y.n.2.1, .bool y.n.2.2] 69)) d) os))
                have cY := fun d os => Calls.regrown_of (HCY.out (Go.Sort.grow (redrawn (wx.alloc (.cells #[.int .i64 y.a, .int .i64 y.b, .bool y.n.1, .bool y.n.2.1, .bool y.n.2.2] 69)) d) os))
                have oX := fun d os => Calls.regrown_of (HOX.out (Go.Sort.grow (redrawn (wx.alloc (.cells #[.int .i64 y.a, .int .i64 y.b, .bool y.n.1, .bool y.n.2.1, .bool y.n.2.2] 69)) d) os))
                have oY := fun d os => Calls.regrown_of (HOY.out (Go.Sort.grow (redrawn (wx.alloc (.cells #[.int .i64 y.a, .int .i64 y.b, .bool y.n.1, .bool y.n.2.1, .bool y.n.2.2] 69)) d) os))
                refine wp_region_quiet_below (by kernel_rfl) (by kernel_rfl) ?_
                repeat (go_big_quiet_step (first | with_reducible exact cX _ _ | with_reducible exact cY _ _ | with_reducible exact oX _ _ | with_reducible exact oY _ _))
                refine wpQuiet_nil ?_
                rintro wz ⟨⟨dd, os⟩, rfl⟩
                have hz := below_regrown (wx.alloc (.cells #[.int .i64 y.a, .int .i64 y.b, .bool y.n.1, .bool y.n.2.1, .bool y.n.2.2] 69)) dd os
                generalize Go.Sort.grow (redrawn (wx.alloc (.cells #[.int .i64 y.a, .int .i64 y.b, .bool y.n.1, .bool y.n.2.1, .bool y.n.2.2] 69)) dd) os = wz at hz ⊢
                clear cX cY oX oY kq0 kq1 kq2 kq3 kq4 kq5 kq6 kq7 kq8 kq9
                go_wp2
                go_meet
                exact ⟨congrArg Value.bool hv.out.symm, hk.out _ _ S3 hz, HXB.trans (hz.mono (by first | omega | (simp <;> omega)))⟩
            · have hb3 : (cntOn x.n == 1) = false := beq_eq_false_iff_ne.2 c1
              have hv := hide (hit_no1 (s := st) (a := x) (b := y) c1)
              clear c1
              generalize cntOn x.n = cx at HCX hb3
              have cX := fun d os => Calls.regrown_of (HCX.out (Go.Sort.grow (redrawn (wx.alloc (.cells #[.int .i64 y.a, .int .i64 y.b, .bool y.n.1, .bool y.n.2.1, .bool y.n.2.2] 69)) d) os))
              have cY := fun d os => Calls.regrown_of (HCY.out (Go.Sort.grow (redrawn (wx.alloc (.cells #[.int .i64 y.a, .int .i64 y.b, .bool y.n.1, .bool y.n.2.1, .bool y.n.2.2] 69)) d) os))
              have oX := fun d os => Calls.regrown_of (HOX.out (Go.Sort.grow (redrawn (wx.alloc (.cells #[.int .i64 y.a, .int .i64 y.b, .bool y.n.1, .bool y.n.2.1, .bool y.n.2.2] 69)) d) os))
              have oY := fun d os => Calls.regrown_of (HOY.out (Go.Sort.grow (redrawn (wx.alloc (.cells #[.int .i64 y.a, .int .i64 y.b, .bool y.n.1, .bool y.n.2.1, .bool y.n.2.2] 69)) d) os))
              refine wp_region_quiet_below (by kernel_rfl) (by kernel_rfl) ?_
              repeat (go_big_quiet_step (first | with_reducible exact cX _ _ | with_reducible exact cY _ _ | with_reducible exact oX _ _ | with_reducible exact oY _ _))
              refine wpQuiet_nil ?_
              rintro wz ⟨⟨dd, os⟩, rfl⟩
              have hz := below_regrown (wx.alloc (.cells #[.int .i64 y.a, .int .i64 y.b, .bool y.n.1, .bool y.n.2.1, .bool y.n.2.2] 69)) dd os
              generalize Go.Sort.grow (redrawn (wx.alloc (.cells #[.int .i64 y.a, .int .i64 y.b, .bool y.n.1, .bool y.n.2.1, .bool y.n.2.2] 69)) dd) os = wz at hz ⊢
              clear cX cY oX oY kq0 kq1 kq2 kq3 kq4 kq5 kq6 kq7 kq8 kq9
              go_wp2
              go_meet
              exact ⟨congrArg Value.bool hv.out.symm, hk.out _ _ S3 hz, HXB.trans (hz.mono (by first | omega | (simp <;> omega)))⟩
          case rest =>
          obtain ⟨rfl, ⟨e0, e1, e2, e3, e4, e5, e6, e7, e8, e9, yz⟩, HZ⟩ := hcut
          have HZ2 : Below w2.heap.size w2 wc := HX3.trans (HZ.mono (by omega))
          have crz := fun o => (HZ2.cell (p := ⟨w.heap.size + 1, o, none⟩) y2x1).trans (c2x1 o)
          have frz := fun o => (HZ2.frozen (p := ⟨w.heap.size + 1, o, none⟩) y2x1).trans (f2x1 o)
          have yz1 : w.heap.size + 1 < wc.heap.size := by omega
          have yz2 : wo.heap.size < wc.heap.size := by omega
          have ne1 : ¬ wo.heap.size = w.heap.size + 1 := by omega
          have ne2 : ¬ w.heap.size + 1 = wo.heap.size := by omega
          have ne3 : ¬ wx.heap.size = w.heap.size + 1 := by omega
          have ne4 : ¬ w.heap.size + 1 = wx.heap.size := by omega
          clear crx crx' frx frx' cxx c3x
          by_cases hb : hit st x y = true
          · rw [hb]
            have hf := hide (hfind.out hb)
            have hc := hide (hY.out (x, y) hf.out)
            have gxb : IntKind.i64.wrap (x.b - 1) = x.b - 1 := IntWalk.i64_in _ (by omega)
            have gyb : IntKind.i64.wrap (y.b - 1) = y.b - 1 := IntWalk.i64_in _ (by omega)
            clear hb
            go_upto_region 13 with fail
            have kq0 := fun d os => cell_regrown e0 d os
            have kq1 := fun d os => cell_regrown e1 d os
            have kq2 := fun d os => cell_regrown e2 d os
            have kq3 := fun d os => cell_regrown e3 d os
            have kq4 := fun d os => cell_regrown e4 d os
            have kq5 := fun d os => cell_regrown e5 d os
            have kq6 := fun d os => cell_regrown e6 d os
            have kq7 := fun d os => cell_regrown e7 d os
            have kq8 := fun d os => cell_regrown e8 d os
            have kq9 := fun d os => cell_regrown e9 d os
            have oX := fun d os => Calls.regrown_of (HOX.out (Go.Sort.grow (redrawn wc d) os))
            have oY := fun d os => Calls.regrown_of (HOY.out (Go.Sort.grow (redrawn wc d) os))
            refine region_below_tail 15 (by kernel_rfl) (by kernel_rfl) ?_
            simp only [List.take_succ_cons, List.take_zero, List.drop_succ_cons, List.drop_zero]
            repeat (go_big_quiet_step (first | with_reducible exact oX _ _ | with_reducible exact oY _ _))
            refine wpQuiet_nil ?_
            rintro wz ⟨⟨dd, os⟩, rfl⟩
            have hz := below_regrown wc dd os
            generalize Go.Sort.grow (redrawn wc dd) os = wz at hz ⊢
            clear oX oY kq0 kq1 kq2 kq3 kq4 kq5 kq6 kq7 kq8 kq9
            have yzz := hz.size
            have cz1 := fun o => (hz.cell (p := ⟨w.heap.size + 1, o, none⟩) yz1).trans (crz o)
            have fz1 := fun o => (hz.frozen (p := ⟨w.heap.size + 1, o, none⟩) yz1).trans (frz o)
            have yzw : w.heap.size + 1 < wz.heap.size := by omega
            clear crz frz
            go_wp2
            refine bodyPost_ret (v := .tuple #[.agg #[.int .i64 (x.b - 1), .int .i64 (y.b - 1), .int .i64 (oddOf x.n), .int .i64 (oddOf y.n)], .int .i64 0]) (by simp only [results, Try.results40]; go_simp) rfl ⟨ret_plan (by rw [hf.out]; rfl) (by rw [hf.out]; rfl) (by rw [hf.out]; rfl) (by rw [hf.out]; rfl) (congrArg (Value.int .i64) hc.out.symm), ?_⟩
            exact (by repeat (first | exact H2.trans (HZ2.mono (by omega)) | with_reducible refine Below.drew ?_ | with_reducible refine below_drewN ?_ _ | exact (H2.trans (HZ2.mono (by omega))).trans (hz.mono (by omega)) | with_reducible refine Below.setCells ?_ | with_reducible refine Below.setCell ?_ (by first | omega | (simp <;> omega)) _))
          · have hbf : hit st x y = false := by simpa using hb
            rw [hbf]
            have hq := hide (HNI.out hbf)
            clear hb hbf
            go_wp2
            go_roundw
            case rel => exact ⟨m + 1, by omega, by go_num, hq.out, HZ⟩
            case measure => simp [intOf]; omega
        · have em : m = n := by omega
          subst em
          have hq := hide (HNO.out (fun j b hj => hnj j b (by
            by_cases e : j < m
            · exact e
            · exact absurd hj (htop.out j (by omega) b)) hj))
          go_wp2
          go_roundw
          case rel => exact ⟨k + 1, by omega, by go_num, hq.out, HX⟩
          case measure => simp [intOf]; omega
    · have ek : k = n := by omega
      subst ek
      have hf := find_no (s := st) (l := L) (fun i a hi j b hj => hno i a (by
        by_cases e : i < k
        · exact e
        · exact absurd hi (htop.out i (by omega) a)) hi j b hj)
      have hc := hide (hN.out hf)
      clear hno hN hY
      go_wp2
      refine bodyPost_ret (v := .tuple #[.agg #[.int .i64 0, .int .i64 0, .int .i64 0, .int .i64 0], .int .i64 22]) (by simp only [results, Try.results40]; go_simp) rfl ⟨ret_plan (by rw [hf]; rfl) (by rw [hf]; rfl) (by rw [hf]; rfl) (by rw [hf]; rfl) (congrArg (Value.int .i64) hc.out.symm), ?_⟩
      exact (by repeat (first | exact H2.trans (HWX.mono (by omega)) | with_reducible refine Below.setCell ?_ (by first | omega | (simp <;> omega)) _))
end Go.Proofs.Ytjeomdfcfbfebaa

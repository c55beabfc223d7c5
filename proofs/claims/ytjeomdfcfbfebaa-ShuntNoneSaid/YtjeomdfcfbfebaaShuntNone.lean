/- ShuntNone holds: a pattern whose legs are all alike, or without any leg that is on for part of the period, has no plan. No condition. -/
import Derived.Test.YtjeomdfcfbfebaaRows
import Derived.Test.YtjeomdfcfbfebaaFlat
import Derived.Test.YtjeomdfcfbfebaaShF
import Derived.Test.YtjeomdfcfbfebaaPatJ
namespace Go.Proofs.Ytjeomdfcfbfebaa
open Go.RowKit PM Flat Go.ChangeShapes

namespace PM
theorem mem_some {l : List Prt} {i : Nat} {x : Prt} (h : l[i]? = some x) : x ∈ l := List.mem_of_getElem? h
theorem find_no1 {f : Int → B3} {e st : Int} {R : List Prt} (hS : Segs f e R) (h : ∀ t, 0 ≤ t → t < e → ¬ cntOn (f t) = 1) : find st R.reverse = none :=
  find_no (fun i a hi j b hj => by
    obtain ⟨⟨h1, h2, h3⟩, h4⟩ := segs_mem hS a (by simpa using mem_some hi)
    have k := h a.a h1 (by omega)
    rw [h4 a.a (Int.le_refl _) h2] at k
    rw [Bool.eq_false_iff]
    intro hh
    exact k (hit_iff.1 hh).1)
theorem find_no2 {f : Int → B3} {e st : Int} {R : List Prt} (hS : Segs f e R) (h : ∀ t, 0 ≤ t → t < e → ¬ cntOn (f t) = 2) : find st R.reverse = none :=
  find_no (fun i a hi j b hj => by
    obtain ⟨⟨h1, h2, h3⟩, h4⟩ := segs_mem hS b (by simpa using mem_some hj)
    have k := h b.a h1 (by omega)
    rw [h4 b.a (Int.le_refl _) h2] at k
    rw [Bool.eq_false_iff]
    intro hh
    exact k (hit_iff.1 hh).2.1)
end PM
theorem none_of (p : Pt) (per st : Int) (h : okPer per) (h2 : p.In per) (h3 : 0 ≤ st ∧ st ≤ per) (hn : (∀ t, 0 ≤ t → t < per → ¬ cntOn (p.on t) = 1) ∨ (∀ t, 0 ≤ t → t < per → ¬ cntOn (p.on t) = 2)) :
    ∀ W : World, Calls Try.prog 27 #[.agg #[.int .i64 p.l0.a, .int .i64 p.l0.b, .int .i64 p.l1.a, .int .i64 p.l1.b, .int .i64 p.l2.a, .int .i64 p.l2.b], .int .i64 per, .int .i64 st] W fun e w' => e = .returned (.tuple #[.agg #[.int .i64 0, .int .i64 0, .int .i64 0, .int .i64 0], .iface 96 (.int .i64 22)]) ∧ Below W.heap.size W w' := by
  intro W
  obtain ⟨R, hS⟩ := segs_ex (f := p.on) (e := per) (by have := h.1; omega)
  have hf : find st R.reverse = none := by
    rcases hn with hn | hn
    · exact find_no1 hS hn
    · exact find_no2 hS hn
  have k := plan_ok p per st R h h2 h3 hS W
  rw [hf, plC_none h h2 h3 hf] at k
  exact k
theorem is_unknown (w : World) : Calls Try.prog 45 #[.iface 96 (.int .i64 22), .int .i64 22] w fun e w' => e = .returned (.bool true) ∧ w = w' := by
  have ha := as_errno (.int .i64 22)
  go_enter Try.func45, Try.ntmps45
  go_wp2
  go_ret
  exact ⟨rfl, rfl⟩
set_option maxHeartbeats 8000000 in
set_option maxRecDepth 100000 in
theorem shuntNone_core (la lb per0 st per a b : Int) (h1 : 64 ≤ per) (h2 : per ≤ 4096) (hs : 0 ≤ st ∧ st ≤ 255)
    (hc0 : ∀ W : World, Calls Try.prog 22 #[.int .i64 per0, .int .i64 64, .int .i64 4096] W fun e w' => e = .returned (.int .i64 per) ∧ W = w')
    (hc1 : ∀ W : World, Calls Try.prog 22 #[.int .i64 la, .int .i64 0, .int .i64 per] W fun e w' => e = .returned (.int .i64 a) ∧ W = w')
    (hc2 : ∀ W : World, Calls Try.prog 22 #[.int .i64 lb, .int .i64 a, .int .i64 per] W fun e w' => e = .returned (.int .i64 b) ∧ W = w')
    (hp0 : ∀ W : World, Calls Try.prog 27 #[.agg #[.int .i64 a, .int .i64 b, .int .i64 a, .int .i64 b, .int .i64 a, .int .i64 b], .int .i64 per, .int .i64 (st % per)] W fun e w' => e = .returned (.tuple #[.agg #[.int .i64 0, .int .i64 0, .int .i64 0, .int .i64 0], .iface 96 (.int .i64 22)]) ∧ Below W.heap.size W w')
    (hp1 : ∀ W : World, Calls Try.prog 27 #[.agg #[.int .i64 a, .int .i64 b, .int .i64 0, .int .i64 0, .int .i64 0, .int .i64 0], .int .i64 per, .int .i64 (st % per)] W fun e w' => e = .returned (.tuple #[.agg #[.int .i64 0, .int .i64 0, .int .i64 0, .int .i64 0], .iface 96 (.int .i64 22)]) ∧ Below W.heap.size W w')
    (hp2 : ∀ W : World, Calls Try.prog 27 #[.agg #[.int .i64 a, .int .i64 b, .int .i64 0, .int .i64 per, .int .i64 0, .int .i64 per], .int .i64 per, .int .i64 (st % per)] W fun e w' => e = .returned (.tuple #[.agg #[.int .i64 0, .int .i64 0, .int .i64 0, .int .i64 0], .iface 96 (.int .i64 22)]) ∧ Below W.heap.size W w') (w : World) :
    Calls Try.prog 15 #[.agg #[.int .i64 la, .int .i64 lb], .int .i64 per0, .int .u8 st] w fun e w' => e = .returned (.bool true) ∧ Below w.heap.size w w' := by
  have HC0 := hide hc0
  have HC1 := hide hc1
  have HC2 := hide hc2
  have HP0 := hide hp0
  have HP1 := hide hp1
  have HP2 := hide hp2
  clear hc0 hc1 hc2 hp0 hp1 hp2
  obtain ⟨s1, s2⟩ := hs
  have hne : ¬ per = 0 := by omega
  have gs : IntKind.i64.wrap st = st := IntWalk.i64_in _ (by omega)
  have htm : st.tmod per = st % per := Int.tmod_eq_emod_of_nonneg s1
  go_enter Try.func15, Try.ntmps15
  go_upto_region 6 with (first
    | (go_at_call 39; refine (awake25_any _).mono ?_; rintro e w1 ⟨rfl, hb1⟩; have z1 := hb1.size; (try simp at z1); have c1x0 := bstep (b := w.heap.size) hb1 (by first | omega | (simp <;> omega)); have y1x0 : w.heap.size < w1.heap.size := (by omega); have f1x0 := bfro (b := w.heap.size) hb1 (by first | omega | (simp <;> omega)); have H1 : Below w.heap.size w w1 := Below.trans (by repeat (first | with_reducible assumption | with_reducible refine Below.drew ?_ | with_reducible refine below_drewN ?_ _ | with_reducible refine Below.alloc ?_ (by first | omega | (simp <;> omega)) _ | with_reducible refine Below.setCell ?_ (by first | omega | (simp <;> omega)) _ | with_reducible exact Below.refl _ _)) (hb1.mono (by first | omega | (simp <;> omega))))
    | (go_at_call 22; first | (with_reducible refine (HC0.out _).mono ?_; rintro e w8 ⟨rfl, rfl⟩) | (with_reducible refine (HC1.out _).mono ?_; rintro e w8 ⟨rfl, rfl⟩) | (with_reducible refine (HC2.out _).mono ?_; rintro e w8 ⟨rfl, rfl⟩)))
  go_cut [41, 42, 43] (fun s41 s42 s43 wx => s41 = .slice (some ⟨w1.heap.size, 0, none⟩) 3 3 ∧ s42 = .int .i64 3 ∧ s43 = .int .i64 0 ∧ (wx.cell? ⟨w1.heap.size, 0, none⟩ = some (.int .i64 a) ∧ wx.cell? ⟨w1.heap.size, 1, none⟩ = some (.int .i64 b) ∧ wx.cell? ⟨w1.heap.size, 2, none⟩ = some (.int .i64 a) ∧ wx.cell? ⟨w1.heap.size, 3, none⟩ = some (.int .i64 b) ∧ wx.cell? ⟨w1.heap.size, 4, none⟩ = some (.int .i64 a) ∧ wx.cell? ⟨w1.heap.size, 5, none⟩ = some (.int .i64 b) ∧ wx.cell? ⟨w1.heap.size, 6, none⟩ = some (.int .i64 a) ∧ wx.cell? ⟨w1.heap.size, 7, none⟩ = some (.int .i64 b) ∧ wx.cell? ⟨w1.heap.size, 8, none⟩ = some (.int .i64 0) ∧ wx.cell? ⟨w1.heap.size, 9, none⟩ = some (.int .i64 0) ∧ wx.cell? ⟨w1.heap.size, 10, none⟩ = some (.int .i64 0) ∧ wx.cell? ⟨w1.heap.size, 11, none⟩ = some (.int .i64 0) ∧ wx.cell? ⟨w1.heap.size, 12, none⟩ = some (.int .i64 a) ∧ wx.cell? ⟨w1.heap.size, 13, none⟩ = some (.int .i64 b) ∧ wx.cell? ⟨w1.heap.size, 14, none⟩ = some (.int .i64 0) ∧ wx.cell? ⟨w1.heap.size, 15, none⟩ = some (.int .i64 per) ∧ wx.cell? ⟨w1.heap.size, 16, none⟩ = some (.int .i64 0) ∧ wx.cell? ⟨w1.heap.size, 17, none⟩ = some (.int .i64 per)) ∧ Below w.heap.size w wx ∧ w1.heap.size < wx.heap.size)
  case first =>
    go_wp2
    go_meet
    exact ⟨rfl, rfl, rfl, ⟨by go_simp, by go_simp, by go_simp, by go_simp, by go_simp, by go_simp, by go_simp, by go_simp, by go_simp, by go_simp, by go_simp, by go_simp, by go_simp, by go_simp, by go_simp, by go_simp, by go_simp, by go_simp⟩, by exact (by repeat (first | with_reducible assumption | with_reducible refine Below.drew ?_ | with_reducible refine below_drewN ?_ _ | with_reducible refine Below.alloc ?_ (by first | omega | (simp <;> omega)) _ | with_reducible refine Below.setCell ?_ (by first | omega | (simp <;> omega)) _ | with_reducible exact Below.refl _ _)), by simp⟩
  case rest =>
  have yw1 : w.heap.size < w1.heap.size := y1x0
  obtain ⟨rfl, rfl, rfl, ⟨u0x0, u0x1, u0x2, u0x3, u0x4, u0x5, u0x6, u0x7, u0x8, u0x9, u0x10, u0x11, u0x12, u0x13, u0x14, u0x15, u0x16, u0x17⟩, HB, yc⟩ := hcut
  go_wp2
  refine wp_loop_rounds 4 ?_
  rw [rounds_succ]
  go_upto_region 9 with fail
  go_cut [9, 10] (fun s9 s10 wx => s10 = .iface 96 (.int .i64 22) ∧ (∃ bx, s9 = .pointer (some ⟨bx, 0, none⟩) ∧ bx < wx.heap.size ∧ wx.cell? ⟨bx, 0, none⟩ = some (.int .i64 0) ∧ wx.cell? ⟨bx, 1, none⟩ = some (.int .i64 0) ∧ wx.cell? ⟨bx, 2, none⟩ = some (.int .i64 0) ∧ wx.cell? ⟨bx, 3, none⟩ = some (.int .i64 0)) ∧ Below wc.heap.size wc wx)
  case first =>
    have q0 : (wc.alloc (.cells #[.int .i64 a, .int .i64 b, .int .i64 a, .int .i64 b, .int .i64 a, .int .i64 b] 39)).cell? ⟨wc.heap.size, 0, none⟩ = some (.int .i64 a) := by go_simp
    have q1 : (wc.alloc (.cells #[.int .i64 a, .int .i64 b, .int .i64 a, .int .i64 b, .int .i64 a, .int .i64 b] 39)).cell? ⟨wc.heap.size, 1, none⟩ = some (.int .i64 b) := by go_simp
    have q2 : (wc.alloc (.cells #[.int .i64 a, .int .i64 b, .int .i64 a, .int .i64 b, .int .i64 a, .int .i64 b] 39)).cell? ⟨wc.heap.size, 2, none⟩ = some (.int .i64 a) := by go_simp
    have q3 : (wc.alloc (.cells #[.int .i64 a, .int .i64 b, .int .i64 a, .int .i64 b, .int .i64 a, .int .i64 b] 39)).cell? ⟨wc.heap.size, 3, none⟩ = some (.int .i64 b) := by go_simp
    have q4 : (wc.alloc (.cells #[.int .i64 a, .int .i64 b, .int .i64 a, .int .i64 b, .int .i64 a, .int .i64 b] 39)).cell? ⟨wc.heap.size, 4, none⟩ = some (.int .i64 a) := by go_simp
    have q5 : (wc.alloc (.cells #[.int .i64 a, .int .i64 b, .int .i64 a, .int .i64 b, .int .i64 a, .int .i64 b] 39)).cell? ⟨wc.heap.size, 5, none⟩ = some (.int .i64 b) := by go_simp
    have hk : ∀ W W' : World, (fun w' => w'.cell? ⟨wc.heap.size, 0, none⟩ = some (.int .i64 a) ∧ w'.cell? ⟨wc.heap.size, 1, none⟩ = some (.int .i64 b) ∧ w'.cell? ⟨wc.heap.size, 2, none⟩ = some (.int .i64 a) ∧ w'.cell? ⟨wc.heap.size, 3, none⟩ = some (.int .i64 b) ∧ w'.cell? ⟨wc.heap.size, 4, none⟩ = some (.int .i64 a) ∧ w'.cell? ⟨wc.heap.size, 5, none⟩ = some (.int .i64 b) ∧ wc.heap.size < w'.heap.size) W → Below W.heap.size W W' → (fun w' => w'.cell? ⟨wc.heap.size, 0, none⟩ = some (.int .i64 a) ∧ w'.cell? ⟨wc.heap.size, 1, none⟩ = some (.int .i64 b) ∧ w'.cell? ⟨wc.heap.size, 2, none⟩ = some (.int .i64 a) ∧ w'.cell? ⟨wc.heap.size, 3, none⟩ = some (.int .i64 b) ∧ w'.cell? ⟨wc.heap.size, 4, none⟩ = some (.int .i64 a) ∧ w'.cell? ⟨wc.heap.size, 5, none⟩ = some (.int .i64 b) ∧ wc.heap.size < w'.heap.size) W' := by
      rintro W W' ⟨h0, h1, h2, h3, h4, h5, k3⟩ hb
      exact ⟨(hb.cell (p := ⟨wc.heap.size, 0, none⟩) (by show wc.heap.size < W.heap.size; omega)).trans h0, (hb.cell (p := ⟨wc.heap.size, 1, none⟩) (by show wc.heap.size < W.heap.size; omega)).trans h1, (hb.cell (p := ⟨wc.heap.size, 2, none⟩) (by show wc.heap.size < W.heap.size; omega)).trans h2, (hb.cell (p := ⟨wc.heap.size, 3, none⟩) (by show wc.heap.size < W.heap.size; omega)).trans h3, (hb.cell (p := ⟨wc.heap.size, 4, none⟩) (by show wc.heap.size < W.heap.size; omega)).trans h4, (hb.cell (p := ⟨wc.heap.size, 5, none⟩) (by show wc.heap.size < W.heap.size; omega)).trans h5, by have := hb.size; omega⟩
    have S3 : (fun w' => w'.cell? ⟨wc.heap.size, 0, none⟩ = some (.int .i64 a) ∧ w'.cell? ⟨wc.heap.size, 1, none⟩ = some (.int .i64 b) ∧ w'.cell? ⟨wc.heap.size, 2, none⟩ = some (.int .i64 a) ∧ w'.cell? ⟨wc.heap.size, 3, none⟩ = some (.int .i64 b) ∧ w'.cell? ⟨wc.heap.size, 4, none⟩ = some (.int .i64 a) ∧ w'.cell? ⟨wc.heap.size, 5, none⟩ = some (.int .i64 b) ∧ wc.heap.size < w'.heap.size) (wc.alloc (.cells #[.int .i64 a, .int .i64 b, .int .i64 a, .int .i64 b, .int .i64 a, .int .i64 b] 39)).drew := ⟨q0, q1, q2, q3, q4, q5, by simp⟩
    go_region_held3 (fun w' => w'.cell? ⟨wc.heap.size, 0, none⟩ = some (.int .i64 a) ∧ w'.cell? ⟨wc.heap.size, 1, none⟩ = some (.int .i64 b) ∧ w'.cell? ⟨wc.heap.size, 2, none⟩ = some (.int .i64 a) ∧ w'.cell? ⟨wc.heap.size, 3, none⟩ = some (.int .i64 b) ∧ w'.cell? ⟨wc.heap.size, 4, none⟩ = some (.int .i64 a) ∧ w'.cell? ⟨wc.heap.size, 5, none⟩ = some (.int .i64 b) ∧ wc.heap.size < w'.heap.size) (first | exact S3 | exact hk _ _ S3 hb4 | (refine ⟨?_, ?_, ?_, ?_, ?_, ?_, ?_⟩ <;> first | omega | (go_simp; done) | (simp <;> omega)) | (refine hk _ _ ?_ hb4; (refine ⟨?_, ?_, ?_, ?_, ?_, ?_, ?_⟩ <;> first | omega | (go_simp; done) | (simp <;> omega)))) (first | (go_at_call 27; with_reducible refine (HP0.out _).mono ?_; rintro e w4 ⟨rfl, hb4⟩; have z4 := hb4.size; (try simp at z4); (try (have c4t := bstep (b := wc.heap.size + 1) hb4 (by first | omega | (simp <;> omega)); have f4t := bfro (b := wc.heap.size + 1) hb4 (by first | omega | (simp <;> omega)); have y4t : wc.heap.size + 1 < w4.heap.size := (by omega)))))
    all_goals
      go_wp2
      go_meet
      exact ⟨rfl, ⟨_, rfl, by first | omega | (simp <;> omega), by go_simp, by go_simp, by go_simp, by go_simp⟩, by exact (by repeat (first | with_reducible assumption | with_reducible refine Below.drew ?_ | with_reducible refine below_drewN ?_ _ | with_reducible refine Below.alloc ?_ (by first | omega | (simp <;> omega)) _ | with_reducible refine Below.setCell ?_ (by first | omega | (simp <;> omega)) _ | with_reducible refine Below.trans ?_ (Below.mono hb4 (by first | omega | (simp <;> omega))) | with_reducible exact Below.refl _ _))⟩
  case rest =>
  obtain ⟨rfl, ⟨bx, rfl, ybx, e0, e1, e2, e3⟩, HB0⟩ := hcut
  have yn0 := HB0.size
  go_wp2_with (go_at_call 45; with_reducible refine (is_unknown _).mono ?_; rintro e w9 ⟨rfl, rfl⟩)
  have u1x6 := (HB0.cell (p := ⟨w1.heap.size, 6, none⟩) yc).trans u0x6
  have u1x7 := (HB0.cell (p := ⟨w1.heap.size, 7, none⟩) yc).trans u0x7
  have u1x8 := (HB0.cell (p := ⟨w1.heap.size, 8, none⟩) yc).trans u0x8
  have u1x9 := (HB0.cell (p := ⟨w1.heap.size, 9, none⟩) yc).trans u0x9
  have u1x10 := (HB0.cell (p := ⟨w1.heap.size, 10, none⟩) yc).trans u0x10
  have u1x11 := (HB0.cell (p := ⟨w1.heap.size, 11, none⟩) yc).trans u0x11
  have u1x12 := (HB0.cell (p := ⟨w1.heap.size, 12, none⟩) yc).trans u0x12
  have u1x13 := (HB0.cell (p := ⟨w1.heap.size, 13, none⟩) yc).trans u0x13
  have u1x14 := (HB0.cell (p := ⟨w1.heap.size, 14, none⟩) yc).trans u0x14
  have u1x15 := (HB0.cell (p := ⟨w1.heap.size, 15, none⟩) yc).trans u0x15
  have u1x16 := (HB0.cell (p := ⟨w1.heap.size, 16, none⟩) yc).trans u0x16
  have u1x17 := (HB0.cell (p := ⟨w1.heap.size, 17, none⟩) yc).trans u0x17
  have yc' : w1.heap.size < wc.heap.size := by omega
  have HBB := HB.trans (HB0.mono (by omega))
  clear yc e0 e1 e2 e3 ybx HB HB0 yn0
  have HB := HBB
  clear HBB
  have yc := yc'
  clear yc'
  rw [rounds_succ]
  go_upto_region 9 with fail
  go_cut [9, 10] (fun s9 s10 wx => s10 = .iface 96 (.int .i64 22) ∧ (∃ bx, s9 = .pointer (some ⟨bx, 0, none⟩) ∧ bx < wx.heap.size ∧ wx.cell? ⟨bx, 0, none⟩ = some (.int .i64 0) ∧ wx.cell? ⟨bx, 1, none⟩ = some (.int .i64 0) ∧ wx.cell? ⟨bx, 2, none⟩ = some (.int .i64 0) ∧ wx.cell? ⟨bx, 3, none⟩ = some (.int .i64 0)) ∧ Below wc.heap.size wc wx)
  case first =>
    have q0 : (wc.alloc (.cells #[.int .i64 a, .int .i64 b, .int .i64 0, .int .i64 0, .int .i64 0, .int .i64 0] 39)).cell? ⟨wc.heap.size, 0, none⟩ = some (.int .i64 a) := by go_simp
    have q1 : (wc.alloc (.cells #[.int .i64 a, .int .i64 b, .int .i64 0, .int .i64 0, .int .i64 0, .int .i64 0] 39)).cell? ⟨wc.heap.size, 1, none⟩ = some (.int .i64 b) := by go_simp
    have q2 : (wc.alloc (.cells #[.int .i64 a, .int .i64 b, .int .i64 0, .int .i64 0, .int .i64 0, .int .i64 0] 39)).cell? ⟨wc.heap.size, 2, none⟩ = some (.int .i64 0) := by go_simp
    have q3 : (wc.alloc (.cells #[.int .i64 a, .int .i64 b, .int .i64 0, .int .i64 0, .int .i64 0, .int .i64 0] 39)).cell? ⟨wc.heap.size, 3, none⟩ = some (.int .i64 0) := by go_simp
    have q4 : (wc.alloc (.cells #[.int .i64 a, .int .i64 b, .int .i64 0, .int .i64 0, .int .i64 0, .int .i64 0] 39)).cell? ⟨wc.heap.size, 4, none⟩ = some (.int .i64 0) := by go_simp
    have q5 : (wc.alloc (.cells #[.int .i64 a, .int .i64 b, .int .i64 0, .int .i64 0, .int .i64 0, .int .i64 0] 39)).cell? ⟨wc.heap.size, 5, none⟩ = some (.int .i64 0) := by go_simp
    have hk : ∀ W W' : World, (fun w' => w'.cell? ⟨wc.heap.size, 0, none⟩ = some (.int .i64 a) ∧ w'.cell? ⟨wc.heap.size, 1, none⟩ = some (.int .i64 b) ∧ w'.cell? ⟨wc.heap.size, 2, none⟩ = some (.int .i64 0) ∧ w'.cell? ⟨wc.heap.size, 3, none⟩ = some (.int .i64 0) ∧ w'.cell? ⟨wc.heap.size, 4, none⟩ = some (.int .i64 0) ∧ w'.cell? ⟨wc.heap.size, 5, none⟩ = some (.int .i64 0) ∧ wc.heap.size < w'.heap.size) W → Below W.heap.size W W' → (fun w' => w'.cell? ⟨wc.heap.size, 0, none⟩ = some (.int .i64 a) ∧ w'.cell? ⟨wc.heap.size, 1, none⟩ = some (.int .i64 b) ∧ w'.cell? ⟨wc.heap.size, 2, none⟩ = some (.int .i64 0) ∧ w'.cell? ⟨wc.heap.size, 3, none⟩ = some (.int .i64 0) ∧ w'.cell? ⟨wc.heap.size, 4, none⟩ = some (.int .i64 0) ∧ w'.cell? ⟨wc.heap.size, 5, none⟩ = some (.int .i64 0) ∧ wc.heap.size < w'.heap.size) W' := by
      rintro W W' ⟨h0, h1, h2, h3, h4, h5, k3⟩ hb
      exact ⟨(hb.cell (p := ⟨wc.heap.size, 0, none⟩) (by show wc.heap.size < W.heap.size; omega)).trans h0, (hb.cell (p := ⟨wc.heap.size, 1, none⟩) (by show wc.heap.size < W.heap.size; omega)).trans h1, (hb.cell (p := ⟨wc.heap.size, 2, none⟩) (by show wc.heap.size < W.heap.size; omega)).trans h2, (hb.cell (p := ⟨wc.heap.size, 3, none⟩) (by show wc.heap.size < W.heap.size; omega)).trans h3, (hb.cell (p := ⟨wc.heap.size, 4, none⟩) (by show wc.heap.size < W.heap.size; omega)).trans h4, (hb.cell (p := ⟨wc.heap.size, 5, none⟩) (by show wc.heap.size < W.heap.size; omega)).trans h5, by have := hb.size; omega⟩
    have S3 : (fun w' => w'.cell? ⟨wc.heap.size, 0, none⟩ = some (.int .i64 a) ∧ w'.cell? ⟨wc.heap.size, 1, none⟩ = some (.int .i64 b) ∧ w'.cell? ⟨wc.heap.size, 2, none⟩ = some (.int .i64 0) ∧ w'.cell? ⟨wc.heap.size, 3, none⟩ = some (.int .i64 0) ∧ w'.cell? ⟨wc.heap.size, 4, none⟩ = some (.int .i64 0) ∧ w'.cell? ⟨wc.heap.size, 5, none⟩ = some (.int .i64 0) ∧ wc.heap.size < w'.heap.size) (wc.alloc (.cells #[.int .i64 a, .int .i64 b, .int .i64 0, .int .i64 0, .int .i64 0, .int .i64 0] 39)).drew := ⟨q0, q1, q2, q3, q4, q5, by simp⟩
    go_region_held3 (fun w' => w'.cell? ⟨wc.heap.size, 0, none⟩ = some (.int .i64 a) ∧ w'.cell? ⟨wc.heap.size, 1, none⟩ = some (.int .i64 b) ∧ w'.cell? ⟨wc.heap.size, 2, none⟩ = some (.int .i64 0) ∧ w'.cell? ⟨wc.heap.size, 3, none⟩ = some (.int .i64 0) ∧ w'.cell? ⟨wc.heap.size, 4, none⟩ = some (.int .i64 0) ∧ w'.cell? ⟨wc.heap.size, 5, none⟩ = some (.int .i64 0) ∧ wc.heap.size < w'.heap.size) (first | exact S3 | exact hk _ _ S3 hb4 | (refine ⟨?_, ?_, ?_, ?_, ?_, ?_, ?_⟩ <;> first | omega | (go_simp; done) | (simp <;> omega)) | (refine hk _ _ ?_ hb4; (refine ⟨?_, ?_, ?_, ?_, ?_, ?_, ?_⟩ <;> first | omega | (go_simp; done) | (simp <;> omega)))) (first | (go_at_call 27; with_reducible refine (HP1.out _).mono ?_; rintro e w4 ⟨rfl, hb4⟩; have z4 := hb4.size; (try simp at z4); (try (have c4t := bstep (b := wc.heap.size + 1) hb4 (by first | omega | (simp <;> omega)); have f4t := bfro (b := wc.heap.size + 1) hb4 (by first | omega | (simp <;> omega)); have y4t : wc.heap.size + 1 < w4.heap.size := (by omega)))))
    all_goals
      go_wp2
      go_meet
      exact ⟨rfl, ⟨_, rfl, by first | omega | (simp <;> omega), by go_simp, by go_simp, by go_simp, by go_simp⟩, by exact (by repeat (first | with_reducible assumption | with_reducible refine Below.drew ?_ | with_reducible refine below_drewN ?_ _ | with_reducible refine Below.alloc ?_ (by first | omega | (simp <;> omega)) _ | with_reducible refine Below.setCell ?_ (by first | omega | (simp <;> omega)) _ | with_reducible refine Below.trans ?_ (Below.mono hb4 (by first | omega | (simp <;> omega))) | with_reducible exact Below.refl _ _))⟩
  case rest =>
  obtain ⟨rfl, ⟨bx, rfl, ybx, e0, e1, e2, e3⟩, HB1⟩ := hcut
  have yn1 := HB1.size
  go_wp2_with (go_at_call 45; with_reducible refine (is_unknown _).mono ?_; rintro e w9 ⟨rfl, rfl⟩)
  have u2x12 := (HB1.cell (p := ⟨w1.heap.size, 12, none⟩) yc).trans u1x12
  have u2x13 := (HB1.cell (p := ⟨w1.heap.size, 13, none⟩) yc).trans u1x13
  have u2x14 := (HB1.cell (p := ⟨w1.heap.size, 14, none⟩) yc).trans u1x14
  have u2x15 := (HB1.cell (p := ⟨w1.heap.size, 15, none⟩) yc).trans u1x15
  have u2x16 := (HB1.cell (p := ⟨w1.heap.size, 16, none⟩) yc).trans u1x16
  have u2x17 := (HB1.cell (p := ⟨w1.heap.size, 17, none⟩) yc).trans u1x17
  have yc' : w1.heap.size < wc.heap.size := by omega
  have HBB := HB.trans (HB1.mono (by omega))
  clear yc e0 e1 e2 e3 ybx HB HB1 yn1
  have HB := HBB
  clear HBB
  have yc := yc'
  clear yc'
  rw [rounds_succ]
  go_upto_region 9 with fail
  go_cut [9, 10] (fun s9 s10 wx => s10 = .iface 96 (.int .i64 22) ∧ (∃ bx, s9 = .pointer (some ⟨bx, 0, none⟩) ∧ bx < wx.heap.size ∧ wx.cell? ⟨bx, 0, none⟩ = some (.int .i64 0) ∧ wx.cell? ⟨bx, 1, none⟩ = some (.int .i64 0) ∧ wx.cell? ⟨bx, 2, none⟩ = some (.int .i64 0) ∧ wx.cell? ⟨bx, 3, none⟩ = some (.int .i64 0)) ∧ Below wc.heap.size wc wx)
  case first =>
    have q0 : (wc.alloc (.cells #[.int .i64 a, .int .i64 b, .int .i64 0, .int .i64 per, .int .i64 0, .int .i64 per] 39)).cell? ⟨wc.heap.size, 0, none⟩ = some (.int .i64 a) := by go_simp
    have q1 : (wc.alloc (.cells #[.int .i64 a, .int .i64 b, .int .i64 0, .int .i64 per, .int .i64 0, .int .i64 per] 39)).cell? ⟨wc.heap.size, 1, none⟩ = some (.int .i64 b) := by go_simp
    have q2 : (wc.alloc (.cells #[.int .i64 a, .int .i64 b, .int .i64 0, .int .i64 per, .int .i64 0, .int .i64 per] 39)).cell? ⟨wc.heap.size, 2, none⟩ = some (.int .i64 0) := by go_simp
    have q3 : (wc.alloc (.cells #[.int .i64 a, .int .i64 b, .int .i64 0, .int .i64 per, .int .i64 0, .int .i64 per] 39)).cell? ⟨wc.heap.size, 3, none⟩ = some (.int .i64 per) := by go_simp
    have q4 : (wc.alloc (.cells #[.int .i64 a, .int .i64 b, .int .i64 0, .int .i64 per, .int .i64 0, .int .i64 per] 39)).cell? ⟨wc.heap.size, 4, none⟩ = some (.int .i64 0) := by go_simp
    have q5 : (wc.alloc (.cells #[.int .i64 a, .int .i64 b, .int .i64 0, .int .i64 per, .int .i64 0, .int .i64 per] 39)).cell? ⟨wc.heap.size, 5, none⟩ = some (.int .i64 per) := by go_simp
    have hk : ∀ W W' : World, (fun w' => w'.cell? ⟨wc.heap.size, 0, none⟩ = some (.int .i64 a) ∧ w'.cell? ⟨wc.heap.size, 1, none⟩ = some (.int .i64 b) ∧ w'.cell? ⟨wc.heap.size, 2, none⟩ = some (.int .i64 0) ∧ w'.cell? ⟨wc.heap.size, 3, none⟩ = some (.int .i64 per) ∧ w'.cell? ⟨wc.heap.size, 4, none⟩ = some (.int .i64 0) ∧ w'.cell? ⟨wc.heap.size, 5, none⟩ = some (.int .i64 per) ∧ wc.heap.size < w'.heap.size) W → Below W.heap.size W W' → (fun w' => w'.cell? ⟨wc.heap.size, 0, none⟩ = some (.int .i64 a) ∧ w'.cell? ⟨wc.heap.size, 1, none⟩ = some (.int .i64 b) ∧ w'.cell? ⟨wc.heap.size, 2, none⟩ = some (.int .i64 0) ∧ w'.cell? ⟨wc.heap.size, 3, none⟩ = some (.int .i64 per) ∧ w'.cell? ⟨wc.heap.size, 4, none⟩ = some (.int .i64 0) ∧ w'.cell? ⟨wc.heap.size, 5, none⟩ = some (.int .i64 per) ∧ wc.heap.size < w'.heap.size) W' := by
      rintro W W' ⟨h0, h1, h2, h3, h4, h5, k3⟩ hb
      exact ⟨(hb.cell (p := ⟨wc.heap.size, 0, none⟩) (by show wc.heap.size < W.heap.size; omega)).trans h0, (hb.cell (p := ⟨wc.heap.size, 1, none⟩) (by show wc.heap.size < W.heap.size; omega)).trans h1, (hb.cell (p := ⟨wc.heap.size, 2, none⟩) (by show wc.heap.size < W.heap.size; omega)).trans h2, (hb.cell (p := ⟨wc.heap.size, 3, none⟩) (by show wc.heap.size < W.heap.size; omega)).trans h3, (hb.cell (p := ⟨wc.heap.size, 4, none⟩) (by show wc.heap.size < W.heap.size; omega)).trans h4, (hb.cell (p := ⟨wc.heap.size, 5, none⟩) (by show wc.heap.size < W.heap.size; omega)).trans h5, by have := hb.size; omega⟩
    have S3 : (fun w' => w'.cell? ⟨wc.heap.size, 0, none⟩ = some (.int .i64 a) ∧ w'.cell? ⟨wc.heap.size, 1, none⟩ = some (.int .i64 b) ∧ w'.cell? ⟨wc.heap.size, 2, none⟩ = some (.int .i64 0) ∧ w'.cell? ⟨wc.heap.size, 3, none⟩ = some (.int .i64 per) ∧ w'.cell? ⟨wc.heap.size, 4, none⟩ = some (.int .i64 0) ∧ w'.cell? ⟨wc.heap.size, 5, none⟩ = some (.int .i64 per) ∧ wc.heap.size < w'.heap.size) (wc.alloc (.cells #[.int .i64 a, .int .i64 b, .int .i64 0, .int .i64 per, .int .i64 0, .int .i64 per] 39)).drew := ⟨q0, q1, q2, q3, q4, q5, by simp⟩
    go_region_held3 (fun w' => w'.cell? ⟨wc.heap.size, 0, none⟩ = some (.int .i64 a) ∧ w'.cell? ⟨wc.heap.size, 1, none⟩ = some (.int .i64 b) ∧ w'.cell? ⟨wc.heap.size, 2, none⟩ = some (.int .i64 0) ∧ w'.cell? ⟨wc.heap.size, 3, none⟩ = some (.int .i64 per) ∧ w'.cell? ⟨wc.heap.size, 4, none⟩ = some (.int .i64 0) ∧ w'.cell? ⟨wc.heap.size, 5, none⟩ = some (.int .i64 per) ∧ wc.heap.size < w'.heap.size) (first | exact S3 | exact hk _ _ S3 hb4 | (refine ⟨?_, ?_, ?_, ?_, ?_, ?_, ?_⟩ <;> first | omega | (go_simp; done) | (simp <;> omega)) | (refine hk _ _ ?_ hb4; (refine ⟨?_, ?_, ?_, ?_, ?_, ?_, ?_⟩ <;> first | omega | (go_simp; done) | (simp <;> omega)))) (first | (go_at_call 27; with_reducible refine (HP2.out _).mono ?_; rintro e w4 ⟨rfl, hb4⟩; have z4 := hb4.size; (try simp at z4); (try (have c4t := bstep (b := wc.heap.size + 1) hb4 (by first | omega | (simp <;> omega)); have f4t := bfro (b := wc.heap.size + 1) hb4 (by first | omega | (simp <;> omega)); have y4t : wc.heap.size + 1 < w4.heap.size := (by omega)))))
    all_goals
      go_wp2
      go_meet
      exact ⟨rfl, ⟨_, rfl, by first | omega | (simp <;> omega), by go_simp, by go_simp, by go_simp, by go_simp⟩, by exact (by repeat (first | with_reducible assumption | with_reducible refine Below.drew ?_ | with_reducible refine below_drewN ?_ _ | with_reducible refine Below.alloc ?_ (by first | omega | (simp <;> omega)) _ | with_reducible refine Below.setCell ?_ (by first | omega | (simp <;> omega)) _ | with_reducible refine Below.trans ?_ (Below.mono hb4 (by first | omega | (simp <;> omega))) | with_reducible exact Below.refl _ _))⟩
  case rest =>
  obtain ⟨rfl, ⟨bx, rfl, ybx, e0, e1, e2, e3⟩, HB2⟩ := hcut
  have yn2 := HB2.size
  go_wp2_with (go_at_call 45; with_reducible refine (is_unknown _).mono ?_; rintro e w9 ⟨rfl, rfl⟩)
  rw [rounds_succ]
  go_wp2
  go_ret
  exact ⟨rfl, HB.trans (HB2.mono (by omega))⟩

theorem shuntNone_walk (la lb per0 st : Int) (hs : 0 ≤ st ∧ st ≤ 255) (w : World) :
    Calls Try.prog 15 #[.agg #[.int .i64 la, .int .i64 lb], .int .i64 per0, .int .u8 st] w fun e w' => e = .returned (.bool true) ∧ Below w.heap.size w w' := by
  have hp := clip_in (n := per0) (lo := 64) (hi := 4096) (by decide)
  have hc0 := fun W => (clip_any per0 64 4096 W).mono (fun _ _ ⟨a, b⟩ => (⟨a, b.symm⟩ : _ ∧ _))
  generalize clip per0 64 4096 = per at hp hc0
  have ha := clip_in (n := la) (lo := 0) (hi := per) (by omega)
  have hc1 := fun W => (clip_any la 0 per W).mono (fun _ _ ⟨a, b⟩ => (⟨a, b.symm⟩ : _ ∧ _))
  generalize clip la 0 per = a at ha hc1
  have hb := clip_in (n := lb) (lo := a) (hi := per) ha.2
  have hc2 := fun W => (clip_any lb a per W).mono (fun _ _ ⟨a, b⟩ => (⟨a, b.symm⟩ : _ ∧ _))
  generalize clip lb a per = b at hb hc2
  have hq : 0 ≤ st % per ∧ st % per ≤ per := ⟨Int.emod_nonneg _ (by omega), Int.le_of_lt (Int.emod_lt_of_pos _ (by omega))⟩
  have hl : (⟨a, b⟩ : Lg).In per := ⟨ha.1, hb.1, hb.2⟩
  have hz : (⟨0, 0⟩ : Lg).In per := ⟨by decide, by decide, by show (0 : Int) ≤ per; omega⟩
  have hf : (⟨0, per⟩ : Lg).In per := ⟨by show (0 : Int) ≤ 0; omega, by show (0 : Int) ≤ per; omega, Int.le_refl _⟩
  have oz : ∀ t, (⟨0, 0⟩ : Lg).on t = false := fun t => on_f (by show ¬ ((0 : Int) ≤ t ∧ t < 0); omega)
  have of : ∀ t, 0 ≤ t → t < per → (⟨0, per⟩ : Lg).on t = true := fun t h1 h2 => on_t ⟨h1, h2⟩
  refine shuntNone_core la lb per0 st per a b hp.1 hp.2 hs hc0 hc1 hc2 ?_ ?_ ?_ w
  · exact none_of ⟨⟨a, b⟩, ⟨a, b⟩, ⟨a, b⟩⟩ per (st % per) hp ⟨hl, hl, hl⟩ hq (.inl fun t _ _ => by
      show ¬ cntOn ((⟨a, b⟩ : Lg).on t, (⟨a, b⟩ : Lg).on t, (⟨a, b⟩ : Lg).on t) = 1
      cases (⟨a, b⟩ : Lg).on t <;> decide)
  · exact none_of ⟨⟨a, b⟩, ⟨0, 0⟩, ⟨0, 0⟩⟩ per (st % per) hp ⟨hl, hz, hz⟩ hq (.inr fun t _ _ => by
      show ¬ cntOn ((⟨a, b⟩ : Lg).on t, (⟨0, 0⟩ : Lg).on t, (⟨0, 0⟩ : Lg).on t) = 2
      rw [oz]
      cases (⟨a, b⟩ : Lg).on t <;> decide)
  · exact none_of ⟨⟨a, b⟩, ⟨0, per⟩, ⟨0, per⟩⟩ per (st % per) hp ⟨hl, hf, hf⟩ hq (.inl fun t h1 h2 => by
      show ¬ cntOn ((⟨a, b⟩ : Lg).on t, (⟨0, per⟩ : Lg).on t, (⟨0, per⟩ : Lg).on t) = 1
      rw [of t h1 h2]
      cases (⟨a, b⟩ : Lg).on t <;> decide)

set_option maxRecDepth 100000 in
theorem shuntNone_lifted (os : Os) (started : os.Started) (H : Type) (enc : TypeId × Value → H) :
    ReturnsInHanded {} Try.checked os 15 .any (Rows.shuntNoneSpec.pre6 enc Try.prog Try.f15 Rows.shuntNoneRow.domain false) (Rows.shuntNoneSpec.post enc Try.prog Try.f15 false true false false) := by
  refine lift (C := Try.checked) (s := Rows.shuntNoneSpec) 4 Try.own started (by kernel_rfl) Try.func15 Try.laidOut rfl rfl Try.underlying4 (by kernel_rfl)
    (fun ds hds => by
      have hl : ds.length = 3 := hds
      match ds, hl with
      | [_, _, _], _ => rfl)
    (ChangeSpec.witness6 (enc := enc) (C := Try.checked) false ⟨#[], #[.agg #[.int .i64 0, .int .i64 0], .int .i64 0, .int .u8 0], []⟩ 8 (by kernel_rfl) (by kernel_rfl) (by kernel_rfl) (by kernel_rfl)) ?_
  intro W base args ds p hval0 hA0
  have hval : ∀ (j : Nat) t v, Try.f15.params[j]? = some t → args[j]? = some v → Value.okWide Try.prog W .any base t v := hval0
  have hA : DataW.TrodAll enc Try.prog W 0 (fun _ => true) true Try.f15.params.toList args.toList ds p := hA0
  clear hval0 hA0
  rw [Try.params15] at hA hval
  obtain ⟨v0, vs0, d0, ds0, p0, q0, hargs, rfl, rfl, h0, r0⟩ := trodAll_cons hA
  obtain ⟨v1, vs1, d1, ds1, p1, q1, rfl, rfl, rfl, h1, r1⟩ := trodAll_cons r0
  obtain ⟨v2, vs2, d2, ds2, p2, q2, rfl, rfl, rfl, h2, r2⟩ := trodAll_cons r1
  obtain ⟨rfl, rfl, rfl⟩ := trodAll_nil r2
  obtain rfl : args = #[v0, v1, v2] := by cases args; simp_all
  obtain ⟨l0, rfl, g0⟩ := arg_struct 4 Try.underlying38 (ks := [some .i64, some .i64]) (by kernel_rfl) (hval 0 38 v0 rfl rfl) h0
  obtain ⟨_, _, rfl, ⟨s0, rfl, ws0⟩, g0x0⟩ := g0
  obtain ⟨_, _, rfl, ⟨s1, rfl, ws1⟩, g0x1⟩ := g0x0
  simp only [Fits] at g0x1
  subst g0x1
  obtain ⟨x, rfl, wx⟩ := arg_int Try.underlying3 (hval 1 3 v1 rfl rfl) h1
  obtain ⟨y, rfl, wy⟩ := arg_int Try.underlying5 (hval 2 5 v2 rfl rfl) h2
  have hy : 0 ≤ y ∧ y ≤ 255 := by simpa [Lit.wf, IntKind.min, IntKind.max, IntKind.signed, IntKind.bits] using wy
  exact shuntNone_walk s0 s1 x y hy W

theorem j_lifts' (x : Bool) (h : x = Rows.patternMakesRow.lifted) : (x == Try.prog.liftsFinal) = true := by rw [h]; exact j_lifts
theorem j_make' (x) (h : x = Rows.patternMakesRow.make) : (Try.prog.make == some x) = true := by rw [h]; exact j_make
set_option maxHeartbeats 4000000 in
set_option maxRecDepth 100000 in
theorem shuntNone_joined : joinedFacts Try.prog 15 Try.f15 Rows.shuntNoneSpec Rows.shuntNoneRow = true := by
  unfold joinedFacts
  repeat' (with_reducible refine and_split ?_ ?_)
  all_goals first | (with_reducible exact j_may) | (with_reducible refine j_lifts' _ ?_; rfl) | (with_reducible refine j_make' _ ?_; rfl) | (as_aux_lemma => kernel_rfl)

theorem shuntNone_over : Rows.shuntNoneRow.holds Try.pinned (OpenSpec.ofChange Rows.shuntNoneSpec) :=
  OpenClaim.holds_of_wide 15 Try.f15 rfl rfl rfl rfl rfl rfl rfl ⟨rfl, rfl, rfl, rfl, rfl⟩ rfl rfl rfl rfl rfl (by kernel_rfl) Try.func15 shuntNone_joined
    (of_decide_eq_true (by kernel_rfl)) (by unfold Func.isWrapper; first | (rw [if_pos (by decide +kernel)]; kernel_rfl) | (rw [if_neg (by decide +kernel)]; exact ⟨rfl, rfl⟩))
    (fun os started H enc _ => shuntNone_lifted os started H enc)

theorem shuntNone_holds : Rows.ShuntNoneSaid := shuntNone_over
#print axioms shuntNone_holds
end Go.Proofs.Ytjeomdfcfbfebaa

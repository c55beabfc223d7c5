/- The walk of PatternBorders. No condition beyond those that a theorem names. -/
import Derived.Test.YtjeomdfcfbfebaaPatH
import Derived.Test.YtjeomdfcfbfebaaSpB
import Derived.Test.YtjeomdfcfbfebaaSlice
namespace Go.Proofs.Ytjeomdfcfbfebaa
open Go.RowKit PM Go.Deep

namespace PM
/-- Each position of a leg of Make's pattern lasts for no count or for least counts at least. -/
def okPos (n least : Int) : Prop := n = 0 ∨ least ≤ n
theorem mk_pos {c0 c1 c2 per least : Int} (h : okRng per least) (h0 : 0 ≤ c0 ∧ c0 ≤ per) (h1 : 0 ≤ c1 ∧ c1 ≤ per) (h2 : 0 ≤ c2 ∧ c2 ≤ per) {k : Nat} (hk : k < 3) :
    let l := (mk c0 c1 c2 per least).leg k; (0 ≤ l.a ∧ l.a ≤ l.b ∧ l.b ≤ per) ∧ okPos l.a least ∧ okPos (l.b - l.a) least ∧ okPos (per - l.b) least := by
  have key : ∀ d : Int, 0 ≤ d ∧ d ≤ per → (0 ≤ (pulse d per least).a ∧ (pulse d per least).a ≤ (pulse d per least).b ∧ (pulse d per least).b ≤ per) ∧ okPos (pulse d per least).a least ∧ okPos ((pulse d per least).b - (pulse d per least).a) least ∧ okPos (per - (pulse d per least).b) least := by
    intro d hd
    obtain ⟨⟨r1, r2⟩, r3, r4⟩ := h
    by_cases k1 : d < least
    · have e : pulse d per least = ⟨0, 0⟩ := by unfold pulse; rw [if_pos k1]
      rw [e]
      unfold okPos
      exact ⟨⟨by simp, by simp, by simp only; omega⟩, by simp, by simp, by simp only; omega⟩
    · by_cases k2 : per - 2 * least < d
      · have e : pulse d per least = ⟨0, per⟩ := by unfold pulse; rw [if_neg k1, if_pos k2]
        rw [e]
        unfold okPos
        exact ⟨⟨by simp, by simp only; omega, by simp⟩, by simp, by simp only; omega, by simp⟩
      · have e : pulse d per least = ⟨(per - d) / 2, (per - d) / 2 + d⟩ := by unfold pulse; rw [if_neg k1, if_neg k2]
        rw [e]
        unfold okPos
        exact ⟨⟨by simp only; omega, by simp only; omega, by simp only; omega⟩, by simp only; omega, by simp only; omega, by simp only; omega⟩
  obtain rfl | rfl | rfl : k = 0 ∨ k = 1 ∨ k = 2 := by omega
  · exact key c0 h0
  · exact key c1 h1
  · exact key c2 h2
end PM
/-- A list of counts in memory. -/
def Counts (w : World) (sb so len : Nat) (cs : Nat → Nat → Int) : Prop := ∀ i, i < len →
  w.cell? ⟨sb, so + i * 3, none⟩ = some (.int .i64 (cs i 0)) ∧ w.cell? ⟨sb, so + i * 3 + 1, none⟩ = some (.int .i64 (cs i 1)) ∧ w.cell? ⟨sb, so + i * 3 + 2, none⟩ = some (.int .i64 (cs i 2))
set_option maxHeartbeats 2000000 in
set_option maxRecDepth 100000 in
theorem borders_long (per0 least0 : Int) (a : Option Addr) (len cap : Nat) (hl : 20 < len) (w : World) :
    Calls Try.prog 5 #[.slice a len cap, .agg #[.int .i64 per0, .int .i64 least0]] w fun e w' => e = .returned (.bool true) ∧ Below w.heap.size w w' := by
  have hl' : (20 : Int) < (len : Int) := by omega
  go_enter Try.func5, Try.ntmps5
  go_wp2_with fail
  refine (awake_any _).mono ?_
  rintro e w1 ⟨rfl, hb1⟩
  have z1 := hb1.size
  go_wp2_with fail
  refine (awake_any _).mono ?_
  rintro e w2 ⟨rfl, hb2⟩
  go_wp2
  go_ret
  exact ⟨rfl, (((Below.refl _ _).alloc (Nat.le_refl _) _).trans (hb1.mono (by first | omega | (simp <;> omega)))).trans (hb2.mono (by first | omega | (simp at z1 <;> omega)))⟩

def psum (n0 n1 n2 : Int) (j : Nat) : Int := if j = 0 then 0 else if j = 1 then n0 else if j = 2 then n0 + n1 else n0 + n1 + n2
set_option maxHeartbeats 16000000 in
set_option maxRecDepth 100000 in
theorem borders_ok (per0 least0 per least : Int) (sb so len cap : Nat) (cs : Nat → Nat → Int) (hl : len ≤ 20) (hr : okRng per least)
    (hF : ∀ W : World, Calls Try.prog 33 #[.agg #[.int .i64 per0, .int .i64 least0]] W fun e w' => e = .returned (.agg #[.int .i64 per, .int .i64 least]) ∧ Below W.heap.size W w') (w : World) (hsb : sb < w.heap.size) (hcs : Counts w sb so len cs) :
    Calls Try.prog 5 #[.slice (some ⟨sb, so, none⟩) len cap, .agg #[.int .i64 per0, .int .i64 least0]] w fun e w' => e = .returned (.bool true) ∧ Below w.heap.size w w' := by
  have HF := hide hF
  have HCL := hide (fun d : Int => clip_any d 0 per)
  have HRR := hide hr
  have hCS := hide hcs
  obtain ⟨⟨p1, p2⟩, p3, p4⟩ := hr
  have hl' : ¬ (20 : Int) < (len : Int) := by omega
  clear hF hcs
  go_enter Try.func5, Try.ntmps5
  go_upto_region 4 with (first
    | (go_at_call 30; refine (awake_any _).mono ?_; rintro e w1 ⟨rfl, hb1⟩; have z1 := hb1.size; (try simp at z1); have c1x0 := bstep (b := w.heap.size) hb1 (by first | omega | (simp <;> omega)); have y1x0 : w.heap.size < w1.heap.size := (by omega); have f1x0 := bfro (b := w.heap.size) hb1 (by first | omega | (simp <;> omega)); have H1 : Below w.heap.size w w1 := Below.trans (by repeat (first | with_reducible assumption | with_reducible refine Below.drew ?_ | with_reducible refine below_drewN ?_ _ | with_reducible refine Below.alloc ?_ (by first | omega | (simp <;> omega)) _ | with_reducible refine Below.setCell ?_ (by first | omega | (simp <;> omega)) _ | with_reducible exact Below.refl _ _)) (hb1.mono (by first | omega | (simp <;> omega))))
    | (go_at_call 33; refine (HF.out _).mono ?_; rintro e w2 ⟨rfl, hb2⟩; have z2 := hb2.size; (try simp at z2); have c2x0 := bstep (b := w.heap.size) hb2 (by first | omega | (simp <;> omega)); have y2x0 : w.heap.size < w2.heap.size := (by omega); have f2x0 := bfro (b := w.heap.size) hb2 (by first | omega | (simp <;> omega)); have H2 : Below w.heap.size w w2 := Below.trans (by repeat (first | with_reducible assumption | with_reducible refine Below.drew ?_ | with_reducible refine below_drewN ?_ _ | with_reducible refine Below.alloc ?_ (by first | omega | (simp <;> omega)) _ | with_reducible refine Below.setCell ?_ (by first | omega | (simp <;> omega)) _ | with_reducible exact Below.refl _ _)) (hb2.mono (by first | omega | (simp <;> omega)))))
  have HB : Below w.heap.size w ((w2.setCell ⟨w.heap.size, 0, none⟩ (.int .i64 per)).setCell ⟨w.heap.size, 1, none⟩ (.int .i64 least)) := by exact (by repeat (first | with_reducible assumption | with_reducible refine Below.drew ?_ | with_reducible refine below_drewN ?_ _ | with_reducible refine Below.alloc ?_ (by first | omega | (simp <;> omega)) _ | with_reducible refine Below.setCell ?_ (by first | omega | (simp <;> omega)) _ | with_reducible exact Below.refl _ _))
  have f0 : ((w2.setCell ⟨w.heap.size, 0, none⟩ (.int .i64 per)).setCell ⟨w.heap.size, 1, none⟩ (.int .i64 least)).cell? ⟨w.heap.size, 0, none⟩ = some (.int .i64 per) := by go_simp
  have f1 : ((w2.setCell ⟨w.heap.size, 0, none⟩ (.int .i64 per)).setCell ⟨w.heap.size, 1, none⟩ (.int .i64 least)).cell? ⟨w.heap.size, 1, none⟩ = some (.int .i64 least) := by go_simp
  have yb : w.heap.size < ((w2.setCell ⟨w.heap.size, 0, none⟩ (.int .i64 per)).setCell ⟨w.heap.size, 1, none⟩ (.int .i64 least)).heap.size := by simp <;> omega
  generalize ((w2.setCell ⟨w.heap.size, 0, none⟩ (.int .i64 per)).setCell ⟨w.heap.size, 1, none⟩ (.int .i64 least)) = wb at HB f0 f1 yb ⊢
  have hCB := hide (fun i (hi : i < len) => (And.intro ((HB.cell (p := ⟨sb, so + i * 3, none⟩) hsb).trans (hCS.out i hi).1) (And.intro ((HB.cell (p := ⟨sb, so + i * 3 + 1, none⟩) hsb).trans (hCS.out i hi).2.1) ((HB.cell (p := ⟨sb, so + i * 3 + 2, none⟩) hsb).trans (hCS.out i hi).2.2))))
  have ysb : sb < wb.heap.size := by omega
  clear hCS hl' hb1 hb2 c1x0 c2x0 f1x0 f2x0 H1 H2
  go_wp2
  go_loopw [27] (fun i wr => ∃ k : Nat, k ≤ 3 ∧ i = .int .i64 (k : Int) ∧ Below wb.heap.size wb wr) (fun i _ => 3 - (intOf i).toNat)
  case atStart =>
    exact ⟨0, by omega, rfl, Below.refl _ _⟩
  case round =>
    rename World => wr
    obtain ⟨k, hk, rfl, HX⟩ := hrel
    by_cases hlt : k < 3
    · have i1 : (0 : Int) ≤ (k : Int) := by omega
      have i2 : (k : Int) < 3 := by omega
      go_wp2
      go_loopw [6, 7, 8, 32] (fun s6 s7 s8 s32 wx => ∃ (i0 : Nat) (runs lg : Int) (on : Bool), i0 ≤ len ∧ s32 = .int .i64 (i0 : Int) ∧ s6 = .int .i64 runs ∧ s7 = .bool on ∧ s8 = .int .i64 lg ∧ (0 ≤ runs ∧ runs ≤ 3 * (i0 : Int) ∧ 0 ≤ lg ∧ lg ≤ 4096 * (i0 : Int) ∧ (0 < runs → least ≤ lg)) ∧ Below wb.heap.size wb wx) (fun _ _ _ s32 _ => len - (intOf s32).toNat)
      case atStart =>
        exact ⟨0, 0, 0, false, by omega, rfl, rfl, rfl, rfl, by omega, HX⟩
      case round =>
        clear HX
        rename World => wx
        obtain ⟨i0, runs, lg, on, hi0, rfl, rfl, rfl, rfl, hinv, HX⟩ := hrel
        by_cases hil : i0 < len
        · obtain ⟨v1, v2, v3, v4, v5⟩ := hinv
          have hyx := HX.size
          obtain ⟨e0, e1, e2⟩ := hCB.out i0 hil
          replace e0 := (HX.cell (p := ⟨sb, so + i0 * 3, none⟩) ysb).trans e0
          replace e1 := (HX.cell (p := ⟨sb, so + i0 * 3 + 1, none⟩) ysb).trans e1
          replace e2 := (HX.cell (p := ⟨sb, so + i0 * 3 + 2, none⟩) ysb).trans e2
          generalize cs i0 0 = d0 at e0
          generalize cs i0 1 = d1 at e1
          generalize cs i0 2 = d2 at e2
          have g0 := (HX.cell (p := ⟨w.heap.size, 0, none⟩) yb).trans f0
          have g1 := (HX.cell (p := ⟨w.heap.size, 1, none⟩) yb).trans f1
          have yx0 : w.heap.size < wx.heap.size := by omega
          have yx1 : sb < wx.heap.size := by omega
          have q1 : (0 : Int) ≤ (i0 : Int) := by omega
          have q2 : (i0 : Int) < (len : Int) := by omega
          have v5' := hide v5
          clear v5
          have b0 := clip_in (n := d0) (lo := 0) (hi := per) (by omega)
          have b1 := clip_in (n := d1) (lo := 0) (hi := per) (by omega)
          have b2 := clip_in (n := d2) (lo := 0) (hi := per) (by omega)
          have HCL0 := hide (HCL.out d0)
          have HCL1 := hide (HCL.out d1)
          have HCL2 := hide (HCL.out d2)
          generalize clip d0 0 per = c0 at b0 HCL0
          generalize clip d1 0 per = c1 at b1 HCL1
          generalize clip d2 0 per = c2 at b2 HCL2
          have hmp := mk_pos HRR.out b0 b1 b2 hlt
          have hM := fun W => make_ok c0 c1 c2 per least HRR.out ⟨b0, b1, b2⟩ W
          obtain ⟨p, hp⟩ : ∃ p, p = mk c0 c1 c2 per least := ⟨_, rfl⟩
          have HMK : Hid (∀ W : World, Calls Try.prog 25 #[.agg #[.int .i64 c0, .int .i64 c1, .int .i64 c2], .int .i64 per, .int .i64 least] W fun e w' => e = .returned (.tuple #[.agg #[.int .i64 p.l0.a, .int .i64 p.l0.b, .int .i64 p.l1.a, .int .i64 p.l1.b, .int .i64 p.l2.a, .int .i64 p.l2.b], .nilIface]) ∧ Below W.heap.size W w') := hide (by rw [hp]; exact hM)
          rw [← hp] at hmp
          clear hM hp b0 b1 b2
          obtain ⟨⟨m1, m2, m3⟩, ok0, ok1, ok2⟩ := hmp
          go_wp2
          refine wp_loop_rounds 4 ?_
          rw [rounds_succ]
          go_wp2
          refine region_quiet_tail 8 (by kernel_rfl) (by kernel_rfl) ?_
          simp only [List.take_succ_cons, List.take_zero, List.drop_succ_cons, List.drop_zero]
          repeat (first | go_big_quiet_skip | (go_big_quiet_want; go_big_quiet_op; go_big_quiet_on))
          go_big_quiet_want
          go_big_quiet_op
          apply Exists.intro
          refine ⟨(HCL0.out _), ?_⟩
          go_big_quiet_on
          repeat (first | go_big_quiet_skip | (go_big_quiet_want; go_big_quiet_op; go_big_quiet_on))
          refine wpQuiet_nil ?_
          go_wp2
          rw [rounds_succ]
          go_wp2
          refine region_quiet_tail 8 (by kernel_rfl) (by kernel_rfl) ?_
          simp only [List.take_succ_cons, List.take_zero, List.drop_succ_cons, List.drop_zero]
          repeat (first | go_big_quiet_skip | (go_big_quiet_want; go_big_quiet_op; go_big_quiet_on))
          go_big_quiet_want
          go_big_quiet_op
          apply Exists.intro
          refine ⟨(HCL1.out _), ?_⟩
          go_big_quiet_on
          repeat (first | go_big_quiet_skip | (go_big_quiet_want; go_big_quiet_op; go_big_quiet_on))
          refine wpQuiet_nil ?_
          go_wp2
          rw [rounds_succ]
          go_wp2
          refine region_quiet_tail 8 (by kernel_rfl) (by kernel_rfl) ?_
          simp only [List.take_succ_cons, List.take_zero, List.drop_succ_cons, List.drop_zero]
          repeat (first | go_big_quiet_skip | (go_big_quiet_want; go_big_quiet_op; go_big_quiet_on))
          go_big_quiet_want
          go_big_quiet_op
          apply Exists.intro
          refine ⟨(HCL2.out _), ?_⟩
          go_big_quiet_on
          repeat (first | go_big_quiet_skip | (go_big_quiet_want; go_big_quiet_op; go_big_quiet_on))
          refine wpQuiet_nil ?_
          go_wp2
          rw [rounds_succ]
          go_upto_region 17 with (go_at_call 25; refine (HMK.out _).mono ?_; rintro e w4 ⟨rfl, hb4⟩; have z4 := hb4.size; (try simp at z4); have c4x0 := bstep (b := w.heap.size) hb4 (by first | omega | (simp <;> omega)); have y4x0 : w.heap.size < w4.heap.size := (by omega))
          have HB4 : Below wb.heap.size wb w4 := Below.trans (by repeat (first | with_reducible exact HX | with_reducible refine Below.drew ?_ | with_reducible refine below_drewN ?_ _ | with_reducible refine Below.alloc ?_ (by first | omega | (simp <;> omega)) _ | with_reducible refine Below.setCell ?_ (by first | omega | (simp <;> omega)) _)) (hb4.mono (by first | omega | (simp <;> omega)))
          have HB5 : Below wb.heap.size wb (w4.alloc (.cells #[.int .i64 p.l0.a, .int .i64 p.l0.b, .int .i64 p.l1.a, .int .i64 p.l1.b, .int .i64 p.l2.a, .int .i64 p.l2.b] 39)) := HB4.alloc (by have := HB4.size; omega) _
          have P0 : (w4.alloc (.cells #[.int .i64 p.l0.a, .int .i64 p.l0.b, .int .i64 p.l1.a, .int .i64 p.l1.b, .int .i64 p.l2.a, .int .i64 p.l2.b] 39)).cell? ⟨w4.heap.size, 0, none⟩ = some (.int .i64 p.l0.a) := by go_simp
          have P1 : (w4.alloc (.cells #[.int .i64 p.l0.a, .int .i64 p.l0.b, .int .i64 p.l1.a, .int .i64 p.l1.b, .int .i64 p.l2.a, .int .i64 p.l2.b] 39)).cell? ⟨w4.heap.size, 1, none⟩ = some (.int .i64 p.l0.b) := by go_simp
          have P2 : (w4.alloc (.cells #[.int .i64 p.l0.a, .int .i64 p.l0.b, .int .i64 p.l1.a, .int .i64 p.l1.b, .int .i64 p.l2.a, .int .i64 p.l2.b] 39)).cell? ⟨w4.heap.size, 2, none⟩ = some (.int .i64 p.l1.a) := by go_simp
          have P3 : (w4.alloc (.cells #[.int .i64 p.l0.a, .int .i64 p.l0.b, .int .i64 p.l1.a, .int .i64 p.l1.b, .int .i64 p.l2.a, .int .i64 p.l2.b] 39)).cell? ⟨w4.heap.size, 3, none⟩ = some (.int .i64 p.l1.b) := by go_simp
          have P4 : (w4.alloc (.cells #[.int .i64 p.l0.a, .int .i64 p.l0.b, .int .i64 p.l1.a, .int .i64 p.l1.b, .int .i64 p.l2.a, .int .i64 p.l2.b] 39)).cell? ⟨w4.heap.size, 4, none⟩ = some (.int .i64 p.l2.a) := by go_simp
          have P5 : (w4.alloc (.cells #[.int .i64 p.l0.a, .int .i64 p.l0.b, .int .i64 p.l1.a, .int .i64 p.l1.b, .int .i64 p.l2.a, .int .i64 p.l2.b] 39)).cell? ⟨w4.heap.size, 5, none⟩ = some (.int .i64 p.l2.b) := by go_simp
          have y5 : w4.heap.size < (w4.alloc (.cells #[.int .i64 p.l0.a, .int .i64 p.l0.b, .int .i64 p.l1.a, .int .i64 p.l1.b, .int .i64 p.l2.a, .int .i64 p.l2.b] 39)).heap.size := by simp
          generalize (w4.alloc (.cells #[.int .i64 p.l0.a, .int .i64 p.l0.b, .int .i64 p.l1.a, .int .i64 p.l1.b, .int .i64 p.l2.a, .int .i64 p.l2.b] 39)) = w5 at HB5 P0 P1 P2 P3 P4 P5 y5 ⊢
          have ra := legs_a (b := w4.heap.size) P0 P2 P4 k hlt
          have rb := legs_b (b := w4.heap.size) P1 P3 P5 k hlt
          have h0 := (HB5.cell (p := ⟨w.heap.size, 0, none⟩) yb).trans f0
          have yw5 : w.heap.size < w5.heap.size := by have := HB5.size; omega
          clear P0 P1 P2 P3 P4 P5 HCL0 HCL1 HCL2 HMK e0 e1 e2 g0 g1 hb4 c4x0
          generalize p.leg k = l at ra rb m1 m2 m3 ok0 ok1 ok2
          generalize w4.heap.size = b12 at ra rb y5 ⊢
          have nl1 : ¬ l.a < 0 := by omega
          have nl2 : ¬ per < l.b := by omega
          go_cut [74] (fun s wz => s = .bool false ∧ Below w5.heap.size w5 wz)
          case first =>
            go_quiet (fail)
            go_wp2
            go_meet
            exact ⟨rfl, by repeat (first | with_reducible exact Below.refl _ _ | with_reducible refine Below.drew ?_ | with_reducible refine below_drewN ?_ _)⟩
          case rest =>
          obtain ⟨rfl, H6⟩ := hcut
          rename World => w6
          replace ra := (H6.cell (p := ⟨b12, k * 2, none⟩) y5).trans ra
          replace rb := (H6.cell (p := ⟨b12, k * 2 + 1, none⟩) y5).trans rb
          replace h0 := (H6.cell (p := ⟨w.heap.size, 0, none⟩) yw5).trans h0
          have HB6 : Below wb.heap.size wb w6 := HB5.trans (H6.mono HB5.size)
          have yb6 : b12 < w6.heap.size := by have := H6.size; omega
          have yw6 : w.heap.size < w6.heap.size := by have := H6.size; omega
          clear H6 nl1 nl2
          obtain ⟨n0, hn0⟩ : ∃ n, n = l.a := ⟨_, rfl⟩
          obtain ⟨n1, hn1⟩ : ∃ n, n = l.b - l.a := ⟨_, rfl⟩
          obtain ⟨n2, hn2⟩ : ∃ n, n = per - l.b := ⟨_, rfl⟩
          have gn1 : IntKind.i64.wrap (l.b - l.a) = n1 := by rw [hn1]; exact IntWalk.i64_in _ (by omega)
          have gn2 : IntKind.i64.wrap (per - l.b) = n2 := by rw [hn2]; exact IntWalk.i64_in _ (by omega)
          rw [← hn0] at ok0 ra
          rw [← hn1] at ok1
          rw [← hn2] at ok2
          have hN := hide (show n0 + n1 + n2 = per ∧ 0 ≤ n0 ∧ 0 ≤ n1 ∧ 0 ≤ n2 by omega)
          rw [← hn0] at gn1
          clear hn0 hn1 hn2 m1 m2 m3
          go_upto_region 19 with fail
          go_cut [95, 96, 97] (fun s95 s96 s97 wz => s96 = .int .i64 3 ∧ s97 = .int .i64 0 ∧ (∃ b : Nat, s95 = .slice (some ⟨b, 0, none⟩) 3 3 ∧ b < wz.heap.size ∧ wz.cell? ⟨b, 0, none⟩ = some (.int .i64 n0) ∧ wz.cell? ⟨b, 1, none⟩ = some (.int .i64 n1) ∧ wz.cell? ⟨b, 2, none⟩ = some (.int .i64 n2)) ∧ Below w6.heap.size w6 wz)
          case first =>
            go_region
            all_goals
              go_wp2
              go_meet
              exact ⟨rfl, rfl, ⟨_, rfl, by first | omega | (simp <;> omega), by go_simp, by go_simp, by go_simp⟩, by repeat (first | with_reducible exact Below.refl _ _ | with_reducible refine Below.drew ?_ | with_reducible refine below_drewN ?_ _ | with_reducible refine Below.alloc ?_ (by first | omega | (simp <;> omega)) _)⟩
          case rest =>
          obtain ⟨rfl, rfl, ⟨b19, rfl, yb19, x0, x1, x2⟩, H7⟩ := hcut
          rename World => w7
          have HB7 : Below wb.heap.size wb w7 := HB6.trans (H7.mono HB6.size)
          have k1 := (HB7.cell (p := ⟨w.heap.size, 1, none⟩) yb).trans f1
          have yw7 : w.heap.size < w7.heap.size := by have := H7.size; omega
          obtain ⟨s1, s2, s3, s4⟩ := hN.out
          clear gn1 gn2 ra rb h0 H7 hN
          go_wp2
          go_loopw [6, 7, 8, 97] (fun s6 s7 s8 s97 wv => ∃ (j : Nat) (runs : Int) (on : Bool) (lg : Int), j ≤ 3 ∧ s97 = .int .i64 (j : Int) ∧ s6 = .int .i64 runs ∧ s7 = .bool on ∧ s8 = .int .i64 lg ∧ (0 ≤ runs ∧ runs ≤ 3 * (i0 : Int) + (j : Int) ∧ 0 ≤ lg ∧ lg ≤ 4096 * (i0 : Int) + psum n0 n1 n2 j ∧ (0 < runs → least ≤ lg)) ∧ Below w7.heap.size w7 wv) (fun _ _ _ s97 _ => 3 - (intOf s97).toNat)
          case atStart =>
            exact ⟨0, runs, on, lg, by omega, rfl, rfl, rfl, rfl, ⟨v1, by omega, v3, by have : psum n0 n1 n2 0 = 0 := rfl; omega, v5'.out⟩, Below.refl _ _⟩
          case round =>
            clear v1 v2 v3 v4 v5'
            rename World => wv
            obtain ⟨j, runs, on, lg, hj, rfl, rfl, rfl, rfl, ⟨v1, v2, v3, v4, v5⟩, HXX⟩ := hrel
            have yv := HXX.size
            have x0' := (HXX.cell (p := ⟨b19, 0, none⟩) yb19).trans x0
            have x1' := (HXX.cell (p := ⟨b19, 1, none⟩) yb19).trans x1
            have x2' := (HXX.cell (p := ⟨b19, 2, none⟩) yb19).trans x2
            have k1' := (HXX.cell (p := ⟨w.heap.size, 1, none⟩) yw7).trans k1
            have yv1 : b19 < wv.heap.size := by omega
            have yv2 : w.heap.size < wv.heap.size := by omega
            have ps0 : psum n0 n1 n2 0 = 0 := rfl
            have ps1 : psum n0 n1 n2 1 = n0 := rfl
            have ps2 : psum n0 n1 n2 2 = n0 + n1 := rfl
            have ps3 : psum n0 n1 n2 3 = n0 + n1 + n2 := rfl
            obtain rfl | rfl | rfl | rfl : j = 0 ∨ j = 1 ∨ j = 2 ∨ j = 3 := by omega
            · by_cases hz : n0 = 0
              · have hzb : (n0 == 0) = true := by simp [hz]
                go_wp2
                go_roundw
                case rel => exact ⟨1, runs, on, lg, by omega, by go_num, rfl, rfl, rfl, by omega, by exact (by repeat (first | with_reducible exact HXX | with_reducible refine Below.drew ?_ | with_reducible refine below_drewN ?_ _))⟩
                case measure => simp [intOf]
              · have hzb : (n0 == 0) = false := beq_eq_false_iff_ne.2 hz
                have hge : least ≤ n0 := by unfold okPos at ok0; omega
                have gl : IntKind.i64.wrap (lg + n0) = lg + n0 := IntWalk.i64_in _ (by omega)
                have gr : IntKind.i64.wrap (runs + 1) = runs + 1 := IntWalk.i64_in _ (by omega)
                cases on
                · go_wp2
                  go_roundw
                  case rel => exact ⟨1, runs, false, lg + n0, by omega, by go_num, rfl, rfl, rfl, by omega, by exact (by repeat (first | with_reducible exact HXX | with_reducible refine Below.drew ?_ | with_reducible refine below_drewN ?_ _))⟩
                  case measure => simp [intOf]
                · by_cases hr0 : 0 < runs
                  · have hlg : ¬ lg < least := by omega
                    go_wp2
                    go_roundw
                    case rel => exact ⟨1, runs + 1, false, n0, by omega, by go_num, rfl, rfl, rfl, by omega, by exact (by repeat (first | with_reducible exact HXX | with_reducible refine Below.drew ?_ | with_reducible refine below_drewN ?_ _))⟩
                    case measure => simp [intOf]
                  · go_wp2
                    go_roundw
                    case rel => exact ⟨1, runs + 1, false, n0, by omega, by go_num, rfl, rfl, rfl, by omega, by exact (by repeat (first | with_reducible exact HXX | with_reducible refine Below.drew ?_ | with_reducible refine below_drewN ?_ _))⟩
                    case measure => simp [intOf]
            · by_cases hz : n1 = 0
              · have hzb : (n1 == 0) = true := by simp [hz]
                go_wp2
                go_roundw
                case rel => exact ⟨2, runs, on, lg, by omega, by go_num, rfl, rfl, rfl, by omega, by exact (by repeat (first | with_reducible exact HXX | with_reducible refine Below.drew ?_ | with_reducible refine below_drewN ?_ _))⟩
                case measure => simp [intOf]
              · have hzb : (n1 == 0) = false := beq_eq_false_iff_ne.2 hz
                have hge : least ≤ n1 := by unfold okPos at ok1; omega
                have gl : IntKind.i64.wrap (lg + n1) = lg + n1 := IntWalk.i64_in _ (by omega)
                have gr : IntKind.i64.wrap (runs + 1) = runs + 1 := IntWalk.i64_in _ (by omega)
                cases on
                · by_cases hr0 : 0 < runs
                  · have hlg : ¬ lg < least := by omega
                    go_wp2
                    go_roundw
                    case rel => exact ⟨2, runs + 1, true, n1, by omega, by go_num, rfl, rfl, rfl, by omega, by exact (by repeat (first | with_reducible exact HXX | with_reducible refine Below.drew ?_ | with_reducible refine below_drewN ?_ _))⟩
                    case measure => simp [intOf]
                  · go_wp2
                    go_roundw
                    case rel => exact ⟨2, runs + 1, true, n1, by omega, by go_num, rfl, rfl, rfl, by omega, by exact (by repeat (first | with_reducible exact HXX | with_reducible refine Below.drew ?_ | with_reducible refine below_drewN ?_ _))⟩
                    case measure => simp [intOf]
                · go_wp2
                  go_roundw
                  case rel => exact ⟨2, runs, true, lg + n1, by omega, by go_num, rfl, rfl, rfl, by omega, by exact (by repeat (first | with_reducible exact HXX | with_reducible refine Below.drew ?_ | with_reducible refine below_drewN ?_ _))⟩
                  case measure => simp [intOf]
            · by_cases hz : n2 = 0
              · have hzb : (n2 == 0) = true := by simp [hz]
                go_wp2
                go_roundw
                case rel => exact ⟨3, runs, on, lg, by omega, by go_num, rfl, rfl, rfl, by omega, by exact (by repeat (first | with_reducible exact HXX | with_reducible refine Below.drew ?_ | with_reducible refine below_drewN ?_ _))⟩
                case measure => simp [intOf]
              · have hzb : (n2 == 0) = false := beq_eq_false_iff_ne.2 hz
                have hge : least ≤ n2 := by unfold okPos at ok2; omega
                have gl : IntKind.i64.wrap (lg + n2) = lg + n2 := IntWalk.i64_in _ (by omega)
                have gr : IntKind.i64.wrap (runs + 1) = runs + 1 := IntWalk.i64_in _ (by omega)
                cases on
                · go_wp2
                  go_roundw
                  case rel => exact ⟨3, runs, false, lg + n2, by omega, by go_num, rfl, rfl, rfl, by omega, by exact (by repeat (first | with_reducible exact HXX | with_reducible refine Below.drew ?_ | with_reducible refine below_drewN ?_ _))⟩
                  case measure => simp [intOf]
                · by_cases hr0 : 0 < runs
                  · have hlg : ¬ lg < least := by omega
                    go_wp2
                    go_roundw
                    case rel => exact ⟨3, runs + 1, false, n2, by omega, by go_num, rfl, rfl, rfl, by omega, by exact (by repeat (first | with_reducible exact HXX | with_reducible refine Below.drew ?_ | with_reducible refine below_drewN ?_ _))⟩
                    case measure => simp [intOf]
                  · go_wp2
                    go_roundw
                    case rel => exact ⟨3, runs + 1, false, n2, by omega, by go_num, rfl, rfl, rfl, by omega, by exact (by repeat (first | with_reducible exact HXX | with_reducible refine Below.drew ?_ | with_reducible refine below_drewN ?_ _))⟩
                    case measure => simp [intOf]
            · go_wp2
              go_roundw
              case rel => exact ⟨i0 + 1, runs, lg, on, by omega, by go_num, rfl, rfl, rfl, by omega, HB7.trans (HXX.mono HB7.size)⟩
              case measure => simp [intOf]; omega
        · go_wp2
          go_roundw
          case rel => exact ⟨k + 1, by omega, by go_num, HX⟩
          case measure => simp [intOf]; omega
    · go_wp2
      go_ret
      exact ⟨rfl, by exact (HB.trans (HX.mono (by omega)))⟩

set_option maxHeartbeats 4000000 in
set_option maxRecDepth 100000 in
theorem borders_nil (per0 least0 per least : Int) (a : Option Addr) (cap : Nat)
    (hF : ∀ W : World, Calls Try.prog 33 #[.agg #[.int .i64 per0, .int .i64 least0]] W fun e w' => e = .returned (.agg #[.int .i64 per, .int .i64 least]) ∧ Below W.heap.size W w') (w : World) :
    Calls Try.prog 5 #[.slice a 0 cap, .agg #[.int .i64 per0, .int .i64 least0]] w fun e w' => e = .returned (.bool true) ∧ Below w.heap.size w w' := by
  have HF := hide hF
  clear hF
  go_enter Try.func5, Try.ntmps5
  go_upto_region 4 with (first
    | (go_at_call 30; refine (awake_any _).mono ?_; rintro e w1 ⟨rfl, hb1⟩; have z1 := hb1.size; (try simp at z1); have c1x0 := bstep (b := w.heap.size) hb1 (by first | omega | (simp <;> omega)); have y1x0 : w.heap.size < w1.heap.size := (by omega); have f1x0 := bfro (b := w.heap.size) hb1 (by first | omega | (simp <;> omega)); have H1 : Below w.heap.size w w1 := Below.trans (by repeat (first | with_reducible assumption | with_reducible refine Below.drew ?_ | with_reducible refine below_drewN ?_ _ | with_reducible refine Below.alloc ?_ (by first | omega | (simp <;> omega)) _ | with_reducible refine Below.setCell ?_ (by first | omega | (simp <;> omega)) _ | with_reducible exact Below.refl _ _)) (hb1.mono (by first | omega | (simp <;> omega))))
    | (go_at_call 33; refine (HF.out _).mono ?_; rintro e w2 ⟨rfl, hb2⟩; have z2 := hb2.size; (try simp at z2); have c2x0 := bstep (b := w.heap.size) hb2 (by first | omega | (simp <;> omega)); have y2x0 : w.heap.size < w2.heap.size := (by omega); have f2x0 := bfro (b := w.heap.size) hb2 (by first | omega | (simp <;> omega)); have H2 : Below w.heap.size w w2 := Below.trans (by repeat (first | with_reducible assumption | with_reducible refine Below.drew ?_ | with_reducible refine below_drewN ?_ _ | with_reducible refine Below.alloc ?_ (by first | omega | (simp <;> omega)) _ | with_reducible refine Below.setCell ?_ (by first | omega | (simp <;> omega)) _ | with_reducible exact Below.refl _ _)) (hb2.mono (by first | omega | (simp <;> omega)))))
  have HB : Below w.heap.size w ((w2.setCell ⟨w.heap.size, 0, none⟩ (.int .i64 per)).setCell ⟨w.heap.size, 1, none⟩ (.int .i64 least)) := by exact (by repeat (first | with_reducible assumption | with_reducible refine Below.drew ?_ | with_reducible refine below_drewN ?_ _ | with_reducible refine Below.alloc ?_ (by first | omega | (simp <;> omega)) _ | with_reducible refine Below.setCell ?_ (by first | omega | (simp <;> omega)) _ | with_reducible exact Below.refl _ _))
  generalize ((w2.setCell ⟨w.heap.size, 0, none⟩ (.int .i64 per)).setCell ⟨w.heap.size, 1, none⟩ (.int .i64 least)) = wb at HB ⊢
  go_wp2
  refine wp_loop_rounds 4 ?_
  rw [rounds_succ]
  go_wp2
  refine wp_loop_rounds 1 ?_
  rw [rounds_succ]
  go_wp2
  rw [rounds_succ]
  go_wp2
  refine wp_loop_rounds 1 ?_
  rw [rounds_succ]
  go_wp2
  rw [rounds_succ]
  go_wp2
  refine wp_loop_rounds 1 ?_
  rw [rounds_succ]
  go_wp2
  rw [rounds_succ]
  go_wp2
  go_ret
  exact ⟨rfl, HB⟩
theorem counts_of {w : World} {a : Addr} {len : Nat} {f : Nat → List Value} (hp : 0 < len)
    (h : ∀ i, i < len → Flat.Fits [some .i64, some .i64, some .i64] (f i) ∧ ∀ (j : Nat) (x : Value), (f i)[j]? = some x → w.cell? (a.add (i * 3 + j)) = some x) :
    ∃ sb so cs, a = ⟨sb, so, none⟩ ∧ sb < w.heap.size ∧ Counts w sb so len cs := by
  have key : ∀ i, i < len → ∃ p : Int × Int × Int, f i = [.int .i64 p.1, .int .i64 p.2.1, .int .i64 p.2.2] := by
    intro i hi
    obtain ⟨hf, _⟩ := h i hi
    generalize f i = l at hf
    obtain ⟨_, _, rfl, ⟨n, rfl, wn⟩, hf⟩ := hf
    obtain ⟨_, _, rfl, ⟨x, rfl, wx⟩, hf⟩ := hf
    obtain ⟨_, _, rfl, ⟨y, rfl, wy⟩, hf⟩ := hf
    simp only [Flat.Fits] at hf
    subst hf
    exact ⟨(n, x, y), rfl⟩
  obtain ⟨p, hp'⟩ := Go.Deep.choose_lt key
  have h0 : w.cell? (a.add (0 * 3 + 0)) = some (.int .i64 (p 0).1) := (h 0 hp).2 0 _ (by rw [hp' 0 hp]; rfl)
  simp only [Nat.zero_mul, Nat.add_zero, Addr.add, if_true] at h0
  have hs := World.cell?_spot h0
  obtain ⟨sb, so, spot⟩ := a
  simp only at hs
  subst hs
  refine ⟨sb, so, fun i j => if j = 0 then (p i).1 else if j = 1 then (p i).2.1 else (p i).2.2, rfl, World.block_lt_of_cell? _ _ h0, fun i hi => ?_⟩
  have hc := (h i hi).2
  rw [hp' i hi] at hc
  have e : ∀ k, (⟨sb, so, none⟩ : Addr).add k = ⟨sb, so + k, none⟩ := by
    intro k
    unfold Addr.add
    split
    · rename_i hk
      rw [hk]
      rfl
    · rfl
  refine ⟨?_, ?_, ?_⟩
  · simpa [e, Nat.add_assoc] using hc 0 _ rfl
  · simpa [e, Nat.add_assoc] using hc 1 _ rfl
  · simpa [e, Nat.add_assoc] using hc 2 _ rfl
theorem borders_walk (per0 least0 : Int) (a : Option Addr) (len cap : Nat) (w : World) (hs : len = 0 ∨ ∃ sb so cs, a = some ⟨sb, so, none⟩ ∧ sb < w.heap.size ∧ Counts w sb so len cs) :
    Calls Try.prog 5 #[.slice a len cap, .agg #[.int .i64 per0, .int .i64 least0]] w fun e w' => e = .returned (.bool true) ∧ Below w.heap.size w w' := by
  by_cases hl : len ≤ 20
  · rcases hs with rfl | ⟨sb, so, cs, rfl, hsb, hcs⟩
    · exact borders_nil per0 least0 _ _ a cap (fit_any per0 least0) w
    · exact borders_ok per0 least0 _ _ sb so len cap cs hl (fit_ok per0 least0) (fit_any per0 least0) w hsb hcs
  · exact borders_long per0 least0 a len cap (by omega) w
end Go.Proofs.Ytjeomdfcfbfebaa

/- PatternWindows holds: after Spread pulses have their lengths, the pattern is accepted, and a part with one leg on and one with two last for need counts at least. No condition. -/
import Derived.Test.YtjeomdfcfbfebaaRows
import Derived.Test.YtjeomdfcfbfebaaFlat
import Derived.Test.YtjeomdfcfbfebaaPatH
import Derived.Test.YtjeomdfcfbfebaaPatJ
import Derived.Test.YtjeomdfcfbfebaaSpE
import Derived.Test.YtjeomdfcfbfebaaSpF
import Derived.Test.YtjeomdfcfbfebaaShA
namespace Go.Proofs.Ytjeomdfcfbfebaa
open Go.RowKit PM Flat Go.ChangeShapes

namespace PM
def F4 (L0 L1 L2 L3 c : Int) : Int := if c = 0 then L0 else if c = 1 then L1 else if c = 2 then L2 else L3
/-- Every part before number k is at most as long as what is written for its count. -/
def Cov (L : List Prt) (k : Nat) (L0 L1 L2 L3 : Int) : Prop := ∀ (j : Nat) x, j < k → L[j]? = some x → x.b - x.a ≤ F4 L0 L1 L2 L3 (cntOn x.n)
theorem Cov.more {L : List Prt} {k : Nat} {x : Prt} {L0 L1 L2 L3 M0 M1 M2 M3 : Int} (h : Cov L k L0 L1 L2 L3) (hx : L[k]? = some x) (h0 : L0 ≤ M0) (h1 : L1 ≤ M1) (h2 : L2 ≤ M2) (h3 : L3 ≤ M3) (hk : x.b - x.a ≤ F4 M0 M1 M2 M3 (cntOn x.n)) : Cov L (k + 1) M0 M1 M2 M3 := by
  intro j y hj hy
  by_cases e : j < k
  · have := h j y e hy
    unfold F4 at this ⊢
    repeat' split at this
    all_goals simp_all <;> omega
  · have : j = k := by omega
    subst this
    rw [hx] at hy
    cases hy
    exact hk
theorem Cov.at {L : List Prt} {L0 L1 L2 L3 : Int} (h : Cov L L.length L0 L1 L2 L3) {x : Prt} (hx : x ∈ L) : x.b - x.a ≤ F4 L0 L1 L2 L3 (cntOn x.n) := by
  obtain ⟨i, hi, rfl⟩ := List.getElem_of_mem hx
  exact h i _ hi (List.getElem?_eq_getElem hi)
theorem cnt_nat (n : B3) : cntOn n = 0 ∨ cntOn n = 1 ∨ cntOn n = 2 ∨ cntOn n = 3 := by
  obtain ⟨a, b, c⟩ := n
  cases a <;> cases b <;> cases c <;> decide
end PM
set_option maxHeartbeats 8000000 in
set_option maxRecDepth 100000 in
theorem patternWindows_no (d0 d1 d2 per0 least0 nd per least c0 c1 c2 need : Int) (p : Pt) (hr : okRng per least)
    (hF : ∀ W : World, Calls Try.prog 33 #[.agg #[.int .i64 per0, .int .i64 least0]] W fun e w' => e = .returned (.agg #[.int .i64 per, .int .i64 least]) ∧ Below W.heap.size W w')
    (hc0 : ∀ W : World, Calls Try.prog 22 #[.int .i64 d0, .int .i64 0, .int .i64 per] W fun e w' => e = .returned (.int .i64 c0) ∧ w' = W)
    (hc1 : ∀ W : World, Calls Try.prog 22 #[.int .i64 d1, .int .i64 0, .int .i64 per] W fun e w' => e = .returned (.int .i64 c1) ∧ w' = W)
    (hc2 : ∀ W : World, Calls Try.prog 22 #[.int .i64 d2, .int .i64 0, .int .i64 per] W fun e w' => e = .returned (.int .i64 c2) ∧ w' = W)
    (hN : ∀ W : World, Calls Try.prog 22 #[.int .i64 nd, .int .i64 0, .int .i64 per] W fun e w' => e = .returned (.int .i64 need) ∧ W = w')
    (hM : ∀ W : World, Calls Try.prog 25 #[.agg #[.int .i64 c0, .int .i64 c1, .int .i64 c2], .int .i64 per, .int .i64 least] W fun e w' => e = .returned (.tuple #[.agg #[.int .i64 p.l0.a, .int .i64 p.l0.b, .int .i64 p.l1.a, .int .i64 p.l1.b, .int .i64 p.l2.a, .int .i64 p.l2.b], .nilIface]) ∧ Below W.heap.size W w')
    (hSp : ∀ W : World, Calls Try.prog 26 #[.agg #[.int .i64 p.l0.a, .int .i64 p.l0.b, .int .i64 p.l1.a, .int .i64 p.l1.b, .int .i64 p.l2.a, .int .i64 p.l2.b], .int .i64 per, .int .i64 least, .int .i64 need] W fun e w' => e = .returned (.tuple #[.agg #[.int .i64 p.l0.a, .int .i64 p.l0.b, .int .i64 p.l1.a, .int .i64 p.l1.b, .int .i64 p.l2.a, .int .i64 p.l2.b], .bool false, .nilIface]) ∧ Below W.heap.size W w')
    (w : World) :
    Calls Try.prog 17 #[.agg #[.int .i64 d0, .int .i64 d1, .int .i64 d2], .agg #[.int .i64 per0, .int .i64 least0], .int .i64 nd] w fun e w' => e = .returned (.bool true) ∧ Below w.heap.size w w' := by
  have HF := hide hF
  have HCL0 := hide hc0
  have HCL1 := hide hc1
  have HCL2 := hide hc2
  have HN := hide hN
  have HMK := hide hM
  have HSP := hide hSp
  obtain ⟨⟨p1, p2⟩, p3, p4⟩ := hr
  clear hF hc0 hc1 hc2 hN hM hSp
  go_enter Try.func17, Try.ntmps17
  go_wp2_with (first
    | (go_at_call 30; refine (awake_any _).mono ?_; rintro e w1 ⟨rfl, hb1⟩; have z1 := hb1.size; (try simp at z1); have c1x0 := bstep (b := w.heap.size) hb1 (by first | omega | (simp <;> omega)); have y1x0 : w.heap.size < w1.heap.size := (by omega); have c1x1 := bstep (b := w.heap.size + 1) hb1 (by first | omega | (simp <;> omega)); have y1x1 : w.heap.size + 1 < w1.heap.size := (by omega); have f1x0 := bfro (b := w.heap.size) hb1 (by first | omega | (simp <;> omega)); have f1x1 := bfro (b := w.heap.size + 1) hb1 (by first | omega | (simp <;> omega)); have H1 : Below w.heap.size w w1 := Below.trans (by repeat (first | with_reducible assumption | with_reducible refine Below.drew ?_ | with_reducible refine below_drewN ?_ _ | with_reducible refine Below.alloc ?_ (by first | omega | (simp <;> omega)) _ | with_reducible refine Below.setCell ?_ (by first | omega | (simp <;> omega)) _ | with_reducible exact Below.refl _ _)) (hb1.mono (by first | omega | (simp <;> omega))))
    | (go_at_call 33; refine (HF.out _).mono ?_; rintro e w2 ⟨rfl, hb2⟩; have z2 := hb2.size; (try simp at z2); have c2x0 := bstep (b := w.heap.size) hb2 (by first | omega | (simp <;> omega)); have y2x0 : w.heap.size < w2.heap.size := (by omega); have c2x1 := bstep (b := w.heap.size + 1) hb2 (by first | omega | (simp <;> omega)); have y2x1 : w.heap.size + 1 < w2.heap.size := (by omega); have f2x0 := bfro (b := w.heap.size) hb2 (by first | omega | (simp <;> omega)); have f2x1 := bfro (b := w.heap.size + 1) hb2 (by first | omega | (simp <;> omega)); have H2 : Below w.heap.size w w2 := Below.trans (by repeat (first | with_reducible assumption | with_reducible refine Below.drew ?_ | with_reducible refine below_drewN ?_ _ | with_reducible refine Below.alloc ?_ (by first | omega | (simp <;> omega)) _ | with_reducible refine Below.setCell ?_ (by first | omega | (simp <;> omega)) _ | with_reducible exact Below.refl _ _)) (hb2.mono (by first | omega | (simp <;> omega)))))
  refine wp_loop_rounds 4 ?_
  rw [rounds_succ]
  go_wp2
  refine region_quiet_tail 8 (by kernel_rfl) (by kernel_rfl) ?_
  simp only [List.take_succ_cons, List.take_zero, List.drop_succ_cons, List.drop_zero]
  repeat (first | go_big_quiet_skip | (go_big_quiet_want; go_big_quiet_op; go_big_quiet_on))
  go_big_quiet_want
  go_big_quiet_op
  apply Exists.intro
  refine ⟨(HCL0.out _), ?_⟩
  go_big_quiet_on
  repeat (first | go_big_quiet_skip | (go_big_quiet_want; go_big_quiet_op; go_big_quiet_on))
  refine wpQuiet_nil ?_
  go_wp2
  rw [rounds_succ]
  go_wp2
  refine region_quiet_tail 8 (by kernel_rfl) (by kernel_rfl) ?_
  simp only [List.take_succ_cons, List.take_zero, List.drop_succ_cons, List.drop_zero]
  repeat (first | go_big_quiet_skip | (go_big_quiet_want; go_big_quiet_op; go_big_quiet_on))
  go_big_quiet_want
  go_big_quiet_op
  apply Exists.intro
  refine ⟨(HCL1.out _), ?_⟩
  go_big_quiet_on
  repeat (first | go_big_quiet_skip | (go_big_quiet_want; go_big_quiet_op; go_big_quiet_on))
  refine wpQuiet_nil ?_
  go_wp2
  rw [rounds_succ]
  go_wp2
  refine region_quiet_tail 8 (by kernel_rfl) (by kernel_rfl) ?_
  simp only [List.take_succ_cons, List.take_zero, List.drop_succ_cons, List.drop_zero]
  repeat (first | go_big_quiet_skip | (go_big_quiet_want; go_big_quiet_op; go_big_quiet_on))
  go_big_quiet_want
  go_big_quiet_op
  apply Exists.intro
  refine ⟨(HCL2.out _), ?_⟩
  go_big_quiet_on
  repeat (first | go_big_quiet_skip | (go_big_quiet_want; go_big_quiet_op; go_big_quiet_on))
  refine wpQuiet_nil ?_
  go_wp2
  rw [rounds_succ]
  go_wp2_with (first
    | (go_at_call 25; refine (HMK.out _).mono ?_; rintro e w4 ⟨rfl, hb4⟩; have z4 := hb4.size; (try simp at z4); have c4x0 := bstep (b := w.heap.size) hb4 (by first | omega | (simp <;> omega)); have y4x0 : w.heap.size < w4.heap.size := (by omega); have c4x1 := bstep (b := w.heap.size + 1) hb4 (by first | omega | (simp <;> omega)); have y4x1 : w.heap.size + 1 < w4.heap.size := (by omega); have H4 : Below w.heap.size w w4 := Below.trans (by repeat (first | with_reducible assumption | with_reducible refine Below.drew ?_ | with_reducible refine below_drewN ?_ _ | with_reducible refine Below.alloc ?_ (by first | omega | (simp <;> omega)) _ | with_reducible refine Below.setCell ?_ (by first | omega | (simp <;> omega)) _ | with_reducible exact Below.refl _ _)) (hb4.mono (by first | omega | (simp <;> omega))))
    | (go_at_call 26; refine (HSP.out _).mono ?_; rintro e w5 ⟨rfl, hb5⟩; have z5 := hb5.size; (try simp at z5); have c5x0 := bstep (b := w.heap.size) hb5 (by first | omega | (simp <;> omega)); have y5x0 : w.heap.size < w5.heap.size := (by omega); have c5x1 := bstep (b := w.heap.size + 1) hb5 (by first | omega | (simp <;> omega)); have y5x1 : w.heap.size + 1 < w5.heap.size := (by omega); have c5x2 := bstep (b := w4.heap.size) hb5 (by first | omega | (simp <;> omega)); have y5x2 : w4.heap.size < w5.heap.size := (by omega); have H5 : Below w.heap.size w w5 := Below.trans (by repeat (first | with_reducible assumption | with_reducible refine Below.drew ?_ | with_reducible refine below_drewN ?_ _ | with_reducible refine Below.alloc ?_ (by first | omega | (simp <;> omega)) _ | with_reducible refine Below.setCell ?_ (by first | omega | (simp <;> omega)) _ | with_reducible exact Below.refl _ _)) (hb5.mono (by first | omega | (simp <;> omega))))
    | (go_at_call 22; with_reducible refine (HN.out _).mono ?_; rintro e w8 ⟨rfl, rfl⟩))
  go_ret
  exact ⟨by simp, by exact (by repeat (first | with_reducible assumption | with_reducible refine Below.drew ?_ | with_reducible refine below_drewN ?_ _ | with_reducible refine Below.alloc ?_ (by first | omega | (simp <;> omega)) _ | with_reducible refine Below.setCell ?_ (by first | omega | (simp <;> omega)) _ | with_reducible exact Below.refl _ _))⟩

set_option maxHeartbeats 16000000 in
set_option maxRecDepth 100000 in
theorem patternWindows_yes (d0 d1 d2 per0 least0 nd per least c0 c1 c2 need : Int) (p q : Pt) (hr : okRng per least)
    (hF : ∀ W : World, Calls Try.prog 33 #[.agg #[.int .i64 per0, .int .i64 least0]] W fun e w' => e = .returned (.agg #[.int .i64 per, .int .i64 least]) ∧ Below W.heap.size W w')
    (hc0 : ∀ W : World, Calls Try.prog 22 #[.int .i64 d0, .int .i64 0, .int .i64 per] W fun e w' => e = .returned (.int .i64 c0) ∧ w' = W)
    (hc1 : ∀ W : World, Calls Try.prog 22 #[.int .i64 d1, .int .i64 0, .int .i64 per] W fun e w' => e = .returned (.int .i64 c1) ∧ w' = W)
    (hc2 : ∀ W : World, Calls Try.prog 22 #[.int .i64 d2, .int .i64 0, .int .i64 per] W fun e w' => e = .returned (.int .i64 c2) ∧ w' = W)
    (hN : ∀ W : World, Calls Try.prog 22 #[.int .i64 nd, .int .i64 0, .int .i64 per] W fun e w' => e = .returned (.int .i64 need) ∧ W = w')
    (hM : ∀ W : World, Calls Try.prog 25 #[.agg #[.int .i64 c0, .int .i64 c1, .int .i64 c2], .int .i64 per, .int .i64 least] W fun e w' => e = .returned (.tuple #[.agg #[.int .i64 p.l0.a, .int .i64 p.l0.b, .int .i64 p.l1.a, .int .i64 p.l1.b, .int .i64 p.l2.a, .int .i64 p.l2.b], .nilIface]) ∧ Below W.heap.size W w')
    (hSp : ∀ W : World, Calls Try.prog 26 #[.agg #[.int .i64 p.l0.a, .int .i64 p.l0.b, .int .i64 p.l1.a, .int .i64 p.l1.b, .int .i64 p.l2.a, .int .i64 p.l2.b], .int .i64 per, .int .i64 least, .int .i64 need] W fun e w' => e = .returned (.tuple #[.agg #[.int .i64 q.l0.a, .int .i64 q.l0.b, .int .i64 q.l1.a, .int .i64 q.l1.b, .int .i64 q.l2.a, .int .i64 q.l2.b], .bool true, .nilIface]) ∧ Below W.heap.size W w')
    (hIn : q.In per) (hCk : ∀ W : World, Calls Try.prog 36 #[.agg #[.int .i64 q.l0.a, .int .i64 q.l0.b, .int .i64 q.l1.a, .int .i64 q.l1.b, .int .i64 q.l2.a, .int .i64 q.l2.b], .int .i64 per, .int .i64 least] W fun e w' => e = .returned (.nilIface) ∧ Below W.heap.size W w')
    (hpin : p.In per) (hlen : ∀ k, (q.leg k).b - (q.leg k).a = (p.leg k).b - (p.leg k).a)
    (hgood : ∀ R : List Prt, Segs q.on per R → ¬ need = 0 → ∃ a ∈ R, ∃ b ∈ R, cntOn a.n = 1 ∧ cntOn b.n = 2 ∧ need ≤ a.b - a.a ∧ need ≤ b.b - b.a) (w : World) :
    Calls Try.prog 17 #[.agg #[.int .i64 d0, .int .i64 d1, .int .i64 d2], .agg #[.int .i64 per0, .int .i64 least0], .int .i64 nd] w fun e w' => e = .returned (.bool true) ∧ Below w.heap.size w w' := by
  have HPA := hide (parts_ok q per hr.1 hIn)
  have HCK := hide hCk
  have HL := hide hlen
  have HG := hide hgood
  have hin := hide hIn
  have hpi := hide hpin
  clear hIn hCk hpin hlen hgood
  have HF := hide hF
  have HCL0 := hide hc0
  have HCL1 := hide hc1
  have HCL2 := hide hc2
  have HN := hide hN
  have HMK := hide hM
  have HSP := hide hSp
  obtain ⟨⟨p1, p2⟩, p3, p4⟩ := hr
  clear hF hc0 hc1 hc2 hN hM hSp
  go_enter Try.func17, Try.ntmps17
  go_wp2_with (first
    | (go_at_call 30; refine (awake_any _).mono ?_; rintro e w1 ⟨rfl, hb1⟩; have z1 := hb1.size; (try simp at z1); have c1x0 := bstep (b := w.heap.size) hb1 (by first | omega | (simp <;> omega)); have y1x0 : w.heap.size < w1.heap.size := (by omega); have c1x1 := bstep (b := w.heap.size + 1) hb1 (by first | omega | (simp <;> omega)); have y1x1 : w.heap.size + 1 < w1.heap.size := (by omega); have f1x0 := bfro (b := w.heap.size) hb1 (by first | omega | (simp <;> omega)); have f1x1 := bfro (b := w.heap.size + 1) hb1 (by first | omega | (simp <;> omega)); have H1 : Below w.heap.size w w1 := Below.trans (by repeat (first | with_reducible assumption | with_reducible refine Below.drew ?_ | with_reducible refine below_drewN ?_ _ | with_reducible refine Below.alloc ?_ (by first | omega | (simp <;> omega)) _ | with_reducible refine Below.setCell ?_ (by first | omega | (simp <;> omega)) _ | with_reducible exact Below.refl _ _)) (hb1.mono (by first | omega | (simp <;> omega))))
    | (go_at_call 33; refine (HF.out _).mono ?_; rintro e w2 ⟨rfl, hb2⟩; have z2 := hb2.size; (try simp at z2); have c2x0 := bstep (b := w.heap.size) hb2 (by first | omega | (simp <;> omega)); have y2x0 : w.heap.size < w2.heap.size := (by omega); have c2x1 := bstep (b := w.heap.size + 1) hb2 (by first | omega | (simp <;> omega)); have y2x1 : w.heap.size + 1 < w2.heap.size := (by omega); have f2x0 := bfro (b := w.heap.size) hb2 (by first | omega | (simp <;> omega)); have f2x1 := bfro (b := w.heap.size + 1) hb2 (by first | omega | (simp <;> omega)); have H2 : Below w.heap.size w w2 := Below.trans (by repeat (first | with_reducible assumption | with_reducible refine Below.drew ?_ | with_reducible refine below_drewN ?_ _ | with_reducible refine Below.alloc ?_ (by first | omega | (simp <;> omega)) _ | with_reducible refine Below.setCell ?_ (by first | omega | (simp <;> omega)) _ | with_reducible exact Below.refl _ _)) (hb2.mono (by first | omega | (simp <;> omega)))))
  refine wp_loop_rounds 4 ?_
  rw [rounds_succ]
  go_wp2
  refine region_quiet_tail 8 (by kernel_rfl) (by kernel_rfl) ?_
  simp only [List.take_succ_cons, List.take_zero, List.drop_succ_cons, List.drop_zero]
  repeat (first | go_big_quiet_skip | (go_big_quiet_want; go_big_quiet_op; go_big_quiet_on))
  go_big_quiet_want
  go_big_quiet_op
  apply Exists.intro
  refine ⟨(HCL0.out _), ?_⟩
  go_big_quiet_on
  repeat (first | go_big_quiet_skip | (go_big_quiet_want; go_big_quiet_op; go_big_quiet_on))
  refine wpQuiet_nil ?_
  go_wp2
  rw [rounds_succ]
  go_wp2
  refine region_quiet_tail 8 (by kernel_rfl) (by kernel_rfl) ?_
  simp only [List.take_succ_cons, List.take_zero, List.drop_succ_cons, List.drop_zero]
  repeat (first | go_big_quiet_skip | (go_big_quiet_want; go_big_quiet_op; go_big_quiet_on))
  go_big_quiet_want
  go_big_quiet_op
  apply Exists.intro
  refine ⟨(HCL1.out _), ?_⟩
  go_big_quiet_on
  repeat (first | go_big_quiet_skip | (go_big_quiet_want; go_big_quiet_op; go_big_quiet_on))
  refine wpQuiet_nil ?_
  go_wp2
  rw [rounds_succ]
  go_wp2
  refine region_quiet_tail 8 (by kernel_rfl) (by kernel_rfl) ?_
  simp only [List.take_succ_cons, List.take_zero, List.drop_succ_cons, List.drop_zero]
  repeat (first | go_big_quiet_skip | (go_big_quiet_want; go_big_quiet_op; go_big_quiet_on))
  go_big_quiet_want
  go_big_quiet_op
  apply Exists.intro
  refine ⟨(HCL2.out _), ?_⟩
  go_big_quiet_on
  repeat (first | go_big_quiet_skip | (go_big_quiet_want; go_big_quiet_op; go_big_quiet_on))
  refine wpQuiet_nil ?_
  go_wp2
  rw [rounds_succ]
  go_upto_block 2 with (first
    | (go_at_call 25; refine (HMK.out _).mono ?_; rintro e w4 ⟨rfl, hb4⟩; have z4 := hb4.size; (try simp at z4); have c4x0 := bstep (b := w.heap.size) hb4 (by first | omega | (simp <;> omega)); have y4x0 : w.heap.size < w4.heap.size := (by omega); have c4x1 := bstep (b := w.heap.size + 1) hb4 (by first | omega | (simp <;> omega)); have y4x1 : w.heap.size + 1 < w4.heap.size := (by omega); have H4 : Below w.heap.size w w4 := Below.trans (by repeat (first | with_reducible assumption | with_reducible refine Below.drew ?_ | with_reducible refine below_drewN ?_ _ | with_reducible refine Below.alloc ?_ (by first | omega | (simp <;> omega)) _ | with_reducible refine Below.setCell ?_ (by first | omega | (simp <;> omega)) _ | with_reducible exact Below.refl _ _)) (hb4.mono (by first | omega | (simp <;> omega))))
    | (go_at_call 26; refine (HSP.out _).mono ?_; rintro e w5 ⟨rfl, hb5⟩; have z5 := hb5.size; (try simp at z5); have c5x0 := bstep (b := w.heap.size) hb5 (by first | omega | (simp <;> omega)); have y5x0 : w.heap.size < w5.heap.size := (by omega); have c5x1 := bstep (b := w.heap.size + 1) hb5 (by first | omega | (simp <;> omega)); have y5x1 : w.heap.size + 1 < w5.heap.size := (by omega); have c5x2 := bstep (b := w4.heap.size) hb5 (by first | omega | (simp <;> omega)); have y5x2 : w4.heap.size < w5.heap.size := (by omega); have H5 : Below w.heap.size w w5 := Below.trans (by repeat (first | with_reducible assumption | with_reducible refine Below.drew ?_ | with_reducible refine below_drewN ?_ _ | with_reducible refine Below.alloc ?_ (by first | omega | (simp <;> omega)) _ | with_reducible refine Below.setCell ?_ (by first | omega | (simp <;> omega)) _ | with_reducible exact Below.refl _ _)) (hb5.mono (by first | omega | (simp <;> omega))))
    | (go_at_call 22; with_reducible refine (HN.out _).mono ?_; rintro e w8 ⟨rfl, rfl⟩)
    | (go_at_call 34; with_reducible refine (HPA.out _).mono ?_; rintro e w6 ⟨v2, R2, rfl, hS2, hown2, hb6⟩; have z6 := hb6.size; (try simp at z6); have c6x0 := bstep (b := w.heap.size) hb6 (by first | omega | (simp <;> omega)); have y6x0 : w.heap.size < w6.heap.size := (by omega); have c6x1 := bstep (b := w.heap.size + 1) hb6 (by first | omega | (simp <;> omega)); have y6x1 : w.heap.size + 1 < w6.heap.size := (by omega); have c6x2 := bstep (b := w4.heap.size) hb6 (by first | omega | (simp <;> omega)); have y6x2 : w4.heap.size < w6.heap.size := (by omega); have c6x3 := bstep (b := w5.heap.size) hb6 (by first | omega | (simp <;> omega)); have y6x3 : w5.heap.size < w6.heap.size := (by omega); have H6 : Below w.heap.size w w6 := Below.trans (by repeat (first | with_reducible assumption | with_reducible refine Below.drew ?_ | with_reducible refine below_drewN ?_ _ | with_reducible refine Below.alloc ?_ (by first | omega | (simp <;> omega)) _ | with_reducible refine Below.setCell ?_ (by first | omega | (simp <;> omega)) _ | with_reducible exact Below.refl _ _)) (hb6.mono (by first | omega | (simp <;> omega))))
    | (go_at_call 36; with_reducible refine (HCK.out _).mono ?_; rintro e w7 ⟨rfl, hb7⟩; have z7 := hb7.size; (try simp at z7); have H7 : Below w.heap.size w w7 := Below.trans (by repeat (first | with_reducible assumption | with_reducible refine Below.drew ?_ | with_reducible refine below_drewN ?_ _ | with_reducible refine Below.alloc ?_ (by first | omega | (simp <;> omega)) _ | with_reducible refine Below.setCell ?_ (by first | omega | (simp <;> omega)) _ | with_reducible exact Below.refl _ _)) (hb7.mono (by first | omega | (simp <;> omega)))))
  have P0 : w7.cell? ⟨w4.heap.size, 0, none⟩ = some (.int .i64 p.l0.a) := (hb7.cell (p := ⟨w4.heap.size, 0, none⟩) (by first | omega | (simp <;> omega))).trans (by go_simp)
  have P1 : w7.cell? ⟨w4.heap.size, 1, none⟩ = some (.int .i64 p.l0.b) := (hb7.cell (p := ⟨w4.heap.size, 1, none⟩) (by first | omega | (simp <;> omega))).trans (by go_simp)
  have P2 : w7.cell? ⟨w4.heap.size, 2, none⟩ = some (.int .i64 p.l1.a) := (hb7.cell (p := ⟨w4.heap.size, 2, none⟩) (by first | omega | (simp <;> omega))).trans (by go_simp)
  have P3 : w7.cell? ⟨w4.heap.size, 3, none⟩ = some (.int .i64 p.l1.b) := (hb7.cell (p := ⟨w4.heap.size, 3, none⟩) (by first | omega | (simp <;> omega))).trans (by go_simp)
  have P4 : w7.cell? ⟨w4.heap.size, 4, none⟩ = some (.int .i64 p.l2.a) := (hb7.cell (p := ⟨w4.heap.size, 4, none⟩) (by first | omega | (simp <;> omega))).trans (by go_simp)
  have P5 : w7.cell? ⟨w4.heap.size, 5, none⟩ = some (.int .i64 p.l2.b) := (hb7.cell (p := ⟨w4.heap.size, 5, none⟩) (by first | omega | (simp <;> omega))).trans (by go_simp)
  have Q0 : w7.cell? ⟨w5.heap.size, 0, none⟩ = some (.int .i64 q.l0.a) := (hb7.cell (p := ⟨w5.heap.size, 0, none⟩) (by first | omega | (simp <;> omega))).trans (by go_simp)
  have Q1 : w7.cell? ⟨w5.heap.size, 1, none⟩ = some (.int .i64 q.l0.b) := (hb7.cell (p := ⟨w5.heap.size, 1, none⟩) (by first | omega | (simp <;> omega))).trans (by go_simp)
  have Q2 : w7.cell? ⟨w5.heap.size, 2, none⟩ = some (.int .i64 q.l1.a) := (hb7.cell (p := ⟨w5.heap.size, 2, none⟩) (by first | omega | (simp <;> omega))).trans (by go_simp)
  have Q3 : w7.cell? ⟨w5.heap.size, 3, none⟩ = some (.int .i64 q.l1.b) := (hb7.cell (p := ⟨w5.heap.size, 3, none⟩) (by first | omega | (simp <;> omega))).trans (by go_simp)
  have Q4 : w7.cell? ⟨w5.heap.size, 4, none⟩ = some (.int .i64 q.l2.a) := (hb7.cell (p := ⟨w5.heap.size, 4, none⟩) (by first | omega | (simp <;> omega))).trans (by go_simp)
  have Q5 : w7.cell? ⟨w5.heap.size, 5, none⟩ = some (.int .i64 q.l2.b) := (hb7.cell (p := ⟨w5.heap.size, 5, none⟩) (by first | omega | (simp <;> omega))).trans (by go_simp)
  have y4 : w4.heap.size < w7.heap.size := by omega
  have y5 : w5.heap.size < w7.heap.size := by omega
  have hPa := hide (legs_a (b := w4.heap.size) P0 P2 P4)
  have hPb := hide (legs_b (b := w4.heap.size) P1 P3 P5)
  have hQa := hide (legs_a (b := w5.heap.size) Q0 Q2 Q4)
  have hQb := hide (legs_b (b := w5.heap.size) Q1 Q3 Q5)
  clear P0 P1 P2 P3 P4 P5 Q0 Q1 Q2 Q3 Q4 Q5
  have hlen := segs_len hS2
  have hend := segs_end hS2
  have hSS := hide hS2
  clear hS2
  rcases hown2.2 with ⟨rfl, hR0⟩ | ⟨g2, cap2, cur2, rfl, hbs, hc2, e1, e2, e3, e4⟩
  · rw [hR0] at hend
    simp only [endAt] at hend
    omega
  have yg6 : g2 < w6.heap.size := (Array.getElem?_eq_some_iff.1 hc2).1
  have hcell := fun k x j (hk : k < R2.length) (hx : R2.reverse[k]? = some x) (hj : j < 5) => (hb7.cell (p := ⟨g2, k * 5 + j, none⟩) yg6).trans ((hown2.cellAt (k * 5 + j) (by omega)).trans (flat_at R2 k x j hx hj))
  have hsat := fun k (hk : k < R2.length) => segs_at hSS.out k hk
  have hrn := hide (show R2.reverse.length = R2.length from List.length_reverse)
  obtain ⟨LL, hLL⟩ : ∃ LL, LL = R2.reverse := ⟨_, rfl⟩
  rw [← hLL] at hcell hsat hrn
  have hmem := hide (fun x => (show x ∈ R2 ↔ x ∈ LL by rw [hLL]; exact List.mem_reverse.symm))
  replace hcell := hide hcell
  replace hsat := hide hsat
  have hGG := hide (HG.out R2 hSS.out)
  have yg2 : g2 < w7.heap.size := by omega
  clear hown2 hc2 e1 e2 e3 e4 hend HPA hLL HG
  generalize hn : R2.length = n at hcell hlen hsat hrn
  clear hn c6x0 c6x1 c6x2 c6x3 c5x0 c5x1 c5x2 c4x0 c4x1 c2x0 c2x1 c1x0 c1x1 f1x0 f1x1 f2x0 f2x1 hb7 hb6 hb5 hb4 H1 H2 H4 H5 H6
  go_cut [] (fun wz => Below w7.heap.size w7 wz)
  case first =>
    go_wp2
    go_loopw [94] (fun i wr => ∃ k : Nat, k ≤ 3 ∧ i = .int .i64 (k : Int) ∧ Below w7.heap.size w7 wr) (fun i _ => 3 - (intOf i).toNat)
    case atStart =>
      exact ⟨0, by omega, rfl, Below.refl _ _⟩
    case round =>
      rename World => wr
      obtain ⟨k, hk, rfl, HRR⟩ := hrel
      have hyr := HRR.size
      have yr4 : w4.heap.size < wr.heap.size := by omega
      have yr5 : w5.heap.size < wr.heap.size := by omega
      by_cases hlt : k < 3
      · have k1 := (HRR.cell (p := ⟨w4.heap.size, k * 2, none⟩) y4).trans (hPa.out k hlt)
        have k2 := (HRR.cell (p := ⟨w4.heap.size, k * 2 + 1, none⟩) y4).trans (hPb.out k hlt)
        have k3 := (HRR.cell (p := ⟨w5.heap.size, k * 2, none⟩) y5).trans (hQa.out k hlt)
        have k4 := (HRR.cell (p := ⟨w5.heap.size, k * 2 + 1, none⟩) y5).trans (hQb.out k hlt)
        have i1 : (0 : Int) ≤ (k : Int) := by omega
        have i2 : (k : Int) < 3 := by omega
        obtain ⟨m1, m2, m3⟩ := leg_in hin.out hlt
        obtain ⟨m4, m5, m6⟩ := leg_in hpi.out hlt
        have hl := HL.out k
        obtain ⟨D, hD⟩ : ∃ D, (q.leg k).b - (q.leg k).a = D := ⟨_, rfl⟩
        rw [hD] at hl
        have v1 : IntKind.i64.wrap ((q.leg k).b - (q.leg k).a) = D := by rw [hD]; exact IntWalk.i64_in _ (by omega)
        have v2 : IntKind.i64.wrap ((p.leg k).b - (p.leg k).a) = D := by rw [← hl]; exact IntWalk.i64_in _ (by omega)
        clear hl hD
        go_wp2
        go_quiet (fail)
        go_wp2
        go_roundw
        case rel => exact ⟨k + 1, by omega, by go_num, by exact (by repeat (first | with_reducible exact HRR | with_reducible refine Below.drew ?_ | with_reducible refine below_drewN ?_ _))⟩
        case measure => simp [intOf]; omega
      · have ek : k = 3 := by omega
        subst ek
        go_wp2
        go_meet
        exact HRR
  case rest =>
  have H9 := hcut
  rename World => w9
  have hcell9 := hide (fun k x j hk hx hj => (H9.cell (p := ⟨g2, k * 5 + j, none⟩) yg2).trans (hcell.out k x j hk hx hj))
  have HW9 : Below w.heap.size w w9 := H7.trans (H9.mono (by omega))
  have yg9 : g2 < w9.heap.size := by have := H9.size; omega
  clear hcell hPa hPb hQa hQb hcut
  go_upto_region 26 with fail
  obtain ⟨b15, hb15⟩ : ∃ b, b = w9.heap.size := ⟨_, rfl⟩
  have W15 : Below w9.heap.size w9 (w9.alloc (.cells #[.int .i64 0, .int .i64 0, .int .i64 0, .int .i64 0] 101)) := (Below.refl _ _).alloc (Nat.le_refl _) _
  have A0 : (w9.alloc (.cells #[.int .i64 0, .int .i64 0, .int .i64 0, .int .i64 0] 101)).cell? ⟨w9.heap.size, 0, none⟩ = some (.int .i64 0) := by go_simp
  have A1 : (w9.alloc (.cells #[.int .i64 0, .int .i64 0, .int .i64 0, .int .i64 0] 101)).cell? ⟨w9.heap.size, 1, none⟩ = some (.int .i64 0) := by go_simp
  have A2 : (w9.alloc (.cells #[.int .i64 0, .int .i64 0, .int .i64 0, .int .i64 0] 101)).cell? ⟨w9.heap.size, 2, none⟩ = some (.int .i64 0) := by go_simp
  have A3 : (w9.alloc (.cells #[.int .i64 0, .int .i64 0, .int .i64 0, .int .i64 0] 101)).cell? ⟨w9.heap.size, 3, none⟩ = some (.int .i64 0) := by go_simp
  have AF : ∀ o, (w9.alloc (.cells #[.int .i64 0, .int .i64 0, .int .i64 0, .int .i64 0] 101)).frozen? ⟨w9.heap.size, o, none⟩ = false := fun o => by go_simp
  have AY : w9.heap.size < (w9.alloc (.cells #[.int .i64 0, .int .i64 0, .int .i64 0, .int .i64 0] 101)).heap.size := by simp
  generalize (w9.alloc (.cells #[.int .i64 0, .int .i64 0, .int .i64 0, .int .i64 0] 101)) = w15 at W15 A0 A1 A2 A3 AF AY ⊢
  rw [← hb15] at W15 A0 A1 A2 A3 AF AY yg9 ⊢
  have HW15 : Below w.heap.size w w15 := HW9.trans (W15.mono (by have := HW9.size; omega))
  have hcell15 := hide (fun k x j hk hx hj => (W15.cell (p := ⟨g2, k * 5 + j, none⟩) yg9).trans (hcell9.out k x j hk hx hj))
  clear hcell9 W15
  have yw15 : w.heap.size ≤ b15 := by have := HW9.size; omega
  clear hb15
  go_upto_block 4 with fail
  go_cut [] (fun wz => ∃ L0 L1 L2 L3 : Int, (wz.cell? ⟨b15, 0, none⟩ = some (.int .i64 L0) ∧ wz.cell? ⟨b15, 1, none⟩ = some (.int .i64 L1) ∧ wz.cell? ⟨b15, 2, none⟩ = some (.int .i64 L2) ∧ wz.cell? ⟨b15, 3, none⟩ = some (.int .i64 L3)) ∧ Cov LL n L0 L1 L2 L3 ∧ Below b15 w15 wz)
  case first =>
    go_wp2
    go_loopw [119] (fun i wr => ∃ (k : Nat) (L0 L1 L2 L3 : Int), k ≤ n ∧ i = .int .i64 (k : Int) ∧ (wr.cell? ⟨b15, 0, none⟩ = some (.int .i64 L0) ∧ wr.cell? ⟨b15, 1, none⟩ = some (.int .i64 L1) ∧ wr.cell? ⟨b15, 2, none⟩ = some (.int .i64 L2) ∧ wr.cell? ⟨b15, 3, none⟩ = some (.int .i64 L3)) ∧ (0 ≤ L0 ∧ 0 ≤ L1 ∧ 0 ≤ L2 ∧ 0 ≤ L3 ∧ L0 ≤ 4096 ∧ L1 ≤ 4096 ∧ L2 ≤ 4096 ∧ L3 ≤ 4096) ∧ Cov LL k L0 L1 L2 L3 ∧ (∀ o, wr.frozen? ⟨b15, o, none⟩ = false) ∧ Below b15 w15 wr ∧ b15 < wr.heap.size) (fun i _ => n - (intOf i).toNat)
    case atStart =>
      exact ⟨0, 0, 0, 0, 0, Nat.zero_le _, rfl, ⟨A0, A1, A2, A3⟩, by omega, fun j x hj => absurd hj (by omega), AF, Below.refl _ _, AY⟩
    case round =>
      clear A0 A1 A2 A3 AF AY
      rename World => wr
      obtain ⟨k, L0, L1, L2, L3, hk, rfl, ⟨A0, A1, A2, A3⟩, ⟨l0, l1, l2, l3, l4, l5, l6, l7⟩, hcov, AF, HX, AY⟩ := hrel
      by_cases hlt : k < n
      · obtain ⟨x, ha, hx4⟩ := hsat.out k hlt
        obtain ⟨xa, xb, xc⟩ := hx4.1
        clear hx4
        have hcov' := hide hcov
        clear hcov
        have j1 : (0 : Int) ≤ (k : Int) := by omega
        have j2 : (k : Int) < (n : Int) := by omega
        have yr2 : g2 < wr.heap.size := by omega
        have a0 : wr.cell? ⟨g2, k * 5, none⟩ = some (.int .i64 x.a) := (HX.cell (p := ⟨g2, k * 5, none⟩) yg9).trans (hcell15.out k x 0 (by omega) ha (by omega))
        have a1 : wr.cell? ⟨g2, k * 5 + 1, none⟩ = some (.int .i64 x.b) := (HX.cell (p := ⟨g2, k * 5 + 1, none⟩) yg9).trans (hcell15.out k x 1 (by omega) ha (by omega))
        have a2 : wr.cell? ⟨g2, k * 5 + 2, none⟩ = some (.bool x.n.1) := (HX.cell (p := ⟨g2, k * 5 + 2, none⟩) yg9).trans (hcell15.out k x 2 (by omega) ha (by omega))
        have a3 : wr.cell? ⟨g2, k * 5 + 3, none⟩ = some (.bool x.n.2.1) := (HX.cell (p := ⟨g2, k * 5 + 3, none⟩) yg9).trans (hcell15.out k x 3 (by omega) ha (by omega))
        have a4 : wr.cell? ⟨g2, k * 5 + 4, none⟩ = some (.bool x.n.2.2) := (HX.cell (p := ⟨g2, k * 5 + 4, none⟩) yg9).trans (hcell15.out k x 4 (by omega) ha (by omega))
        have a5 : wr.cell? ⟨g2, k * 5 + 2 + 1, none⟩ = some (.bool x.n.2.1) := a3
        have a6 : wr.cell? ⟨g2, k * 5 + 2 + 2, none⟩ = some (.bool x.n.2.2) := a4
        go_upto_region 29 with fail
        have B0 : Below wr.heap.size wr (wr.alloc (.cells #[.int .i64 x.a, .int .i64 x.b, .bool x.n.1, .bool x.n.2.1, .bool x.n.2.2] 69)) := (Below.refl _ _).alloc (Nat.le_refl _) _
        have x0 : (wr.alloc (.cells #[.int .i64 x.a, .int .i64 x.b, .bool x.n.1, .bool x.n.2.1, .bool x.n.2.2] 69)).cell? ⟨wr.heap.size, 0, none⟩ = some (.int .i64 x.a) := by go_simp
        have x1 : (wr.alloc (.cells #[.int .i64 x.a, .int .i64 x.b, .bool x.n.1, .bool x.n.2.1, .bool x.n.2.2] 69)).cell? ⟨wr.heap.size, 1, none⟩ = some (.int .i64 x.b) := by go_simp
        have x2 : (wr.alloc (.cells #[.int .i64 x.a, .int .i64 x.b, .bool x.n.1, .bool x.n.2.1, .bool x.n.2.2] 69)).cell? ⟨wr.heap.size, 2, none⟩ = some (.bool x.n.1) := by go_simp
        have x3 : (wr.alloc (.cells #[.int .i64 x.a, .int .i64 x.b, .bool x.n.1, .bool x.n.2.1, .bool x.n.2.2] 69)).cell? ⟨wr.heap.size, 3, none⟩ = some (.bool x.n.2.1) := by go_simp
        have x4 : (wr.alloc (.cells #[.int .i64 x.a, .int .i64 x.b, .bool x.n.1, .bool x.n.2.1, .bool x.n.2.2] 69)).cell? ⟨wr.heap.size, 4, none⟩ = some (.bool x.n.2.2) := by go_simp
        have y0 : wr.heap.size < (wr.alloc (.cells #[.int .i64 x.a, .int .i64 x.b, .bool x.n.1, .bool x.n.2.1, .bool x.n.2.2] 69)).heap.size := by simp
        generalize (wr.alloc (.cells #[.int .i64 x.a, .int .i64 x.b, .bool x.n.1, .bool x.n.2.1, .bool x.n.2.2] 69)) = wx at B0 x0 x1 x2 x3 x4 y0 ⊢
        replace A0 := (B0.cell (p := ⟨b15, 0, none⟩) AY).trans A0
        replace A1 := (B0.cell (p := ⟨b15, 1, none⟩) AY).trans A1
        replace A2 := (B0.cell (p := ⟨b15, 2, none⟩) AY).trans A2
        replace A3 := (B0.cell (p := ⟨b15, 3, none⟩) AY).trans A3
        replace AF := fun o => (B0.frozen (p := ⟨b15, o, none⟩) AY).trans (AF o)
        have HXX : Below b15 w15 wx := HX.trans (B0.mono (by omega))
        have yx : b15 < wx.heap.size := by omega
        have gd : IntKind.i64.wrap (x.b - x.a) = x.b - x.a := IntWalk.i64_in _ (by omega)
        clear a0 a1 a2 a3 a4 a5 a6 B0
        have x5 : wx.cell? ⟨wr.heap.size, 2 + 1, none⟩ = some (.bool x.n.2.1) := x3
        have x6 : wx.cell? ⟨wr.heap.size, 2 + 2, none⟩ = some (.bool x.n.2.2) := x4
        go_upto_block 6 with fail
        go_cut [18] (fun s wz => s = .int .i64 (cntOn x.n) ∧ wz = wx)
        case first =>
          obtain ⟨xA, xB, n0, n1, n2⟩ := x
          simp only at *
          cases n0 <;> cases n1 <;> cases n2
          all_goals
            go_wp2
            refine wp_loop_rounds 4 ?_
            rw [rounds_succ]
            go_wp2
            rw [rounds_succ]
            go_wp2
            rw [rounds_succ]
            go_wp2
            rw [rounds_succ]
            go_wp2
            go_meet
            exact ⟨rfl, rfl⟩
        case rest =>
        obtain ⟨rfl, rfl⟩ := hcut
        rename World => wx
        rcases cnt_nat x.n with hc | hc | hc | hc
        · have hn := hide (fun h => hcov'.out.more (M0 := max L0 (x.b - x.a)) (M1 := L1) (M2 := L2) (M3 := L3) ha (by omega) (by omega) (by omega) (by omega) h)
          have hle := hide (show x.b - x.a ≤ F4 (max L0 (x.b - x.a)) L1 L2 L3 (cntOn x.n) by rw [hc]; unfold F4; simp; try omega)
          rw [hc]
          clear hc
          go_upto_region 36 with fail
          refine region_quiet_tail 11 (by kernel_rfl) (by kernel_rfl) ?_
          simp only [List.take_succ_cons, List.take_zero, List.drop_succ_cons, List.drop_zero]
          repeat (first | go_big_quiet_skip | (go_big_quiet_want; go_big_quiet_op; go_big_quiet_on))
          refine wpQuiet_nil ?_
          go_wp2
          go_roundw
          case rel => exact ⟨k + 1, max L0 (x.b - x.a), L1, L2, L3, by omega, by go_num, ⟨by go_simp, by go_simp, by go_simp, by go_simp⟩, by omega, hn.out hle.out, fun o => by go_simp, by exact (by repeat (first | with_reducible exact HXX | with_reducible refine Below.drew ?_ | with_reducible refine below_drewN ?_ _ | with_reducible refine Below.alloc ?_ (by first | omega | (simp <;> omega)) _ | with_reducible refine Below.setCell ?_ (by first | omega | (simp <;> omega)) _)), by first | omega | (simp <;> omega)⟩
          case measure => simp [intOf]; omega
        · have hn := hide (fun h => hcov'.out.more (M0 := L0) (M1 := max L1 (x.b - x.a)) (M2 := L2) (M3 := L3) ha (by omega) (by omega) (by omega) (by omega) h)
          have hle := hide (show x.b - x.a ≤ F4 L0 (max L1 (x.b - x.a)) L2 L3 (cntOn x.n) by rw [hc]; unfold F4; simp; try omega)
          rw [hc]
          clear hc
          go_upto_region 36 with fail
          refine region_quiet_tail 11 (by kernel_rfl) (by kernel_rfl) ?_
          simp only [List.take_succ_cons, List.take_zero, List.drop_succ_cons, List.drop_zero]
          repeat (first | go_big_quiet_skip | (go_big_quiet_want; go_big_quiet_op; go_big_quiet_on))
          refine wpQuiet_nil ?_
          go_wp2
          go_roundw
          case rel => exact ⟨k + 1, L0, max L1 (x.b - x.a), L2, L3, by omega, by go_num, ⟨by go_simp, by go_simp, by go_simp, by go_simp⟩, by omega, hn.out hle.out, fun o => by go_simp, by exact (by repeat (first | with_reducible exact HXX | with_reducible refine Below.drew ?_ | with_reducible refine below_drewN ?_ _ | with_reducible refine Below.alloc ?_ (by first | omega | (simp <;> omega)) _ | with_reducible refine Below.setCell ?_ (by first | omega | (simp <;> omega)) _)), by first | omega | (simp <;> omega)⟩
          case measure => simp [intOf]; omega
        · have hn := hide (fun h => hcov'.out.more (M0 := L0) (M1 := L1) (M2 := max L2 (x.b - x.a)) (M3 := L3) ha (by omega) (by omega) (by omega) (by omega) h)
          have hle := hide (show x.b - x.a ≤ F4 L0 L1 (max L2 (x.b - x.a)) L3 (cntOn x.n) by rw [hc]; unfold F4; simp; try omega)
          rw [hc]
          clear hc
          go_upto_region 36 with fail
          refine region_quiet_tail 11 (by kernel_rfl) (by kernel_rfl) ?_
          simp only [List.take_succ_cons, List.take_zero, List.drop_succ_cons, List.drop_zero]
          repeat (first | go_big_quiet_skip | (go_big_quiet_want; go_big_quiet_op; go_big_quiet_on))
          refine wpQuiet_nil ?_
          go_wp2
          go_roundw
          case rel => exact ⟨k + 1, L0, L1, max L2 (x.b - x.a), L3, by omega, by go_num, ⟨by go_simp, by go_simp, by go_simp, by go_simp⟩, by omega, hn.out hle.out, fun o => by go_simp, by exact (by repeat (first | with_reducible exact HXX | with_reducible refine Below.drew ?_ | with_reducible refine below_drewN ?_ _ | with_reducible refine Below.alloc ?_ (by first | omega | (simp <;> omega)) _ | with_reducible refine Below.setCell ?_ (by first | omega | (simp <;> omega)) _)), by first | omega | (simp <;> omega)⟩
          case measure => simp [intOf]; omega
        · have hn := hide (fun h => hcov'.out.more (M0 := L0) (M1 := L1) (M2 := L2) (M3 := max L3 (x.b - x.a)) ha (by omega) (by omega) (by omega) (by omega) h)
          have hle := hide (show x.b - x.a ≤ F4 L0 L1 L2 (max L3 (x.b - x.a)) (cntOn x.n) by rw [hc]; unfold F4; simp; try omega)
          rw [hc]
          clear hc
          go_upto_region 36 with fail
          refine region_quiet_tail 11 (by kernel_rfl) (by kernel_rfl) ?_
          simp only [List.take_succ_cons, List.take_zero, List.drop_succ_cons, List.drop_zero]
          repeat (first | go_big_quiet_skip | (go_big_quiet_want; go_big_quiet_op; go_big_quiet_on))
          refine wpQuiet_nil ?_
          go_wp2
          go_roundw
          case rel => exact ⟨k + 1, L0, L1, L2, max L3 (x.b - x.a), by omega, by go_num, ⟨by go_simp, by go_simp, by go_simp, by go_simp⟩, by omega, hn.out hle.out, fun o => by go_simp, by exact (by repeat (first | with_reducible exact HXX | with_reducible refine Below.drew ?_ | with_reducible refine below_drewN ?_ _ | with_reducible refine Below.alloc ?_ (by first | omega | (simp <;> omega)) _ | with_reducible refine Below.setCell ?_ (by first | omega | (simp <;> omega)) _)), by first | omega | (simp <;> omega)⟩
          case measure => simp [intOf]; omega
      · have ek : k = n := by omega
        subst ek
        go_wp2
        go_meet
        exact ⟨L0, L1, L2, L3, ⟨A0, A1, A2, A3⟩, hcov, HX⟩
  case rest =>
  clear A0 A1 A2 A3 AF AY
  obtain ⟨L0, L1, L2, L3, ⟨A0, A1, A2, A3⟩, hcov, HX⟩ := hcut
  have HWC : Below w.heap.size w wc := HW15.trans (HX.mono yw15)
  by_cases hz : need = 0
  · subst hz
    go_wp2
    go_ret
    exact ⟨by simp, by exact (by repeat (first | with_reducible exact HWC | with_reducible refine Below.drew ?_))⟩
  · obtain ⟨a, ha, b, hb, ca, cb, la, lb⟩ := hGG.out hz
    rw [← hrn.out] at hcov
    have k1 := hcov.at ((hmem.out a).1 ha)
    have k2 := hcov.at ((hmem.out b).1 hb)
    rw [ca] at k1
    rw [cb] at k2
    have m1 : need ≤ L1 := by have : F4 L0 L1 L2 L3 1 = L1 := rfl; omega
    have m2 : need ≤ L2 := by have : F4 L0 L1 L2 L3 2 = L2 := rfl; omega
    have hzb : (need == 0) = false := beq_eq_false_iff_ne.2 hz
    clear hcov k1 k2 ca cb la lb ha hb
    go_wp2
    go_ret
    exact ⟨by simp, by exact (by repeat (first | with_reducible exact HWC | with_reducible refine Below.drew ?_))⟩

set_option maxRecDepth 100000 in
theorem patternWindows_walk (d0 d1 d2 per0 least0 nd : Int) (w : World) :
    Calls Try.prog 17 #[.agg #[.int .i64 d0, .int .i64 d1, .int .i64 d2], .agg #[.int .i64 per0, .int .i64 least0], .int .i64 nd] w fun e w' => e = .returned (.bool true) ∧ Below w.heap.size w w' := by
  have hr := fit_ok per0 least0
  have hF := fit_any per0 least0
  obtain ⟨c0, hc0⟩ : ∃ c, c = clip d0 0 (fitP per0) := ⟨_, rfl⟩
  obtain ⟨c1, hc1⟩ : ∃ c, c = clip d1 0 (fitP per0) := ⟨_, rfl⟩
  obtain ⟨c2, hc2⟩ : ∃ c, c = clip d2 0 (fitP per0) := ⟨_, rfl⟩
  obtain ⟨need, hneed⟩ : ∃ c, c = clip nd 0 (fitP per0) := ⟨_, rfl⟩
  have h0 := clip_any d0 0 (fitP per0)
  have h1 := clip_any d1 0 (fitP per0)
  have h2 := clip_any d2 0 (fitP per0)
  have hN := fun W => (clip_any nd 0 (fitP per0) W).mono fun _ _ (h : _ ∧ _) => And.intro h.1 h.2.symm
  have b0 := clip_in (n := d0) (lo := 0) (hi := fitP per0) (by have := hr.1; omega)
  have b1 := clip_in (n := d1) (lo := 0) (hi := fitP per0) (by have := hr.1; omega)
  have b2 := clip_in (n := d2) (lo := 0) (hi := fitP per0) (by have := hr.1; omega)
  have bN := clip_in (n := nd) (lo := 0) (hi := fitP per0) (by have := hr.1; omega)
  rw [← hc0] at h0 b0
  rw [← hc1] at h1 b1
  rw [← hc2] at h2 b2
  rw [← hneed] at hN bN
  generalize fitP per0 = per at *
  generalize fitL per0 least0 = least at *
  have hM := fun W => make_ok c0 c1 c2 per least hr ⟨b0, b1, b2⟩ W
  have hcode := mk_code hr b0 b1 b2
  obtain ⟨p, hp⟩ : ∃ p, p = mk c0 c1 c2 per least := ⟨_, rfl⟩
  have hM' : ∀ W : World, Calls Try.prog 25 #[.agg #[.int .i64 c0, .int .i64 c1, .int .i64 c2], .int .i64 per, .int .i64 least] W fun e w' => e = .returned (.tuple #[.agg #[.int .i64 p.l0.a, .int .i64 p.l0.b, .int .i64 p.l1.a, .int .i64 p.l1.b, .int .i64 p.l2.a, .int .i64 p.l2.b], .nilIface]) ∧ Below W.heap.size W w' := by rw [hp]; exact hM
  rw [← hp] at hcode
  have hSp := fun W => spread_any p per least need W
  obtain ⟨e1, e2, e3⟩ := sp_ok (need := need) hcode bN
  obtain ⟨⟨x, y, z⟩, ho⟩ : ∃ o, ordP p = o := ⟨_, rfl⟩
  rw [ho] at e1 e2
  by_cases hok : spOk p (spOut p need (x, y, z)) per least (x, y, z)
  · rw [if_pos hok] at e1
    rw [decide_eq_true hok] at e2
    rw [e1, e2, e3, errV_zero] at hSp
    obtain ⟨q, hq⟩ : ∃ q, q = spOut p need (x, y, z) := ⟨_, rfl⟩
    rw [← hq] at hSp hok
    have hCk := fun W => check_any q per least W
    rw [hok.2.1, errV_zero] at hCk
    exact patternWindows_yes d0 d1 d2 per0 least0 nd per least c0 c1 c2 need p q hr hF h0 h1 h2 hN hM' hSp (code_In hok.2.1) hCk (code_In hcode) (spread_legs ho hq).2.2
      (fun R hR hnz => by
        obtain ⟨a, ha, b, hb, k1, k2, _, k4, k5⟩ := spread_parts ho hq hok (by omega) hR
        exact ⟨a, ha, b, hb, k1, k2, k4, k5⟩) w
  · rw [if_neg hok] at e1
    rw [decide_eq_false hok] at e2
    rw [e1, e2, e3, errV_zero] at hSp
    exact patternWindows_no d0 d1 d2 per0 least0 nd per least c0 c1 c2 need p hr hF h0 h1 h2 hN hM' hSp w

set_option maxRecDepth 100000 in
theorem patternWindows_lifted (os : Os) (started : os.Started) (H : Type) (enc : TypeId × Value → H) :
    ReturnsInHanded {} Try.checked os 17 .any (Rows.patternWindowsSpec.pre6 enc Try.prog Try.f17 Rows.patternWindowsRow.domain false) (Rows.patternWindowsSpec.post enc Try.prog Try.f17 false true false false) := by
  refine lift (C := Try.checked) (s := Rows.patternWindowsSpec) 4 Try.own started (by kernel_rfl) Try.func17 Try.laidOut rfl rfl Try.underlying4 (by kernel_rfl)
    (fun ds hds => by
      have hl : ds.length = 3 := hds
      match ds, hl with
      | [_, _, _], _ => rfl)
    (ChangeSpec.witness6 (enc := enc) (C := Try.checked) false ⟨#[], #[.agg #[.int .i64 0, .int .i64 0, .int .i64 0], .agg #[.int .i64 0, .int .i64 0], .int .i64 0], []⟩ 8 (by kernel_rfl) (by kernel_rfl) (by kernel_rfl) (by kernel_rfl)) ?_
  intro W base args ds p hval0 hA0
  have hval : ∀ (j : Nat) t v, Try.f17.params[j]? = some t → args[j]? = some v → Value.okWide Try.prog W .any base t v := hval0
  have hA : DataW.TrodAll enc Try.prog W 0 (fun _ => true) true Try.f17.params.toList args.toList ds p := hA0
  clear hval0 hA0
  rw [Try.params17] at hA hval
  obtain ⟨v0, vs0, d0, ds0, p0, q0, hargs, rfl, rfl, h0, r0⟩ := trodAll_cons hA
  obtain ⟨v1, vs1, d1, ds1, p1, q1, rfl, rfl, rfl, h1, r1⟩ := trodAll_cons r0
  obtain ⟨v2, vs2, d2, ds2, p2, q2, rfl, rfl, rfl, h2, r2⟩ := trodAll_cons r1
  obtain ⟨rfl, rfl, rfl⟩ := trodAll_nil r2
  obtain rfl : args = #[v0, v1, v2] := by cases args; simp_all
  obtain ⟨l0, rfl, g0⟩ := arg_array 4 Try.underlying26 (ks := [some .i64, some .i64, some .i64]) (by kernel_rfl) (hval 0 26 v0 rfl rfl) h0
  obtain ⟨_, _, rfl, ⟨a0, rfl, wa0⟩, g0x0⟩ := g0
  obtain ⟨_, _, rfl, ⟨a1, rfl, wa1⟩, g0x1⟩ := g0x0
  obtain ⟨_, _, rfl, ⟨a2, rfl, wa2⟩, g0x2⟩ := g0x1
  simp only [Fits] at g0x2
  subst g0x2
  obtain ⟨l1, rfl, g1⟩ := arg_struct 4 Try.underlying55 (ks := [some .i64, some .i64]) (by kernel_rfl) (hval 1 55 v1 rfl rfl) h1
  obtain ⟨_, _, rfl, ⟨f0, rfl, wf0⟩, g1x0⟩ := g1
  obtain ⟨_, _, rfl, ⟨f1, rfl, wf1⟩, g1x1⟩ := g1x0
  simp only [Fits] at g1x1
  subst g1x1
  obtain ⟨x, rfl, wx⟩ := arg_int Try.underlying3 (hval 2 3 v2 rfl rfl) h2
  exact patternWindows_walk a0 a1 a2 f0 f1 x W

theorem j_lifts' (x : Bool) (h : x = Rows.patternMakesRow.lifted) : (x == Try.prog.liftsFinal) = true := by rw [h]; exact j_lifts
theorem j_make' (x) (h : x = Rows.patternMakesRow.make) : (Try.prog.make == some x) = true := by rw [h]; exact j_make
set_option maxHeartbeats 4000000 in
set_option maxRecDepth 100000 in
theorem patternWindows_joined : joinedFacts Try.prog 17 Try.f17 Rows.patternWindowsSpec Rows.patternWindowsRow = true := by
  unfold joinedFacts
  repeat' (with_reducible refine and_split ?_ ?_)
  all_goals first | (with_reducible exact j_may) | (with_reducible refine j_lifts' _ ?_; rfl) | (with_reducible refine j_make' _ ?_; rfl) | (as_aux_lemma => kernel_rfl)

theorem patternWindows_over : Rows.patternWindowsRow.holds Try.pinned (OpenSpec.ofChange Rows.patternWindowsSpec) :=
  OpenClaim.holds_of_wide 17 Try.f17 rfl rfl rfl rfl rfl rfl rfl ⟨rfl, rfl, rfl, rfl, rfl⟩ rfl rfl rfl rfl rfl (by kernel_rfl) Try.func17 patternWindows_joined
    (of_decide_eq_true (by kernel_rfl)) (by unfold Func.isWrapper; first | (rw [if_pos (by decide +kernel)]; kernel_rfl) | (rw [if_neg (by decide +kernel)]; exact ⟨rfl, rfl⟩))
    (fun os started H enc _ => patternWindows_lifted os started H enc)

theorem patternWindows_holds : Rows.PatternWindowsSaid := patternWindows_over
#print axioms patternWindows_holds
end Go.Proofs.Ytjeomdfcfbfebaa

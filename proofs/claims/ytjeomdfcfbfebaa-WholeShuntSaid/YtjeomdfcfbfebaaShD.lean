/- Walks of Plan, of the program and of the reference: the first two parts that serve, or the number of the error, for every input. -/
import Derived.Test.YtjeomdfcfbfebaaShC
namespace Go.Proofs.Ytjeomdfcfbfebaa
open Go.RowKit PM

namespace PM
def plO (o : Option (Prt × Prt)) (i : Nat) : Int :=
  match o with
  | some (a, b) => if i = 0 then a.b - 1 else if i = 1 then b.b - 1 else if i = 2 then oddOf a.n else oddOf b.n
  | none => 0
def plF (p : Pt) (per st : Int) (R : List Prt) : Option (Prt × Prt) := if okPer per ∧ p.In per ∧ (0 ≤ st ∧ st ≤ per) then find st R.reverse else none
def plC (p : Pt) (per st : Int) (R : List Prt) : Int := if okPer per then (if p.In per then (if 0 ≤ st ∧ st ≤ per then (if (find st R.reverse).isSome then 0 else 22) else 3) else 11) else 3
theorem plF_ok {p : Pt} {per st : Int} {R : List Prt} (h : okPer per) (h2 : p.In per) (h3 : 0 ≤ st ∧ st ≤ per) : plF p per st R = find st R.reverse := by unfold plF; rw [if_pos ⟨h, h2, h3⟩]
theorem plF_per {p : Pt} {per st : Int} {R : List Prt} (h : ¬ okPer per) : plF p per st R = none := by unfold plF; rw [if_neg (fun k => h k.1)]
theorem plF_bad {p : Pt} {per st : Int} {R : List Prt} (h : ¬ p.In per) : plF p per st R = none := by unfold plF; rw [if_neg (fun k => h k.2.1)]
theorem plF_st {p : Pt} {per st : Int} {R : List Prt} (h : ¬ (0 ≤ st ∧ st ≤ per)) : plF p per st R = none := by unfold plF; rw [if_neg (fun k => h k.2.2)]
theorem plC_per {p : Pt} {per st : Int} {R : List Prt} (h : ¬ okPer per) : plC p per st R = 3 := by unfold plC; rw [if_neg h]
theorem plC_bad {p : Pt} {per st : Int} {R : List Prt} (h : okPer per) (h2 : ¬ p.In per) : plC p per st R = 11 := by unfold plC; rw [if_pos h, if_neg h2]
theorem plC_st {p : Pt} {per st : Int} {R : List Prt} (h : okPer per) (h2 : p.In per) (h3 : ¬ (0 ≤ st ∧ st ≤ per)) : plC p per st R = 3 := by unfold plC; rw [if_pos h, if_pos h2, if_neg h3]
theorem plC_none {p : Pt} {per st : Int} {R : List Prt} (h : okPer per) (h2 : p.In per) (h3 : 0 ≤ st ∧ st ≤ per) (h4 : find st R.reverse = none) : plC p per st R = 22 := by unfold plC; rw [if_pos h, if_pos h2, if_pos h3, h4]; rfl
theorem plC_some {p : Pt} {per st : Int} {R : List Prt} {x : Prt × Prt} (h : okPer per) (h2 : p.In per) (h3 : 0 ≤ st ∧ st ≤ per) (h4 : find st R.reverse = some x) : plC p per st R = 0 := by unfold plC; rw [if_pos h, if_pos h2, if_pos h3, h4]; rfl
theorem hit_no1 {s : Int} {a b : Prt} (h : ¬ cntOn a.n = 1) : hit s a b = false := by rw [Bool.eq_false_iff]; intro k; exact h (hit_iff.1 k).1
theorem hit_no2 {s : Int} {a b : Prt} (h : ¬ cntOn b.n = 2) : hit s a b = false := by rw [Bool.eq_false_iff]; intro k; exact h (hit_iff.1 k).2.1
theorem hit_no3 {s : Int} {a b : Prt} (h : ¬ s < a.b - a.a) : hit s a b = false := by rw [Bool.eq_false_iff]; intro k; exact h (hit_iff.1 k).2.2.1
theorem hit_no4 {s : Int} {a b : Prt} (h : ¬ s < b.b - b.a) : hit s a b = false := by rw [Bool.eq_false_iff]; intro k; exact h (hit_iff.1 k).2.2.2.1
theorem hit_no5 {s : Int} {a b : Prt} (h : oddOf a.n = oddOf b.n) : hit s a b = false := by rw [Bool.eq_false_iff]; intro k; exact (hit_iff.1 k).2.2.2.2 h
theorem NoOut_more {s : Int} {L : List Prt} {k : Nat} {a : Prt} (hx : L[k]? = some a) (h : ∀ (i : Nat) a', i < k → L[i]? = some a' → ∀ (j : Nat) b', L[j]? = some b' → hit s a' b' = false) (h2 : ∀ (j : Nat) b', L[j]? = some b' → hit s a b' = false) :
    ∀ (i : Nat) a', i < k + 1 → L[i]? = some a' → ∀ (j : Nat) b', L[j]? = some b' → hit s a' b' = false := by
  intro i a' hi ha' j b' hb'
  by_cases e : i < k
  · exact h i a' e ha' j b' hb'
  · have : i = k := by omega
    subst this
    rw [hx] at ha'
    cases ha'
    exact h2 j b' hb'
theorem NoIn_more {q : Prt → Bool} {L : List Prt} {k : Nat} {b : Prt} (hx : L[k]? = some b) (h : ∀ (i : Nat) b', i < k → L[i]? = some b' → q b' = false) (h2 : q b = false) : ∀ (i : Nat) b', i < k + 1 → L[i]? = some b' → q b' = false := by
  intro i b' hi hb'
  by_cases e : i < k
  · exact h i b' e hb'
  · have : i = k := by omega
    subst this
    rw [hx] at hb'
    cases hb'
    exact h2
theorem segs_len' {R : List Prt} (k : Nat) (hk : R.length ≤ k) (x : Prt) : ¬ R.reverse[k]? = some x := by
  rw [List.getElem?_eq_none (by simpa using hk)]
  simp
end PM
theorem ret_plan {x0 x1 x2 x3 y0 y1 y2 y3 : Int} {e f : Value} (h0 : x0 = y0) (h1 : x1 = y1) (h2 : x2 = y2) (h3 : x3 = y3) (h4 : e = f) : Ending.returned (.tuple #[.agg #[.int .i64 x0, .int .i64 x1, .int .i64 x2, .int .i64 x3], e]) = .returned (.tuple #[.agg #[.int .i64 y0, .int .i64 y1, .int .i64 y2, .int .i64 y3], f]) := by rw [h0, h1, h2, h3, h4]
set_option maxHeartbeats 4000000 in
set_option maxRecDepth 100000 in
theorem plan_per (p : Pt) (per st : Int) (h : ¬ okPer per) (w : World) :
    Calls Try.prog 27 #[.agg #[.int .i64 p.l0.a, .int .i64 p.l0.b, .int .i64 p.l1.a, .int .i64 p.l1.b, .int .i64 p.l2.a, .int .i64 p.l2.b], .int .i64 per, .int .i64 st] w fun e w' => e = .returned (.tuple #[.agg #[.int .i64 0, .int .i64 0, .int .i64 0, .int .i64 0], .iface 96 (.int .i64 3)]) ∧ Below w.heap.size w w' := by
  have HP := hide (parts_per p per h)
  clear h
  skip
  all_goals
    go_enter Try.func27, Try.ntmps27
    go_wp2_with (go_at_call 34; refine (HP.out _).mono ?_; rintro e w2 ⟨rfl, hb2⟩; have z2 := hb2.size; (try simp at z2); have c2x0 := bstep (b := w.heap.size) hb2 (by first | omega | (simp <;> omega)); have f2x0 := bfro (b := w.heap.size) hb2 (by first | omega | (simp <;> omega)); have y2x0 : w.heap.size < w2.heap.size := (by omega); have c2x1 := bstep (b := w.heap.size + 1) hb2 (by first | omega | (simp <;> omega)); have f2x1 := bfro (b := w.heap.size + 1) hb2 (by first | omega | (simp <;> omega)); have y2x1 : w.heap.size + 1 < w2.heap.size := (by omega))
    have H2 : Below w.heap.size w w2 := Below.trans (by repeat (first | with_reducible assumption | with_reducible refine Below.drew ?_ | with_reducible refine below_drewN ?_ _ | with_reducible refine Below.alloc ?_ (by first | omega | (simp <;> omega)) _ | with_reducible refine Below.setCell ?_ (by first | omega | (simp <;> omega)) _ | with_reducible exact Below.refl _ _)) (hb2.mono (by first | omega | (simp <;> omega)))
    refine bodyPost_ret (v := .tuple #[.agg #[.int .i64 0, .int .i64 0, .int .i64 0, .int .i64 0], _]) (by simp only [results, Try.results27]; go_simp) rfl ⟨rfl, ?_⟩
    exact (by repeat (first | with_reducible exact H2 | with_reducible refine Below.drew ?_ | with_reducible refine below_drewN ?_ _ | with_reducible refine Below.setCell ?_ (by first | omega | (simp <;> omega)) _))
set_option maxHeartbeats 4000000 in
set_option maxRecDepth 100000 in
theorem plan_bad (p : Pt) (per st : Int) (h : okPer per) (h2 : ¬ p.In per) (w : World) :
    Calls Try.prog 27 #[.agg #[.int .i64 p.l0.a, .int .i64 p.l0.b, .int .i64 p.l1.a, .int .i64 p.l1.b, .int .i64 p.l2.a, .int .i64 p.l2.b], .int .i64 per, .int .i64 st] w fun e w' => e = .returned (.tuple #[.agg #[.int .i64 0, .int .i64 0, .int .i64 0, .int .i64 0], .iface 96 (.int .i64 11)]) ∧ Below w.heap.size w w' := by
  have HP := hide (parts_shape p per h h2)
  clear h h2
  skip
  all_goals
    go_enter Try.func27, Try.ntmps27
    go_wp2_with (go_at_call 34; refine (HP.out _).mono ?_; rintro e w2 ⟨rfl, hb2⟩; have z2 := hb2.size; (try simp at z2); have c2x0 := bstep (b := w.heap.size) hb2 (by first | omega | (simp <;> omega)); have f2x0 := bfro (b := w.heap.size) hb2 (by first | omega | (simp <;> omega)); have y2x0 : w.heap.size < w2.heap.size := (by omega); have c2x1 := bstep (b := w.heap.size + 1) hb2 (by first | omega | (simp <;> omega)); have f2x1 := bfro (b := w.heap.size + 1) hb2 (by first | omega | (simp <;> omega)); have y2x1 : w.heap.size + 1 < w2.heap.size := (by omega))
    have H2 : Below w.heap.size w w2 := Below.trans (by repeat (first | with_reducible assumption | with_reducible refine Below.drew ?_ | with_reducible refine below_drewN ?_ _ | with_reducible refine Below.alloc ?_ (by first | omega | (simp <;> omega)) _ | with_reducible refine Below.setCell ?_ (by first | omega | (simp <;> omega)) _ | with_reducible exact Below.refl _ _)) (hb2.mono (by first | omega | (simp <;> omega)))
    refine bodyPost_ret (v := .tuple #[.agg #[.int .i64 0, .int .i64 0, .int .i64 0, .int .i64 0], _]) (by simp only [results, Try.results27]; go_simp) rfl ⟨rfl, ?_⟩
    exact (by repeat (first | with_reducible exact H2 | with_reducible refine Below.drew ?_ | with_reducible refine below_drewN ?_ _ | with_reducible refine Below.setCell ?_ (by first | omega | (simp <;> omega)) _))
set_option maxHeartbeats 4000000 in
set_option maxRecDepth 100000 in
theorem plan_st (p : Pt) (per st : Int) (h : okPer per) (h2 : p.In per) (h3 : ¬ (0 ≤ st ∧ st ≤ per)) (w : World) :
    Calls Try.prog 27 #[.agg #[.int .i64 p.l0.a, .int .i64 p.l0.b, .int .i64 p.l1.a, .int .i64 p.l1.b, .int .i64 p.l2.a, .int .i64 p.l2.b], .int .i64 per, .int .i64 st] w fun e w' => e = .returned (.tuple #[.agg #[.int .i64 0, .int .i64 0, .int .i64 0, .int .i64 0], .iface 96 (.int .i64 3)]) ∧ Below w.heap.size w w' := by
  have HP := hide (parts_ok p per h h2)
  obtain ⟨p1, p2⟩ := h
  clear h2
  skip
  all_goals
    go_enter Try.func27, Try.ntmps27
    go_wp2_with (first | (go_at_call 34; refine (HP.out _).mono ?_; rintro e w2 ⟨v2, R2, rfl, hS2, hown2, hb2⟩; clear hS2 hown2; have z2 := hb2.size; (try simp at z2); have c2x0 := bstep (b := w.heap.size) hb2 (by first | omega | (simp <;> omega)); have f2x0 := bfro (b := w.heap.size) hb2 (by first | omega | (simp <;> omega)); have y2x0 : w.heap.size < w2.heap.size := (by omega); have c2x1 := bstep (b := w.heap.size + 1) hb2 (by first | omega | (simp <;> omega)); have f2x1 := bfro (b := w.heap.size + 1) hb2 (by first | omega | (simp <;> omega)); have y2x1 : w.heap.size + 1 < w2.heap.size := (by omega)) | (go_at_call 66; first | (refine (swithin_yes _ _ _ _ (by omega) (by omega)).mono ?_; rintro e w8 ⟨rfl, rfl⟩) | (refine (swithin_no _ _ _ _ (by omega)).mono ?_; rintro e w8 ⟨rfl, rfl⟩)))
    have H2 : Below w.heap.size w w2 := Below.trans (by repeat (first | with_reducible assumption | with_reducible refine Below.drew ?_ | with_reducible refine below_drewN ?_ _ | with_reducible refine Below.alloc ?_ (by first | omega | (simp <;> omega)) _ | with_reducible refine Below.setCell ?_ (by first | omega | (simp <;> omega)) _ | with_reducible exact Below.refl _ _)) (hb2.mono (by first | omega | (simp <;> omega)))
    refine bodyPost_ret (v := .tuple #[.agg #[.int .i64 0, .int .i64 0, .int .i64 0, .int .i64 0], _]) (by simp only [results, Try.results27]; go_simp) rfl ⟨rfl, ?_⟩
    exact (by repeat (first | with_reducible exact H2 | with_reducible refine Below.drew ?_ | with_reducible refine below_drewN ?_ _ | with_reducible refine Below.setCell ?_ (by first | omega | (simp <;> omega)) _))
set_option maxHeartbeats 4000000 in
set_option maxRecDepth 100000 in
theorem rplan_per (p : Pt) (per st : Int) (h : ¬ okPer per) (w : World) :
    Calls Try.prog 40 #[.agg #[.int .i64 p.l0.a, .int .i64 p.l0.b, .int .i64 p.l1.a, .int .i64 p.l1.b, .int .i64 p.l2.a, .int .i64 p.l2.b], .int .i64 per, .int .i64 st] w fun e w' => e = .returned (.tuple #[.agg #[.int .i64 0, .int .i64 0, .int .i64 0, .int .i64 0], .int .i64 3]) ∧ Below w.heap.size w w' := by
  have HP := hide (rparts_per p per h)
  clear h
  skip
  all_goals
    go_enter Try.func40, Try.ntmps40
    go_wp2_with (go_at_call 35; refine (HP.out _).mono ?_; rintro e w2 ⟨rfl, hb2⟩; have z2 := hb2.size; (try simp at z2); have c2x0 := bstep (b := w.heap.size) hb2 (by first | omega | (simp <;> omega)); have f2x0 := bfro (b := w.heap.size) hb2 (by first | omega | (simp <;> omega)); have y2x0 : w.heap.size < w2.heap.size := (by omega); have c2x1 := bstep (b := w.heap.size + 1) hb2 (by first | omega | (simp <;> omega)); have f2x1 := bfro (b := w.heap.size + 1) hb2 (by first | omega | (simp <;> omega)); have y2x1 : w.heap.size + 1 < w2.heap.size := (by omega))
    have H2 : Below w.heap.size w w2 := Below.trans (by repeat (first | with_reducible assumption | with_reducible refine Below.drew ?_ | with_reducible refine below_drewN ?_ _ | with_reducible refine Below.alloc ?_ (by first | omega | (simp <;> omega)) _ | with_reducible refine Below.setCell ?_ (by first | omega | (simp <;> omega)) _ | with_reducible exact Below.refl _ _)) (hb2.mono (by first | omega | (simp <;> omega)))
    refine bodyPost_ret (v := .tuple #[.agg #[.int .i64 0, .int .i64 0, .int .i64 0, .int .i64 0], _]) (by simp only [results, Try.results40]; go_simp) rfl ⟨rfl, ?_⟩
    exact (by repeat (first | with_reducible exact H2 | with_reducible refine Below.drew ?_ | with_reducible refine below_drewN ?_ _ | with_reducible refine Below.setCell ?_ (by first | omega | (simp <;> omega)) _))
set_option maxHeartbeats 4000000 in
set_option maxRecDepth 100000 in
theorem rplan_bad (p : Pt) (per st : Int) (h : okPer per) (h2 : ¬ p.In per) (w : World) :
    Calls Try.prog 40 #[.agg #[.int .i64 p.l0.a, .int .i64 p.l0.b, .int .i64 p.l1.a, .int .i64 p.l1.b, .int .i64 p.l2.a, .int .i64 p.l2.b], .int .i64 per, .int .i64 st] w fun e w' => e = .returned (.tuple #[.agg #[.int .i64 0, .int .i64 0, .int .i64 0, .int .i64 0], .int .i64 11]) ∧ Below w.heap.size w w' := by
  have HP := hide (rparts_shape p per h h2)
  clear h h2
  skip
  all_goals
    go_enter Try.func40, Try.ntmps40
    go_wp2_with (go_at_call 35; refine (HP.out _).mono ?_; rintro e w2 ⟨rfl, hb2⟩; have z2 := hb2.size; (try simp at z2); have c2x0 := bstep (b := w.heap.size) hb2 (by first | omega | (simp <;> omega)); have f2x0 := bfro (b := w.heap.size) hb2 (by first | omega | (simp <;> omega)); have y2x0 : w.heap.size < w2.heap.size := (by omega); have c2x1 := bstep (b := w.heap.size + 1) hb2 (by first | omega | (simp <;> omega)); have f2x1 := bfro (b := w.heap.size + 1) hb2 (by first | omega | (simp <;> omega)); have y2x1 : w.heap.size + 1 < w2.heap.size := (by omega))
    have H2 : Below w.heap.size w w2 := Below.trans (by repeat (first | with_reducible assumption | with_reducible refine Below.drew ?_ | with_reducible refine below_drewN ?_ _ | with_reducible refine Below.alloc ?_ (by first | omega | (simp <;> omega)) _ | with_reducible refine Below.setCell ?_ (by first | omega | (simp <;> omega)) _ | with_reducible exact Below.refl _ _)) (hb2.mono (by first | omega | (simp <;> omega)))
    refine bodyPost_ret (v := .tuple #[.agg #[.int .i64 0, .int .i64 0, .int .i64 0, .int .i64 0], _]) (by simp only [results, Try.results40]; go_simp) rfl ⟨rfl, ?_⟩
    exact (by repeat (first | with_reducible exact H2 | with_reducible refine Below.drew ?_ | with_reducible refine below_drewN ?_ _ | with_reducible refine Below.setCell ?_ (by first | omega | (simp <;> omega)) _))
set_option maxHeartbeats 4000000 in
set_option maxRecDepth 100000 in
theorem rplan_st (p : Pt) (per st : Int) (h : okPer per) (h2 : p.In per) (h3 : ¬ (0 ≤ st ∧ st ≤ per)) (w : World) :
    Calls Try.prog 40 #[.agg #[.int .i64 p.l0.a, .int .i64 p.l0.b, .int .i64 p.l1.a, .int .i64 p.l1.b, .int .i64 p.l2.a, .int .i64 p.l2.b], .int .i64 per, .int .i64 st] w fun e w' => e = .returned (.tuple #[.agg #[.int .i64 0, .int .i64 0, .int .i64 0, .int .i64 0], .int .i64 3]) ∧ Below w.heap.size w w' := by
  have HP := hide (rparts_ok p per h h2)
  obtain ⟨p1, p2⟩ := h
  have hc : st < 0 ∨ (0 ≤ st ∧ per < st) := by omega
  clear h2 h3
  rcases hc with k | ⟨k, k2⟩
  all_goals
    go_enter Try.func40, Try.ntmps40
    go_wp2_with (go_at_call 35; refine (HP.out _).mono ?_; rintro e w2 ⟨v2, R2, rfl, hS2, hown2, hb2⟩; clear hS2 hown2; have z2 := hb2.size; (try simp at z2); have c2x0 := bstep (b := w.heap.size) hb2 (by first | omega | (simp <;> omega)); have f2x0 := bfro (b := w.heap.size) hb2 (by first | omega | (simp <;> omega)); have y2x0 : w.heap.size < w2.heap.size := (by omega); have c2x1 := bstep (b := w.heap.size + 1) hb2 (by first | omega | (simp <;> omega)); have f2x1 := bfro (b := w.heap.size + 1) hb2 (by first | omega | (simp <;> omega)); have y2x1 : w.heap.size + 1 < w2.heap.size := (by omega))
    have H2 : Below w.heap.size w w2 := Below.trans (by repeat (first | with_reducible assumption | with_reducible refine Below.drew ?_ | with_reducible refine below_drewN ?_ _ | with_reducible refine Below.alloc ?_ (by first | omega | (simp <;> omega)) _ | with_reducible refine Below.setCell ?_ (by first | omega | (simp <;> omega)) _ | with_reducible exact Below.refl _ _)) (hb2.mono (by first | omega | (simp <;> omega)))
    refine bodyPost_ret (v := .tuple #[.agg #[.int .i64 0, .int .i64 0, .int .i64 0, .int .i64 0], _]) (by simp only [results, Try.results40]; go_simp) rfl ⟨rfl, ?_⟩
    exact (by repeat (first | with_reducible exact H2 | with_reducible refine Below.drew ?_ | with_reducible refine below_drewN ?_ _ | with_reducible refine Below.setCell ?_ (by first | omega | (simp <;> omega)) _))
set_option maxHeartbeats 16000000 in
set_option maxRecDepth 100000 in
theorem plan_ok (p : Pt) (per st : Int) (R : List Prt) (h : okPer per) (h2 : p.In per) (h3 : 0 ≤ st ∧ st ≤ per) (hS : Segs p.on per R) (w : World) :
    Calls Try.prog 27 #[.agg #[.int .i64 p.l0.a, .int .i64 p.l0.b, .int .i64 p.l1.a, .int .i64 p.l1.b, .int .i64 p.l2.a, .int .i64 p.l2.b], .int .i64 per, .int .i64 st] w fun e w' => e = .returned (.tuple #[.agg #[.int .i64 (plO (find st R.reverse) 0), .int .i64 (plO (find st R.reverse) 1), .int .i64 (plO (find st R.reverse) 2), .int .i64 (plO (find st R.reverse) 3)], errV (plC p per st R)]) ∧ Below w.heap.size w w' := by
  have HP := hide (parts_ok p per h h2)
  have hN := hide (fun h4 => plC_none (p := p) (R := R) h h2 h3 h4)
  have hY := hide (fun x h4 => plC_some (p := p) (R := R) (x := x) h h2 h3 h4)
  have hSS := hide hS
  obtain ⟨L, hL⟩ : ∃ L, L = R.reverse := ⟨_, rfl⟩
  rw [← hL] at hN hY ⊢
  replace hL := hide hL
  obtain ⟨p1, p2⟩ := h
  obtain ⟨s1, s2⟩ := h3
  clear h2 hS
  go_enter Try.func27, Try.ntmps27
  go_upto_region 6 with (first | (go_at_call 34; refine (HP.out _).mono ?_; rintro e w2 ⟨v2, R2, rfl, hS2, hown2, hb2⟩; have z2 := hb2.size; (try simp at z2); have c2x0 := bstep (b := w.heap.size) hb2 (by first | omega | (simp <;> omega)); have f2x0 := bfro (b := w.heap.size) hb2 (by first | omega | (simp <;> omega)); have y2x0 : w.heap.size < w2.heap.size := (by omega); have c2x1 := bstep (b := w.heap.size + 1) hb2 (by first | omega | (simp <;> omega)); have f2x1 := bfro (b := w.heap.size + 1) hb2 (by first | omega | (simp <;> omega)); have y2x1 : w.heap.size + 1 < w2.heap.size := (by omega)) | (go_at_call 66; first | (refine (swithin_yes _ _ _ _ (by omega) (by omega)).mono ?_; rintro e w8 ⟨rfl, rfl⟩) | (refine (swithin_no _ _ _ _ (by omega)).mono ?_; rintro e w8 ⟨rfl, rfl⟩)))
  have H2 : Below w.heap.size w w2 := Below.trans (by repeat (first | with_reducible assumption | with_reducible refine Below.drew ?_ | with_reducible refine below_drewN ?_ _ | with_reducible refine Below.alloc ?_ (by first | omega | (simp <;> omega)) _ | with_reducible refine Below.setCell ?_ (by first | omega | (simp <;> omega)) _ | with_reducible exact Below.refl _ _)) (hb2.mono (by first | omega | (simp <;> omega)))
  obtain rfl : R2 = R := hS2.unique hSS.out
  have hlen := segs_len hS2
  have hend := segs_end hS2
  clear hS2
  rcases hown2.2 with ⟨rfl, hR0⟩ | ⟨g2, cap2, cur2, rfl, hbs, hc2, e1, e2, e3, e4⟩
  · rw [hR0] at hend
    simp only [endAt] at hend
    omega
  have yg2 : g2 < w2.heap.size := (Array.getElem?_eq_some_iff.1 hc2).1
  have hcell := fun k x j (hk : k < R2.length) (hx : R2.reverse[k]? = some x) (hj : j < 5) => (hown2.cellAt (k * 5 + j) (by omega)).trans (flat_at R2 k x j hx hj)
  have hsat := fun k (hk : k < R2.length) => segs_at hSS.out k hk
  have htop := fun k (hk : R2.length ≤ k) x => segs_len' k hk x
  rw [← hL.out] at hcell hsat htop
  replace hcell := hide hcell
  replace hsat := hide hsat
  replace htop := hide htop
  clear hown2 hc2 e1 e2 e3 e4 hend HP hSS
  generalize hn : R2.length = n at hcell hlen hsat htop
  clear hn hL
  go_wp2
  go_loopw [36] (fun i wo => ∃ k : Nat, k ≤ n ∧ i = .int .i64 (k : Int) ∧ (∀ (i' : Nat) a', i' < k → L[i']? = some a' → ∀ (j' : Nat) b', L[j']? = some b' → hit st a' b' = false) ∧ Below w2.heap.size w2 wo) (fun i _ => n - (intOf i).toNat)
  case atStart =>
    exact ⟨0, Nat.zero_le _, rfl, fun i' a' hi => absurd hi (by omega), Below.refl _ _⟩
  case round =>
    rename World => wo
    obtain ⟨k, hk, rfl, hno, HWX⟩ := hrel
    have hyr := HWX.size
    have crx := fun o => (HWX.cell (p := ⟨w.heap.size + 1, o, none⟩) y2x1).trans (c2x1 o)
    have frx := fun o => (HWX.frozen (p := ⟨w.heap.size + 1, o, none⟩) y2x1).trans (f2x1 o)
    have yr1 : w.heap.size + 1 < wo.heap.size := by omega
    have yrg : g2 < wo.heap.size := by omega
    by_cases hlt : k < n
    · obtain ⟨x, ha, hx4⟩ := hsat.out k hlt
      obtain ⟨xa, xb, xc⟩ := hx4.1
      clear hx4
      have j1 : (0 : Int) ≤ (k : Int) := by omega
      have j2 : (k : Int) < (n : Int) := by omega
      have a0 : wo.cell? ⟨g2, k * 5, none⟩ = some (.int .i64 x.a) := (HWX.cell (p := ⟨g2, k * 5, none⟩) yg2).trans (hcell.out k x 0 (by omega) ha (by omega))
      have a1 : wo.cell? ⟨g2, k * 5 + 1, none⟩ = some (.int .i64 x.b) := (HWX.cell (p := ⟨g2, k * 5 + 1, none⟩) yg2).trans (hcell.out k x 1 (by omega) ha (by omega))
      have a2 : wo.cell? ⟨g2, k * 5 + 2, none⟩ = some (.bool x.n.1) := (HWX.cell (p := ⟨g2, k * 5 + 2, none⟩) yg2).trans (hcell.out k x 2 (by omega) ha (by omega))
      have a3 : wo.cell? ⟨g2, k * 5 + 3, none⟩ = some (.bool x.n.2.1) := (HWX.cell (p := ⟨g2, k * 5 + 3, none⟩) yg2).trans (hcell.out k x 3 (by omega) ha (by omega))
      have a4 : wo.cell? ⟨g2, k * 5 + 4, none⟩ = some (.bool x.n.2.2) := (HWX.cell (p := ⟨g2, k * 5 + 4, none⟩) yg2).trans (hcell.out k x 4 (by omega) ha (by omega))
      have a5 : wo.cell? ⟨g2, k * 5 + 2 + 1, none⟩ = some (.bool x.n.2.1) := a3
      have a6 : wo.cell? ⟨g2, k * 5 + 2 + 2, none⟩ = some (.bool x.n.2.2) := a4
      have HNO := hide (fun h2 => NoOut_more ha hno h2)
      have hno' := hide hno
      clear hno
      by_cases c1 : cntOn x.n = 1
      · by_cases c2 : st < x.b - x.a
        · go_wp2_with (go_at_call 67; refine (alone_on x _).mono ?_; rintro e w4 ⟨⟨g, rfl, hl1, hl2, hl3⟩, hb4⟩; have z4 := hb4.size; (try simp at z4); have c4x0 := bstep (b := w.heap.size + 1) hb4 (by first | omega | (simp <;> omega)); have f4x0 := bfro (b := w.heap.size + 1) hb4 (by first | omega | (simp <;> omega)); have y4x0 : w.heap.size + 1 < w4.heap.size := (by omega); have c4x1 := bstep (b := wo.heap.size) hb4 (by first | omega | (simp <;> omega)); have f4x1 := bfro (b := wo.heap.size) hb4 (by first | omega | (simp <;> omega)); have y4x1 : wo.heap.size < w4.heap.size := (by omega); have c4x2 := bstep (b := g2) hb4 (by first | omega | (simp <;> omega)); have f4x2 := bfro (b := g2) hb4 (by first | omega | (simp <;> omega)); have y4x2 : g2 < w4.heap.size := (by omega))
          have HX4 : Below w2.heap.size w2 w4 := Below.trans (by exact (by repeat (first | with_reducible exact HWX | with_reducible refine Below.drew ?_ | with_reducible refine below_drewN ?_ _ | with_reducible refine Below.alloc ?_ (by first | omega | (simp <;> omega)) _ | with_reducible refine Below.setCell ?_ (by first | omega | (simp <;> omega)) _))) (hb4.mono (by first | omega | (simp <;> omega)))
          have hlg := hl1 c1
          go_loopw [58] (fun j wx => ∃ m : Nat, m ≤ n ∧ j = .int .i64 (m : Int) ∧ (∀ (j' : Nat) b', j' < m → L[j']? = some b' → hit st x b' = false) ∧ Below w4.heap.size w4 wx) (fun j _ => n - (intOf j).toNat)
          case atStart =>
            exact ⟨0, Nat.zero_le _, rfl, fun j' b' hj => absurd hj (by omega), Below.refl _ _⟩
          case round =>
            rename World => wx
            obtain ⟨m, hm, rfl, hnj, HXX⟩ := hrel
            have hyx := HXX.size
            have HX : Below w2.heap.size w2 wx := HX4.trans (HXX.mono (by omega))
            have crx' := fun o => (HX.cell (p := ⟨w.heap.size + 1, o, none⟩) y2x1).trans (c2x1 o)
            have frx' := fun o => (HX.frozen (p := ⟨w.heap.size + 1, o, none⟩) y2x1).trans (f2x1 o)
            have cxx := fun o => (HXX.cell (p := ⟨wo.heap.size, o, none⟩) y4x1).trans (c4x1 o)
            have yx1 : w.heap.size + 1 < wx.heap.size := by omega
            have yxg : g2 < wx.heap.size := by omega
            have yxr : wo.heap.size < wx.heap.size := by omega
            by_cases hlm : m < n
            · obtain ⟨y, hb, hy4⟩ := hsat.out m hlm
              obtain ⟨ya, yb, yc⟩ := hy4.1
              clear hy4
              have j3 : (0 : Int) ≤ (m : Int) := by omega
              have j4 : (m : Int) < (n : Int) := by omega
              have b0 : wx.cell? ⟨g2, m * 5, none⟩ = some (.int .i64 y.a) := (HX.cell (p := ⟨g2, m * 5, none⟩) yg2).trans (hcell.out m y 0 (by omega) hb (by omega))
              have b1 : wx.cell? ⟨g2, m * 5 + 1, none⟩ = some (.int .i64 y.b) := (HX.cell (p := ⟨g2, m * 5 + 1, none⟩) yg2).trans (hcell.out m y 1 (by omega) hb (by omega))
              have b2 : wx.cell? ⟨g2, m * 5 + 2, none⟩ = some (.bool y.n.1) := (HX.cell (p := ⟨g2, m * 5 + 2, none⟩) yg2).trans (hcell.out m y 2 (by omega) hb (by omega))
              have b3 : wx.cell? ⟨g2, m * 5 + 3, none⟩ = some (.bool y.n.2.1) := (HX.cell (p := ⟨g2, m * 5 + 3, none⟩) yg2).trans (hcell.out m y 3 (by omega) hb (by omega))
              have b4 : wx.cell? ⟨g2, m * 5 + 4, none⟩ = some (.bool y.n.2.2) := (HX.cell (p := ⟨g2, m * 5 + 4, none⟩) yg2).trans (hcell.out m y 4 (by omega) hb (by omega))
              have b5 : wx.cell? ⟨g2, m * 5 + 2 + 1, none⟩ = some (.bool y.n.2.1) := b3
              have b6 : wx.cell? ⟨g2, m * 5 + 2 + 2, none⟩ = some (.bool y.n.2.2) := b4
              have HNI := hide (fun h2 => NoIn_more hb hnj h2)
              have hnj' := hide hnj
              clear hnj
              by_cases c3 : cntOn y.n = 2
              · by_cases c4 : st < y.b - y.a
                · go_upto_region 15 with (go_at_call 67; refine (alone_off y _).mono ?_; rintro e w6 ⟨⟨h, rfl, hm1, hm2, hm3⟩, hb6⟩; have z6 := hb6.size; (try simp at z6); have c6x0 := bstep (b := w.heap.size + 1) hb6 (by first | omega | (simp <;> omega)); have f6x0 := bfro (b := w.heap.size + 1) hb6 (by first | omega | (simp <;> omega)); have y6x0 : w.heap.size + 1 < w6.heap.size := (by omega); have c6x1 := bstep (b := wo.heap.size) hb6 (by first | omega | (simp <;> omega)); have f6x1 := bfro (b := wo.heap.size) hb6 (by first | omega | (simp <;> omega)); have y6x1 : wo.heap.size < w6.heap.size := (by omega); have c6x2 := bstep (b := g2) hb6 (by first | omega | (simp <;> omega)); have f6x2 := bfro (b := g2) hb6 (by first | omega | (simp <;> omega)); have y6x2 : g2 < w6.heap.size := (by omega); have c6x3 := bstep (b := wx.heap.size) hb6 (by first | omega | (simp <;> omega)); have f6x3 := bfro (b := wx.heap.size) hb6 (by first | omega | (simp <;> omega)); have y6x3 : wx.heap.size < w6.heap.size := (by omega))
                  have HX6 : Below w2.heap.size w2 w6 := Below.trans (by exact (by repeat (first | with_reducible exact HX | with_reducible refine Below.drew ?_ | with_reducible refine below_drewN ?_ _ | with_reducible refine Below.alloc ?_ (by first | omega | (simp <;> omega)) _ | with_reducible refine Below.setCell ?_ (by first | omega | (simp <;> omega)) _))) (hb6.mono (by first | omega | (simp <;> omega)))
                  have hmg := hm1 c3
                  by_cases c5 : h = g
                  · have hq := hide (HNI.out (hit_no5 (by rw [← hlg, ← hmg, c5])))
                    replace hlg := hide hlg
                    replace hmg := hide hmg
                    go_wp2
                    go_roundw
                    case rel => exact ⟨m + 1, by omega, by go_num, hq.out, Below.trans (by exact (by repeat (first | with_reducible exact HXX | with_reducible refine Below.drew ?_ | with_reducible refine below_drewN ?_ _ | with_reducible refine Below.alloc ?_ (by first | omega | (simp <;> omega)) _ | with_reducible refine Below.setCell ?_ (by first | omega | (simp <;> omega)) _))) (hb6.mono (by first | omega | (simp <;> omega)))⟩
                    case measure => simp [intOf]; omega
                  · have hf := hide (find_at ha hb (hit_iff.2 ⟨c1, c3, c2, c4, by rw [← hlg, ← hmg]; exact fun e => c5 e.symm⟩) hno'.out hnj'.out)
                    have hc := hide (hY.out (x, y) hf.out)
                    replace hlg := hide hlg
                    replace hmg := hide hmg
                    go_wp2
                    refine bodyPost_ret (v := .tuple #[.agg #[.int .i64 (x.b - 1), .int .i64 (y.b - 1), .int .i64 g, .int .i64 h], .nilIface]) (by simp only [results, Try.results27]; go_simp) rfl ⟨ret_plan (by rw [hf.out]; rfl) (by rw [hf.out]; rfl) (by rw [hf.out]; exact hlg.out) (by rw [hf.out]; exact hmg.out) (by rw [hc.out]; rfl), ?_⟩
                    exact (by repeat (first | exact H2.trans (HX6.mono (by omega)) | with_reducible refine Below.drew ?_ | with_reducible refine Below.setCell ?_ (by first | omega | (simp <;> omega)) _))
                · have hq := hide (HNI.out (hit_no4 c4))
                  go_wp2_with (go_at_call 67; refine (alone_off y _).mono ?_; rintro e w6 ⟨⟨h, rfl, hm1, hm2, hm3⟩, hb6⟩; have z6 := hb6.size; (try simp at z6); have c6x0 := bstep (b := w.heap.size + 1) hb6 (by first | omega | (simp <;> omega)); have f6x0 := bfro (b := w.heap.size + 1) hb6 (by first | omega | (simp <;> omega)); have y6x0 : w.heap.size + 1 < w6.heap.size := (by omega); have c6x1 := bstep (b := wo.heap.size) hb6 (by first | omega | (simp <;> omega)); have f6x1 := bfro (b := wo.heap.size) hb6 (by first | omega | (simp <;> omega)); have y6x1 : wo.heap.size < w6.heap.size := (by omega); have c6x2 := bstep (b := g2) hb6 (by first | omega | (simp <;> omega)); have f6x2 := bfro (b := g2) hb6 (by first | omega | (simp <;> omega)); have y6x2 : g2 < w6.heap.size := (by omega); have c6x3 := bstep (b := wx.heap.size) hb6 (by first | omega | (simp <;> omega)); have f6x3 := bfro (b := wx.heap.size) hb6 (by first | omega | (simp <;> omega)); have y6x3 : wx.heap.size < w6.heap.size := (by omega))
                  go_roundw
                  case rel => exact ⟨m + 1, by omega, by go_num, hq.out, Below.trans (by exact (by repeat (first | with_reducible exact HXX | with_reducible refine Below.drew ?_ | with_reducible refine below_drewN ?_ _ | with_reducible refine Below.alloc ?_ (by first | omega | (simp <;> omega)) _ | with_reducible refine Below.setCell ?_ (by first | omega | (simp <;> omega)) _))) (hb6.mono (by first | omega | (simp <;> omega)))⟩
                  case measure => simp [intOf]; omega
              · have hq := hide (HNI.out (hit_no2 c3))
                go_wp2_with (go_at_call 67; refine (alone_off y _).mono ?_; rintro e w6 ⟨⟨h, rfl, hm1, hm2, hm3⟩, hb6⟩; have z6 := hb6.size; (try simp at z6); have c6x0 := bstep (b := w.heap.size + 1) hb6 (by first | omega | (simp <;> omega)); have f6x0 := bfro (b := w.heap.size + 1) hb6 (by first | omega | (simp <;> omega)); have y6x0 : w.heap.size + 1 < w6.heap.size := (by omega); have c6x1 := bstep (b := wo.heap.size) hb6 (by first | omega | (simp <;> omega)); have f6x1 := bfro (b := wo.heap.size) hb6 (by first | omega | (simp <;> omega)); have y6x1 : wo.heap.size < w6.heap.size := (by omega); have c6x2 := bstep (b := g2) hb6 (by first | omega | (simp <;> omega)); have f6x2 := bfro (b := g2) hb6 (by first | omega | (simp <;> omega)); have y6x2 : g2 < w6.heap.size := (by omega); have c6x3 := bstep (b := wx.heap.size) hb6 (by first | omega | (simp <;> omega)); have f6x3 := bfro (b := wx.heap.size) hb6 (by first | omega | (simp <;> omega)); have y6x3 : wx.heap.size < w6.heap.size := (by omega))
                go_roundw
                case rel => exact ⟨m + 1, by omega, by go_num, hq.out, Below.trans (by exact (by repeat (first | with_reducible exact HXX | with_reducible refine Below.drew ?_ | with_reducible refine below_drewN ?_ _ | with_reducible refine Below.alloc ?_ (by first | omega | (simp <;> omega)) _ | with_reducible refine Below.setCell ?_ (by first | omega | (simp <;> omega)) _))) (hb6.mono (by first | omega | (simp <;> omega)))⟩
                case measure => simp [intOf]; omega
            · have em : m = n := by omega
              subst em
              have hq := hide (HNO.out (fun j b hj => hnj j b (by
                by_cases e : j < m
                · exact e
                · exact absurd hj (htop.out j (by omega) b)) hj))
              go_wp2
              go_roundw
              case rel => exact ⟨k + 1, by omega, by go_num, hq.out, HX⟩
              case measure => simp [intOf]; omega
        · have hq := hide (HNO.out (fun j b' _ => hit_no3 c2))
          go_wp2_with (go_at_call 67; refine (alone_on x _).mono ?_; rintro e w4 ⟨⟨g, rfl, hl1, hl2, hl3⟩, hb4⟩; have z4 := hb4.size; (try simp at z4); have c4x0 := bstep (b := w.heap.size + 1) hb4 (by first | omega | (simp <;> omega)); have f4x0 := bfro (b := w.heap.size + 1) hb4 (by first | omega | (simp <;> omega)); have y4x0 : w.heap.size + 1 < w4.heap.size := (by omega); have c4x1 := bstep (b := wo.heap.size) hb4 (by first | omega | (simp <;> omega)); have f4x1 := bfro (b := wo.heap.size) hb4 (by first | omega | (simp <;> omega)); have y4x1 : wo.heap.size < w4.heap.size := (by omega); have c4x2 := bstep (b := g2) hb4 (by first | omega | (simp <;> omega)); have f4x2 := bfro (b := g2) hb4 (by first | omega | (simp <;> omega)); have y4x2 : g2 < w4.heap.size := (by omega))
          have HX4 : Below w2.heap.size w2 w4 := Below.trans (by exact (by repeat (first | with_reducible exact HWX | with_reducible refine Below.drew ?_ | with_reducible refine below_drewN ?_ _ | with_reducible refine Below.alloc ?_ (by first | omega | (simp <;> omega)) _ | with_reducible refine Below.setCell ?_ (by first | omega | (simp <;> omega)) _))) (hb4.mono (by first | omega | (simp <;> omega)))
          go_roundw
          case rel => exact ⟨k + 1, by omega, by go_num, hq.out, HX4⟩
          case measure => simp [intOf]; omega
      · have hq := hide (HNO.out (fun j b' _ => hit_no1 c1))
        go_wp2_with (go_at_call 67; refine (alone_on x _).mono ?_; rintro e w4 ⟨⟨g, rfl, hl1, hl2, hl3⟩, hb4⟩; have z4 := hb4.size; (try simp at z4); have c4x0 := bstep (b := w.heap.size + 1) hb4 (by first | omega | (simp <;> omega)); have f4x0 := bfro (b := w.heap.size + 1) hb4 (by first | omega | (simp <;> omega)); have y4x0 : w.heap.size + 1 < w4.heap.size := (by omega); have c4x1 := bstep (b := wo.heap.size) hb4 (by first | omega | (simp <;> omega)); have f4x1 := bfro (b := wo.heap.size) hb4 (by first | omega | (simp <;> omega)); have y4x1 : wo.heap.size < w4.heap.size := (by omega); have c4x2 := bstep (b := g2) hb4 (by first | omega | (simp <;> omega)); have f4x2 := bfro (b := g2) hb4 (by first | omega | (simp <;> omega)); have y4x2 : g2 < w4.heap.size := (by omega))
        have HX4 : Below w2.heap.size w2 w4 := Below.trans (by exact (by repeat (first | with_reducible exact HWX | with_reducible refine Below.drew ?_ | with_reducible refine below_drewN ?_ _ | with_reducible refine Below.alloc ?_ (by first | omega | (simp <;> omega)) _ | with_reducible refine Below.setCell ?_ (by first | omega | (simp <;> omega)) _))) (hb4.mono (by first | omega | (simp <;> omega)))
        go_roundw
        case rel => exact ⟨k + 1, by omega, by go_num, hq.out, HX4⟩
        case measure => simp [intOf]; omega
    · have ek : k = n := by omega
      subst ek
      have hf := find_no (s := st) (l := L) (fun i a hi j b hj => hno i a (by
        by_cases e : i < k
        · exact e
        · exact absurd hi (htop.out i (by omega) a)) hi j b hj)
      have hc := hide (hN.out hf)
      clear hno hN hY
      go_wp2
      refine bodyPost_ret (v := .tuple #[.agg #[.int .i64 0, .int .i64 0, .int .i64 0, .int .i64 0], .iface 96 (.int .i64 22)]) (by simp only [results, Try.results27]; go_simp) rfl ⟨ret_plan (by rw [hf]; rfl) (by rw [hf]; rfl) (by rw [hf]; rfl) (by rw [hf]; rfl) (by rw [hc.out]; rfl), ?_⟩
      exact (by repeat (first | exact H2.trans (HWX.mono (by omega)) | with_reducible refine Below.setCell ?_ (by first | omega | (simp <;> omega)) _))
end Go.Proofs.Ytjeomdfcfbfebaa

/- Walks of Sample, of the program and of the reference: the current through the shunt at a count, or the number of the error, for every input. -/
import Derived.Test.YtjeomdfcfbfebaaShB
import Derived.Test.YtjeomdfcfbfebaaPatG
namespace Go.Proofs.Ytjeomdfcfbfebaa
open Go.RowKit PM

namespace PM
def I3 (i0 i1 i2 : Int) (k : Nat) : Int := if k = 0 then i0 else if k = 1 then i1 else i2
/-- The current of the first k legs at a count. -/
def sumTo (p : Pt) (t : Int) (I : Nat → Int) : Nat → Int
  | 0 => 0
  | k + 1 => sumTo p t I k + (if (p.leg k).on t then I k else 0)
theorem sumTo_bd (p : Pt) (t : Int) (I : Nat → Int) : ∀ k : Nat, (∀ j : Nat, j < k → small (I j)) → -(k * 1073741824) ≤ sumTo p t I k ∧ sumTo p t I k ≤ k * 1073741824
  | 0, _ => by simp [sumTo]
  | k + 1, h => by
    obtain ⟨a, b⟩ := sumTo_bd p t I k (fun j hj => h j (by omega))
    obtain ⟨c, d⟩ := h k (by omega)
    simp only [sumTo]
    split <;> omega
theorem sumTo_on {p : Pt} {t : Int} {I : Nat → Int} {k : Nat} (h : (p.leg k).on t = true) : sumTo p t I (k + 1) = sumTo p t I k + I k := by simp only [sumTo, h, if_true]
theorem sumTo_off {p : Pt} {t : Int} {I : Nat → Int} {k : Nat} (h : (p.leg k).on t = false) : sumTo p t I (k + 1) = sumTo p t I k := by simp [sumTo, h]
def okAt (per t i0 i1 i2 : Int) : Prop := (0 ≤ t ∧ t < per) ∧ small i0 ∧ small i1 ∧ small i2
instance (per t i0 i1 i2 : Int) : Decidable (okAt per t i0 i1 i2) := by unfold okAt; infer_instance
/-- The number of Sample's error. -/
def smC (p : Pt) (per t i0 i1 i2 : Int) : Int := if okPer per then (if p.In per then (if okAt per t i0 i1 i2 then 0 else 3) else 11) else 3
def smV (p : Pt) (per t i0 i1 i2 : Int) : Int := if smC p per t i0 i1 i2 = 0 then sumTo p t (I3 i0 i1 i2) 3 else 0
theorem smC_per {p : Pt} {per t i0 i1 i2 : Int} (h : ¬ okPer per) : smC p per t i0 i1 i2 = 3 := by unfold smC; rw [if_neg h]
theorem smC_bad {p : Pt} {per t i0 i1 i2 : Int} (h : okPer per) (h2 : ¬ p.In per) : smC p per t i0 i1 i2 = 11 := by unfold smC; rw [if_pos h, if_neg h2]
theorem smC_at {p : Pt} {per t i0 i1 i2 : Int} (h : okPer per) (h2 : p.In per) (h3 : ¬ okAt per t i0 i1 i2) : smC p per t i0 i1 i2 = 3 := by unfold smC; rw [if_pos h, if_pos h2, if_neg h3]
theorem smC_ok {p : Pt} {per t i0 i1 i2 : Int} (h : okPer per) (h2 : p.In per) (h3 : okAt per t i0 i1 i2) : smC p per t i0 i1 i2 = 0 := by unfold smC; rw [if_pos h, if_pos h2, if_pos h3]
theorem smV_no {p : Pt} {per t i0 i1 i2 c : Int} (h : smC p per t i0 i1 i2 = c) (hc : ¬ c = 0) : smV p per t i0 i1 i2 = 0 := by unfold smV; rw [if_neg (by rw [h]; exact hc)]
theorem smV_ok {p : Pt} {per t i0 i1 i2 : Int} (h : smC p per t i0 i1 i2 = 0) : smV p per t i0 i1 i2 = sumTo p t (I3 i0 i1 i2) 3 := by unfold smV; rw [if_pos h]
theorem okAt_all {per t i0 i1 i2 : Int} (h : 0 ≤ t ∧ t < per) (hs : ∀ j : Nat, j < 3 → small (I3 i0 i1 i2 j)) : okAt per t i0 i1 i2 := ⟨h, hs 0 (by omega), hs 1 (by omega), hs 2 (by omega)⟩
theorem okAt_not {per t i0 i1 i2 : Int} {k : Nat} (hk : k < 3) (h : ¬ small (I3 i0 i1 i2 k)) : ¬ okAt per t i0 i1 i2 := by
  rintro ⟨_, a, b, c⟩
  obtain rfl | rfl | rfl : k = 0 ∨ k = 1 ∨ k = 2 := by omega
  · exact h a
  · exact h b
  · exact h c
theorem okAt_I {per t i0 i1 i2 : Int} (h : okAt per t i0 i1 i2) : ∀ j : Nat, j < 3 → small (I3 i0 i1 i2 j) := by
  obtain ⟨_, a, b, c⟩ := h
  intro j hj
  obtain rfl | rfl | rfl : j = 0 ∨ j = 1 ∨ j = 2 := by omega
  · exact a
  · exact b
  · exact c
end PM
theorem ixBN (p : Pt) (t : Int) (k : Nat) (hk : k < 3) (w : World) : (Instr.index 67 (.agg #[.bool (p.l0.on t), .bool (p.l1.on t), .bool (p.l2.on t)]) (.int .i64 (k : Int))).run Try.prog w = .ok (.bool ((p.leg k).on t)) w := by
  obtain rfl | rfl | rfl : k = 0 ∨ k = 1 ∨ k = 2 := by omega
  · exact ixB0 _ _ _ w
  · exact ixB1 _ _ _ w
  · exact ixB2 _ _ _ w
theorem at_two (w : World) (P : Obj) (t : TypeId) (i0 i1 i2 : Int) (k : Nat) (hk : k < 3) : ((w.alloc P).alloc (.cells #[.int .i64 i0, .int .i64 i1, .int .i64 i2] t)).cell? ⟨w.heap.size + 1, k, none⟩ = some (.int .i64 (I3 i0 i1 i2 k)) := by
  obtain rfl | rfl | rfl : k = 0 ∨ k = 1 ∨ k = 2 := by omega
  all_goals simp [I3]
theorem ret_two {x y : Int} {e f : Value} (h0 : x = y) (h1 : e = f) : Ending.returned (.tuple #[.int .i64 x, e]) = .returned (.tuple #[.int .i64 y, f]) := by rw [h0, h1]
set_option maxHeartbeats 4000000 in
set_option maxRecDepth 100000 in
theorem sample_per (p : Pt) (per t i0 i1 i2 : Int) (h : ¬ okPer per) (w : World) :
    Calls Try.prog 28 #[.agg #[.int .i64 p.l0.a, .int .i64 p.l0.b, .int .i64 p.l1.a, .int .i64 p.l1.b, .int .i64 p.l2.a, .int .i64 p.l2.b], .int .i64 per, .int .i64 t, .agg #[.int .i64 i0, .int .i64 i1, .int .i64 i2]] w fun e w' => e = .returned (.tuple #[.int .i64 0, .iface 96 (.int .i64 3)]) ∧ Below w.heap.size w w' := by
  have HP := hide (parts_per p per h)
  clear h
  go_enter Try.func28, Try.ntmps28
  go_wp2_with (go_at_call 34; refine (HP.out _).mono ?_; rintro e w2 ⟨rfl, hb2⟩; have z2 := hb2.size; (try simp at z2); have c2x0 := bstep (b := w.heap.size) hb2 (by first | omega | (simp <;> omega)); have y2x0 : w.heap.size < w2.heap.size := (by omega); have c2x1 := bstep (b := w.heap.size + 1) hb2 (by first | omega | (simp <;> omega)); have y2x1 : w.heap.size + 1 < w2.heap.size := (by omega))
  refine bodyPost_ret (results_tmp2 rfl _ _ _) rfl ?_
  exact ⟨rfl, by exact (Below.trans (by repeat (first | with_reducible assumption | with_reducible refine Below.drew ?_ | with_reducible refine below_drewN ?_ _ | with_reducible refine Below.alloc ?_ (by first | omega | (simp <;> omega)) _ | with_reducible refine Below.setCell ?_ (by first | omega | (simp <;> omega)) _ | with_reducible exact Below.refl _ _)) (hb2.mono (by first | omega | (simp <;> omega))))⟩
set_option maxHeartbeats 4000000 in
set_option maxRecDepth 100000 in
theorem sample_bad (p : Pt) (per t i0 i1 i2 : Int) (h : okPer per) (h2 : ¬ p.In per) (w : World) :
    Calls Try.prog 28 #[.agg #[.int .i64 p.l0.a, .int .i64 p.l0.b, .int .i64 p.l1.a, .int .i64 p.l1.b, .int .i64 p.l2.a, .int .i64 p.l2.b], .int .i64 per, .int .i64 t, .agg #[.int .i64 i0, .int .i64 i1, .int .i64 i2]] w fun e w' => e = .returned (.tuple #[.int .i64 0, .iface 96 (.int .i64 11)]) ∧ Below w.heap.size w w' := by
  have HP := hide (parts_shape p per h h2)
  clear h h2
  go_enter Try.func28, Try.ntmps28
  go_wp2_with (go_at_call 34; refine (HP.out _).mono ?_; rintro e w2 ⟨rfl, hb2⟩; have z2 := hb2.size; (try simp at z2); have c2x0 := bstep (b := w.heap.size) hb2 (by first | omega | (simp <;> omega)); have y2x0 : w.heap.size < w2.heap.size := (by omega); have c2x1 := bstep (b := w.heap.size + 1) hb2 (by first | omega | (simp <;> omega)); have y2x1 : w.heap.size + 1 < w2.heap.size := (by omega))
  refine bodyPost_ret (results_tmp2 rfl _ _ _) rfl ?_
  exact ⟨rfl, by exact (Below.trans (by repeat (first | with_reducible assumption | with_reducible refine Below.drew ?_ | with_reducible refine below_drewN ?_ _ | with_reducible refine Below.alloc ?_ (by first | omega | (simp <;> omega)) _ | with_reducible refine Below.setCell ?_ (by first | omega | (simp <;> omega)) _ | with_reducible exact Below.refl _ _)) (hb2.mono (by first | omega | (simp <;> omega))))⟩
set_option maxHeartbeats 4000000 in
set_option maxRecDepth 100000 in
theorem sample_at (p : Pt) (per t i0 i1 i2 : Int) (h : okPer per) (h2 : p.In per) (h3 : ¬ (0 ≤ t ∧ t < per)) (w : World) :
    Calls Try.prog 28 #[.agg #[.int .i64 p.l0.a, .int .i64 p.l0.b, .int .i64 p.l1.a, .int .i64 p.l1.b, .int .i64 p.l2.a, .int .i64 p.l2.b], .int .i64 per, .int .i64 t, .agg #[.int .i64 i0, .int .i64 i1, .int .i64 i2]] w fun e w' => e = .returned (.tuple #[.int .i64 0, .iface 96 (.int .i64 3)]) ∧ Below w.heap.size w w' := by
  have HP := hide (parts_ok p per h h2)
  obtain ⟨p1, p2⟩ := h
  clear h2
  go_enter Try.func28, Try.ntmps28
  go_wp2_with (first | (go_at_call 34; refine (HP.out _).mono ?_; rintro e w2 ⟨v2, R2, rfl, hS2, hown2, hb2⟩; clear hS2 hown2; have z2 := hb2.size; (try simp at z2); have c2x0 := bstep (b := w.heap.size) hb2 (by first | omega | (simp <;> omega)); have y2x0 : w.heap.size < w2.heap.size := (by omega); have c2x1 := bstep (b := w.heap.size + 1) hb2 (by first | omega | (simp <;> omega)); have y2x1 : w.heap.size + 1 < w2.heap.size := (by omega)) | (go_at_call 66; first | (refine (swithin_yes _ _ _ _ (by omega) (by omega)).mono ?_; rintro e w8 ⟨rfl, rfl⟩) | (refine (swithin_no _ _ _ _ (by omega)).mono ?_; rintro e w8 ⟨rfl, rfl⟩)))
  refine bodyPost_ret (results_tmp2 rfl _ _ _) rfl ?_
  have H2 : Below w.heap.size w w2 := Below.trans (by repeat (first | with_reducible assumption | with_reducible refine Below.drew ?_ | with_reducible refine below_drewN ?_ _ | with_reducible refine Below.alloc ?_ (by first | omega | (simp <;> omega)) _ | with_reducible refine Below.setCell ?_ (by first | omega | (simp <;> omega)) _ | with_reducible exact Below.refl _ _)) (hb2.mono (by first | omega | (simp <;> omega)))
  exact ⟨rfl, H2⟩
set_option maxHeartbeats 8000000 in
set_option maxRecDepth 100000 in
theorem sample_ok (p : Pt) (per t i0 i1 i2 : Int) (h : okPer per) (h2 : p.In per) (h3 : 0 ≤ t ∧ t < per) (w : World) :
    Calls Try.prog 28 #[.agg #[.int .i64 p.l0.a, .int .i64 p.l0.b, .int .i64 p.l1.a, .int .i64 p.l1.b, .int .i64 p.l2.a, .int .i64 p.l2.b], .int .i64 per, .int .i64 t, .agg #[.int .i64 i0, .int .i64 i1, .int .i64 i2]] w fun e w' => e = .returned (.tuple #[.int .i64 (smV p per t i0 i1 i2), errV (smC p per t i0 i1 i2)]) ∧ Below w.heap.size w w' := by
  have HP := hide (parts_ok p per h h2)
  have hC3 := hide (fun (h4 : ¬ okAt per t i0 i1 i2) => smC_at (p := p) h h2 h4)
  have hC0 := hide (fun (h4 : okAt per t i0 i1 i2) => smC_ok (p := p) h h2 h4)
  have h33 := hide h3
  obtain ⟨p1, p2⟩ := h
  obtain ⟨t1, t2⟩ := h3
  clear h2
  go_enter Try.func28, Try.ntmps28
  go_wp2_with (first | (go_at_call 34; refine (HP.out _).mono ?_; rintro e w2 ⟨v2, R2, rfl, hS2, hown2, hb2⟩; clear hS2 hown2; have z2 := hb2.size; (try simp at z2); have c2x0 := bstep (b := w.heap.size) hb2 (by first | omega | (simp <;> omega)); have y2x0 : w.heap.size < w2.heap.size := (by omega); have c2x1 := bstep (b := w.heap.size + 1) hb2 (by first | omega | (simp <;> omega)); have y2x1 : w.heap.size + 1 < w2.heap.size := (by omega)) | (go_at_call 66; first | (refine (swithin_yes _ _ _ _ (by omega) (by omega)).mono ?_; rintro e w8 ⟨rfl, rfl⟩) | (refine (swithin_no _ _ _ _ (by omega)).mono ?_; rintro e w8 ⟨rfl, rfl⟩)))
  have H2 : Below w.heap.size w w2 := Below.trans (by repeat (first | with_reducible assumption | with_reducible refine Below.drew ?_ | with_reducible refine below_drewN ?_ _ | with_reducible refine Below.alloc ?_ (by first | omega | (simp <;> omega)) _ | with_reducible refine Below.setCell ?_ (by first | omega | (simp <;> omega)) _ | with_reducible exact Below.refl _ _)) (hb2.mono (by first | omega | (simp <;> omega)))
  go_loopw [12, 31] (fun s i wr => ∃ k : Nat, k ≤ 3 ∧ i = .int .i64 (k : Int) ∧ s = .int .i64 (sumTo p t (I3 i0 i1 i2) k) ∧ (∀ j : Nat, j < k → PM.small (I3 i0 i1 i2 j)) ∧ Below w2.heap.size w2 wr) (fun _ i _ => 3 - (intOf i).toNat)
  case atStart =>
    exact ⟨0, by omega, rfl, rfl, fun j hj => absurd hj (by omega), Below.refl _ _⟩
  case round =>
    obtain ⟨k, hk, rfl, rfl, hsm, HW⟩ := hrel
    have hyr := HW.size
    by_cases hlt : k < 3
    · have hI : wr.cell? ⟨w.heap.size + 1, k, none⟩ = some (.int .i64 (I3 i0 i1 i2 k)) := (HW.cell (p := ⟨w.heap.size + 1, k, none⟩) (by show w.heap.size + 1 < w2.heap.size; omega)).trans ((c2x1 k).trans (at_two w _ _ i0 i1 i2 k hlt))
      have yw : w.heap.size + 1 < wr.heap.size := by omega
      have hbd := sumTo_bd p t (I3 i0 i1 i2) k hsm
      have hon := hide (fun h => sumTo_on (p := p) (t := t) (I := I3 i0 i1 i2) (k := k) h)
      have hof := hide (fun h => sumTo_off (p := p) (t := t) (I := I3 i0 i1 i2) (k := k) h)
      have j1 : (0 : Int) ≤ (k : Int) := by omega
      have j2 : (k : Int) < 3 := by omega
      have hix := ixLegN p k hlt
      have hsn := hide (fun (h0 : PM.small (I3 i0 i1 i2 k)) (j : Nat) (hj : j < k + 1) => show PM.small (I3 i0 i1 i2 j) from if e : j < k then hsm j e else by rw [show j = k by omega]; exact h0)
      have hno := hide (fun (h0 : ¬ PM.small (I3 i0 i1 i2 k)) => okAt_not (per := per) (t := t) hlt h0)
      clear hsm
      generalize I3 i0 i1 i2 k = x at hI hon hof hsn hno
      generalize sumTo p t (I3 i0 i1 i2) k = s at hbd hon hof
      generalize p.leg k = l at hix hon hof
      by_cases hx : PM.small x
      · have hsn := hsn.out hx
        replace hsn := hide hsn
        obtain ⟨x1, x2⟩ := hx
        clear hno hC3 hC0
        by_cases hla : l.a ≤ t
        · by_cases hlb : t < l.b
          · have hv := hide (hon.out (by simp [Lg.on, hla, hlb]))
            clear hon hof
            go_wp2_with (go_at_call 66; first | (refine (swithin_yes _ _ _ _ (by omega) (by omega)).mono ?_; rintro e w8 ⟨rfl, rfl⟩) | (refine (swithin_no _ _ _ _ (by omega)).mono ?_; rintro e w8 ⟨rfl, rfl⟩))
            go_roundw
            case rel => exact ⟨k + 1, by omega, by go_num, by rw [hv.out], hsn.out, by exact (by repeat (first | with_reducible exact HW | with_reducible refine Below.drew ?_ | with_reducible refine below_drewN ?_ _ | with_reducible refine Below.alloc ?_ (by first | omega | (simp <;> omega)) _))⟩
            case measure => simp [intOf]; omega
          · have hv := hide (hof.out (by simp [Lg.on, hlb]))
            clear hon hof
            go_wp2_with (go_at_call 66; first | (refine (swithin_yes _ _ _ _ (by omega) (by omega)).mono ?_; rintro e w8 ⟨rfl, rfl⟩) | (refine (swithin_no _ _ _ _ (by omega)).mono ?_; rintro e w8 ⟨rfl, rfl⟩))
            go_roundw
            case rel => exact ⟨k + 1, by omega, by go_num, by rw [hv.out], hsn.out, by exact (by repeat (first | with_reducible exact HW | with_reducible refine Below.drew ?_ | with_reducible refine below_drewN ?_ _ | with_reducible refine Below.alloc ?_ (by first | omega | (simp <;> omega)) _))⟩
            case measure => simp [intOf]; omega
        · have hv := hide (hof.out (by simp [Lg.on, hla]))
          clear hon hof
          go_wp2_with (go_at_call 66; first | (refine (swithin_yes _ _ _ _ (by omega) (by omega)).mono ?_; rintro e w8 ⟨rfl, rfl⟩) | (refine (swithin_no _ _ _ _ (by omega)).mono ?_; rintro e w8 ⟨rfl, rfl⟩))
          go_roundw
          case rel => exact ⟨k + 1, by omega, by go_num, by rw [hv.out], hsn.out, by exact (by repeat (first | with_reducible exact HW | with_reducible refine Below.drew ?_ | with_reducible refine below_drewN ?_ _ | with_reducible refine Below.alloc ?_ (by first | omega | (simp <;> omega)) _))⟩
          case measure => simp [intOf]; omega
      · have hc := hide (hC3.out (hno.out hx))
        unfold PM.small at hx
        clear hno hC3 hC0 hon hof hsn
        go_wp2_with (go_at_call 66; first | (refine (swithin_yes _ _ _ _ (by omega) (by omega)).mono ?_; rintro e w8 ⟨rfl, rfl⟩) | (refine (swithin_no _ _ _ _ (by omega)).mono ?_; rintro e w8 ⟨rfl, rfl⟩))
        refine bodyPost_ret (results_tmp2 rfl _ _ _) rfl ?_
        exact ⟨ret_two (smV_no hc.out (by decide)).symm (by rw [hc.out]; rfl), Below.trans H2 (Below.mono (by exact (by repeat (first | with_reducible exact HW | with_reducible refine Below.drew ?_ | with_reducible refine below_drewN ?_ _ | with_reducible refine Below.alloc ?_ (by first | omega | (simp <;> omega)) _))) (by omega))⟩
    · have ek : k = 3 := by omega
      subst ek
      have hc := hide (hC0.out (okAt_all h33.out hsm))
      clear hC3 hC0 hsm
      go_wp2
      refine bodyPost_ret (results_tmp2 rfl _ _ _) rfl ?_
      exact ⟨ret_two (smV_ok hc.out).symm (by rw [hc.out]; rfl), H2.trans (HW.mono (by omega))⟩
theorem sample_any (p : Pt) (per t i0 i1 i2 : Int) (w : World) :
    Calls Try.prog 28 #[.agg #[.int .i64 p.l0.a, .int .i64 p.l0.b, .int .i64 p.l1.a, .int .i64 p.l1.b, .int .i64 p.l2.a, .int .i64 p.l2.b], .int .i64 per, .int .i64 t, .agg #[.int .i64 i0, .int .i64 i1, .int .i64 i2]] w fun e w' => e = .returned (.tuple #[.int .i64 (smV p per t i0 i1 i2), errV (smC p per t i0 i1 i2)]) ∧ Below w.heap.size w w' := by
  have key : ∀ c : Int, ¬ c = 0 → smC p per t i0 i1 i2 = c → Calls Try.prog 28 #[.agg #[.int .i64 p.l0.a, .int .i64 p.l0.b, .int .i64 p.l1.a, .int .i64 p.l1.b, .int .i64 p.l2.a, .int .i64 p.l2.b], .int .i64 per, .int .i64 t, .agg #[.int .i64 i0, .int .i64 i1, .int .i64 i2]] w (fun e w' => e = .returned (.tuple #[.int .i64 0, errV (c)]) ∧ Below w.heap.size w w') →
      Calls Try.prog 28 #[.agg #[.int .i64 p.l0.a, .int .i64 p.l0.b, .int .i64 p.l1.a, .int .i64 p.l1.b, .int .i64 p.l2.a, .int .i64 p.l2.b], .int .i64 per, .int .i64 t, .agg #[.int .i64 i0, .int .i64 i1, .int .i64 i2]] w (fun e w' => e = .returned (.tuple #[.int .i64 (smV p per t i0 i1 i2), errV (smC p per t i0 i1 i2)]) ∧ Below w.heap.size w w') := by
    intro c hc h k
    rw [smV_no h hc, h]
    exact k
  by_cases h : okPer per
  · by_cases h2 : p.In per
    · by_cases h3 : 0 ≤ t ∧ t < per
      · exact sample_ok p per t i0 i1 i2 h h2 h3 w
      · exact key 3 (by decide) (smC_at h h2 (fun k => h3 k.1)) (sample_at p per t i0 i1 i2 h h2 h3 w)
    · exact key 11 (by decide) (smC_bad h h2) (sample_bad p per t i0 i1 i2 h h2 w)
  · exact key 3 (by decide) (smC_per h) (sample_per p per t i0 i1 i2 h w)

set_option maxHeartbeats 4000000 in
set_option maxRecDepth 100000 in
theorem rsample_per (p : Pt) (per t i0 i1 i2 : Int) (h : ¬ okPer per) (w : World) :
    Calls Try.prog 41 #[.agg #[.int .i64 p.l0.a, .int .i64 p.l0.b, .int .i64 p.l1.a, .int .i64 p.l1.b, .int .i64 p.l2.a, .int .i64 p.l2.b], .int .i64 per, .int .i64 t, .agg #[.int .i64 i0, .int .i64 i1, .int .i64 i2]] w fun e w' => e = .returned (.tuple #[.int .i64 0, .int .i64 3]) ∧ Below w.heap.size w w' := by
  have HP := hide (rparts_per p per h)
  clear h
  go_enter Try.func41, Try.ntmps41
  go_wp2_with (go_at_call 35; refine (HP.out _).mono ?_; rintro e w2 ⟨rfl, hb2⟩; have z2 := hb2.size; (try simp at z2); have c2x0 := bstep (b := w.heap.size) hb2 (by first | omega | (simp <;> omega)); have y2x0 : w.heap.size < w2.heap.size := (by omega); have c2x1 := bstep (b := w.heap.size + 1) hb2 (by first | omega | (simp <;> omega)); have y2x1 : w.heap.size + 1 < w2.heap.size := (by omega))
  refine bodyPost_ret (results_tmp2 rfl _ _ _) rfl ?_
  exact ⟨rfl, by exact (Below.trans (by repeat (first | with_reducible assumption | with_reducible refine Below.drew ?_ | with_reducible refine below_drewN ?_ _ | with_reducible refine Below.alloc ?_ (by first | omega | (simp <;> omega)) _ | with_reducible refine Below.setCell ?_ (by first | omega | (simp <;> omega)) _ | with_reducible exact Below.refl _ _)) (hb2.mono (by first | omega | (simp <;> omega))))⟩
set_option maxHeartbeats 4000000 in
set_option maxRecDepth 100000 in
theorem rsample_bad (p : Pt) (per t i0 i1 i2 : Int) (h : okPer per) (h2 : ¬ p.In per) (w : World) :
    Calls Try.prog 41 #[.agg #[.int .i64 p.l0.a, .int .i64 p.l0.b, .int .i64 p.l1.a, .int .i64 p.l1.b, .int .i64 p.l2.a, .int .i64 p.l2.b], .int .i64 per, .int .i64 t, .agg #[.int .i64 i0, .int .i64 i1, .int .i64 i2]] w fun e w' => e = .returned (.tuple #[.int .i64 0, .int .i64 11]) ∧ Below w.heap.size w w' := by
  have HP := hide (rparts_shape p per h h2)
  clear h h2
  go_enter Try.func41, Try.ntmps41
  go_wp2_with (go_at_call 35; refine (HP.out _).mono ?_; rintro e w2 ⟨rfl, hb2⟩; have z2 := hb2.size; (try simp at z2); have c2x0 := bstep (b := w.heap.size) hb2 (by first | omega | (simp <;> omega)); have y2x0 : w.heap.size < w2.heap.size := (by omega); have c2x1 := bstep (b := w.heap.size + 1) hb2 (by first | omega | (simp <;> omega)); have y2x1 : w.heap.size + 1 < w2.heap.size := (by omega))
  refine bodyPost_ret (results_tmp2 rfl _ _ _) rfl ?_
  exact ⟨rfl, by exact (Below.trans (by repeat (first | with_reducible assumption | with_reducible refine Below.drew ?_ | with_reducible refine below_drewN ?_ _ | with_reducible refine Below.alloc ?_ (by first | omega | (simp <;> omega)) _ | with_reducible refine Below.setCell ?_ (by first | omega | (simp <;> omega)) _ | with_reducible exact Below.refl _ _)) (hb2.mono (by first | omega | (simp <;> omega))))⟩
set_option maxHeartbeats 4000000 in
set_option maxRecDepth 100000 in
theorem rsample_at (p : Pt) (per t i0 i1 i2 : Int) (h : okPer per) (h2 : p.In per) (h3 : ¬ okAt per t i0 i1 i2) (w : World) :
    Calls Try.prog 41 #[.agg #[.int .i64 p.l0.a, .int .i64 p.l0.b, .int .i64 p.l1.a, .int .i64 p.l1.b, .int .i64 p.l2.a, .int .i64 p.l2.b], .int .i64 per, .int .i64 t, .agg #[.int .i64 i0, .int .i64 i1, .int .i64 i2]] w fun e w' => e = .returned (.tuple #[.int .i64 0, .int .i64 3]) ∧ Below w.heap.size w w' := by
  have HP := hide (rparts_ok p per h h2)
  obtain ⟨p1, p2⟩ := h
  have hc : t < 0 ∨ (0 ≤ t ∧ per ≤ t) ∨ ((0 ≤ t ∧ t < per) ∧ ¬ PM.small i0) ∨ ((0 ≤ t ∧ t < per) ∧ PM.small i0 ∧ ¬ PM.small i1) ∨ ((0 ≤ t ∧ t < per) ∧ PM.small i0 ∧ PM.small i1 ∧ ¬ PM.small i2) := by
    unfold okAt at h3
    by_cases a : t < 0
    · exact .inl a
    · by_cases b : per ≤ t
      · exact .inr (.inl ⟨by omega, b⟩)
      · by_cases c : PM.small i0
        · by_cases d : PM.small i1
          · by_cases f : PM.small i2
            · exact absurd ⟨⟨by omega, by omega⟩, c, d, f⟩ h3
            · exact .inr (.inr (.inr (.inr ⟨⟨by omega, by omega⟩, c, d, f⟩)))
          · exact .inr (.inr (.inr (.inl ⟨⟨by omega, by omega⟩, c, d⟩)))
        · exact .inr (.inr (.inl ⟨⟨by omega, by omega⟩, c⟩))
  unfold PM.small at hc
  clear h2 h3
  rcases hc with k1 | ⟨k1, k2⟩ | ⟨⟨k1, k2⟩, k3⟩ | ⟨⟨k1, k2⟩, ⟨k3, k4⟩, k5⟩ | ⟨⟨k1, k2⟩, ⟨k3, k4⟩, ⟨k5, k6⟩, k7⟩
  all_goals
    go_enter Try.func41, Try.ntmps41
    go_wp2_with (first | (go_at_call 35; refine (HP.out _).mono ?_; rintro e w2 ⟨v2, R2, rfl, hS2, hown2, hb2⟩; clear hS2 hown2; have z2 := hb2.size; (try simp at z2); have c2x0 := bstep (b := w.heap.size) hb2 (by first | omega | (simp <;> omega)); have y2x0 : w.heap.size < w2.heap.size := (by omega); have c2x1 := bstep (b := w.heap.size + 1) hb2 (by first | omega | (simp <;> omega)); have y2x1 : w.heap.size + 1 < w2.heap.size := (by omega)) | (go_at_call 78; first | (refine (small_yes _ _ (by unfold Go.Proofs.Ytjeomdfcfbfebaa.small; omega)).mono ?_; rintro e w8 ⟨rfl, rfl⟩) | (refine (small_no _ _ (by unfold Go.Proofs.Ytjeomdfcfbfebaa.small; omega)).mono ?_; rintro e w8 ⟨rfl, rfl⟩)))
    refine bodyPost_ret (results_tmp2 rfl _ _ _) rfl ?_
    have H2 : Below w.heap.size w w2 := Below.trans (by repeat (first | with_reducible assumption | with_reducible refine Below.drew ?_ | with_reducible refine below_drewN ?_ _ | with_reducible refine Below.alloc ?_ (by first | omega | (simp <;> omega)) _ | with_reducible refine Below.setCell ?_ (by first | omega | (simp <;> omega)) _ | with_reducible exact Below.refl _ _)) (hb2.mono (by first | omega | (simp <;> omega)))
    exact ⟨rfl, H2⟩
set_option maxHeartbeats 8000000 in
set_option maxRecDepth 100000 in
theorem rsample_ok (p : Pt) (per t i0 i1 i2 : Int) (h : okPer per) (h2 : p.In per) (h3 : okAt per t i0 i1 i2) (w : World) :
    Calls Try.prog 41 #[.agg #[.int .i64 p.l0.a, .int .i64 p.l0.b, .int .i64 p.l1.a, .int .i64 p.l1.b, .int .i64 p.l2.a, .int .i64 p.l2.b], .int .i64 per, .int .i64 t, .agg #[.int .i64 i0, .int .i64 i1, .int .i64 i2]] w fun e w' => e = .returned (.tuple #[.int .i64 (smV p per t i0 i1 i2), .int .i64 (smC p per t i0 i1 i2)]) ∧ Below w.heap.size w w' := by
  have HP := hide (rparts_ok p per h h2)
  have hC0 := hide (smC_ok (p := p) h h2 h3)
  have hsm := okAt_I h3
  have HA := hide (fun W => at_any p t W)
  have HIX := hide (fun k hk => ixBN p t k hk)
  generalize p.l0.on t = x0 at HA HIX
  generalize p.l1.on t = x1 at HA HIX
  generalize p.l2.on t = x2 at HA HIX
  obtain ⟨h3, ⟨k1, k2⟩, ⟨k3, k4⟩, ⟨k5, k6⟩⟩ := h3
  obtain ⟨p1, p2⟩ := h
  obtain ⟨t1, t2⟩ := h3
  clear h2
  go_enter Try.func41, Try.ntmps41
  go_wp2_with (first | (go_at_call 35; refine (HP.out _).mono ?_; rintro e w2 ⟨v2, R2, rfl, hS2, hown2, hb2⟩; clear hS2 hown2; have z2 := hb2.size; (try simp at z2); have c2x0 := bstep (b := w.heap.size) hb2 (by first | omega | (simp <;> omega)); have y2x0 : w.heap.size < w2.heap.size := (by omega); have c2x1 := bstep (b := w.heap.size + 1) hb2 (by first | omega | (simp <;> omega)); have y2x1 : w.heap.size + 1 < w2.heap.size := (by omega)) | (go_at_call 78; first | (refine (small_yes _ _ (by unfold Go.Proofs.Ytjeomdfcfbfebaa.small; omega)).mono ?_; rintro e w8 ⟨rfl, rfl⟩) | (refine (small_no _ _ (by unfold Go.Proofs.Ytjeomdfcfbfebaa.small; omega)).mono ?_; rintro e w8 ⟨rfl, rfl⟩)) | (go_at_call 44; refine (HA.out _).mono ?_; rintro e w3 ⟨rfl, hb3⟩; have z3 := hb3.size; (try simp at z3); have c3x0 := bstep (b := w.heap.size) hb3 (by first | omega | (simp <;> omega)); have y3x0 : w.heap.size < w3.heap.size := (by omega); have c3x1 := bstep (b := w.heap.size + 1) hb3 (by first | omega | (simp <;> omega)); have y3x1 : w.heap.size + 1 < w3.heap.size := (by omega)))
  have H2 : Below w.heap.size w w2 := Below.trans (by repeat (first | with_reducible assumption | with_reducible refine Below.drew ?_ | with_reducible refine below_drewN ?_ _ | with_reducible refine Below.alloc ?_ (by first | omega | (simp <;> omega)) _ | with_reducible refine Below.setCell ?_ (by first | omega | (simp <;> omega)) _ | with_reducible exact Below.refl _ _)) (hb2.mono (by first | omega | (simp <;> omega)))
  have H3 : Below w.heap.size w w3 := H2.trans (hb3.mono (by omega))
  go_loopw [12, 52] (fun s i wr => ∃ k : Nat, k ≤ 3 ∧ i = .int .i64 (k : Int) ∧ s = .int .i64 (sumTo p t (I3 i0 i1 i2) k) ∧ Below w3.heap.size w3 wr) (fun _ i _ => 3 - (intOf i).toNat)
  case atStart =>
    exact ⟨0, by omega, rfl, rfl, Below.refl _ _⟩
  case round =>
    obtain ⟨k, hk, rfl, rfl, HW⟩ := hrel
    have hyr := HW.size
    by_cases hlt : k < 3
    · have hI : wr.cell? ⟨w.heap.size + 1, k, none⟩ = some (.int .i64 (I3 i0 i1 i2 k)) := (HW.cell (p := ⟨w.heap.size + 1, k, none⟩) (by show w.heap.size + 1 < w3.heap.size; omega)).trans ((c3x1 k).trans ((c2x1 k).trans (at_two w _ _ i0 i1 i2 k hlt)))
      have yw : w.heap.size + 1 < wr.heap.size := by omega
      have hbd := sumTo_bd p t (I3 i0 i1 i2) k (fun j hj => hsm j (by omega))
      have hon := hide (fun h => sumTo_on (p := p) (t := t) (I := I3 i0 i1 i2) (k := k) h)
      have hof := hide (fun h => sumTo_off (p := p) (t := t) (I := I3 i0 i1 i2) (k := k) h)
      have j1 : (0 : Int) ≤ (k : Int) := by omega
      have j2 : (k : Int) < 3 := by omega
      have hix := HIX.out k hlt
      obtain ⟨x1, x2⟩ := hsm k hlt
      generalize I3 i0 i1 i2 k = x at hI hon hof x1 x2
      generalize sumTo p t (I3 i0 i1 i2) k = s at hbd hon hof
      generalize (p.leg k).on t = bb at hix hon hof
      clear hsm hC0
      cases bb
      · have hv := hide (hof.out rfl)
        clear hon hof
        go_wp2
        go_roundw
        case rel => exact ⟨k + 1, by omega, by go_num, by rw [hv.out], by exact (by repeat (first | with_reducible exact HW | with_reducible refine Below.drew ?_ | with_reducible refine below_drewN ?_ _ | with_reducible refine Below.alloc ?_ (by first | omega | (simp <;> omega)) _))⟩
        case measure => simp [intOf]; omega
      · have hv := hide (hon.out rfl)
        clear hon hof
        go_wp2
        go_roundw
        case rel => exact ⟨k + 1, by omega, by go_num, by rw [hv.out], by exact (by repeat (first | with_reducible exact HW | with_reducible refine Below.drew ?_ | with_reducible refine below_drewN ?_ _ | with_reducible refine Below.alloc ?_ (by first | omega | (simp <;> omega)) _))⟩
        case measure => simp [intOf]; omega
    · have ek : k = 3 := by omega
      subst ek
      clear hsm
      go_wp2
      refine bodyPost_ret (results_tmp2 rfl _ _ _) rfl ?_
      exact ⟨ret_two (smV_ok hC0.out).symm (congrArg (Value.int .i64) hC0.out.symm), H3.trans (HW.mono (by omega))⟩
theorem rsample_any (p : Pt) (per t i0 i1 i2 : Int) (w : World) :
    Calls Try.prog 41 #[.agg #[.int .i64 p.l0.a, .int .i64 p.l0.b, .int .i64 p.l1.a, .int .i64 p.l1.b, .int .i64 p.l2.a, .int .i64 p.l2.b], .int .i64 per, .int .i64 t, .agg #[.int .i64 i0, .int .i64 i1, .int .i64 i2]] w fun e w' => e = .returned (.tuple #[.int .i64 (smV p per t i0 i1 i2), .int .i64 (smC p per t i0 i1 i2)]) ∧ Below w.heap.size w w' := by
  have key : ∀ c : Int, ¬ c = 0 → smC p per t i0 i1 i2 = c → Calls Try.prog 41 #[.agg #[.int .i64 p.l0.a, .int .i64 p.l0.b, .int .i64 p.l1.a, .int .i64 p.l1.b, .int .i64 p.l2.a, .int .i64 p.l2.b], .int .i64 per, .int .i64 t, .agg #[.int .i64 i0, .int .i64 i1, .int .i64 i2]] w (fun e w' => e = .returned (.tuple #[.int .i64 0, .int .i64 (c)]) ∧ Below w.heap.size w w') →
      Calls Try.prog 41 #[.agg #[.int .i64 p.l0.a, .int .i64 p.l0.b, .int .i64 p.l1.a, .int .i64 p.l1.b, .int .i64 p.l2.a, .int .i64 p.l2.b], .int .i64 per, .int .i64 t, .agg #[.int .i64 i0, .int .i64 i1, .int .i64 i2]] w (fun e w' => e = .returned (.tuple #[.int .i64 (smV p per t i0 i1 i2), .int .i64 (smC p per t i0 i1 i2)]) ∧ Below w.heap.size w w') := by
    intro c hc h k
    rw [smV_no h hc, h]
    exact k
  by_cases h : okPer per
  · by_cases h2 : p.In per
    · by_cases h3 : okAt per t i0 i1 i2
      · exact rsample_ok p per t i0 i1 i2 h h2 h3 w
      · exact key 3 (by decide) (smC_at h h2 h3) (rsample_at p per t i0 i1 i2 h h2 h3 w)
    · exact key 11 (by decide) (smC_bad h h2) (rsample_bad p per t i0 i1 i2 h h2 w)
  · exact key 3 (by decide) (smC_per h) (rsample_per p per t i0 i1 i2 h w)

end Go.Proofs.Ytjeomdfcfbfebaa

/- Walks of a tick of the gate stage and of the logic: the program's and the reference's. Condition: a checked configuration. -/
import Derived.Test.YtgbbhkefkpndeaaOffA
import Derived.StillTailTactics
import Derived.Deep.RegionHeld
import Derived.Deep.DeepCutAuto
import Derived.Deep.CutBlock
namespace Go.Proofs.Ytgbbhkefkpndeaa
open Go.RowKit OM

@[go_sem] theorem isSome_setCell (w : World) (p q : Addr) (u : Value) : ((w.setCell q u).cell? p).isSome = (w.cell? p).isSome := by
  by_cases h : q.block = p.block
  · unfold World.cell? World.setCell
    simp only [Array.getElem?_modify, h, if_true]
    cases w.heap[p.block]? with
    | none => rfl
    | some o =>
      cases o with
      | cells c e fr =>
        simp only [Option.map_some]
        by_cases hp : p.spot.isSome
        · simp [hp]
        · by_cases hq : q.spot.isSome
          · simp [hp, hq]
          · simp only [hp, hq]
            rw [Bool.eq_iff_iff]
            simp [Array.getElem?_setIfInBounds]
            split <;> simp_all
      | _ => rfl
  · rw [World.cell?_setCell_far _ _ _ _ h]

theorem region_tail {P : Program} {id : Nat} {Q : Exit → Act → World → Prop} {a : Act} {w : World} {l : List Oper} (n : Nat) (hm : P.follows .mixedOrders = true) (hB : Region.lexTailB .any l.toArray n = true)
    (h : wpStill P l.toArray w.drew (fun a' => wpList P l.toArray Q (l.drop n) a' w.drew) (l.take n) a) : (Code.region id l.toArray true).wp P Q a w := wp_region_still_tail n hm hB h

theorem wpStill_of_quiet {P : Program} {ops : Array Oper} {W : World} {Q : Act → Prop} : ∀ (l : List Oper) (a : Act), wpQuiet P ops (fun w' => w' = W) Q l a → wpStill P ops W Q l a
  | [], _, h => h
  | o :: rest, a, h => by
    unfold wpQuiet at h
    unfold wpStill
    split
    · rename_i hw
      rw [if_pos hw] at h
      obtain ⟨v, h1, h2⟩ := h
      have h3 := h1 W rfl
      unfold Oper.quietAt at h3
      unfold Oper.still
      generalize (execOp a.eval o).run P W = r at h3
      have ih := wpStill_of_quiet rest _ h2
      cases r with
      | ok n w' =>
        cases n <;> simp only [Oper.quietUpon] at h3 <;> simp only [Oper.stillUpon]
        case value u => exact ⟨h3.1, h3.2 ▸ ih⟩
        case skip => exact ⟨h3.1, h3.2 ▸ ih⟩
        case enter f args => exact ⟨h3.1, v, h3.2, ih⟩
      | halt x w' => simp only [Oper.quietUpon] at h3
    · rename_i hw
      rw [if_neg hw] at h
      exact wpStill_of_quiet rest _ h

theorem region_quiet_tail {P : Program} {id : Nat} {Q : Exit → Act → World → Prop} {a : Act} {w : World} {l : List Oper} (n : Nat) (hm : P.follows .mixedOrders = true) (hB : Region.lexTailB .any l.toArray n = true)
    (h : wpQuiet P l.toArray (fun w' => w' = w.drew) (fun a' => wpList P l.toArray Q (l.drop n) a' w.drew) (l.take n) a) : (Code.region id l.toArray true).wp P Q a w := wp_region_still_tail n hm hB (wpStill_of_quiet _ _ h)

theorem counted_still (n most : Int) (is : Bool) (w : World) (h0 : 0 ≤ most) (h1 : most ≤ 2000) :
    Calls Try.prog 28 #[.int .i64 n, .bool is, .int .i64 most] w fun e w' => e = .returned (.int .i64 (counted n is most)) ∧ w' = w :=
  (counted_any n most is w h0 h1).mono fun _ _ ⟨a, b⟩ => ⟨a, b.symm⟩

theorem below4 (w : World) (a b c d : Obj) : Below w.heap.size w ((((w.alloc a).alloc b).alloc c).alloc d) :=
  ((((Below.refl _ _).alloc (Nat.le_refl _) _).alloc (by simp) _).alloc (by simp; omega) _).alloc (by simp; omega) _
theorem below3 (w : World) (a b c : Obj) : Below w.heap.size w (((w.alloc a).alloc b).alloc c) :=
  (((Below.refl _ _).alloc (Nat.le_refl _) _).alloc (by simp) _).alloc (by simp; omega) _

theorem tested_at (c : Cf) (h : c.Rng) (t : Int) (ch : Bool) (w : World) :
    Calls Try.prog 29 #[.agg #[.int .i64 c.every, .int .i64 c.length, .int .i64 c.apart], .int .i64 (if ch then 1 else 0), .int .i64 t] w fun e w' => e = .returned (.bool (tested c ch t)) ∧ w.alloc (.cells #[.int .i64 c.every, .int .i64 c.length, .int .i64 c.apart] 23) = w' := by
  obtain ⟨⟨h1, h2⟩, ⟨h3, h4⟩, _⟩ := h
  cases ch
  all_goals
    simp only [if_true, Bool.false_eq_true, if_false]
    go_enter Try.func29, Try.ntmps29
    go_wp2_with (go_at_call 27; refine (within_any _ _ _ _).mono ?_; rintro e w' ⟨rfl, rfl⟩)
    go_ret
    exact ⟨ret_bool (by rw [Bool.eq_iff_iff]; simp [tested]; omega), rfl⟩
theorem tested0 (c : Cf) (h : c.Rng) (t : Int) (w : World) :
    Calls Try.prog 29 #[.agg #[.int .i64 c.every, .int .i64 c.length, .int .i64 c.apart], .int .i64 0, .int .i64 t] w fun e w' => e = .returned (.bool (tested c false t)) ∧ w.alloc (.cells #[.int .i64 c.every, .int .i64 c.length, .int .i64 c.apart] 23) = w' := tested_at c h t false w
theorem tested1 (c : Cf) (h : c.Rng) (t : Int) (w : World) :
    Calls Try.prog 29 #[.agg #[.int .i64 c.every, .int .i64 c.length, .int .i64 c.apart], .int .i64 1, .int .i64 t] w fun e w' => e = .returned (.bool (tested c true t)) ∧ w.alloc (.cells #[.int .i64 c.every, .int .i64 c.length, .int .i64 c.apart] 23) = w' := tested_at c h t true w

theorem tmod_bd (t : Int) {e l : Int} (h : 4 * l ≤ e) (h1 : 1 ≤ l) : -e < t.tmod e ∧ t.tmod e < e :=
  ⟨Int.lt_tmod_of_pos t (by omega), Int.tmod_lt_of_pos t (by omega)⟩

theorem tick_val {c : Cf} (h : c.Rng) (t : Int) : (wrap64 (t.tmod c.every % c.every + 1)).tmod c.every = next c t := by
  have hb := norm_bd h t
  obtain ⟨⟨h1, h2⟩, ⟨h3, h4⟩, _⟩ := h
  have b := tmod_bd t h3 h1
  have e1 : t.tmod c.every % c.every = norm c t := by
    unfold norm
    rw [Int.tmod_eq_emod_of_nonneg (a := t.tmod c.every + c.every) (by omega), Int.add_emod_right]
  rw [e1, IntWalk.wrap64_in _ (by omega)]
  rfl

set_option maxRecDepth 100000 in
set_option maxHeartbeats 4000000 in
theorem step_core (c : Cf) (h : c.Rng) (time apartFor for0 for1 : Int) (d0 d1 lat r0 r1 k0 k1 L0 L1 L2 OF : Bool) (ap T : Int) (w : World)
    (HL0 : Hid (L0 = (lat || (decide (c.length ≤ for0) && k0)))) (HL1 : Hid (L1 = (L0 || (decide (c.length ≤ for1) && k1))))
    (Hap : Hid (ap = counted apartFor (r0 != r1) (c.apart + 1))) (HL2 : Hid (L2 = (L1 || decide (c.apart < ap)))) (HOF : Hid (OF = ((L2 || r0) || r1))) (HT : Hid (T = next c time)) :
    Calls Try.prog 17 #[.agg #[.int .i64 c.every, .int .i64 c.length, .int .i64 c.apart], .agg #[.int .i64 time, .int .i64 apartFor, .int .i64 for0, .int .i64 for1, .bool d0, .bool d1, .bool lat], .agg #[.bool r0, .bool r1, .bool k0, .bool k1]] w
      fun e w' => e = .returned (.tuple #[.agg #[.int .i64 (if OF then 0 else T), .int .i64 ap, .int .i64 (counted for0 (!(!OF && !tested c false (if OF then 0 else T))) (c.length + 1)), .int .i64 (counted for1 (!(!OF && !tested c true (if OF then 0 else T))) (c.length + 1)),
        .bool (!OF && !tested c false (if OF then 0 else T)), .bool (!OF && !tested c true (if OF then 0 else T)), .bool L2], .nilIface]) ∧ Below w.heap.size w w' := by
  have HC := hide (check_ok c h)
  have HRR := hide h
  have hns : ¬ c.every = 0 := by obtain ⟨⟨h1, h2⟩, ⟨h3, h4⟩, _⟩ := h; omega
  have hCN : Hid (∀ W, Calls Try.prog 28 #[.int .i64 apartFor, .bool (r0 != r1), .int .i64 (c.apart + 1)] W fun e w' => e = .returned (.int .i64 ap) ∧ W = w') := fun W => by
    rw [Hap.out]
    obtain ⟨_, _, ⟨h5, h6⟩⟩ := h
    exact counted_any _ _ _ _ (by omega) (by omega)
  obtain ⟨⟨h1, h2⟩, ⟨h3, h4⟩, ⟨h5, h6⟩⟩ := h
  have i0 : ∀ w, (Instr.index 26 (.agg #[.int .i64 for0, .int .i64 for1]) (.int .i64 0)).run Try.prog w = .ok (.int .i64 for0) w := fun _ => by kernel_rfl
  have i1 : ∀ w, (Instr.index 26 (.agg #[.int .i64 for0, .int .i64 for1]) (.int .i64 1)).run Try.prog w = .ok (.int .i64 for1) w := fun _ => by kernel_rfl
  go_enter Try.func17, Try.ntmps17
  go_wp2_with (go_at_call 15; refine (HC.out _).mono ?_; rintro e w1 ⟨rfl, hb1⟩; have z1 := hb1.size; (try simp at z1); have c1x0 := bstep (b := w.heap.size) hb1 (by first | omega | (simp <;> omega)); have y1x0 : w.heap.size < w1.heap.size := (by omega); have c1x1 := bstep (b := w.heap.size + 1) hb1 (by first | omega | (simp <;> omega)); have y1x1 : w.heap.size + 1 < w1.heap.size := (by omega); have c1x2 := bstep (b := w.heap.size + 1 + 1) hb1 (by first | omega | (simp <;> omega)); have y1x2 : w.heap.size + 1 + 1 < w1.heap.size := (by omega); have c1x3 := bstep (b := w.heap.size + 1 + 1 + 1) hb1 (by first | omega | (simp <;> omega)); have y1x3 : w.heap.size + 1 + 1 + 1 < w1.heap.size := (by omega); have f1x0 := bfro (b := w.heap.size) hb1 (by first | omega | (simp <;> omega)); have f1x1 := bfro (b := w.heap.size + 1) hb1 (by first | omega | (simp <;> omega)); have f1x2 := bfro (b := w.heap.size + 1 + 1) hb1 (by first | omega | (simp <;> omega)); have f1x3 := bfro (b := w.heap.size + 1 + 1 + 1) hb1 (by first | omega | (simp <;> omega)))
  refine wp_loop_rounds 3 ?_
  rw [rounds_succ]
  go_upto_block 1 with fail
  go_cut [9, 10] (fun s9 s10 wx => s9 = .int .i64 0 ∧ s10 = .int .i64 for0 ∧ wx = w1.setCell ⟨w.heap.size + 1, 6, none⟩ (.bool L0))
  case first =>
    cases lat
    · by_cases hA : c.length ≤ for0
      · cases k0
        all_goals
          go_wp2
          go_meet
          exact ⟨rfl, rfl, by rw [HL0.out]; simp [hA]⟩
      · go_wp2
        go_meet
        exact ⟨rfl, rfl, by have e : decide (c.length ≤ for0) = false := (by simp; omega)
                            rw [HL0.out]; simp [e]⟩
    · go_wp2
      go_meet
      exact ⟨rfl, rfl, by rw [HL0.out]; simp⟩
  case rest =>
  obtain ⟨rfl, rfl, rfl⟩ := hcut
  go_wp2
  rw [rounds_succ]
  go_upto_block 1 with fail
  go_cut [9, 10] (fun s9 s10 wx => s9 = .int .i64 1 ∧ s10 = .int .i64 for1 ∧ wx = (w1.setCell ⟨w.heap.size + 1, 6, none⟩ (.bool L0)).setCell ⟨w.heap.size + 1, 6, none⟩ (.bool L1))
  case first =>
    cases L0
    · by_cases hA : c.length ≤ for1
      · cases k1
        all_goals
          go_wp2
          go_meet
          exact ⟨rfl, rfl, by rw [HL1.out]; simp [hA]⟩
      · go_wp2
        go_meet
        exact ⟨rfl, rfl, by have e : decide (c.length ≤ for1) = false := (by simp; omega)
                            rw [HL1.out]; simp [e]⟩
    · go_wp2
      go_meet
      exact ⟨rfl, rfl, by rw [HL1.out]; simp⟩
  case rest =>
  obtain ⟨rfl, rfl, rfl⟩ := hcut
  go_wp2
  rw [rounds_succ]
  go_upto_region 10 with (go_at_call 28; refine (hCN.out _).mono ?_; rintro e w9 ⟨rfl, rfl⟩)
  go_cut [63] (fun _ wx => wx = (((w1.setCell ⟨w.heap.size + 1, 6, none⟩ (.bool L0)).setCell ⟨w.heap.size + 1, 6, none⟩ (.bool L1)).setCell ⟨w.heap.size + 1, 1, none⟩ (.int .i64 ap)).setCell ⟨w.heap.size + 1, 6, none⟩ (.bool L2))
  case first =>
    cases L1
    · go_wp2
      go_meet
      rw [HL2.out]; simp
    · go_wp2
      go_meet
      rw [HL2.out]; simp
  case rest =>
  obtain rfl := hcut
  go_upto_region 11 with fail
  go_cut [11] (fun s11 wx => s11 = .bool OF ∧ wx = (((w1.setCell ⟨w.heap.size + 1, 6, none⟩ (.bool L0)).setCell ⟨w.heap.size + 1, 6, none⟩ (.bool L1)).setCell ⟨w.heap.size + 1, 1, none⟩ (.int .i64 ap)).setCell ⟨w.heap.size + 1, 6, none⟩ (.bool L2))
  case first =>
    cases L2
    · cases r0
      · go_wp2
        go_meet
        exact ⟨by rw [HOF.out]; simp, rfl⟩
      · go_wp2
        go_meet
        exact ⟨by rw [HOF.out]; simp, rfl⟩
    · go_wp2
      go_meet
      exact ⟨by rw [HOF.out]; simp, rfl⟩
  case rest =>
  obtain ⟨rfl, rfl⟩ := hcut
  go_upto_region 12 with fail
  go_cut [91] (fun _ wx => wx = ((((((w1.setCell ⟨w.heap.size + 1, 6, none⟩ (.bool L0)).setCell ⟨w.heap.size + 1, 6, none⟩ (.bool L1)).setCell ⟨w.heap.size + 1, 1, none⟩ (.int .i64 ap)).setCell ⟨w.heap.size + 1, 6, none⟩ (.bool L2)).setCell ⟨w.heap.size + 1, 0, none⟩ (.int .i64 T))).drew)
  case first =>
    obtain ⟨t0, t1⟩ := tmod_bd time h3 h1
    refine region_quiet_tail 16 (by kernel_rfl) (by kernel_rfl) ?_
    simp only [List.take_succ_cons, List.take_zero, List.drop_succ_cons, List.drop_zero]
    repeat (first | go_big_quiet_skip | (go_big_quiet_want; go_big_quiet_op; go_big_quiet_on))
    refine wpQuiet_nil ?_
    go_wp2
    go_meet
    rw [tick_val HRR.out, HT.out]
  case rest =>
  obtain rfl := hcut
  clear HT HOF HL2 HL1 HL0 Hap hCN i0 i1
  cases OF
  · go_wp2
    refine wp_loop_rounds 3 ?_
    rw [rounds_succ]
    go_wp2_with (go_at_call 29; first | (with_reducible refine (tested0 _ HRR.out _ _).mono ?_; rintro e w9 ⟨rfl, rfl⟩) | (with_reducible refine (tested1 _ HRR.out _ _).mono ?_; rintro e w9 ⟨rfl, rfl⟩))
    refine region_quiet_tail 16 (by kernel_rfl) (by kernel_rfl) ?_
    simp only [List.take_succ_cons, List.take_zero, List.drop_succ_cons, List.drop_zero]
    repeat (first | go_big_quiet_skip | (go_big_quiet_want; go_big_quiet_op; go_big_quiet_on))
    go_big_quiet_want
    go_big_quiet_op
    apply Exists.intro
    refine ⟨(counted_still _ _ _ _ (by omega) (by omega)), ?_⟩
    go_big_quiet_on
    repeat (first | go_big_quiet_skip | (go_big_quiet_want; go_big_quiet_op; go_big_quiet_on))
    refine wpQuiet_nil ?_
    go_wp2
    rw [rounds_succ]
    go_wp2_with (go_at_call 29; first | (with_reducible refine (tested0 _ HRR.out _ _).mono ?_; rintro e w9 ⟨rfl, rfl⟩) | (with_reducible refine (tested1 _ HRR.out _ _).mono ?_; rintro e w9 ⟨rfl, rfl⟩))
    refine region_quiet_tail 16 (by kernel_rfl) (by kernel_rfl) ?_
    simp only [List.take_succ_cons, List.take_zero, List.drop_succ_cons, List.drop_zero]
    repeat (first | go_big_quiet_skip | (go_big_quiet_want; go_big_quiet_op; go_big_quiet_on))
    go_big_quiet_want
    go_big_quiet_op
    apply Exists.intro
    refine ⟨(counted_still _ _ _ _ (by omega) (by omega)), ?_⟩
    go_big_quiet_on
    repeat (first | go_big_quiet_skip | (go_big_quiet_want; go_big_quiet_op; go_big_quiet_on))
    refine wpQuiet_nil ?_
    go_wp2
    rw [rounds_succ]
    go_wp2
    refine bodyPost_ret (v := .tuple #[.agg #[.int .i64 T, .int .i64 ap, .int .i64 (counted for0 (tested c false T) (c.length + 1)), .int .i64 (counted for1 (tested c true T) (c.length + 1)), .bool (!tested c false T), .bool (!tested c true T), .bool L2], .nilIface]) (by simp only [results, Try.results17]; go_simp) rfl ⟨by simp [counted], ?_⟩
    have H1 : Below w.heap.size w w1 := (below4 w _ _ _ _).trans (hb1.mono (by simp <;> omega))
    repeat (first | with_reducible refine Below.drew ?_ | with_reducible refine Below.alloc ?_ (by simp <;> omega) _ | with_reducible refine Below.setCell ?_ (by simp <;> omega) _)
    exact H1
  · go_wp2
    refine wp_loop_rounds 3 ?_
    rw [rounds_succ]
    go_wp2
    refine region_quiet_tail 16 (by kernel_rfl) (by kernel_rfl) ?_
    simp only [List.take_succ_cons, List.take_zero, List.drop_succ_cons, List.drop_zero]
    repeat (first | go_big_quiet_skip | (go_big_quiet_want; go_big_quiet_op; go_big_quiet_on))
    go_big_quiet_want
    go_big_quiet_op
    apply Exists.intro
    refine ⟨(counted_still _ _ _ _ (by omega) (by omega)), ?_⟩
    go_big_quiet_on
    repeat (first | go_big_quiet_skip | (go_big_quiet_want; go_big_quiet_op; go_big_quiet_on))
    refine wpQuiet_nil ?_
    go_wp2
    rw [rounds_succ]
    go_wp2
    refine region_quiet_tail 16 (by kernel_rfl) (by kernel_rfl) ?_
    simp only [List.take_succ_cons, List.take_zero, List.drop_succ_cons, List.drop_zero]
    repeat (first | go_big_quiet_skip | (go_big_quiet_want; go_big_quiet_op; go_big_quiet_on))
    go_big_quiet_want
    go_big_quiet_op
    apply Exists.intro
    refine ⟨(counted_still _ _ _ _ (by omega) (by omega)), ?_⟩
    go_big_quiet_on
    repeat (first | go_big_quiet_skip | (go_big_quiet_want; go_big_quiet_op; go_big_quiet_on))
    refine wpQuiet_nil ?_
    go_wp2
    rw [rounds_succ]
    go_wp2
    refine bodyPost_ret (v := .tuple #[.agg #[.int .i64 0, .int .i64 ap, .int .i64 (counted for0 true (c.length + 1)), .int .i64 (counted for1 true (c.length + 1)), .bool false, .bool false, .bool L2], .nilIface]) (by simp [results, Try.results17, go_sem, c1x3]) rfl ⟨by simp [counted], ?_⟩
    have H1 : Below w.heap.size w w1 := (below4 w _ _ _ _).trans (hb1.mono (by simp <;> omega))
    repeat (first | with_reducible refine Below.drew ?_ | with_reducible refine Below.alloc ?_ (by simp <;> omega) _ | with_reducible refine Below.setCell ?_ (by simp <;> omega) _)
    exact H1
theorem step_ok (c : Cf) (h : c.Rng) (s : St) (r0 r1 k0 k1 : Bool) (w : World) :
    Calls Try.prog 17 #[.agg #[.int .i64 c.every, .int .i64 c.length, .int .i64 c.apart], .agg #[.int .i64 s.time, .int .i64 s.apartFor, .int .i64 s.for0, .int .i64 s.for1, .bool s.d0, .bool s.d1, .bool s.latched], .agg #[.bool r0, .bool r1, .bool k0, .bool k1]] w
      fun e w' => e = .returned (.tuple #[.agg #[.int .i64 (OM.step c s r0 r1 k0 k1).time, .int .i64 (OM.step c s r0 r1 k0 k1).apartFor, .int .i64 (OM.step c s r0 r1 k0 k1).for0, .int .i64 (OM.step c s r0 r1 k0 k1).for1,
        .bool (OM.step c s r0 r1 k0 k1).d0, .bool (OM.step c s r0 r1 k0 k1).d1, .bool (OM.step c s r0 r1 k0 k1).latched], .nilIface]) ∧ Below w.heap.size w w' :=
  step_core c h s.time s.apartFor s.for0 s.for1 s.d0 s.d1 s.latched r0 r1 k0 k1 _ _ _ _ _ _ w (hide rfl) (hide rfl) (hide rfl) (hide rfl) (hide rfl) (hide rfl)
end Go.Proofs.Ytgbbhkefkpndeaa

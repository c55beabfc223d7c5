/- Contracts of safe torque off: Start, Reset, the reference's Check, Start, Reset, and the fixed fact that the laws begin with. -/
import Derived.Test.YtgbbhkefkpndeaaOffC
namespace Go.Proofs.Ytgbbhkefkpndeaa
open Go.RowKit OM

theorem num_nil (w : World) : Calls Try.prog 14 #[.nilIface] w fun e w' => e = .returned (.int .i64 0) ∧ w = w' := by
  go_enter Try.func14, Try.ntmps14
  go_wp2
  go_ret
  exact ⟨rfl, rfl⟩
theorem as_errno (v : Value) (w : World) : (Instr.typeAssert (.iface 62 v) 31 62 true).run Try.prog w = .ok (.tuple #[v, .bool true]) w := by kernel_rfl
theorem num_err (n : Int) (w : World) : Calls Try.prog 14 #[.iface 62 (.int .i64 n)] w fun e w' => e = .returned (.int .i64 n) ∧ w = w' := by
  have ha := as_errno (.int .i64 n)
  go_enter Try.func14, Try.ntmps14
  go_wp2
  go_ret
  exact ⟨rfl, rfl⟩

theorem rcheck_ok (c : Cf) (h : c.Rng) (w : World) : Calls Try.prog 12 #[.agg #[.int .i64 c.every, .int .i64 c.length, .int .i64 c.apart]] w fun e w' => e = .returned (.int .i64 0) ∧ Below w.heap.size w w' := by
  obtain ⟨⟨h1, h2⟩, ⟨h3, h4⟩, ⟨h5, h6⟩⟩ := h
  go_enter Try.func12, Try.ntmps12
  go_wp2
  all_goals go_ret
  all_goals exact ⟨rfl, (Below.refl _ _).alloc (Nat.le_refl _) _⟩

theorem bad6 {c : Cf} (h : ¬ c.Rng) : c.length < 1 ∨ (1 ≤ c.length ∧ (8 < c.length ∨ (c.length ≤ 8 ∧ (c.every < 4 * c.length ∨ (4 * c.length ≤ c.every ∧ (65536 < c.every ∨ (c.every ≤ 65536 ∧ (c.apart < 1 ∨ (1 ≤ c.apart ∧ 1024 < c.apart))))))))) := by
  unfold Cf.Rng at h
  omega

set_option maxHeartbeats 2000000 in
theorem rcheck_err (c : Cf) (h : ¬ c.Rng) (w : World) : Calls Try.prog 12 #[.agg #[.int .i64 c.every, .int .i64 c.length, .int .i64 c.apart]] w fun e w' => e = .returned (.int .i64 3) ∧ Below w.heap.size w w' := by
  rcases bad6 h with k1 | ⟨k1, k2 | ⟨k2, k3 | ⟨k3, k4 | ⟨k4, k5 | ⟨k5, k6⟩⟩⟩⟩⟩
  all_goals clear h
  all_goals
    go_enter Try.func12, Try.ntmps12
    go_wp2
    all_goals go_ret
    all_goals exact ⟨rfl, (Below.refl _ _).alloc (Nat.le_refl _) _⟩

theorem start_in (c : Cf) (h : c.Rng) (w : World) : Calls Try.prog 26 #[.agg #[.int .i64 c.every, .int .i64 c.length, .int .i64 c.apart]] w fun e w' => e = .returned (.agg #[.int .i64 0, .int .i64 0, .int .i64 (c.length + 1), .int .i64 (c.length + 1), .bool false, .bool false, .bool false]) ∧ Below w.heap.size w w' := by
  obtain ⟨⟨h1, h2⟩, ⟨h3, h4⟩, ⟨h5, h6⟩⟩ := h
  go_enter Try.func26, Try.ntmps26
  go_wp2
  refine bodyPost_ret (v := .agg #[.int .i64 0, .int .i64 0, .int .i64 (c.length + 1), .int .i64 (c.length + 1), .bool false, .bool false, .bool false]) (by simp only [results, Try.results26]; go_simp) rfl ⟨rfl, ?_⟩
  exact ((Below.refl _ _).alloc (Nat.le_refl _) _).alloc (by simp) _

theorem rstart_any (c : Cf) (h : c.Rng) (w : World) : Calls Try.prog 16 #[.agg #[.int .i64 c.every, .int .i64 c.length, .int .i64 c.apart]] w fun e w' => e = .returned (.agg #[.int .i64 0, .int .i64 0, .int .i64 (c.length + 1), .int .i64 (c.length + 1), .bool false, .bool false, .bool false]) ∧ Below w.heap.size w w' := by
  obtain ⟨⟨h1, h2⟩, ⟨h3, h4⟩, ⟨h5, h6⟩⟩ := h
  go_enter Try.func16, Try.ntmps16
  go_wp2
  refine bodyPost_ret (v := .agg #[.int .i64 0, .int .i64 0, .int .i64 (c.length + 1), .int .i64 (c.length + 1), .bool false, .bool false, .bool false]) (by simp only [results, Try.results16]; go_simp) rfl ⟨rfl, ?_⟩
  exact ((Below.refl _ _).alloc (Nat.le_refl _) _).alloc (by simp) _

set_option maxHeartbeats 2000000 in
theorem start_ok (c : Cf) (h : c.Rng) (w : World) : Calls Try.prog 13 #[.agg #[.int .i64 c.every, .int .i64 c.length, .int .i64 c.apart]] w fun e w' => e = .returned (.tuple #[.agg #[.int .i64 0, .int .i64 0, .int .i64 (c.length + 1), .int .i64 (c.length + 1), .bool false, .bool false, .bool false], .nilIface]) ∧ Below w.heap.size w w' := by
  have HC := hide (check_ok c h)
  have HS := hide (start_in c h)
  obtain ⟨⟨h1, h2⟩, ⟨h3, h4⟩, ⟨h5, h6⟩⟩ := h
  go_enter Try.func13, Try.ntmps13
  go_wp2_with (first
    | (go_at_call 15; refine (HC.out _).mono ?_; rintro e w1 ⟨rfl, hb1⟩; have z1 := hb1.size; (try simp at z1); have c1x0 := bstep (b := w.heap.size) hb1 (by first | omega | (simp <;> omega)); have y1x0 : w.heap.size < w1.heap.size := (by omega); have c1x1 := bstep (b := w.heap.size + 1) hb1 (by first | omega | (simp <;> omega)); have y1x1 : w.heap.size + 1 < w1.heap.size := (by omega); have f1x0 := bfro (b := w.heap.size) hb1 (by first | omega | (simp <;> omega)); have f1x1 := bfro (b := w.heap.size + 1) hb1 (by first | omega | (simp <;> omega)))
    | (go_at_call 26; refine (HS.out _).mono ?_; rintro e w2 ⟨rfl, hb2⟩; have z2 := hb2.size; (try simp at z2); have c2x0 := bstep (b := w.heap.size) hb2 (by first | omega | (simp <;> omega)); have y2x0 : w.heap.size < w2.heap.size := (by omega); have c2x1 := bstep (b := w.heap.size + 1) hb2 (by first | omega | (simp <;> omega)); have y2x1 : w.heap.size + 1 < w2.heap.size := (by omega); have f2x0 := bfro (b := w.heap.size) hb2 (by first | omega | (simp <;> omega)); have f2x1 := bfro (b := w.heap.size + 1) hb2 (by first | omega | (simp <;> omega))))
  refine bodyPost_ret (v := .tuple #[.agg #[.int .i64 0, .int .i64 0, .int .i64 (c.length + 1), .int .i64 (c.length + 1), .bool false, .bool false, .bool false], .nilIface]) (by simp only [results, Try.results13]; go_simp) rfl ⟨rfl, ?_⟩
  have H1 : Below w.heap.size w w1 := (((Below.refl _ _).alloc (Nat.le_refl _) _).alloc (by simp) _).trans (hb1.mono (by simp <;> omega))
  have H2 : Below w.heap.size w w2 := H1.trans (hb2.mono (by omega))
  repeat (first | with_reducible refine Below.drew ?_ | with_reducible refine Below.setCell ?_ (by simp <;> omega) _)
  exact H2

set_option maxHeartbeats 2000000 in
theorem start_err (c : Cf) (h : ¬ c.Rng) (w : World) : Calls Try.prog 13 #[.agg #[.int .i64 c.every, .int .i64 c.length, .int .i64 c.apart]] w fun e w' => e = .returned (.tuple #[.agg #[.int .i64 0, .int .i64 0, .int .i64 0, .int .i64 0, .bool false, .bool false, .bool false], .iface 62 (.int .i64 3)]) ∧ Below w.heap.size w w' := by
  have HC := hide (check_err c h)
  clear h
  go_enter Try.func13, Try.ntmps13
  go_wp2_with (first
    | (go_at_call 15; refine (HC.out _).mono ?_; rintro e w1 ⟨rfl, hb1⟩; have z1 := hb1.size; (try simp at z1); have c1x0 := bstep (b := w.heap.size) hb1 (by first | omega | (simp <;> omega)); have y1x0 : w.heap.size < w1.heap.size := (by omega); have c1x1 := bstep (b := w.heap.size + 1) hb1 (by first | omega | (simp <;> omega)); have y1x1 : w.heap.size + 1 < w1.heap.size := (by omega); have f1x0 := bfro (b := w.heap.size) hb1 (by first | omega | (simp <;> omega)); have f1x1 := bfro (b := w.heap.size + 1) hb1 (by first | omega | (simp <;> omega))))
  refine bodyPost_ret (v := .tuple #[.agg #[.int .i64 0, .int .i64 0, .int .i64 0, .int .i64 0, .bool false, .bool false, .bool false], .iface 62 (.int .i64 3)]) (by simp only [results, Try.results13]; go_simp) rfl ⟨rfl, ?_⟩
  have H1 : Below w.heap.size w w1 := (((Below.refl _ _).alloc (Nat.le_refl _) _).alloc (by simp) _).trans (hb1.mono (by simp <;> omega))
  repeat (first | with_reducible refine Below.drew ?_ | with_reducible refine Below.setCell ?_ (by simp <;> omega) _)
  exact H1

set_option maxHeartbeats 2000000 in
theorem reset_err (c : Cf) (h : ¬ c.Rng) (s0 s1 s2 s3 : Int) (s4 s5 s6 r0 r1 k0 k1 : Bool) (w : World) : Calls Try.prog 19 #[.agg #[.int .i64 c.every, .int .i64 c.length, .int .i64 c.apart], .agg #[.int .i64 s0, .int .i64 s1, .int .i64 s2, .int .i64 s3, .bool s4, .bool s5, .bool s6], .agg #[.bool r0, .bool r1, .bool k0, .bool k1]] w fun e w' => e = .returned (.tuple #[.agg #[.int .i64 0, .int .i64 0, .int .i64 0, .int .i64 0, .bool false, .bool false, .bool false], .iface 62 (.int .i64 3)]) ∧ Below w.heap.size w w' := by
  have HC := hide (check_err c h)
  clear h
  go_enter Try.func19, Try.ntmps19
  go_wp2_with (first
    | (go_at_call 15; refine (HC.out _).mono ?_; rintro e w1 ⟨rfl, hb1⟩; have z1 := hb1.size; (try simp at z1); have c1x0 := bstep (b := w.heap.size) hb1 (by first | omega | (simp <;> omega)); have y1x0 : w.heap.size < w1.heap.size := (by omega); have c1x1 := bstep (b := w.heap.size + 1) hb1 (by first | omega | (simp <;> omega)); have y1x1 : w.heap.size + 1 < w1.heap.size := (by omega); have c1x2 := bstep (b := w.heap.size + 1 + 1) hb1 (by first | omega | (simp <;> omega)); have y1x2 : w.heap.size + 1 + 1 < w1.heap.size := (by omega); have c1x3 := bstep (b := w.heap.size + 1 + 1 + 1) hb1 (by first | omega | (simp <;> omega)); have y1x3 : w.heap.size + 1 + 1 + 1 < w1.heap.size := (by omega); have f1x0 := bfro (b := w.heap.size) hb1 (by first | omega | (simp <;> omega)); have f1x1 := bfro (b := w.heap.size + 1) hb1 (by first | omega | (simp <;> omega)); have f1x2 := bfro (b := w.heap.size + 1 + 1) hb1 (by first | omega | (simp <;> omega)); have f1x3 := bfro (b := w.heap.size + 1 + 1 + 1) hb1 (by first | omega | (simp <;> omega))))
  refine bodyPost_ret (v := .tuple #[.agg #[.int .i64 0, .int .i64 0, .int .i64 0, .int .i64 0, .bool false, .bool false, .bool false], .iface 62 (.int .i64 3)]) (by simp only [results, Try.results19]; go_simp) rfl ⟨rfl, ?_⟩
  have H1 : Below w.heap.size w w1 := (below4 w _ _ _ _).trans (hb1.mono (by simp <;> omega))
  repeat (first | with_reducible refine Below.drew ?_ | with_reducible refine Below.setCell ?_ (by simp <;> omega) _)
  exact H1

set_option maxHeartbeats 4000000 in
theorem reset_no (c : Cf) (h : c.Rng) (s0 s1 s2 s3 : Int) (s4 s5 s6 r0 r1 k0 k1 : Bool) (hr : (r0 || r1 || k0 || k1) = true) (w : World) : Calls Try.prog 19 #[.agg #[.int .i64 c.every, .int .i64 c.length, .int .i64 c.apart], .agg #[.int .i64 s0, .int .i64 s1, .int .i64 s2, .int .i64 s3, .bool s4, .bool s5, .bool s6], .agg #[.bool r0, .bool r1, .bool k0, .bool k1]] w fun e w' => e = .returned (.tuple #[.agg #[.int .i64 0, .int .i64 0, .int .i64 0, .int .i64 0, .bool false, .bool false, .bool false], .iface 62 (.int .i64 12)]) ∧ Below w.heap.size w w' := by
  have HC := hide (check_ok c h)
  clear h
  cases r0 <;> cases r1 <;> cases k0 <;> cases k1
  all_goals first | (exact absurd hr (by decide)) | skip
  all_goals clear hr
  all_goals
    go_enter Try.func19, Try.ntmps19
    go_wp2_with (first
    | (go_at_call 15; refine (HC.out _).mono ?_; rintro e w1 ⟨rfl, hb1⟩; have z1 := hb1.size; (try simp at z1); have c1x0 := bstep (b := w.heap.size) hb1 (by first | omega | (simp <;> omega)); have y1x0 : w.heap.size < w1.heap.size := (by omega); have c1x1 := bstep (b := w.heap.size + 1) hb1 (by first | omega | (simp <;> omega)); have y1x1 : w.heap.size + 1 < w1.heap.size := (by omega); have c1x2 := bstep (b := w.heap.size + 1 + 1) hb1 (by first | omega | (simp <;> omega)); have y1x2 : w.heap.size + 1 + 1 < w1.heap.size := (by omega); have c1x3 := bstep (b := w.heap.size + 1 + 1 + 1) hb1 (by first | omega | (simp <;> omega)); have y1x3 : w.heap.size + 1 + 1 + 1 < w1.heap.size := (by omega); have f1x0 := bfro (b := w.heap.size) hb1 (by first | omega | (simp <;> omega)); have f1x1 := bfro (b := w.heap.size + 1) hb1 (by first | omega | (simp <;> omega)); have f1x2 := bfro (b := w.heap.size + 1 + 1) hb1 (by first | omega | (simp <;> omega)); have f1x3 := bfro (b := w.heap.size + 1 + 1 + 1) hb1 (by first | omega | (simp <;> omega))))
    refine bodyPost_ret (v := .tuple #[.agg #[.int .i64 0, .int .i64 0, .int .i64 0, .int .i64 0, .bool false, .bool false, .bool false], .iface 62 (.int .i64 12)]) (by simp only [results, Try.results19]; go_simp) rfl ⟨rfl, ?_⟩
    have H1 : Below w.heap.size w w1 := (below4 w _ _ _ _).trans (hb1.mono (by simp <;> omega))
    repeat (first | with_reducible refine Below.drew ?_ | with_reducible refine Below.setCell ?_ (by simp <;> omega) _)
    exact H1

set_option maxHeartbeats 4000000 in
theorem reset_ok (c : Cf) (h : c.Rng) (s0 s1 s2 s3 : Int) (s4 s5 s6 : Bool) (w : World) : Calls Try.prog 19 #[.agg #[.int .i64 c.every, .int .i64 c.length, .int .i64 c.apart], .agg #[.int .i64 s0, .int .i64 s1, .int .i64 s2, .int .i64 s3, .bool s4, .bool s5, .bool s6], .agg #[.bool false, .bool false, .bool false, .bool false]] w fun e w' => e = .returned (.tuple #[.agg #[.int .i64 0, .int .i64 0, .int .i64 (c.length + 1), .int .i64 (c.length + 1), .bool false, .bool false, .bool false], .nilIface]) ∧ Below w.heap.size w w' := by
  have HC := hide (check_ok c h)
  have HS := hide (start_in c h)
  clear h
  go_enter Try.func19, Try.ntmps19
  go_wp2_with (first
    | (go_at_call 15; refine (HC.out _).mono ?_; rintro e w1 ⟨rfl, hb1⟩; have z1 := hb1.size; (try simp at z1); have c1x0 := bstep (b := w.heap.size) hb1 (by first | omega | (simp <;> omega)); have y1x0 : w.heap.size < w1.heap.size := (by omega); have c1x1 := bstep (b := w.heap.size + 1) hb1 (by first | omega | (simp <;> omega)); have y1x1 : w.heap.size + 1 < w1.heap.size := (by omega); have c1x2 := bstep (b := w.heap.size + 1 + 1) hb1 (by first | omega | (simp <;> omega)); have y1x2 : w.heap.size + 1 + 1 < w1.heap.size := (by omega); have c1x3 := bstep (b := w.heap.size + 1 + 1 + 1) hb1 (by first | omega | (simp <;> omega)); have y1x3 : w.heap.size + 1 + 1 + 1 < w1.heap.size := (by omega); have f1x0 := bfro (b := w.heap.size) hb1 (by first | omega | (simp <;> omega)); have f1x1 := bfro (b := w.heap.size + 1) hb1 (by first | omega | (simp <;> omega)); have f1x2 := bfro (b := w.heap.size + 1 + 1) hb1 (by first | omega | (simp <;> omega)); have f1x3 := bfro (b := w.heap.size + 1 + 1 + 1) hb1 (by first | omega | (simp <;> omega)))
    | (go_at_call 26; refine (HS.out _).mono ?_; rintro e w2 ⟨rfl, hb2⟩; have z2 := hb2.size; (try simp at z2); have c2x0 := bstep (b := w.heap.size) hb2 (by first | omega | (simp <;> omega)); have y2x0 : w.heap.size < w2.heap.size := (by omega); have c2x1 := bstep (b := w.heap.size + 1) hb2 (by first | omega | (simp <;> omega)); have y2x1 : w.heap.size + 1 < w2.heap.size := (by omega); have c2x2 := bstep (b := w.heap.size + 1 + 1) hb2 (by first | omega | (simp <;> omega)); have y2x2 : w.heap.size + 1 + 1 < w2.heap.size := (by omega); have c2x3 := bstep (b := w.heap.size + 1 + 1 + 1) hb2 (by first | omega | (simp <;> omega)); have y2x3 : w.heap.size + 1 + 1 + 1 < w2.heap.size := (by omega); have f2x0 := bfro (b := w.heap.size) hb2 (by first | omega | (simp <;> omega)); have f2x1 := bfro (b := w.heap.size + 1) hb2 (by first | omega | (simp <;> omega)); have f2x2 := bfro (b := w.heap.size + 1 + 1) hb2 (by first | omega | (simp <;> omega)); have f2x3 := bfro (b := w.heap.size + 1 + 1 + 1) hb2 (by first | omega | (simp <;> omega))))
  refine bodyPost_ret (v := .tuple #[.agg #[.int .i64 0, .int .i64 0, .int .i64 (c.length + 1), .int .i64 (c.length + 1), .bool false, .bool false, .bool false], .nilIface]) (by simp only [results, Try.results19]; go_simp) rfl ⟨rfl, ?_⟩
  have H1 : Below w.heap.size w w1 := (below4 w _ _ _ _).trans (hb1.mono (by simp <;> omega))
  have H2 : Below w.heap.size w w2 := H1.trans (hb2.mono (by omega))
  repeat (first | with_reducible refine Below.drew ?_ | with_reducible refine Below.setCell ?_ (by simp <;> omega) _)
  exact H2

theorem rreset_no (r0 r1 k0 k1 : Bool) (hr : (r0 || r1 || k0 || k1) = true) (w : World) : Calls Try.prog 20 #[.agg #[.bool r0, .bool r1, .bool k0, .bool k1]] w fun e w' => e = .returned (.int .i64 12) ∧ Below w.heap.size w w' := by
  cases r0 <;> cases r1 <;> cases k0 <;> cases k1
  all_goals first | (exact absurd hr (by decide)) | skip
  all_goals clear hr
  all_goals
    go_enter Try.func20, Try.ntmps20
    go_wp2
    go_ret
    exact ⟨rfl, (Below.refl _ _).alloc (Nat.le_refl _) _⟩
theorem rreset_ok (w : World) : Calls Try.prog 20 #[.agg #[.bool false, .bool false, .bool false, .bool false]] w fun e w' => e = .returned (.int .i64 0) ∧ Below w.heap.size w w' := by
  go_enter Try.func20, Try.ntmps20
  go_wp2
  go_ret
  exact ⟨rfl, (Below.refl _ _).alloc (Nat.le_refl _) _⟩

@[go_sem] theorem eqB2 (a b c d : Bool) (w : World) : (Op.equalIn 10000 27 (.agg #[.bool a, .bool b]) (.agg #[.bool c, .bool d])).run Try.prog w = .ok (a == c && b == d) w := by
  cases a <;> cases b <;> cases c <;> cases d <;> kernel_rfl

def ex : Cf := ⟨16, 2, 3⟩
theorem exOk : ex.Rng := by decide
theorem example_any (w : World) : Calls Try.prog 25 #[] w fun e w' => e = .returned (.agg #[.int .i64 16, .int .i64 2, .int .i64 3]) ∧ Below w.heap.size w w' := by
  go_enter Try.func25, Try.ntmps25
  go_wp2
  refine bodyPost_ret (v := .agg #[.int .i64 16, .int .i64 2, .int .i64 3]) (by simp only [results, Try.results25]; go_simp) rfl ⟨rfl, ?_⟩
  exact (Below.refl _ _).alloc (Nat.le_refl _) _
theorem start_ex (w : World) : Calls Try.prog 13 #[.agg #[.int .i64 16, .int .i64 2, .int .i64 3]] w fun e w' => e = .returned (.tuple #[.agg #[.int .i64 0, .int .i64 0, .int .i64 3, .int .i64 3, .bool false, .bool false, .bool false], .nilIface]) ∧ Below w.heap.size w w' := start_ok ex exOk w
theorem step_ex1 (w : World) : Calls Try.prog 17 #[.agg #[.int .i64 16, .int .i64 2, .int .i64 3], .agg #[.int .i64 0, .int .i64 0, .int .i64 3, .int .i64 3, .bool false, .bool false, .bool false], .agg #[.bool false, .bool false, .bool false, .bool false]] w
    fun e w' => e = .returned (.tuple #[.agg #[.int .i64 1, .int .i64 0, .int .i64 0, .int .i64 0, .bool true, .bool true, .bool false], .nilIface]) ∧ Below w.heap.size w w' :=
  step_ok ex exOk ⟨0, 0, 3, 3, false, false, false⟩ false false false false w
theorem step_ex2 (w : World) : Calls Try.prog 17 #[.agg #[.int .i64 16, .int .i64 2, .int .i64 3], .agg #[.int .i64 1, .int .i64 0, .int .i64 0, .int .i64 0, .bool true, .bool true, .bool false], .agg #[.bool true, .bool true, .bool true, .bool true]] w
    fun e w' => e = .returned (.tuple #[.agg #[.int .i64 0, .int .i64 0, .int .i64 1, .int .i64 1, .bool false, .bool false, .bool false], .nilIface]) ∧ Below w.heap.size w w' :=
  step_ok ex exOk ⟨1, 0, 0, 0, true, true, false⟩ true true true true w

set_option maxHeartbeats 2000000 in
theorem awake_any (w : World) : Calls Try.prog 11 #[] w fun e w' => e = .returned (.bool true) ∧ Below w.heap.size w w' := by
  go_enter Try.func11, Try.ntmps11
  go_wp2_with fail
  refine (example_any _).mono ?_
  rintro e w1 ⟨rfl, H1⟩
  have z1 := H1.size
  go_wp2_with fail
  refine (start_ex _).mono ?_
  rintro e w2 ⟨rfl, hb2⟩
  have z2 := hb2.size
  have H2 : Below w.heap.size w w2 := H1.trans (hb2.mono z1)
  go_upto_region 2 with fail
  go_cut [3, 4] (fun s3 s4 wx => ∃ tb : Nat, s3 = .pointer (some ⟨tb, 0, none⟩) ∧ s4 = .nilIface ∧ (wx.cell? ⟨tb, 0, none⟩ = some (.int .i64 1) ∧ wx.cell? ⟨tb, 1, none⟩ = some (.int .i64 0) ∧ wx.cell? ⟨tb, 2, none⟩ = some (.int .i64 0) ∧ wx.cell? ⟨tb, 3, none⟩ = some (.int .i64 0) ∧ wx.cell? ⟨tb, 4, none⟩ = some (.bool true) ∧ wx.cell? ⟨tb, 5, none⟩ = some (.bool true) ∧ wx.cell? ⟨tb, 6, none⟩ = some (.bool false)) ∧ tb < wx.heap.size ∧ Below w.heap.size w wx)
  case first =>
    go_region_held3 (fun w' => w'.cell? ⟨w2.heap.size, 0, none⟩ = some (.int .i64 0) ∧ w'.cell? ⟨w2.heap.size, 1, none⟩ = some (.int .i64 0) ∧ w'.cell? ⟨w2.heap.size, 2, none⟩ = some (.int .i64 3) ∧ w'.cell? ⟨w2.heap.size, 3, none⟩ = some (.int .i64 3) ∧ w'.cell? ⟨w2.heap.size, 4, none⟩ = some (.bool false) ∧ w'.cell? ⟨w2.heap.size, 5, none⟩ = some (.bool false) ∧ w'.cell? ⟨w2.heap.size, 6, none⟩ = some (.bool false)) (go_keep) (first | (go_at_call 25; refine (example_any _).mono ?_; rintro e w3 ⟨rfl, hb3⟩; have z3 := hb3.size; (try simp at z3); have c3x0 := bstep (b := w2.heap.size) hb3 (by first | omega | (simp <;> omega)); have y3x0 : w2.heap.size < w3.heap.size := (by omega); have n3x0 : ¬ w3.heap.size = w2.heap.size := (by omega); have m3x0 : ¬ w2.heap.size = w3.heap.size := (by omega); have H3 : Below w.heap.size w w3 := Below.trans (by repeat (first | with_reducible assumption | with_reducible refine Below.drew ?_ | with_reducible refine below_drewN ?_ _ | with_reducible refine Below.alloc ?_ (by first | omega | (simp <;> omega)) _ | with_reducible refine Below.setCell ?_ (by first | omega | (simp <;> omega)) _ | with_reducible exact Below.refl _ _)) (hb3.mono (by first | omega | (simp <;> omega))); (try (have c3t0 := bstep (b := w2.heap.size + 1) hb3 (by first | omega | (simp <;> omega)); have f3t0 := bfro (b := w2.heap.size + 1) hb3 (by first | omega | (simp <;> omega)); have y3t0 : w2.heap.size + 1 < w3.heap.size := (by omega)))) | (go_at_call 17; refine (step_ex1 _).mono ?_; rintro e w4 ⟨rfl, hb4⟩; have z4 := hb4.size; (try simp at z4); have c4x0 := bstep (b := w2.heap.size) hb4 (by first | omega | (simp <;> omega)); have y4x0 : w2.heap.size < w4.heap.size := (by omega); have n4x0 : ¬ w4.heap.size = w2.heap.size := (by omega); have m4x0 : ¬ w2.heap.size = w4.heap.size := (by omega); have H4 : Below w.heap.size w w4 := Below.trans (by repeat (first | with_reducible assumption | with_reducible refine Below.drew ?_ | with_reducible refine below_drewN ?_ _ | with_reducible refine Below.alloc ?_ (by first | omega | (simp <;> omega)) _ | with_reducible refine Below.setCell ?_ (by first | omega | (simp <;> omega)) _ | with_reducible exact Below.refl _ _)) (hb4.mono (by first | omega | (simp <;> omega))); (try (have c4t0 := bstep (b := w2.heap.size + 1) hb4 (by first | omega | (simp <;> omega)); have f4t0 := bfro (b := w2.heap.size + 1) hb4 (by first | omega | (simp <;> omega)); have y4t0 : w2.heap.size + 1 < w4.heap.size := (by omega))); (try (have c4t1 := bstep (b := w3.heap.size) hb4 (by first | omega | (simp <;> omega)); have f4t1 := bfro (b := w3.heap.size) hb4 (by first | omega | (simp <;> omega)); have y4t1 : w3.heap.size < w4.heap.size := (by omega)))))
    all_goals
      go_wp2_with fail
      go_meet
      refine ⟨_, rfl, rfl, ?_, ?_, ?_⟩
      · refine ⟨?_, ?_, ?_, ?_, ?_, ?_, ?_⟩
        all_goals go_simp
      · first | omega | (simp <;> omega)
      · repeat (first | with_reducible assumption | with_reducible refine Below.drew ?_ | with_reducible refine Below.alloc ?_ (by first | omega | (simp <;> omega)) _ | with_reducible refine Below.setCell ?_ (by first | omega | (simp <;> omega)) _)
  case rest =>
  obtain ⟨tb, rfl, rfl, ⟨t0, t1, t2, t3, t4, t5, t6⟩, ty, HW⟩ := hcut
  have zc := HW.size
  go_upto_region 3 with fail
  have nn1 : ¬ wc.heap.size = tb := by omega
  have nn2 : ¬ tb = wc.heap.size := by omega
  go_cut [5, 6] (fun s5 s6 wx => ∃ ub : Nat, s5 = .pointer (some ⟨ub, 0, none⟩) ∧ s6 = .nilIface ∧ (wx.cell? ⟨tb, 0, none⟩ = some (.int .i64 1) ∧ wx.cell? ⟨tb, 1, none⟩ = some (.int .i64 0) ∧ wx.cell? ⟨tb, 2, none⟩ = some (.int .i64 0) ∧ wx.cell? ⟨tb, 3, none⟩ = some (.int .i64 0) ∧ wx.cell? ⟨tb, 4, none⟩ = some (.bool true) ∧ wx.cell? ⟨tb, 5, none⟩ = some (.bool true) ∧ wx.cell? ⟨tb, 6, none⟩ = some (.bool false)) ∧ (wx.cell? ⟨ub, 0, none⟩ = some (.int .i64 0) ∧ wx.cell? ⟨ub, 1, none⟩ = some (.int .i64 0) ∧ wx.cell? ⟨ub, 2, none⟩ = some (.int .i64 1) ∧ wx.cell? ⟨ub, 3, none⟩ = some (.int .i64 1) ∧ wx.cell? ⟨ub, 4, none⟩ = some (.bool false) ∧ wx.cell? ⟨ub, 5, none⟩ = some (.bool false) ∧ wx.cell? ⟨ub, 6, none⟩ = some (.bool false)) ∧ Below w.heap.size w wx)
  case first =>
    go_region_held3 (fun w' => w'.cell? ⟨tb, 0, none⟩ = some (.int .i64 1) ∧ w'.cell? ⟨tb, 1, none⟩ = some (.int .i64 0) ∧ w'.cell? ⟨tb, 2, none⟩ = some (.int .i64 0) ∧ w'.cell? ⟨tb, 3, none⟩ = some (.int .i64 0) ∧ w'.cell? ⟨tb, 4, none⟩ = some (.bool true) ∧ w'.cell? ⟨tb, 5, none⟩ = some (.bool true) ∧ w'.cell? ⟨tb, 6, none⟩ = some (.bool false)) (go_keep) (first | (go_at_call 25; refine (example_any _).mono ?_; rintro e w5 ⟨rfl, hb5⟩; have z5 := hb5.size; (try simp at z5); have c5x0 := bstep (b := tb) hb5 (by first | omega | (simp <;> omega)); have y5x0 : tb < w5.heap.size := (by omega); have n5x0 : ¬ w5.heap.size = tb := (by omega); have m5x0 : ¬ tb = w5.heap.size := (by omega); have H5 : Below w.heap.size w w5 := Below.trans (by repeat (first | with_reducible assumption | with_reducible refine Below.drew ?_ | with_reducible refine below_drewN ?_ _ | with_reducible refine Below.alloc ?_ (by first | omega | (simp <;> omega)) _ | with_reducible refine Below.setCell ?_ (by first | omega | (simp <;> omega)) _ | with_reducible exact Below.refl _ _)) (hb5.mono (by first | omega | (simp <;> omega))); (try (have c5t0 := bstep (b := wc.heap.size) hb5 (by first | omega | (simp <;> omega)); have f5t0 := bfro (b := wc.heap.size) hb5 (by first | omega | (simp <;> omega)); have y5t0 : wc.heap.size < w5.heap.size := (by omega)))) | (go_at_call 17; refine (step_ex2 _).mono ?_; rintro e w6 ⟨rfl, hb6⟩; have z6 := hb6.size; (try simp at z6); have c6x0 := bstep (b := tb) hb6 (by first | omega | (simp <;> omega)); have y6x0 : tb < w6.heap.size := (by omega); have n6x0 : ¬ w6.heap.size = tb := (by omega); have m6x0 : ¬ tb = w6.heap.size := (by omega); have H6 : Below w.heap.size w w6 := Below.trans (by repeat (first | with_reducible assumption | with_reducible refine Below.drew ?_ | with_reducible refine below_drewN ?_ _ | with_reducible refine Below.alloc ?_ (by first | omega | (simp <;> omega)) _ | with_reducible refine Below.setCell ?_ (by first | omega | (simp <;> omega)) _ | with_reducible exact Below.refl _ _)) (hb6.mono (by first | omega | (simp <;> omega))); (try (have c6t0 := bstep (b := wc.heap.size) hb6 (by first | omega | (simp <;> omega)); have f6t0 := bfro (b := wc.heap.size) hb6 (by first | omega | (simp <;> omega)); have y6t0 : wc.heap.size < w6.heap.size := (by omega))); (try (have c6t1 := bstep (b := w5.heap.size) hb6 (by first | omega | (simp <;> omega)); have f6t1 := bfro (b := w5.heap.size) hb6 (by first | omega | (simp <;> omega)); have y6t1 : w5.heap.size < w6.heap.size := (by omega)))))
    all_goals
      go_wp2_with fail
      go_meet
      refine ⟨_, rfl, rfl, ?_, ?_, ?_⟩
      · refine ⟨?_, ?_, ?_, ?_, ?_, ?_, ?_⟩
        all_goals go_simp
      · refine ⟨?_, ?_, ?_, ?_, ?_, ?_, ?_⟩
        all_goals go_simp
      · repeat (first | with_reducible assumption | with_reducible refine Below.drew ?_ | with_reducible refine Below.alloc ?_ (by first | omega | (simp <;> omega)) _ | with_reducible refine Below.setCell ?_ (by first | omega | (simp <;> omega)) _)
  case rest =>
  obtain ⟨ub, rfl, rfl, ⟨t0, t1, t2, t3, t4, t5, t6⟩, ⟨u0, u1, u2, u3, u4, u5, u6⟩, HW⟩ := hcut
  go_wp2
  go_ret
  exact ⟨rfl, HW⟩
end Go.Proofs.Ytgbbhkefkpndeaa

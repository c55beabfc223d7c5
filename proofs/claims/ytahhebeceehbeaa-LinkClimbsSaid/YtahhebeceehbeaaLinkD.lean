/- Contracts of a tick of the link, whole: the program's Step and the reference's for every configuration that Check accepts, the error for every other; Num and Is; the chapter's example. -/
import Derived.Test.YtahhebeceehbeaaLinkC
import Derived.ProofKit
namespace Go.Proofs.Ytahhebeceehbeaa
open Go.RowKit LM

theorem step_ok (c : Cfg) (h : c.Ok) (V d : Int) (b dead broken : Bool) (w : World) :
    Calls Try.prog 12 #[.agg #[.int .i64 c.num, .int .i64 c.den, .int .i64 c.supply, .int .i64 c.feed, .int .i64 c.ohm, .int .i64 c.on, .int .i64 c.off, .int .i64 c.bohm], .agg #[.int .i64 V, .bool b], .agg #[.int .i64 d, .bool dead, .bool broken]] w
      fun e w' => e = .returned (.tuple #[.agg #[.int .i64 (stepV c V b d dead broken), .bool (stepB c V b)], .nilIface]) ∧ Below w.heap.size w w' := by
  by_cases q1 : c.on ≤ vclip V
  · cases dead <;> cases broken
    · exact step_Ann c h V d b w q1
    · exact step_Anb c h V d b w q1
    · exact step_Adn c h V d b w q1
    · exact step_Adb c h V d b w q1
  · have q1' : vclip V < c.on := by omega
    by_cases q2 : c.off ≤ vclip V
    · cases b <;> cases dead <;> cases broken
      · exact step_Cnn c h V d w q1' q2
      · exact step_Cnb c h V d w q1' q2
      · exact step_Cdn c h V d w q1' q2
      · exact step_Cdb c h V d w q1' q2
      · exact step_Bnn c h V d w q1' q2
      · exact step_Bnb c h V d w q1' q2
      · exact step_Bdn c h V d w q1' q2
      · exact step_Bdb c h V d w q1' q2
    · have q2' : vclip V < c.off := by omega
      cases dead <;> cases broken
      · exact step_Dnn c h V d b w q1' q2'
      · exact step_Dnb c h V d b w q1' q2'
      · exact step_Ddn c h V d b w q1' q2'
      · exact step_Ddb c h V d b w q1' q2'

theorem rstep_ok (c : Cfg) (h : c.Ok) (V d : Int) (b dead broken : Bool) (w : World) :
    Calls Try.prog 15 #[.agg #[.int .i64 c.num, .int .i64 c.den, .int .i64 c.supply, .int .i64 c.feed, .int .i64 c.ohm, .int .i64 c.on, .int .i64 c.off, .int .i64 c.bohm], .agg #[.int .i64 V, .bool b], .agg #[.int .i64 d, .bool dead, .bool broken]] w
      fun e w' => e = .returned (.agg #[.int .i64 (stepV c V b d dead broken), .bool (stepB c V b)]) ∧ Below w.heap.size w w' := by
  by_cases q1 : c.on ≤ vclip V
  · cases dead <;> cases broken
    · exact rstep_Ann c h V d b w q1
    · exact rstep_Anb c h V d b w q1
    · exact rstep_Adn c h V d b w q1
    · exact rstep_Adb c h V d b w q1
  · have q1' : vclip V < c.on := by omega
    by_cases q2 : c.off ≤ vclip V
    · cases b <;> cases dead <;> cases broken
      · exact rstep_Cnn c h V d w q1' q2
      · exact rstep_Cnb c h V d w q1' q2
      · exact rstep_Cdn c h V d w q1' q2
      · exact rstep_Cdb c h V d w q1' q2
      · exact rstep_Bnn c h V d w q1' q2
      · exact rstep_Bnb c h V d w q1' q2
      · exact rstep_Bdn c h V d w q1' q2
      · exact rstep_Bdb c h V d w q1' q2
    · have q2' : vclip V < c.off := by omega
      cases dead <;> cases broken
      · exact rstep_Dnn c h V d b w q1' q2'
      · exact rstep_Dnb c h V d b w q1' q2'
      · exact rstep_Ddn c h V d b w q1' q2'
      · exact rstep_Ddb c h V d b w q1' q2'

theorem num_nil (w : World) : Calls Try.prog 14 #[.nilIface] w fun e w' => e = .returned (.int .i64 0) ∧ w = w' := by
  go_enter Try.func14, Try.ntmps14
  go_wp2
  go_ret
  exact ⟨rfl, rfl⟩

theorem bclip_v (n : Int) (w : World) :
    Calls Try.prog 17 #[.int .i64 n, .int .i64 0, .int .i64 1048576] w fun e w' => e = .returned (.int .i64 (vclip n)) ∧ w = w' :=
  (bclip_any n 0 1048576 w).mono fun _ _ ⟨a, b⟩ => ⟨a.trans (ret_int (by unfold vclip; omega)), b⟩
theorem bclip_d (n : Int) (w : World) :
    Calls Try.prog 17 #[.int .i64 n, .int .i64 (-4194304), .int .i64 4194304] w fun e w' => e = .returned (.int .i64 (dclip n)) ∧ w = w' :=
  (bclip_any n (-4194304) 4194304 w).mono fun _ _ ⟨a, b⟩ => ⟨a.trans (ret_int (by unfold dclip; omega)), b⟩

theorem as_errno (v : Value) (w : World) : (Instr.typeAssert (.iface 50 v) 30 50 true).run Try.prog w = .ok (.tuple #[v, .bool true]) w := by kernel_rfl
theorem as_nil (w : World) : (Instr.typeAssert .nilIface 30 50 true).run Try.prog w = .ok (.tuple #[.int .i64 0, .bool false]) w := by kernel_rfl

theorem num_err (n : Int) (w : World) : Calls Try.prog 14 #[.iface 50 (.int .i64 n)] w fun e w' => e = .returned (.int .i64 n) ∧ w = w' := by
  have ha := as_errno (.int .i64 n)
  go_enter Try.func14, Try.ntmps14
  go_wp2
  go_ret
  exact ⟨rfl, rfl⟩

theorem is_nil (n : Int) (w : World) : Calls Try.prog 22 #[.nilIface, .int .i64 n] w fun e w' => e = .returned (.bool false) ∧ w = w' := by
  have ha := as_nil
  go_enter Try.func22, Try.ntmps22
  go_wp2
  go_ret
  exact ⟨rfl, rfl⟩

theorem is_err (n : Int) (w : World) : Calls Try.prog 22 #[.iface 50 (.int .i64 n), .int .i64 n] w fun e w' => e = .returned (.bool true) ∧ w = w' := by
  have ha := as_errno (.int .i64 n)
  go_enter Try.func22, Try.ntmps22
  go_wp2
  go_ret
  exact ⟨rfl, rfl⟩

set_option maxHeartbeats 1000000 in
theorem step_err (c : Cfg) (h : c.code ≠ 0) (V d : Int) (b dead broken : Bool) (w : World) :
    Calls Try.prog 12 #[.agg #[.int .i64 c.num, .int .i64 c.den, .int .i64 c.supply, .int .i64 c.feed, .int .i64 c.ohm, .int .i64 c.on, .int .i64 c.off, .int .i64 c.bohm], .agg #[.int .i64 V, .bool b], .agg #[.int .i64 d, .bool dead, .bool broken]] w
      fun e w' => e = .returned (.tuple #[.agg #[.int .i64 0, .bool false], .iface 50 (.int .i64 c.code)]) ∧ Below w.heap.size w w' := by
  have HC := hide (fun W => check_err c W h)
  clear h
  go_enter Try.func12, Try.ntmps12
  go_wp2_with (go_at_call 16; refine (HC.out _).mono ?_; rintro e w1 ⟨rfl, hb⟩; obtain ⟨hbc, hbf⟩ := bcell hb)
  have hz : w.heap.size + 1 + 1 + 1 < w1.heap.size := by have := hb.size; simp at this; omega
  go_wp2
  refine bodyPost_ret (v := .tuple #[.agg #[.int .i64 0, .bool false], .iface 50 (.int .i64 c.code)]) (by simp [results, Try.results12, go_sem, hbc]) rfl ⟨rfl, ?_⟩
  have hb0 : Below w.heap.size w w1 := Below.trans (below4 w _ _ _ _) (hb.mono (by simp; omega))
  exact (hb0.setCell (by simp; omega) _).setCell (by simp; omega) _

theorem Try.own : ownKnob Try.prog.godebug = none := by kernel_rfl
theorem Try.laidOut : laidOutB Try.prog = true := by kernel_rfl

def ex : Cfg := ⟨1, 100, 48000, 5000, 100, 55000, 52000, 10000⟩
theorem exOk : ex.Ok := ⟨by decide, by decide, by decide⟩

theorem example_any (w : World) :
    Calls Try.prog 30 #[] w fun e w' => e = .returned (.agg #[.int .i64 1, .int .i64 100, .int .i64 48000, .int .i64 5000, .int .i64 100, .int .i64 55000, .int .i64 52000, .int .i64 10000]) ∧ Below w.heap.size w w' := by
  go_enter Try.func30, Try.ntmps30
  go_wp2
  refine bodyPost_ret (v := .agg #[.int .i64 1, .int .i64 100, .int .i64 48000, .int .i64 5000, .int .i64 100, .int .i64 55000, .int .i64 52000, .int .i64 10000]) (by simp [results, Try.results30, go_sem]) rfl ⟨rfl, ?_⟩
  exact (Below.refl _ _).alloc (Nat.le_refl _) _

theorem step_ex (w : World) :
    Calls Try.prog 12 #[.agg #[.int .i64 1, .int .i64 100, .int .i64 48000, .int .i64 5000, .int .i64 100, .int .i64 55000, .int .i64 52000, .int .i64 10000], .agg #[.int .i64 47900, .bool false], .agg #[.int .i64 3000, .bool false, .bool false]] w
      fun e w' => e = .returned (.tuple #[.agg #[.int .i64 47880, .bool false], .nilIface]) ∧ Below w.heap.size w w' :=
  step_ok ex exOk 47900 3000 false false false w

set_option maxHeartbeats 1000000 in
theorem awake_any (w : World) : Calls Try.prog 11 #[] w fun e w' => e = .returned (.bool true) ∧ Below w.heap.size w w' := by
  go_enter Try.func11, Try.ntmps11
  go_wp2_with (first
    | (go_at_call 30; refine (example_any _).mono ?_; rintro e w1 ⟨rfl, hb⟩; obtain ⟨hbc, hbf⟩ := bcell hb)
    | (go_at_call 12; refine (step_ex _).mono ?_; rintro e w2 ⟨rfl, hb2⟩; obtain ⟨hbc2, hbf2⟩ := bcell hb2))
  go_ret
  have h1 := hb.size
  have h2 := hb2.size
  exact ⟨rfl, (hb.trans (hb2.mono h1)).alloc (by omega) _⟩
end Go.Proofs.Ytahhebeceehbeaa

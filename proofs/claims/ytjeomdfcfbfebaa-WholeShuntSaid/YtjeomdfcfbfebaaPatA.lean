/- Walks of the small functions of the switching pattern: ranges, shapes, pulses, Make, of the program and of the reference, for every input. -/
import Derived.Test.YtjeomdfcfbfebaaProg
import Derived.Test.YtjeomdfcfbfebaaPatCells
import Derived.WalkKit
import Derived.WalkSpells
import Derived.WalkLawsBesides
import Derived.Deep.QuietTactic
import Derived.BigQuiet
import Derived.Deep.RegionHeld3
import Derived.ProofKit
namespace Go.Proofs.Ytjeomdfcfbfebaa
open Go.RowKit PM

theorem Try.own : ownKnob Try.prog.godebug = none := by kernel_rfl
theorem Try.laidOut : laidOutB Try.prog = true := by kernel_rfl

theorem hide {p : Prop} (h : p) : Hid p := h
theorem ret_bool {a b : Bool} (h : a = b) : Ending.returned (.bool a) = .returned (.bool b) := by rw [h]
theorem ret_int {k : IntKind} {a b : Int} (h : a = b) : Ending.returned (.int k a) = .returned (.int k b) := by rw [h]
theorem below_drewN {B : Nat} {a w : World} (h : Below B a w) (n : Nat) : Below B a (w.drewN n) := ⟨h.os, h.tape, h.output, h.size, h.block⟩
theorem bstep {W w1 : World} {b : Nat} (h : Below W.heap.size W w1) (hb : b < W.heap.size) : ∀ o, w1.cell? ⟨b, o, none⟩ = W.cell? ⟨b, o, none⟩ := fun o => h.cell (p := ⟨b, o, none⟩) hb
theorem bfro {W w1 : World} {b : Nat} (h : Below W.heap.size W w1) (hb : b < W.heap.size) : ∀ o, w1.frozen? ⟨b, o, none⟩ = W.frozen? ⟨b, o, none⟩ := fun o => h.frozen (p := ⟨b, o, none⟩) hb

theorem pwithin_any (n lo hi : Int) (w : World) :
    Calls Try.prog 59 #[.int .i64 n, .int .i64 lo, .int .i64 hi] w fun e w' => e = .returned (.bool (decide (lo ≤ n ∧ n ≤ hi))) ∧ w = w' := by
  go_enter Try.func59, Try.ntmps59
  go_wp2
  all_goals go_ret
  all_goals exact ⟨ret_bool (by simp; try omega), rfl⟩
theorem pwithin_yes (n lo hi : Int) (w : World) (h1 : lo ≤ n) (h2 : n ≤ hi) :
    Calls Try.prog 59 #[.int .i64 n, .int .i64 lo, .int .i64 hi] w fun e w' => e = .returned (.bool true) ∧ w = w' :=
  (pwithin_any n lo hi w).mono fun _ _ ⟨a, b⟩ => ⟨a.trans (ret_bool (by simp; omega)), b⟩
theorem pwithin_no (n lo hi : Int) (w : World) (h : ¬ (lo ≤ n ∧ n ≤ hi)) :
    Calls Try.prog 59 #[.int .i64 n, .int .i64 lo, .int .i64 hi] w fun e w' => e = .returned (.bool false) ∧ w = w' :=
  (pwithin_any n lo hi w).mono fun _ _ ⟨a, b⟩ => ⟨a.trans (ret_bool (by simp; omega)), b⟩
theorem isPeriod_yes (per : Int) (h : okPer per) (w : World) :
    Calls Try.prog 69 #[.int .i64 per] w fun e w' => e = .returned (.bool true) ∧ w = w' := by
  obtain ⟨h1, h2⟩ := h
  go_enter Try.func69, Try.ntmps69
  go_wp2_with (go_at_call 59; first | (refine (pwithin_yes _ _ _ _ (by omega) (by omega)).mono ?_; rintro e w' ⟨rfl, rfl⟩) | (refine (pwithin_no _ _ _ _ (by omega)).mono ?_; rintro e w' ⟨rfl, rfl⟩))
  go_ret
  exact ⟨rfl, rfl⟩
theorem isPeriod_no (per : Int) (h : ¬ okPer per) (w : World) :
    Calls Try.prog 69 #[.int .i64 per] w fun e w' => e = .returned (.bool false) ∧ w = w' := by
  unfold okPer at h
  go_enter Try.func69, Try.ntmps69
  go_wp2_with (go_at_call 59; first | (refine (pwithin_yes _ _ _ _ (by omega) (by omega)).mono ?_; rintro e w' ⟨rfl, rfl⟩) | (refine (pwithin_no _ _ _ _ (by omega)).mono ?_; rintro e w' ⟨rfl, rfl⟩))
  go_ret
  exact ⟨rfl, rfl⟩
theorem ranges_ok (per least : Int) (h : okRng per least) (w : World) :
    Calls Try.prog 58 #[.int .i64 per, .int .i64 least] w fun e w' => e = .returned .nilIface ∧ w = w' := by
  have HP := hide (isPeriod_yes per h.1)
  obtain ⟨⟨h1, h2⟩, h3, h4⟩ := h
  go_enter Try.func58, Try.ntmps58
  go_wp2_with (first | (go_at_call 69; refine (HP.out _).mono ?_; rintro e w' ⟨rfl, rfl⟩) | (go_at_call 59; first | (refine (pwithin_yes _ _ _ _ (by omega) (by omega)).mono ?_; rintro e w' ⟨rfl, rfl⟩) | (refine (pwithin_no _ _ _ _ (by omega)).mono ?_; rintro e w' ⟨rfl, rfl⟩)))
  go_ret
  exact ⟨rfl, rfl⟩
theorem ranges_err (per least : Int) (h : ¬ okRng per least) (w : World) :
    Calls Try.prog 58 #[.int .i64 per, .int .i64 least] w fun e w' => e = .returned (.iface 96 (.int .i64 3)) ∧ w = w' := by
  by_cases hp : okPer per
  · have HP := hide (isPeriod_yes per hp)
    have h3 : ¬ (1 ≤ least ∧ least ≤ per / 4) := fun k => h ⟨hp, k⟩
    obtain ⟨h1, h2⟩ := hp
    go_enter Try.func58, Try.ntmps58
    go_wp2_with (first | (go_at_call 69; refine (HP.out _).mono ?_; rintro e w' ⟨rfl, rfl⟩) | (go_at_call 59; first | (refine (pwithin_yes _ _ _ _ (by omega) (by omega)).mono ?_; rintro e w' ⟨rfl, rfl⟩) | (refine (pwithin_no _ _ _ _ (by omega)).mono ?_; rintro e w' ⟨rfl, rfl⟩)))
    go_ret
    exact ⟨rfl, rfl⟩
  · have HP := hide (isPeriod_no per hp)
    clear h
    go_enter Try.func58, Try.ntmps58
    go_wp2_with (go_at_call 69; refine (HP.out _).mono ?_; rintro e w' ⟨rfl, rfl⟩)
    go_ret
    exact ⟨rfl, rfl⟩
theorem rranges_ok (per least : Int) (h : okRng per least) (w : World) :
    Calls Try.prog 68 #[.int .i64 per, .int .i64 least] w fun e w' => e = .returned (.int .i64 0) ∧ w = w' := by
  obtain ⟨⟨h1, h2⟩, h3, h4⟩ := h
  go_enter Try.func68, Try.ntmps68
  go_wp2
  go_ret
  exact ⟨rfl, rfl⟩
theorem rng_cases {per least : Int} (h : ¬ okRng per least) : per < 64 ∨ (64 ≤ per ∧ 4096 < per) ∨ ((64 ≤ per ∧ per ≤ 4096) ∧ least < 1) ∨ ((64 ≤ per ∧ per ≤ 4096) ∧ 1 ≤ least ∧ per / 4 < least) := by
  unfold okRng at h
  omega
theorem rranges_err (per least : Int) (h : ¬ okRng per least) (w : World) :
    Calls Try.prog 68 #[.int .i64 per, .int .i64 least] w fun e w' => e = .returned (.int .i64 3) ∧ w = w' := by
  rcases rng_cases h with k | ⟨k1, k2⟩ | ⟨⟨k1, k2⟩, k3⟩ | ⟨⟨k1, k2⟩, k3, k4⟩
  all_goals clear h
  all_goals
    go_enter Try.func68, Try.ntmps68
    go_wp2
    go_ret
    exact ⟨rfl, rfl⟩
theorem shape_ok (l : Lg) (per : Int) (h : l.In per) (w : World) :
    Calls Try.prog 70 #[.agg #[.int .i64 l.a, .int .i64 l.b], .int .i64 per] w fun e w' => e = .returned .nilIface ∧ w.alloc (.cells #[.int .i64 l.a, .int .i64 l.b] 38) = w' := by
  obtain ⟨h1, h2, h3⟩ := h
  go_enter Try.func70, Try.ntmps70
  go_wp2
  go_ret
  exact ⟨rfl, rfl⟩
theorem in_cases {l : Lg} {per : Int} (h : ¬ l.In per) : l.a < 0 ∨ (0 ≤ l.a ∧ l.b < l.a) ∨ (0 ≤ l.a ∧ l.a ≤ l.b ∧ per < l.b) := by
  unfold Lg.In at h
  omega
theorem shape_err (l : Lg) (per : Int) (h : ¬ l.In per) (w : World) :
    Calls Try.prog 70 #[.agg #[.int .i64 l.a, .int .i64 l.b], .int .i64 per] w fun e w' => e = .returned (.iface 96 (.int .i64 11)) ∧ w.alloc (.cells #[.int .i64 l.a, .int .i64 l.b] 38) = w' := by
  rcases in_cases h with k | ⟨k1, k2⟩ | ⟨k1, k2, k3⟩
  all_goals clear h
  all_goals
    go_enter Try.func70, Try.ntmps70
    go_wp2
    go_ret
    exact ⟨rfl, rfl⟩
theorem rshape_ok (l : Lg) (per : Int) (h : l.In per) (w : World) :
    Calls Try.prog 73 #[.agg #[.int .i64 l.a, .int .i64 l.b], .int .i64 per] w fun e w' => e = .returned (.int .i64 0) ∧ w.alloc (.cells #[.int .i64 l.a, .int .i64 l.b] 38) = w' := by
  obtain ⟨h1, h2, h3⟩ := h
  go_enter Try.func73, Try.ntmps73
  go_wp2
  go_ret
  exact ⟨rfl, rfl⟩
theorem rshape_err (l : Lg) (per : Int) (h : ¬ l.In per) (w : World) :
    Calls Try.prog 73 #[.agg #[.int .i64 l.a, .int .i64 l.b], .int .i64 per] w fun e w' => e = .returned (.int .i64 11) ∧ w.alloc (.cells #[.int .i64 l.a, .int .i64 l.b] 38) = w' := by
  rcases in_cases h with k | ⟨k1, k2⟩ | ⟨k1, k2, k3⟩
  all_goals clear h
  all_goals
    go_enter Try.func73, Try.ntmps73
    go_wp2
    go_ret
    exact ⟨rfl, rfl⟩
theorem pulse_any (d per least : Int) (h : okRng per least) (h0 : 0 ≤ d) (h1 : d ≤ per) (w : World) :
    Calls Try.prog 60 #[.int .i64 d, .int .i64 per, .int .i64 least] w fun e w' => e = .returned (.agg #[.int .i64 (pulse d per least).a, .int .i64 (pulse d per least).b]) ∧ Below w.heap.size w w' := by
  obtain ⟨⟨a, b⟩, c, f⟩ := h
  by_cases k1 : d < least
  · have he := hide (show pulse d per least = ⟨0, 0⟩ by unfold pulse; rw [if_pos k1])
    go_enter Try.func60, Try.ntmps60
    go_wp2
    refine bodyPost_ret (v := .agg #[.int .i64 0, .int .i64 0]) (by simp only [results, Try.results60]; go_simp) rfl ⟨by rw [he.out], by exact (by repeat (first | with_reducible assumption | with_reducible refine Below.drew ?_ | with_reducible refine below_drewN ?_ _ | with_reducible refine Below.alloc ?_ (by first | omega | (simp <;> omega)) _ | with_reducible refine Below.setCell ?_ (by first | omega | (simp <;> omega)) _ | with_reducible exact Below.refl _ _))⟩
  · by_cases k2 : per - 2 * least < d
    · have he := hide (show pulse d per least = ⟨0, per⟩ by unfold pulse; rw [if_neg k1, if_pos k2])
      go_enter Try.func60, Try.ntmps60
      go_wp2
      refine bodyPost_ret (v := .agg #[.int .i64 0, .int .i64 per]) (by simp only [results, Try.results60]; go_simp) rfl ⟨by rw [he.out], by exact (by repeat (first | with_reducible assumption | with_reducible refine Below.drew ?_ | with_reducible refine below_drewN ?_ _ | with_reducible refine Below.alloc ?_ (by first | omega | (simp <;> omega)) _ | with_reducible refine Below.setCell ?_ (by first | omega | (simp <;> omega)) _ | with_reducible exact Below.refl _ _))⟩
    · have he := hide (show pulse d per least = ⟨(per - d) / 2, (per - d) / 2 + d⟩ by unfold pulse; rw [if_neg k1, if_neg k2])
      go_enter Try.func60, Try.ntmps60
      go_wp2
      refine bodyPost_ret (v := .agg #[.int .i64 ((per - d) / 2), .int .i64 ((per - d) / 2 + d)]) (by simp only [results, Try.results60]; go_simp) rfl ⟨by rw [he.out], by exact (by repeat (first | with_reducible assumption | with_reducible refine Below.drew ?_ | with_reducible refine below_drewN ?_ _ | with_reducible refine Below.alloc ?_ (by first | omega | (simp <;> omega)) _ | with_reducible refine Below.setCell ?_ (by first | omega | (simp <;> omega)) _ | with_reducible exact Below.refl _ _))⟩
end Go.Proofs.Ytjeomdfcfbfebaa

/- Walks of the link's small functions: what Check, clip and within return, for every input. -/
import Derived.Test.YtahhebeceehbeaaProg
import Derived.Test.YtahhebeceehbeaaLinkMath
import Derived.WalkKit
import Derived.WalkSpells
import Derived.WalkLawsBesides
namespace Go.Proofs.Ytahhebeceehbeaa
open Go.RowKit LM

/-- A configuration as a value. -/
def cfgV (c : Cfg) : Value := .agg #[.int .i64 c.num, .int .i64 c.den, .int .i64 c.supply, .int .i64 c.feed, .int .i64 c.ohm, .int .i64 c.on, .int .i64 c.off, .int .i64 c.bohm]

theorem hide {p : Prop} (h : p) : Hid p := h
theorem ret_bool {a b : Bool} (h : a = b) : Ending.returned (.bool a) = .returned (.bool b) := by rw [h]
theorem ret_int {k : IntKind} {a b : Int} (h : a = b) : Ending.returned (.int k a) = .returned (.int k b) := by rw [h]

theorem within_any (n lo hi : Int) (w : World) :
    Calls Try.prog 34 #[.int .i64 n, .int .i64 lo, .int .i64 hi] w fun e w' => e = .returned (.bool (decide (lo ≤ n) && decide (n ≤ hi))) ∧ w = w' := by
  go_enter Try.func34, Try.ntmps34
  go_wp2
  all_goals go_ret
  all_goals exact ⟨ret_bool (by simp; try omega), rfl⟩

theorem rwithin_any (n lo hi : Int) (w : World) :
    Calls Try.prog 32 #[.int .i64 n, .int .i64 lo, .int .i64 hi] w fun e w' => e = .returned (.bool (decide (lo ≤ n) && decide (n ≤ hi))) ∧ w = w' := by
  go_enter Try.func32, Try.ntmps32
  go_wp2
  all_goals go_ret
  all_goals exact ⟨ret_bool (by simp; try omega), rfl⟩

theorem within_yes (n lo hi : Int) (w : World) (h1 : lo ≤ n) (h2 : n ≤ hi) :
    Calls Try.prog 34 #[.int .i64 n, .int .i64 lo, .int .i64 hi] w fun e w' => e = .returned (.bool true) ∧ w = w' :=
  (within_any n lo hi w).mono fun _ _ ⟨a, b⟩ => ⟨a.trans (ret_bool (by simp; omega)), b⟩
theorem within_no (n lo hi : Int) (w : World) (h : ¬ (lo ≤ n ∧ n ≤ hi)) :
    Calls Try.prog 34 #[.int .i64 n, .int .i64 lo, .int .i64 hi] w fun e w' => e = .returned (.bool false) ∧ w = w' :=
  (within_any n lo hi w).mono fun _ _ ⟨a, b⟩ => ⟨a.trans (ret_bool (by simp; omega)), b⟩
theorem rwithin_yes (n lo hi : Int) (w : World) (h1 : lo ≤ n) (h2 : n ≤ hi) :
    Calls Try.prog 32 #[.int .i64 n, .int .i64 lo, .int .i64 hi] w fun e w' => e = .returned (.bool true) ∧ w = w' :=
  (rwithin_any n lo hi w).mono fun _ _ ⟨a, b⟩ => ⟨a.trans (ret_bool (by simp; omega)), b⟩
theorem rwithin_no (n lo hi : Int) (w : World) (h : ¬ (lo ≤ n ∧ n ≤ hi)) :
    Calls Try.prog 32 #[.int .i64 n, .int .i64 lo, .int .i64 hi] w fun e w' => e = .returned (.bool false) ∧ w = w' :=
  (rwithin_any n lo hi w).mono fun _ _ ⟨a, b⟩ => ⟨a.trans (ret_bool (by simp; omega)), b⟩

theorem clip_any (n lo hi : Int) (w : World) :
    Calls Try.prog 31 #[.int .i64 n, .int .i64 lo, .int .i64 hi] w fun e w' => e = .returned (.int .i64 (min (max n lo) hi)) ∧ w = w' := by
  go_enter Try.func31, Try.ntmps31
  go_wp2
  all_goals go_ret
  all_goals exact ⟨ret_int (by omega), rfl⟩

theorem rclip_any (n lo hi : Int) (w : World) :
    Calls Try.prog 33 #[.int .i64 n, .int .i64 lo, .int .i64 hi] w fun e w' => e = .returned (.int .i64 (max lo (min n hi))) ∧ w = w' := by
  go_enter Try.func33, Try.ntmps33
  go_wp2
  all_goals go_ret
  all_goals exact ⟨ret_int (by omega), rfl⟩

theorem bclip_any (n lo hi : Int) (w : World) :
    Calls Try.prog 17 #[.int .i64 n, .int .i64 lo, .int .i64 hi] w fun e w' => e = .returned (.int .i64 (max lo (min n hi))) ∧ w = w' := by
  go_enter Try.func17, Try.ntmps17
  go_wp2
  all_goals go_ret
  all_goals exact ⟨ret_int (by omega), rfl⟩

theorem rng_cases {c : Cfg} (h : ¬ c.Rng) :
    (¬ (0 ≤ c.num ∧ c.num ≤ 1048576)) ∨ ((0 ≤ c.num ∧ c.num ≤ 1048576) ∧ ((¬ (1 ≤ c.den ∧ c.den ≤ 1048576)) ∨ ((1 ≤ c.den ∧ c.den ≤ 1048576) ∧ ((¬ (0 ≤ c.supply ∧ c.supply ≤ 1048576)) ∨ ((0 ≤ c.supply ∧ c.supply ≤ 1048576) ∧
    ((¬ (0 ≤ c.feed ∧ c.feed ≤ 4194304)) ∨ ((0 ≤ c.feed ∧ c.feed ≤ 4194304) ∧ ((¬ (1 ≤ c.ohm ∧ c.ohm ≤ 1048576)) ∨ ((1 ≤ c.ohm ∧ c.ohm ≤ 1048576) ∧ ((¬ (1 ≤ c.on ∧ c.on ≤ 1048576)) ∨ ((1 ≤ c.on ∧ c.on ≤ 1048576) ∧
    ((¬ (1 ≤ c.off ∧ c.off ≤ 1048576)) ∨ ((1 ≤ c.off ∧ c.off ≤ 1048576) ∧ (¬ (1 ≤ c.bohm ∧ c.bohm ≤ 1048576))))))))))))))) := by
  unfold Cfg.Rng at h
  omega

set_option maxHeartbeats 4000000 in
theorem check_rng (c : Cfg) (w : World) (h : ¬ c.Rng) :
    Calls Try.prog 16 #[cfgV c] w fun e w' => e = .returned (.iface 50 (.int .i64 3)) ∧ Below w.heap.size w w' := by
  unfold cfgV
  rcases rng_cases h with k1 | ⟨k1, k2 | ⟨k2, k3 | ⟨k3, k4 | ⟨k4, k5 | ⟨k5, k6 | ⟨k6, k7 | ⟨k7, k8⟩⟩⟩⟩⟩⟩⟩
  all_goals clear h
  all_goals
    go_enter Try.func16, Try.ntmps16
    go_wp2_with (go_at_call 34; first | (refine (within_yes _ _ _ _ (by omega) (by omega)).mono ?_; rintro e w' ⟨rfl, rfl⟩) | (refine (within_no _ _ _ _ (by omega)).mono ?_; rintro e w' ⟨rfl, rfl⟩))
    go_ret
    exact ⟨rfl, (Below.refl _ _).alloc (Nat.le_refl _) _⟩

theorem ok_rest {c : Cfg} (h : c.Rng) : (0 ≤ 1000 * c.num ∧ 1000 * c.num ≤ 1048576000) ∧ (1 ≤ c.ohm * c.den ∧ c.ohm * c.den ≤ 1099511627776) := by
  obtain ⟨h1, h2, _, _, h5, _⟩ := h
  have a : 1 * 1 ≤ c.ohm * c.den := Int.mul_le_mul h5.1 h2.1 (by omega) (by omega)
  have b : c.ohm * c.den ≤ 1048576 * 1048576 := Int.mul_le_mul h5.2 h2.2 (by omega) (by omega)
  omega

set_option maxHeartbeats 4000000 in
theorem check_ord (c : Cfg) (w : World) (h : c.Rng) (ho : ¬ c.Ord) :
    Calls Try.prog 16 #[cfgV c] w fun e w' => e = .returned (.iface 50 (.int .i64 26)) ∧ Below w.heap.size w w' := by
  obtain ⟨⟨x1, x2⟩, ⟨y1, y2⟩⟩ := ok_rest h
  obtain ⟨k1, k2, k3, k4, k5, k6, k7, k8⟩ := h
  unfold cfgV
  unfold Cfg.Ord at ho
  rcases (show c.on ≤ c.supply ∨ (c.supply < c.on ∧ c.on ≤ c.off) by omega) with q | q
  all_goals clear ho
  all_goals
    go_enter Try.func16, Try.ntmps16
    go_wp2_with (go_at_call 34; first | (refine (within_yes _ _ _ _ (by omega) (by omega)).mono ?_; rintro e w' ⟨rfl, rfl⟩) | (refine (within_no _ _ _ _ (by omega)).mono ?_; rintro e w' ⟨rfl, rfl⟩))
    go_ret
    exact ⟨rfl, (Below.refl _ _).alloc (Nat.le_refl _) _⟩

set_option maxHeartbeats 4000000 in
theorem check_lim (c : Cfg) (w : World) (h : c.Rng) (ho : c.Ord) (hl : ¬ c.Lim) :
    Calls Try.prog 16 #[cfgV c] w fun e w' => e = .returned (.iface 50 (.int .i64 16)) ∧ Below w.heap.size w w' := by
  obtain ⟨⟨x1, x2⟩, ⟨y1, y2⟩⟩ := ok_rest h
  obtain ⟨k1, k2, k3, k4, k5, k6, k7, k8⟩ := h
  unfold cfgV
  obtain ⟨o1, o2⟩ := ho
  unfold Cfg.Lim at hl
  have hl' : c.ohm * c.den < 1000 * c.num := by omega
  clear hl
  all_goals
    go_enter Try.func16, Try.ntmps16
    go_wp2_with (go_at_call 34; first | (refine (within_yes _ _ _ _ (by omega) (by omega)).mono ?_; rintro e w' ⟨rfl, rfl⟩) | (refine (within_no _ _ _ _ (by omega)).mono ?_; rintro e w' ⟨rfl, rfl⟩))
    go_ret
    exact ⟨rfl, (Below.refl _ _).alloc (Nat.le_refl _) _⟩

set_option maxHeartbeats 4000000 in
theorem check_fine (c : Cfg) (w : World) (h : c.Rng) (ho : c.Ord) (hl : c.Lim) :
    Calls Try.prog 16 #[cfgV c] w fun e w' => e = .returned (.nilIface) ∧ Below w.heap.size w w' := by
  obtain ⟨⟨x1, x2⟩, ⟨y1, y2⟩⟩ := ok_rest h
  obtain ⟨k1, k2, k3, k4, k5, k6, k7, k8⟩ := h
  unfold cfgV
  obtain ⟨o1, o2⟩ := ho
  unfold Cfg.Lim at hl
  all_goals
    go_enter Try.func16, Try.ntmps16
    go_wp2_with (go_at_call 34; first | (refine (within_yes _ _ _ _ (by omega) (by omega)).mono ?_; rintro e w' ⟨rfl, rfl⟩) | (refine (within_no _ _ _ _ (by omega)).mono ?_; rintro e w' ⟨rfl, rfl⟩))
    go_ret
    exact ⟨rfl, (Below.refl _ _).alloc (Nat.le_refl _) _⟩

theorem check_ok (c : Cfg) (w : World) (h : c.Ok) :
    Calls Try.prog 16 #[cfgV c] w fun e w' => e = .returned .nilIface ∧ Below w.heap.size w w' := check_fine c w h.rng h.ord h.lim

theorem check_err (c : Cfg) (w : World) (h : c.code ≠ 0) :
    Calls Try.prog 16 #[cfgV c] w fun e w' => e = .returned (.iface 50 (.int .i64 c.code)) ∧ Below w.heap.size w w' := by
  unfold Cfg.code at h ⊢
  by_cases h1 : c.Rng
  · by_cases h2 : c.Ord
    · by_cases h3 : c.Lim
      · simp [h1, h2, h3] at h
      · simp only [if_pos h1, if_pos h2, if_neg h3]
        exact check_lim c w h1 h2 h3
    · simp only [if_pos h1, if_neg h2]
      exact check_ord c w h1 h2
  · simp only [if_neg h1]
    exact check_rng c w h1

set_option maxHeartbeats 4000000 in
theorem rcheck_rng (c : Cfg) (w : World) (h : ¬ c.Rng) :
    Calls Try.prog 13 #[cfgV c] w fun e w' => e = .returned (.int .i64 3) ∧ Below w.heap.size w w' := by
  unfold cfgV
  rcases rng_cases h with k1 | ⟨k1, k2 | ⟨k2, k3 | ⟨k3, k4 | ⟨k4, k5 | ⟨k5, k6 | ⟨k6, k7 | ⟨k7, k8⟩⟩⟩⟩⟩⟩⟩
  all_goals clear h
  all_goals
    go_enter Try.func13, Try.ntmps13
    go_wp2_with (go_at_call 32; first | (refine (rwithin_yes _ _ _ _ (by omega) (by omega)).mono ?_; rintro e w' ⟨rfl, rfl⟩) | (refine (rwithin_no _ _ _ _ (by omega)).mono ?_; rintro e w' ⟨rfl, rfl⟩))
    go_ret
    exact ⟨rfl, (Below.refl _ _).alloc (Nat.le_refl _) _⟩

set_option maxHeartbeats 4000000 in
theorem rcheck_ord (c : Cfg) (w : World) (h : c.Rng) (ho : ¬ c.Ord) :
    Calls Try.prog 13 #[cfgV c] w fun e w' => e = .returned (.int .i64 26) ∧ Below w.heap.size w w' := by
  obtain ⟨⟨x1, x2⟩, ⟨y1, y2⟩⟩ := ok_rest h
  obtain ⟨k1, k2, k3, k4, k5, k6, k7, k8⟩ := h
  unfold cfgV
  unfold Cfg.Ord at ho
  rcases (show c.on ≤ c.supply ∨ (c.supply < c.on ∧ c.on ≤ c.off) by omega) with q | q
  all_goals clear ho
  all_goals
    go_enter Try.func13, Try.ntmps13
    go_wp2_with (go_at_call 32; first | (refine (rwithin_yes _ _ _ _ (by omega) (by omega)).mono ?_; rintro e w' ⟨rfl, rfl⟩) | (refine (rwithin_no _ _ _ _ (by omega)).mono ?_; rintro e w' ⟨rfl, rfl⟩))
    go_ret
    exact ⟨rfl, (Below.refl _ _).alloc (Nat.le_refl _) _⟩

set_option maxHeartbeats 4000000 in
theorem rcheck_lim (c : Cfg) (w : World) (h : c.Rng) (ho : c.Ord) (hl : ¬ c.Lim) :
    Calls Try.prog 13 #[cfgV c] w fun e w' => e = .returned (.int .i64 16) ∧ Below w.heap.size w w' := by
  obtain ⟨⟨x1, x2⟩, ⟨y1, y2⟩⟩ := ok_rest h
  obtain ⟨k1, k2, k3, k4, k5, k6, k7, k8⟩ := h
  unfold cfgV
  obtain ⟨o1, o2⟩ := ho
  unfold Cfg.Lim at hl
  have hl' : c.ohm * c.den < 1000 * c.num := by omega
  clear hl
  all_goals
    go_enter Try.func13, Try.ntmps13
    go_wp2_with (go_at_call 32; first | (refine (rwithin_yes _ _ _ _ (by omega) (by omega)).mono ?_; rintro e w' ⟨rfl, rfl⟩) | (refine (rwithin_no _ _ _ _ (by omega)).mono ?_; rintro e w' ⟨rfl, rfl⟩))
    go_ret
    exact ⟨rfl, (Below.refl _ _).alloc (Nat.le_refl _) _⟩

set_option maxHeartbeats 4000000 in
theorem rcheck_fine (c : Cfg) (w : World) (h : c.Rng) (ho : c.Ord) (hl : c.Lim) :
    Calls Try.prog 13 #[cfgV c] w fun e w' => e = .returned (.int .i64 0) ∧ Below w.heap.size w w' := by
  obtain ⟨⟨x1, x2⟩, ⟨y1, y2⟩⟩ := ok_rest h
  obtain ⟨k1, k2, k3, k4, k5, k6, k7, k8⟩ := h
  unfold cfgV
  obtain ⟨o1, o2⟩ := ho
  unfold Cfg.Lim at hl
  all_goals
    go_enter Try.func13, Try.ntmps13
    go_wp2_with (go_at_call 32; first | (refine (rwithin_yes _ _ _ _ (by omega) (by omega)).mono ?_; rintro e w' ⟨rfl, rfl⟩) | (refine (rwithin_no _ _ _ _ (by omega)).mono ?_; rintro e w' ⟨rfl, rfl⟩))
    go_ret
    exact ⟨rfl, (Below.refl _ _).alloc (Nat.le_refl _) _⟩

theorem rcheck_any (c : Cfg) (w : World) :
    Calls Try.prog 13 #[cfgV c] w fun e w' => e = .returned (.int .i64 c.code) ∧ Below w.heap.size w w' := by
  unfold Cfg.code
  by_cases h1 : c.Rng
  · by_cases h2 : c.Ord
    · by_cases h3 : c.Lim
      · simp only [if_pos h1, if_pos h2, if_pos h3]
        exact rcheck_fine c w h1 h2 h3
      · simp only [if_pos h1, if_pos h2, if_neg h3]
        exact rcheck_lim c w h1 h2 h3
    · simp only [if_pos h1, if_neg h2]
      exact rcheck_ord c w h1 h2
  · simp only [if_neg h1]
    exact rcheck_rng c w h1
end Go.Proofs.Ytahhebeceehbeaa

/- Walks of the integer square root and of what scales a vector by it. Condition: the ranges that each theorem names. -/
import Derived.Test.YtjeomdfcfbfebaaPatH
namespace Go.Proofs.Ytjeomdfcfbfebaa
open Go.RowKit PM

namespace PM
/-- What holds at a bit of the square root. -/
structure SqI (n : Int) (k : Nat) (r b : Int) : Prop where
  k31 : k ≤ 31
  hb : b = ((2 ^ k : Nat) : Int)
  hq : ∃ q : Nat, r = ((q * 2 ^ (k + 1) : Nat) : Int)
  lo : r * r ≤ n
  hi : n < (r + 2 * b) * (r + 2 * b)
theorem sq_or {n : Int} {k : Nat} {r b : Int} (h : SqI n k r b) (hr : r ≤ 4294967296) : bits .or .i64 r b = r + b := by
  obtain ⟨h31, rfl, ⟨q, rfl⟩, _, _⟩ := h
  have hp : 2 ^ k ≤ 2 ^ 31 := Nat.pow_le_pow_right (by decide) h31
  have hr' : q * 2 ^ (k + 1) ≤ 4294967296 := Int.ofNat_le.1 hr
  have e : q * 2 ^ (k + 1) ||| 2 ^ k = q * 2 ^ (k + 1) + 2 ^ k := by
    rw [Nat.mul_comm q]
    exact (Nat.two_pow_add_eq_or_of_lt (Nat.pow_lt_pow_right (by decide) (by omega)) q).symm
  generalize q * 2 ^ (k + 1) = x at *
  generalize 2 ^ k = y at *
  unfold bits
  show IntKind.i64.wrap (((BitVec.ofInt 64 (x : Int)) ||| (BitVec.ofInt 64 (y : Int))).toNat : Int) = _
  rw [BitVec.toNat_or, BitVec.toNat_ofInt, BitVec.toNat_ofInt]
  have e1 : ((x : Int) % ((2 ^ 64 : Nat) : Int)).toNat = x := by omega
  have e2 : ((y : Int) % ((2 ^ 64 : Nat) : Int)).toNat = y := by omega
  rw [e1, e2, e]
  have : IntKind.i64.wrap ((x + y : Nat) : Int) = ((x + y : Nat) : Int) := IntWalk.i64_in _ (by omega)
  rw [this]
  omega
theorem SqI.nonneg {n : Int} {k : Nat} {r b : Int} (h : SqI n k r b) : 0 ≤ r ∧ 1 ≤ b ∧ b ≤ 2147483648 := by
  obtain ⟨h31, rfl, ⟨q, rfl⟩, _, _⟩ := h
  have hp : 2 ^ k ≤ 2 ^ 31 := Nat.pow_le_pow_right (by decide) h31
  have hq : 0 < 2 ^ k := Nat.pow_pos (by decide)
  omega
theorem SqI.half {n : Int} {k : Nat} {r b : Int} (h : SqI n k r b) : (k = 0 → b = 1) ∧ (0 < k → b / 2 * 2 = b ∧ b / 2 = ((2 ^ (k - 1) : Nat) : Int)) := by
  obtain ⟨h31, rfl, _, _, _⟩ := h
  refine ⟨fun h0 => by subst h0; rfl, fun hk => ?_⟩
  obtain ⟨j, rfl⟩ : ∃ j, k = j + 1 := ⟨k - 1, by omega⟩
  have : 2 ^ (j + 1) = 2 ^ j * 2 := Nat.pow_succ 2 j
  rw [this, Nat.add_sub_cancel]
  omega
theorem SqI.no {n : Int} {k : Nat} {r b : Int} (h : SqI n k r b) (hn : n < (r + b) * (r + b)) (hk : 0 < k) : SqI n (k - 1) r (b / 2) := by
  obtain ⟨e1, e2⟩ := h.half.2 hk
  obtain ⟨h31, hb, ⟨q, hq⟩, lo, _⟩ := h
  refine ⟨by omega, e2, ⟨q * 2, ?_⟩, lo, ?_⟩
  · rw [hq, Nat.sub_add_cancel hk, Nat.pow_succ, Nat.mul_assoc, Nat.mul_comm 2]
  · rw [Int.mul_comm 2, e1]; exact hn
theorem SqI.yes {n : Int} {k : Nat} {r b : Int} (h : SqI n k r b) (hn : (r + b) * (r + b) ≤ n) (hk : 0 < k) : SqI n (k - 1) (r + b) (b / 2) := by
  obtain ⟨e1, e2⟩ := h.half.2 hk
  obtain ⟨h31, hb, ⟨q, hq⟩, lo, hi⟩ := h
  refine ⟨by omega, e2, ⟨q * 2 + 1, ?_⟩, hn, ?_⟩
  · rw [hq, hb, Nat.sub_add_cancel hk, Nat.pow_succ]
    have : (q * 2 + 1) * 2 ^ k = q * (2 ^ k * 2) + 2 ^ k := by rw [Nat.add_mul, Nat.one_mul, Nat.mul_assoc, Nat.mul_comm 2]
    rw [this]
    omega
  · rw [Int.mul_comm 2, e1, Int.add_assoc, show b + b = 2 * b by omega]; exact hi
/-- The square root, rounded down. -/
def isRoot (n r : Int) : Prop := 0 ≤ r ∧ r * r ≤ n ∧ n < (r + 1) * (r + 1)
theorem root_bd {n r : Int} (h0 : 0 ≤ r) (h : r * r ≤ n) (hn : n ≤ 4398046511104) : r ≤ 2097152 := by
  by_cases hr : r ≤ 2097152
  · exact hr
  · have : 2097153 * 2097153 ≤ r * r := Int.mul_le_mul (by omega) (by omega) (by decide) h0
    omega
theorem div_le {n x : Int} (hx : 0 < x) : x ≤ n / x ↔ x * x ≤ n := Int.le_ediv_iff_mul_le hx
end PM
set_option maxHeartbeats 4000000 in
theorem sqrt_any (n : Int) (h0 : 0 ≤ n) (h1 : n ≤ 4398046511104) (w : World) :
    Calls Try.prog 110 #[.int .i64 n] w fun e w' => (∃ r, e = .returned (.int .i64 r) ∧ isRoot n r) ∧ w = w' := by
  go_enter Try.func110, Try.ntmps110
  go_wp2
  go_loopw [3, 4] (fun s3 s4 wr => ((∃ (k : Nat) (r b : Int), s3 = .int .i64 r ∧ s4 = .int .i64 b ∧ SqI n k r b) ∨ (∃ r : Int, s3 = .int .i64 r ∧ s4 = .int .i64 0 ∧ isRoot n r)) ∧ w = wr) (fun _ s4 _ => (intOf s4).toNat)
  case atStart =>
    exact ⟨.inl ⟨31, 0, 2147483648, rfl, rfl, ⟨by omega, rfl, ⟨0, by simp⟩, by omega, by omega⟩⟩, rfl⟩
  case round =>
    rename World => wr
    obtain ⟨hst, rfl⟩ := hrel
    rcases hst with ⟨k, r, b, rfl, rfl, hI⟩ | ⟨r, rfl, rfl, hR⟩
    · obtain ⟨r0, b1, b2⟩ := hI.nonneg
      have r1 := root_bd r0 hI.lo h1
      have hor := sq_or hI (by omega)
      have hdq : n.tdiv (r + b) = n / (r + b) := Int.tdiv_eq_ediv_of_nonneg h0
      have hle := div_le (n := n) (x := r + b) (by omega)
      have hd0 : 0 ≤ n / (r + b) := Int.ediv_nonneg h0 (by omega)
      have hd1 : n / (r + b) ≤ n := Int.ediv_le_self _ h0
      have hnz : ¬ r + b = 0 := by omega
      have HI := hide hI
      generalize n / (r + b) = d at hdq hle hd0 hd1
      have gd : IntKind.i64.wrap d = d := IntWalk.i64_in _ (by omega)
      have hle' := hide hle
      clear hle hI
      have hh : ∀ r' : Int, (0 < k → SqI n (k - 1) r' (b / 2)) → (k = 0 → isRoot n r') → ((∃ (k : Nat) (x y : Int), Value.int .i64 r' = .int .i64 x ∧ Value.int .i64 (b / 2) = .int .i64 y ∧ SqI n k x y) ∨ (∃ x : Int, Value.int .i64 r' = .int .i64 x ∧ Value.int .i64 (b / 2) = .int .i64 0 ∧ isRoot n x)) := by
        intro r' k1 k2
        by_cases hk : 0 < k
        · exact .inl ⟨k - 1, r', b / 2, rfl, rfl, k1 hk⟩
        · have e : k = 0 := by omega
          have := HI.out.half.1 e
          exact .inr ⟨r', rfl, by rw [this]; rfl, k2 e⟩
      by_cases hc : r + b ≤ d
      · have H := hide (hh (r + b) (fun hk => HI.out.yes (hle'.out.1 hc) hk) (fun hk => by
          have hb1 := HI.out.half.1 hk
          refine ⟨by omega, hle'.out.1 hc, ?_⟩
          have := HI.out.hi
          rw [hb1] at this ⊢
          rw [show r + 1 + 1 = r + 2 * 1 by omega]
          exact this))
        clear hh
        go_wp2
        go_roundw
        case rel => exact ⟨H.out, trivial⟩
        case measure => simp [intOf]; omega
      · have hc2 : n < (r + b) * (r + b) := by
          by_cases hx : (r + b) * (r + b) ≤ n
          · exact absurd (hle'.out.2 hx) hc
          · omega
        have H := hide (hh r (fun hk => HI.out.no hc2 hk) (fun hk => by
          have hb1 := HI.out.half.1 hk
          rw [hb1] at hc2
          exact ⟨r0, HI.out.lo, hc2⟩))
        clear hh hc2
        go_wp2
        go_roundw
        case rel => exact ⟨H.out, trivial⟩
        case measure => simp [intOf]; omega
    · have HR := hide hR
      clear hR
      go_wp2
      go_ret
      exact ⟨⟨r, rfl, HR.out⟩, rfl⟩
namespace PM
theorem root_ex_nat : ∀ n : Nat, ∃ r, isRoot (n : Int) r
  | 0 => ⟨0, by unfold isRoot; omega⟩
  | n + 1 => by
    obtain ⟨r, h0, h1, h2⟩ := root_ex_nat n
    by_cases h : ((n + 1 : Nat) : Int) < (r + 1) * (r + 1)
    · exact ⟨r, h0, by omega, h⟩
    · refine ⟨r + 1, by omega, by omega, ?_⟩
      have e : (r + 1 + 1) * (r + 1 + 1) = (r + 1) * (r + 1) + 2 * (r + 1) + 1 := by rw [Int.add_mul (r + 1), Int.mul_add (r + 1), Int.mul_one, Int.one_mul]; omega
      rw [e]
      omega
theorem root_ex {n : Int} (h : 0 ≤ n) : ∃ r, isRoot n r := by
  obtain ⟨m, rfl⟩ : ∃ m : Nat, n = m := ⟨n.toNat, by omega⟩
  exact root_ex_nat m
theorem root_uniq {n r s : Int} (h : isRoot n r) (k : isRoot n s) : r = s := by
  obtain ⟨h0, h1, h2⟩ := h
  obtain ⟨k0, k1, k2⟩ := k
  have a : ¬ r < s := fun hlt => by
    have : (r + 1) * (r + 1) ≤ s * s := Int.mul_le_mul (by omega) (by omega) (by omega) (by omega)
    omega
  have b : ¬ s < r := fun hlt => by
    have : (s + 1) * (s + 1) ≤ r * r := Int.mul_le_mul (by omega) (by omega) (by omega) (by omega)
    omega
  omega
end PM
/-- The square root is one number, whatever the world. -/
theorem sqrt_fun (n : Int) (h0 : 0 ≤ n) (h1 : n ≤ 4398046511104) : ∃ r, isRoot n r ∧ ∀ w : World, Calls Try.prog 110 #[.int .i64 n] w fun e w' => e = .returned (.int .i64 r) ∧ w = w' := by
  obtain ⟨r, hr⟩ := root_ex h0
  exact ⟨r, hr, fun w => (sqrt_any n h0 h1 w).mono fun _ _ ⟨⟨s, e, hs⟩, hw⟩ => ⟨by rw [e, root_uniq hs hr], hw⟩⟩
end Go.Proofs.Ytjeomdfcfbfebaa

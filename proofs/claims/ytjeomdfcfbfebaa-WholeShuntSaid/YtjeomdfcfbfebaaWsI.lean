/- The walk of what the gates ask of the order of their edges. Condition: the edges go up. -/
import Derived.Test.YtjeomdfcfbfebaaWsG
namespace Go.Proofs.Ytjeomdfcfbfebaa
open Go.RowKit PM
/-- Edges in memory. -/
def Edges (W : World) (g n : Nat) (A S : Nat → Int) (B : Nat → Bool) : Prop := ∀ k, k < n → W.cell? ⟨g, k * 3, none⟩ = some (.int .i64 (A k)) ∧ W.cell? ⟨g, k * 3 + 1, none⟩ = some (.int .i64 (S k)) ∧ W.cell? ⟨g, k * 3 + 2, none⟩ = some (.bool (B k))
/-- The edges lie in the period, and go up. -/
def goesUp (n : Nat) (A S : Nat → Int) : Prop := (∀ k, k < n → 0 ≤ A k ∧ A k ≤ 99 ∧ 0 ≤ S k ∧ S k ≤ 5) ∧ ∀ k, k + 1 < n → A k < A (k + 1) ∨ (A k = A (k + 1) ∧ S k < S (k + 1))
set_option maxHeartbeats 8000000 in
set_option maxRecDepth 100000 in
theorem sorted_any (g n cap : Nat) (A S : Nat → Int) (B : Nat → Bool) (h : goesUp n A S) (hn : n ≤ 100) (w : World) (hg : g < w.heap.size) (hE : Edges w g n A S B) :
    Calls Try.prog 84 #[.slice (some ⟨g, 0, none⟩) n cap, .int .i64 100] w fun e w' => e = .returned (.bool true) ∧ Below w.heap.size w w' := by
  have hE := hide hE
  have h := hide h
  go_enter Try.func84, Try.ntmps84
  go_wp2
  go_loopw [9] (fun i wz => ∃ k : Nat, k ≤ n ∧ i = .int .i64 (k : Int) ∧ Below w.heap.size w wz) (fun i _ => n - (intOf i).toNat)
  case atStart =>
    exact ⟨0, by omega, rfl, Below.refl _ _⟩
  case round =>
    rename World => wz
    obtain ⟨k, hk, rfl, HX⟩ := hrel
    have hyz := HX.size
    by_cases hlt : k < n
    · obtain ⟨e0, e1, e2⟩ := hE.out k hlt
      replace e0 := (HX.cell (p := ⟨g, k * 3, none⟩) hg).trans e0
      replace e1 := (HX.cell (p := ⟨g, k * 3 + 1, none⟩) hg).trans e1
      replace e2 := (HX.cell (p := ⟨g, k * 3 + 2, none⟩) hg).trans e2
      obtain ⟨a1, a2, s1, s2⟩ := h.out.1 k hlt
      have j1 : (0 : Int) ≤ (k : Int) := by omega
      have j2 : (k : Int) < (n : Int) := by omega
      have yg : g < wz.heap.size := by omega
      by_cases hk0 : k = 0
      · subst hk0
        generalize A 0 = a at *
        generalize S 0 = s at *
        generalize B 0 = b at *
        go_upto_region 6 with (go_at_call 80; refine (gwithin_yes _ _ _ _ (by omega) (by omega)).mono ?_; rintro e w8 ⟨rfl, rfl⟩)
        go_quiet (fail)
        go_wp2
        go_roundw
        case rel => exact ⟨1, by omega, by go_num, by exact (by repeat (first | with_reducible exact HX | with_reducible refine Below.drew ?_ | with_reducible refine below_drewN ?_ _ | with_reducible refine Below.alloc ?_ (by first | omega | (simp <;> omega)) _ | with_reducible refine Below.setCell ?_ (by first | omega | (simp <;> omega)) _))⟩
        case measure => simp [intOf]; omega
      · obtain ⟨m, hm⟩ : ∃ m, m + 1 = k := ⟨k - 1, by omega⟩
        obtain ⟨f0, f1, f2⟩ := hE.out m (by omega)
        replace f0 := (HX.cell (p := ⟨g, m * 3, none⟩) hg).trans f0
        replace f1 := (HX.cell (p := ⟨g, m * 3 + 1, none⟩) hg).trans f1
        have hup := h.out.2 m (by omega)
        rw [hm] at hup
        have gk : IntKind.i64.wrap ((k : Int) - 1) = (m : Int) := by rw [show (k : Int) - 1 = (m : Int) by omega]; exact IntWalk.i64_in _ (by omega)
        have i1 : (0 : Int) ≤ (m : Int) := by omega
        have i2 : (m : Int) < (n : Int) := by omega
        have hm0 : (0 : Int) < (k : Int) := by omega
        have hk1 : 0 < k := by omega
        clear f2 hk0
        generalize A k = a at *
        generalize S k = s at *
        generalize B k = b at *
        generalize A m = a' at *
        generalize S m = s' at *
        replace hm := hide hm
        rcases hup with hu | ⟨hu, hv⟩
        · have nb1 : a' ≤ a := by omega
          have nb2 : ¬ a = a' := by omega
          replace hu := hide hu
          go_upto_region 6 with (go_at_call 80; refine (gwithin_yes _ _ _ _ (by omega) (by omega)).mono ?_; rintro e w8 ⟨rfl, rfl⟩)
          go_quiet (fail)
          go_wp2
          go_roundw
          case rel => exact ⟨k + 1, by omega, by go_num, by exact (by repeat (first | with_reducible exact HX | with_reducible refine Below.drew ?_ | with_reducible refine below_drewN ?_ _ | with_reducible refine Below.alloc ?_ (by first | omega | (simp <;> omega)) _ | with_reducible refine Below.setCell ?_ (by first | omega | (simp <;> omega)) _))⟩
          case measure => simp [intOf]; omega
        · subst hu
          have nb3 : s' < s := hv
          go_upto_region 6 with (go_at_call 80; refine (gwithin_yes _ _ _ _ (by omega) (by omega)).mono ?_; rintro e w8 ⟨rfl, rfl⟩)
          go_quiet (fail)
          go_wp2
          go_roundw
          case rel => exact ⟨k + 1, by omega, by go_num, by exact (by repeat (first | with_reducible exact HX | with_reducible refine Below.drew ?_ | with_reducible refine below_drewN ?_ _ | with_reducible refine Below.alloc ?_ (by first | omega | (simp <;> omega)) _ | with_reducible refine Below.setCell ?_ (by first | omega | (simp <;> omega)) _))⟩
          case measure => simp [intOf]; omega
    · have ek : k = n := by omega
      subst ek
      go_wp2
      go_ret
      exact ⟨rfl, by exact (by repeat (first | with_reducible exact HX | with_reducible refine Below.drew ?_ | with_reducible refine below_drewN ?_ _ | with_reducible refine Below.alloc ?_ (by first | omega | (simp <;> omega)) _ | with_reducible refine Below.setCell ?_ (by first | omega | (simp <;> omega)) _))⟩
end Go.Proofs.Ytjeomdfcfbfebaa

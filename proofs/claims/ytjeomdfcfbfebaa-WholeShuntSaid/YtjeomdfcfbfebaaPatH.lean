/- Walks of Clip and fit, and what a frame becomes by them. No condition. -/
import Derived.Test.YtjeomdfcfbfebaaPatF
namespace Go.Proofs.Ytjeomdfcfbfebaa
open Go.RowKit PM

namespace PM
def clip (n lo hi : Int) : Int := max lo (min n hi)
theorem clip_in {n lo hi : Int} (h : lo ≤ hi) : lo ≤ clip n lo hi ∧ clip n lo hi ≤ hi := by unfold clip; omega
theorem clip_id {n lo hi : Int} (h : lo ≤ n) (h2 : n ≤ hi) : clip n lo hi = n := by unfold clip; omega
def fitP (per : Int) : Int := clip per 64 4096
def fitL (per least : Int) : Int := clip least 1 (fitP per / 4)
theorem fit_ok (per least : Int) : okRng (fitP per) (fitL per least) := by
  have h := clip_in (n := per) (lo := 64) (hi := 4096) (by decide)
  have h2 := clip_in (n := least) (lo := 1) (hi := fitP per / 4) (by unfold fitP; omega)
  exact ⟨h, h2⟩
end PM
theorem clip_any (n lo hi : Int) (w : World) : Calls Try.prog 22 #[.int .i64 n, .int .i64 lo, .int .i64 hi] w fun e w' => e = .returned (.int .i64 (clip n lo hi)) ∧ w' = w := by
  unfold clip
  go_enter Try.func22, Try.ntmps22
  go_wp2
  go_ret
  exact ⟨rfl, rfl⟩
set_option maxHeartbeats 4000000 in
theorem fit_any (per least : Int) (w : World) : Calls Try.prog 33 #[.agg #[.int .i64 per, .int .i64 least]] w fun e w' => e = .returned (.agg #[.int .i64 (fitP per), .int .i64 (fitL per least)]) ∧ Below w.heap.size w w' := by
  have hp := clip_in (n := per) (lo := 64) (hi := 4096) (by decide)
  have HL := hide (show fitL per least = clip least 1 (clip per 64 4096 / 4) from rfl)
  have HP := hide (show fitP per = clip per 64 4096 from rfl)
  have HC1 := hide (clip_any per 64 4096)
  have HC2 := hide (clip_any least 1 (clip per 64 4096 / 4))
  generalize clip per 64 4096 = P at hp HL HP HC1 HC2
  have hq : (P.tdiv 4) = P / 4 := by rw [Int.tdiv_eq_ediv_of_nonneg (by omega)]
  obtain ⟨p1, p2⟩ := hp
  rw [HL.out, HP.out]
  generalize clip least 1 (P / 4) = q at HC2
  clear HL HP
  go_enter Try.func33, Try.ntmps33
  go_wp2_with (go_at_call 22; first | (with_reducible refine (HC1.out _).mono ?_; rintro e w8 ⟨rfl, rfl⟩) | (with_reducible refine (HC2.out _).mono ?_; rintro e w8 ⟨rfl, rfl⟩))
  refine bodyPost_ret (v := .agg #[.int .i64 P, .int .i64 q]) (by simp only [results, Try.results33]; go_simp) rfl ⟨rfl, by exact (by repeat (first | with_reducible assumption | with_reducible refine Below.drew ?_ | with_reducible refine below_drewN ?_ _ | with_reducible refine Below.alloc ?_ (by first | omega | (simp <;> omega)) _ | with_reducible refine Below.setCell ?_ (by first | omega | (simp <;> omega)) _ | with_reducible exact Below.refl _ _))⟩
end Go.Proofs.Ytjeomdfcfbfebaa

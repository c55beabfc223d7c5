/- Walks of what the gates ask of their edges. Condition: what each theorem names. -/
import Derived.Test.YtjeomdfcfbfebaaWsG
namespace Go.Proofs.Ytjeomdfcfbfebaa
open Go.RowKit PM
set_option maxHeartbeats 8000000 in
theorem on_fresh (w : World) : Calls Try.prog 81 #[.agg #[.int .i64 0, .int .i64 4096, .int .i64 0, .int .i64 4096, .int .i64 0, .int .i64 4096]] w fun e w' => e = .returned (.agg #[.bool false, .bool false, .bool false, .bool false, .bool false, .bool false]) ∧ Below w.heap.size w w' := by
  go_enter Try.func81, Try.ntmps81
  go_upto_region 3 with fail
  have HB : Below w.heap.size w (((w.alloc (.cells #[.int .i64 0, .int .i64 4096, .int .i64 0, .int .i64 4096, .int .i64 0, .int .i64 4096] 115)).alloc (.cells #[.bool false, .bool false, .bool false, .bool false, .bool false, .bool false] 109)).alloc (.cells #[.bool false, .bool false, .bool false, .bool false, .bool false, .bool false] 109)) := by exact (by repeat (first | with_reducible assumption | with_reducible refine Below.drew ?_ | with_reducible refine below_drewN ?_ _ | with_reducible refine Below.alloc ?_ (by first | omega | (simp <;> omega)) _ | with_reducible refine Below.setCell ?_ (by first | omega | (simp <;> omega)) _ | with_reducible exact Below.refl _ _))
  have c0 : (((w.alloc (.cells #[.int .i64 0, .int .i64 4096, .int .i64 0, .int .i64 4096, .int .i64 0, .int .i64 4096] 115)).alloc (.cells #[.bool false, .bool false, .bool false, .bool false, .bool false, .bool false] 109)).alloc (.cells #[.bool false, .bool false, .bool false, .bool false, .bool false, .bool false] 109)).cell? ⟨w.heap.size + 1 + 1, 0, none⟩ = some (.bool false) := by go_simp
  have c1 : (((w.alloc (.cells #[.int .i64 0, .int .i64 4096, .int .i64 0, .int .i64 4096, .int .i64 0, .int .i64 4096] 115)).alloc (.cells #[.bool false, .bool false, .bool false, .bool false, .bool false, .bool false] 109)).alloc (.cells #[.bool false, .bool false, .bool false, .bool false, .bool false, .bool false] 109)).cell? ⟨w.heap.size + 1 + 1, 1, none⟩ = some (.bool false) := by go_simp
  have c2 : (((w.alloc (.cells #[.int .i64 0, .int .i64 4096, .int .i64 0, .int .i64 4096, .int .i64 0, .int .i64 4096] 115)).alloc (.cells #[.bool false, .bool false, .bool false, .bool false, .bool false, .bool false] 109)).alloc (.cells #[.bool false, .bool false, .bool false, .bool false, .bool false, .bool false] 109)).cell? ⟨w.heap.size + 1 + 1, 2, none⟩ = some (.bool false) := by go_simp
  have c3 : (((w.alloc (.cells #[.int .i64 0, .int .i64 4096, .int .i64 0, .int .i64 4096, .int .i64 0, .int .i64 4096] 115)).alloc (.cells #[.bool false, .bool false, .bool false, .bool false, .bool false, .bool false] 109)).alloc (.cells #[.bool false, .bool false, .bool false, .bool false, .bool false, .bool false] 109)).cell? ⟨w.heap.size + 1 + 1, 3, none⟩ = some (.bool false) := by go_simp
  have c4 : (((w.alloc (.cells #[.int .i64 0, .int .i64 4096, .int .i64 0, .int .i64 4096, .int .i64 0, .int .i64 4096] 115)).alloc (.cells #[.bool false, .bool false, .bool false, .bool false, .bool false, .bool false] 109)).alloc (.cells #[.bool false, .bool false, .bool false, .bool false, .bool false, .bool false] 109)).cell? ⟨w.heap.size + 1 + 1, 4, none⟩ = some (.bool false) := by go_simp
  have c5 : (((w.alloc (.cells #[.int .i64 0, .int .i64 4096, .int .i64 0, .int .i64 4096, .int .i64 0, .int .i64 4096] 115)).alloc (.cells #[.bool false, .bool false, .bool false, .bool false, .bool false, .bool false] 109)).alloc (.cells #[.bool false, .bool false, .bool false, .bool false, .bool false, .bool false] 109)).cell? ⟨w.heap.size + 1 + 1, 5, none⟩ = some (.bool false) := by go_simp
  have r0 : (((w.alloc (.cells #[.int .i64 0, .int .i64 4096, .int .i64 0, .int .i64 4096, .int .i64 0, .int .i64 4096] 115)).alloc (.cells #[.bool false, .bool false, .bool false, .bool false, .bool false, .bool false] 109)).alloc (.cells #[.bool false, .bool false, .bool false, .bool false, .bool false, .bool false] 109)).cell? ⟨w.heap.size + 1, 0, none⟩ = some (.bool false) := by go_simp
  have r1 : (((w.alloc (.cells #[.int .i64 0, .int .i64 4096, .int .i64 0, .int .i64 4096, .int .i64 0, .int .i64 4096] 115)).alloc (.cells #[.bool false, .bool false, .bool false, .bool false, .bool false, .bool false] 109)).alloc (.cells #[.bool false, .bool false, .bool false, .bool false, .bool false, .bool false] 109)).cell? ⟨w.heap.size + 1, 1, none⟩ = some (.bool false) := by go_simp
  have r2 : (((w.alloc (.cells #[.int .i64 0, .int .i64 4096, .int .i64 0, .int .i64 4096, .int .i64 0, .int .i64 4096] 115)).alloc (.cells #[.bool false, .bool false, .bool false, .bool false, .bool false, .bool false] 109)).alloc (.cells #[.bool false, .bool false, .bool false, .bool false, .bool false, .bool false] 109)).cell? ⟨w.heap.size + 1, 2, none⟩ = some (.bool false) := by go_simp
  have r3 : (((w.alloc (.cells #[.int .i64 0, .int .i64 4096, .int .i64 0, .int .i64 4096, .int .i64 0, .int .i64 4096] 115)).alloc (.cells #[.bool false, .bool false, .bool false, .bool false, .bool false, .bool false] 109)).alloc (.cells #[.bool false, .bool false, .bool false, .bool false, .bool false, .bool false] 109)).cell? ⟨w.heap.size + 1, 3, none⟩ = some (.bool false) := by go_simp
  have r4 : (((w.alloc (.cells #[.int .i64 0, .int .i64 4096, .int .i64 0, .int .i64 4096, .int .i64 0, .int .i64 4096] 115)).alloc (.cells #[.bool false, .bool false, .bool false, .bool false, .bool false, .bool false] 109)).alloc (.cells #[.bool false, .bool false, .bool false, .bool false, .bool false, .bool false] 109)).cell? ⟨w.heap.size + 1, 4, none⟩ = some (.bool false) := by go_simp
  have r5 : (((w.alloc (.cells #[.int .i64 0, .int .i64 4096, .int .i64 0, .int .i64 4096, .int .i64 0, .int .i64 4096] 115)).alloc (.cells #[.bool false, .bool false, .bool false, .bool false, .bool false, .bool false] 109)).alloc (.cells #[.bool false, .bool false, .bool false, .bool false, .bool false, .bool false] 109)).cell? ⟨w.heap.size + 1, 5, none⟩ = some (.bool false) := by go_simp
  have cf : ∀ o, (((w.alloc (.cells #[.int .i64 0, .int .i64 4096, .int .i64 0, .int .i64 4096, .int .i64 0, .int .i64 4096] 115)).alloc (.cells #[.bool false, .bool false, .bool false, .bool false, .bool false, .bool false] 109)).alloc (.cells #[.bool false, .bool false, .bool false, .bool false, .bool false, .bool false] 109)).frozen? ⟨w.heap.size + 1 + 1, o, none⟩ = false := fun o => by go_simp
  have rf : ∀ o, (((w.alloc (.cells #[.int .i64 0, .int .i64 4096, .int .i64 0, .int .i64 4096, .int .i64 0, .int .i64 4096] 115)).alloc (.cells #[.bool false, .bool false, .bool false, .bool false, .bool false, .bool false] 109)).alloc (.cells #[.bool false, .bool false, .bool false, .bool false, .bool false, .bool false] 109)).frozen? ⟨w.heap.size + 1, o, none⟩ = false := fun o => by go_simp
  have y3 : w.heap.size + 1 + 1 < (((w.alloc (.cells #[.int .i64 0, .int .i64 4096, .int .i64 0, .int .i64 4096, .int .i64 0, .int .i64 4096] 115)).alloc (.cells #[.bool false, .bool false, .bool false, .bool false, .bool false, .bool false] 109)).alloc (.cells #[.bool false, .bool false, .bool false, .bool false, .bool false, .bool false] 109)).heap.size := by simp
  generalize (((w.alloc (.cells #[.int .i64 0, .int .i64 4096, .int .i64 0, .int .i64 4096, .int .i64 0, .int .i64 4096] 115)).alloc (.cells #[.bool false, .bool false, .bool false, .bool false, .bool false, .bool false] 109)).alloc (.cells #[.bool false, .bool false, .bool false, .bool false, .bool false, .bool false] 109)) = wb at HB c0 c1 c2 c3 c4 c5 r0 r1 r2 r3 r4 r5 cf rf y3 ⊢
  have HX : Below (w.heap.size + 1 + 1) wb wb := Below.refl _ _
  go_wp2
  go_loopw [7] (fun i wz => ∃ k : Nat, k ≤ 3 ∧ i = .int .i64 (k : Int) ∧ (wz.cell? ⟨w.heap.size + 1 + 1, 0, none⟩ = some (.bool false) ∧ wz.cell? ⟨w.heap.size + 1 + 1, 1, none⟩ = some (.bool false) ∧ wz.cell? ⟨w.heap.size + 1 + 1, 2, none⟩ = some (.bool false) ∧ wz.cell? ⟨w.heap.size + 1 + 1, 3, none⟩ = some (.bool false) ∧ wz.cell? ⟨w.heap.size + 1 + 1, 4, none⟩ = some (.bool false) ∧ wz.cell? ⟨w.heap.size + 1 + 1, 5, none⟩ = some (.bool false)) ∧ (∀ o, wz.frozen? ⟨w.heap.size + 1 + 1, o, none⟩ = false) ∧ Below (w.heap.size + 1 + 1) wb wz ∧ w.heap.size + 1 + 1 < wz.heap.size) (fun i _ => 3 - (intOf i).toNat)
  case atStart =>
    exact ⟨0, by omega, rfl, ⟨c0, c1, c2, c3, c4, c5⟩, cf, HX, y3⟩
  case round =>
    clear c0 c1 c2 c3 c4 c5 cf HX
    rename World => wz
    obtain ⟨k, hk, rfl, ⟨c0, c1, c2, c3, c4, c5⟩, cf, HX, yz⟩ := hrel
    have hr := hide (And.intro r0 (And.intro r1 (And.intro r2 (And.intro r3 (And.intro r4 r5)))))
    clear r0 r1 r2 r3 r4 r5
    obtain rfl | rfl | rfl | rfl : k = 0 ∨ k = 1 ∨ k = 2 ∨ k = 3 := by omega
    · go_upto_region 5 with fail
      go_region
      all_goals
        go_wp2
        go_roundw
        case rel => exact ⟨1, by omega, by go_num, ⟨by go_simp, by go_simp, by go_simp, by go_simp, by go_simp, by go_simp⟩, fun o => by go_simp, by exact (by repeat (first | with_reducible exact HX | with_reducible refine Below.drew ?_ | with_reducible refine below_drewN ?_ _ | with_reducible refine Below.alloc ?_ (by first | omega | (simp <;> omega)) _ | with_reducible refine Below.setCell ?_ (by first | omega | (simp <;> omega)) _)), by first | omega | (simp <;> omega)⟩
        case measure => simp [intOf]
    · go_upto_region 5 with fail
      go_region
      all_goals
        go_wp2
        go_roundw
        case rel => exact ⟨2, by omega, by go_num, ⟨by go_simp, by go_simp, by go_simp, by go_simp, by go_simp, by go_simp⟩, fun o => by go_simp, by exact (by repeat (first | with_reducible exact HX | with_reducible refine Below.drew ?_ | with_reducible refine below_drewN ?_ _ | with_reducible refine Below.alloc ?_ (by first | omega | (simp <;> omega)) _ | with_reducible refine Below.setCell ?_ (by first | omega | (simp <;> omega)) _)), by first | omega | (simp <;> omega)⟩
        case measure => simp [intOf]
    · go_upto_region 5 with fail
      go_region
      all_goals
        go_wp2
        go_roundw
        case rel => exact ⟨3, by omega, by go_num, ⟨by go_simp, by go_simp, by go_simp, by go_simp, by go_simp, by go_simp⟩, fun o => by go_simp, by exact (by repeat (first | with_reducible exact HX | with_reducible refine Below.drew ?_ | with_reducible refine below_drewN ?_ _ | with_reducible refine Below.alloc ?_ (by first | omega | (simp <;> omega)) _ | with_reducible refine Below.setCell ?_ (by first | omega | (simp <;> omega)) _)), by first | omega | (simp <;> omega)⟩
        case measure => simp [intOf]
    · have HW : Below w.heap.size w wz := HB.trans (HX.mono (by omega))
      obtain ⟨r0, r1, r2, r3, r4, r5⟩ := hr.out
      have y1 : w.heap.size + 1 < w.heap.size + 1 + 1 := by omega
      replace r0 := (HX.cell (p := ⟨w.heap.size + 1, 0, none⟩) y1).trans r0
      replace r1 := (HX.cell (p := ⟨w.heap.size + 1, 1, none⟩) y1).trans r1
      replace r2 := (HX.cell (p := ⟨w.heap.size + 1, 2, none⟩) y1).trans r2
      replace r3 := (HX.cell (p := ⟨w.heap.size + 1, 3, none⟩) y1).trans r3
      replace r4 := (HX.cell (p := ⟨w.heap.size + 1, 4, none⟩) y1).trans r4
      replace r5 := (HX.cell (p := ⟨w.heap.size + 1, 5, none⟩) y1).trans r5
      replace rf := fun o => (HX.frozen (p := ⟨w.heap.size + 1, o, none⟩) y1).trans (rf o)
      have yw : w.heap.size + 1 < wz.heap.size := by omega
      clear hr
      go_wp2
      refine bodyPost_ret (v := .agg #[.bool false, .bool false, .bool false, .bool false, .bool false, .bool false]) (by simp only [results, Try.results81]; go_simp) rfl ⟨rfl, by exact (by repeat (first | with_reducible exact HW | with_reducible refine Below.drew ?_ | with_reducible refine Below.setCells ?_ | with_reducible refine Below.setCell ?_ (by first | omega | (simp <;> omega)) _))⟩
end Go.Proofs.Ytjeomdfcfbfebaa

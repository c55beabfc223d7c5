/- The walk of a period of the gates. Condition: none (its arguments are the ones that 'centred' names). -/
import Derived.Test.YtjeomdfcfbfebaaGtRel
import Derived.Test.YtjeomdfcfbfebaaWsH
namespace Go.Proofs.Ytjeomdfcfbfebaa
open Go.RowKit PM
theorem edge_cells (w : World) (a b : Int) (c : Bool) (t : TypeId) (n : Nat) (hn : n = w.heap.size) : ∀ j u, [Value.int .i64 a, .int .i64 b, .bool c][j]? = some u → (w.alloc (.cells #[.int .i64 a, .int .i64 b, .bool c] t)).cell? ((⟨n, 0, none⟩ : Addr).add j) = some u := by
  subst hn
  intro j u hj
  match j, hj with
  | 0, hj => simp at hj; subst hj; simp [Addr.add]
  | 1, hj => simp at hj; subst hj; simp [Addr.add]
  | 2, hj => simp at hj; subst hj; simp [Addr.add]
theorem edge_one (a b : Int) (c : Bool) : ∀ u ∈ [Value.int .i64 a, .int .i64 b, .bool c], u.oneCell' = true := by
  intro u hu
  simp only [List.mem_cons, List.not_mem_nil, or_false] at hu
  rcases hu with rfl | rfl | rfl <;> rfl
set_option maxHeartbeats 16000000 in
set_option maxRecDepth 100000 in
theorem run_any (w : World) : Calls Try.prog 47 #[.agg #[.int .i64 0, .int .i64 4096, .int .i64 0, .int .i64 4096, .int .i64 0, .int .i64 4096], .agg #[.int .i64 25, .int .i64 75, .int .i64 25, .int .i64 75, .int .i64 25, .int .i64 75], .int .i64 100, .int .i64 4, .int .i64 100] w fun e w' => (∃ g cap, e = .returned (.tuple #[.agg #[.int .i64 100, .bool false, .bool false, .bool false, .bool false, .bool false, .bool false, .slice (some ⟨g, 0, none⟩) 15 cap], .agg #[.int .i64 1, .int .i64 25, .int .i64 1, .int .i64 25, .int .i64 1, .int .i64 25], .nilIface]) ∧ Edges w' g 15 EA ES EB ∧ g < w'.heap.size ∧ w.heap.size ≤ g) ∧ Below w.heap.size w w' := by
  obtain ⟨i0, hi0, hz0, hz1, hz2⟩ := info_parts info_edge
  go_enter Try.func47, Try.ntmps47
  go_upto_region 1 with fail
  have HB : Below w.heap.size w ((((w.alloc (.cells #[.int .i64 0, .int .i64 4096, .int .i64 0, .int .i64 4096, .int .i64 0, .int .i64 4096] 115)).alloc (.cells #[.int .i64 25, .int .i64 75, .int .i64 25, .int .i64 75, .int .i64 25, .int .i64 75] 39)).alloc (.cells #[.int .i64 0, .bool false, .bool false, .bool false, .bool false, .bool false, .bool false, .slice none 0 0] 112)).alloc (.cells #[.int .i64 0, .int .i64 0, .int .i64 0, .int .i64 0, .int .i64 0, .int .i64 0] 115)) := by exact (by repeat (first | with_reducible assumption | with_reducible refine Below.drew ?_ | with_reducible refine below_drewN ?_ _ | with_reducible refine Below.alloc ?_ (by first | omega | (simp <;> omega)) _ | with_reducible refine Below.setCell ?_ (by first | omega | (simp <;> omega)) _ | with_reducible exact Below.refl _ _))
  have ca0 : ((((w.alloc (.cells #[.int .i64 0, .int .i64 4096, .int .i64 0, .int .i64 4096, .int .i64 0, .int .i64 4096] 115)).alloc (.cells #[.int .i64 25, .int .i64 75, .int .i64 25, .int .i64 75, .int .i64 25, .int .i64 75] 39)).alloc (.cells #[.int .i64 0, .bool false, .bool false, .bool false, .bool false, .bool false, .bool false, .slice none 0 0] 112)).alloc (.cells #[.int .i64 0, .int .i64 0, .int .i64 0, .int .i64 0, .int .i64 0, .int .i64 0] 115)).cell? ⟨w.heap.size, 0, none⟩ = some (.int .i64 0) := by go_simp
  have ca1 : ((((w.alloc (.cells #[.int .i64 0, .int .i64 4096, .int .i64 0, .int .i64 4096, .int .i64 0, .int .i64 4096] 115)).alloc (.cells #[.int .i64 25, .int .i64 75, .int .i64 25, .int .i64 75, .int .i64 25, .int .i64 75] 39)).alloc (.cells #[.int .i64 0, .bool false, .bool false, .bool false, .bool false, .bool false, .bool false, .slice none 0 0] 112)).alloc (.cells #[.int .i64 0, .int .i64 0, .int .i64 0, .int .i64 0, .int .i64 0, .int .i64 0] 115)).cell? ⟨w.heap.size, 1, none⟩ = some (.int .i64 4096) := by go_simp
  have ca2 : ((((w.alloc (.cells #[.int .i64 0, .int .i64 4096, .int .i64 0, .int .i64 4096, .int .i64 0, .int .i64 4096] 115)).alloc (.cells #[.int .i64 25, .int .i64 75, .int .i64 25, .int .i64 75, .int .i64 25, .int .i64 75] 39)).alloc (.cells #[.int .i64 0, .bool false, .bool false, .bool false, .bool false, .bool false, .bool false, .slice none 0 0] 112)).alloc (.cells #[.int .i64 0, .int .i64 0, .int .i64 0, .int .i64 0, .int .i64 0, .int .i64 0] 115)).cell? ⟨w.heap.size, 2, none⟩ = some (.int .i64 0) := by go_simp
  have ca3 : ((((w.alloc (.cells #[.int .i64 0, .int .i64 4096, .int .i64 0, .int .i64 4096, .int .i64 0, .int .i64 4096] 115)).alloc (.cells #[.int .i64 25, .int .i64 75, .int .i64 25, .int .i64 75, .int .i64 25, .int .i64 75] 39)).alloc (.cells #[.int .i64 0, .bool false, .bool false, .bool false, .bool false, .bool false, .bool false, .slice none 0 0] 112)).alloc (.cells #[.int .i64 0, .int .i64 0, .int .i64 0, .int .i64 0, .int .i64 0, .int .i64 0] 115)).cell? ⟨w.heap.size, 3, none⟩ = some (.int .i64 4096) := by go_simp
  have ca4 : ((((w.alloc (.cells #[.int .i64 0, .int .i64 4096, .int .i64 0, .int .i64 4096, .int .i64 0, .int .i64 4096] 115)).alloc (.cells #[.int .i64 25, .int .i64 75, .int .i64 25, .int .i64 75, .int .i64 25, .int .i64 75] 39)).alloc (.cells #[.int .i64 0, .bool false, .bool false, .bool false, .bool false, .bool false, .bool false, .slice none 0 0] 112)).alloc (.cells #[.int .i64 0, .int .i64 0, .int .i64 0, .int .i64 0, .int .i64 0, .int .i64 0] 115)).cell? ⟨w.heap.size, 4, none⟩ = some (.int .i64 0) := by go_simp
  have ca5 : ((((w.alloc (.cells #[.int .i64 0, .int .i64 4096, .int .i64 0, .int .i64 4096, .int .i64 0, .int .i64 4096] 115)).alloc (.cells #[.int .i64 25, .int .i64 75, .int .i64 25, .int .i64 75, .int .i64 25, .int .i64 75] 39)).alloc (.cells #[.int .i64 0, .bool false, .bool false, .bool false, .bool false, .bool false, .bool false, .slice none 0 0] 112)).alloc (.cells #[.int .i64 0, .int .i64 0, .int .i64 0, .int .i64 0, .int .i64 0, .int .i64 0] 115)).cell? ⟨w.heap.size, 5, none⟩ = some (.int .i64 4096) := by go_simp
  have caf : ∀ o, ((((w.alloc (.cells #[.int .i64 0, .int .i64 4096, .int .i64 0, .int .i64 4096, .int .i64 0, .int .i64 4096] 115)).alloc (.cells #[.int .i64 25, .int .i64 75, .int .i64 25, .int .i64 75, .int .i64 25, .int .i64 75] 39)).alloc (.cells #[.int .i64 0, .bool false, .bool false, .bool false, .bool false, .bool false, .bool false, .slice none 0 0] 112)).alloc (.cells #[.int .i64 0, .int .i64 0, .int .i64 0, .int .i64 0, .int .i64 0, .int .i64 0] 115)).frozen? ⟨w.heap.size, o, none⟩ = false := fun o => by go_simp
  have cp0 : ((((w.alloc (.cells #[.int .i64 0, .int .i64 4096, .int .i64 0, .int .i64 4096, .int .i64 0, .int .i64 4096] 115)).alloc (.cells #[.int .i64 25, .int .i64 75, .int .i64 25, .int .i64 75, .int .i64 25, .int .i64 75] 39)).alloc (.cells #[.int .i64 0, .bool false, .bool false, .bool false, .bool false, .bool false, .bool false, .slice none 0 0] 112)).alloc (.cells #[.int .i64 0, .int .i64 0, .int .i64 0, .int .i64 0, .int .i64 0, .int .i64 0] 115)).cell? ⟨(w.heap.size + 1), 0, none⟩ = some (.int .i64 25) := by go_simp
  have cp1 : ((((w.alloc (.cells #[.int .i64 0, .int .i64 4096, .int .i64 0, .int .i64 4096, .int .i64 0, .int .i64 4096] 115)).alloc (.cells #[.int .i64 25, .int .i64 75, .int .i64 25, .int .i64 75, .int .i64 25, .int .i64 75] 39)).alloc (.cells #[.int .i64 0, .bool false, .bool false, .bool false, .bool false, .bool false, .bool false, .slice none 0 0] 112)).alloc (.cells #[.int .i64 0, .int .i64 0, .int .i64 0, .int .i64 0, .int .i64 0, .int .i64 0] 115)).cell? ⟨(w.heap.size + 1), 1, none⟩ = some (.int .i64 75) := by go_simp
  have cp2 : ((((w.alloc (.cells #[.int .i64 0, .int .i64 4096, .int .i64 0, .int .i64 4096, .int .i64 0, .int .i64 4096] 115)).alloc (.cells #[.int .i64 25, .int .i64 75, .int .i64 25, .int .i64 75, .int .i64 25, .int .i64 75] 39)).alloc (.cells #[.int .i64 0, .bool false, .bool false, .bool false, .bool false, .bool false, .bool false, .slice none 0 0] 112)).alloc (.cells #[.int .i64 0, .int .i64 0, .int .i64 0, .int .i64 0, .int .i64 0, .int .i64 0] 115)).cell? ⟨(w.heap.size + 1), 2, none⟩ = some (.int .i64 25) := by go_simp
  have cp3 : ((((w.alloc (.cells #[.int .i64 0, .int .i64 4096, .int .i64 0, .int .i64 4096, .int .i64 0, .int .i64 4096] 115)).alloc (.cells #[.int .i64 25, .int .i64 75, .int .i64 25, .int .i64 75, .int .i64 25, .int .i64 75] 39)).alloc (.cells #[.int .i64 0, .bool false, .bool false, .bool false, .bool false, .bool false, .bool false, .slice none 0 0] 112)).alloc (.cells #[.int .i64 0, .int .i64 0, .int .i64 0, .int .i64 0, .int .i64 0, .int .i64 0] 115)).cell? ⟨(w.heap.size + 1), 3, none⟩ = some (.int .i64 75) := by go_simp
  have cp4 : ((((w.alloc (.cells #[.int .i64 0, .int .i64 4096, .int .i64 0, .int .i64 4096, .int .i64 0, .int .i64 4096] 115)).alloc (.cells #[.int .i64 25, .int .i64 75, .int .i64 25, .int .i64 75, .int .i64 25, .int .i64 75] 39)).alloc (.cells #[.int .i64 0, .bool false, .bool false, .bool false, .bool false, .bool false, .bool false, .slice none 0 0] 112)).alloc (.cells #[.int .i64 0, .int .i64 0, .int .i64 0, .int .i64 0, .int .i64 0, .int .i64 0] 115)).cell? ⟨(w.heap.size + 1), 4, none⟩ = some (.int .i64 25) := by go_simp
  have cp5 : ((((w.alloc (.cells #[.int .i64 0, .int .i64 4096, .int .i64 0, .int .i64 4096, .int .i64 0, .int .i64 4096] 115)).alloc (.cells #[.int .i64 25, .int .i64 75, .int .i64 25, .int .i64 75, .int .i64 25, .int .i64 75] 39)).alloc (.cells #[.int .i64 0, .bool false, .bool false, .bool false, .bool false, .bool false, .bool false, .slice none 0 0] 112)).alloc (.cells #[.int .i64 0, .int .i64 0, .int .i64 0, .int .i64 0, .int .i64 0, .int .i64 0] 115)).cell? ⟨(w.heap.size + 1), 5, none⟩ = some (.int .i64 75) := by go_simp
  have cpf : ∀ o, ((((w.alloc (.cells #[.int .i64 0, .int .i64 4096, .int .i64 0, .int .i64 4096, .int .i64 0, .int .i64 4096] 115)).alloc (.cells #[.int .i64 25, .int .i64 75, .int .i64 25, .int .i64 75, .int .i64 25, .int .i64 75] 39)).alloc (.cells #[.int .i64 0, .bool false, .bool false, .bool false, .bool false, .bool false, .bool false, .slice none 0 0] 112)).alloc (.cells #[.int .i64 0, .int .i64 0, .int .i64 0, .int .i64 0, .int .i64 0, .int .i64 0] 115)).frozen? ⟨(w.heap.size + 1), o, none⟩ = false := fun o => by go_simp
  have cr0 : ((((w.alloc (.cells #[.int .i64 0, .int .i64 4096, .int .i64 0, .int .i64 4096, .int .i64 0, .int .i64 4096] 115)).alloc (.cells #[.int .i64 25, .int .i64 75, .int .i64 25, .int .i64 75, .int .i64 25, .int .i64 75] 39)).alloc (.cells #[.int .i64 0, .bool false, .bool false, .bool false, .bool false, .bool false, .bool false, .slice none 0 0] 112)).alloc (.cells #[.int .i64 0, .int .i64 0, .int .i64 0, .int .i64 0, .int .i64 0, .int .i64 0] 115)).cell? ⟨(w.heap.size + 1 + 1), 0, none⟩ = some (.int .i64 0) := by go_simp
  have cr1 : ((((w.alloc (.cells #[.int .i64 0, .int .i64 4096, .int .i64 0, .int .i64 4096, .int .i64 0, .int .i64 4096] 115)).alloc (.cells #[.int .i64 25, .int .i64 75, .int .i64 25, .int .i64 75, .int .i64 25, .int .i64 75] 39)).alloc (.cells #[.int .i64 0, .bool false, .bool false, .bool false, .bool false, .bool false, .bool false, .slice none 0 0] 112)).alloc (.cells #[.int .i64 0, .int .i64 0, .int .i64 0, .int .i64 0, .int .i64 0, .int .i64 0] 115)).cell? ⟨(w.heap.size + 1 + 1), 1, none⟩ = some (.bool false) := by go_simp
  have cr2 : ((((w.alloc (.cells #[.int .i64 0, .int .i64 4096, .int .i64 0, .int .i64 4096, .int .i64 0, .int .i64 4096] 115)).alloc (.cells #[.int .i64 25, .int .i64 75, .int .i64 25, .int .i64 75, .int .i64 25, .int .i64 75] 39)).alloc (.cells #[.int .i64 0, .bool false, .bool false, .bool false, .bool false, .bool false, .bool false, .slice none 0 0] 112)).alloc (.cells #[.int .i64 0, .int .i64 0, .int .i64 0, .int .i64 0, .int .i64 0, .int .i64 0] 115)).cell? ⟨(w.heap.size + 1 + 1), 2, none⟩ = some (.bool false) := by go_simp
  have cr3 : ((((w.alloc (.cells #[.int .i64 0, .int .i64 4096, .int .i64 0, .int .i64 4096, .int .i64 0, .int .i64 4096] 115)).alloc (.cells #[.int .i64 25, .int .i64 75, .int .i64 25, .int .i64 75, .int .i64 25, .int .i64 75] 39)).alloc (.cells #[.int .i64 0, .bool false, .bool false, .bool false, .bool false, .bool false, .bool false, .slice none 0 0] 112)).alloc (.cells #[.int .i64 0, .int .i64 0, .int .i64 0, .int .i64 0, .int .i64 0, .int .i64 0] 115)).cell? ⟨(w.heap.size + 1 + 1), 3, none⟩ = some (.bool false) := by go_simp
  have cr4 : ((((w.alloc (.cells #[.int .i64 0, .int .i64 4096, .int .i64 0, .int .i64 4096, .int .i64 0, .int .i64 4096] 115)).alloc (.cells #[.int .i64 25, .int .i64 75, .int .i64 25, .int .i64 75, .int .i64 25, .int .i64 75] 39)).alloc (.cells #[.int .i64 0, .bool false, .bool false, .bool false, .bool false, .bool false, .bool false, .slice none 0 0] 112)).alloc (.cells #[.int .i64 0, .int .i64 0, .int .i64 0, .int .i64 0, .int .i64 0, .int .i64 0] 115)).cell? ⟨(w.heap.size + 1 + 1), 4, none⟩ = some (.bool false) := by go_simp
  have cr5 : ((((w.alloc (.cells #[.int .i64 0, .int .i64 4096, .int .i64 0, .int .i64 4096, .int .i64 0, .int .i64 4096] 115)).alloc (.cells #[.int .i64 25, .int .i64 75, .int .i64 25, .int .i64 75, .int .i64 25, .int .i64 75] 39)).alloc (.cells #[.int .i64 0, .bool false, .bool false, .bool false, .bool false, .bool false, .bool false, .slice none 0 0] 112)).alloc (.cells #[.int .i64 0, .int .i64 0, .int .i64 0, .int .i64 0, .int .i64 0, .int .i64 0] 115)).cell? ⟨(w.heap.size + 1 + 1), 5, none⟩ = some (.bool false) := by go_simp
  have cr6 : ((((w.alloc (.cells #[.int .i64 0, .int .i64 4096, .int .i64 0, .int .i64 4096, .int .i64 0, .int .i64 4096] 115)).alloc (.cells #[.int .i64 25, .int .i64 75, .int .i64 25, .int .i64 75, .int .i64 25, .int .i64 75] 39)).alloc (.cells #[.int .i64 0, .bool false, .bool false, .bool false, .bool false, .bool false, .bool false, .slice none 0 0] 112)).alloc (.cells #[.int .i64 0, .int .i64 0, .int .i64 0, .int .i64 0, .int .i64 0, .int .i64 0] 115)).cell? ⟨(w.heap.size + 1 + 1), 6, none⟩ = some (.bool false) := by go_simp
  have cr7 : ((((w.alloc (.cells #[.int .i64 0, .int .i64 4096, .int .i64 0, .int .i64 4096, .int .i64 0, .int .i64 4096] 115)).alloc (.cells #[.int .i64 25, .int .i64 75, .int .i64 25, .int .i64 75, .int .i64 25, .int .i64 75] 39)).alloc (.cells #[.int .i64 0, .bool false, .bool false, .bool false, .bool false, .bool false, .bool false, .slice none 0 0] 112)).alloc (.cells #[.int .i64 0, .int .i64 0, .int .i64 0, .int .i64 0, .int .i64 0, .int .i64 0] 115)).cell? ⟨(w.heap.size + 1 + 1), 7, none⟩ = some (.slice none 0 0) := by go_simp
  have crf : ∀ o, ((((w.alloc (.cells #[.int .i64 0, .int .i64 4096, .int .i64 0, .int .i64 4096, .int .i64 0, .int .i64 4096] 115)).alloc (.cells #[.int .i64 25, .int .i64 75, .int .i64 25, .int .i64 75, .int .i64 25, .int .i64 75] 39)).alloc (.cells #[.int .i64 0, .bool false, .bool false, .bool false, .bool false, .bool false, .bool false, .slice none 0 0] 112)).alloc (.cells #[.int .i64 0, .int .i64 0, .int .i64 0, .int .i64 0, .int .i64 0, .int .i64 0] 115)).frozen? ⟨(w.heap.size + 1 + 1), o, none⟩ = false := fun o => by go_simp
  have cq0 : ((((w.alloc (.cells #[.int .i64 0, .int .i64 4096, .int .i64 0, .int .i64 4096, .int .i64 0, .int .i64 4096] 115)).alloc (.cells #[.int .i64 25, .int .i64 75, .int .i64 25, .int .i64 75, .int .i64 25, .int .i64 75] 39)).alloc (.cells #[.int .i64 0, .bool false, .bool false, .bool false, .bool false, .bool false, .bool false, .slice none 0 0] 112)).alloc (.cells #[.int .i64 0, .int .i64 0, .int .i64 0, .int .i64 0, .int .i64 0, .int .i64 0] 115)).cell? ⟨(w.heap.size + 1 + 1 + 1), 0, none⟩ = some (.int .i64 0) := by go_simp
  have cq1 : ((((w.alloc (.cells #[.int .i64 0, .int .i64 4096, .int .i64 0, .int .i64 4096, .int .i64 0, .int .i64 4096] 115)).alloc (.cells #[.int .i64 25, .int .i64 75, .int .i64 25, .int .i64 75, .int .i64 25, .int .i64 75] 39)).alloc (.cells #[.int .i64 0, .bool false, .bool false, .bool false, .bool false, .bool false, .bool false, .slice none 0 0] 112)).alloc (.cells #[.int .i64 0, .int .i64 0, .int .i64 0, .int .i64 0, .int .i64 0, .int .i64 0] 115)).cell? ⟨(w.heap.size + 1 + 1 + 1), 1, none⟩ = some (.int .i64 0) := by go_simp
  have cq2 : ((((w.alloc (.cells #[.int .i64 0, .int .i64 4096, .int .i64 0, .int .i64 4096, .int .i64 0, .int .i64 4096] 115)).alloc (.cells #[.int .i64 25, .int .i64 75, .int .i64 25, .int .i64 75, .int .i64 25, .int .i64 75] 39)).alloc (.cells #[.int .i64 0, .bool false, .bool false, .bool false, .bool false, .bool false, .bool false, .slice none 0 0] 112)).alloc (.cells #[.int .i64 0, .int .i64 0, .int .i64 0, .int .i64 0, .int .i64 0, .int .i64 0] 115)).cell? ⟨(w.heap.size + 1 + 1 + 1), 2, none⟩ = some (.int .i64 0) := by go_simp
  have cq3 : ((((w.alloc (.cells #[.int .i64 0, .int .i64 4096, .int .i64 0, .int .i64 4096, .int .i64 0, .int .i64 4096] 115)).alloc (.cells #[.int .i64 25, .int .i64 75, .int .i64 25, .int .i64 75, .int .i64 25, .int .i64 75] 39)).alloc (.cells #[.int .i64 0, .bool false, .bool false, .bool false, .bool false, .bool false, .bool false, .slice none 0 0] 112)).alloc (.cells #[.int .i64 0, .int .i64 0, .int .i64 0, .int .i64 0, .int .i64 0, .int .i64 0] 115)).cell? ⟨(w.heap.size + 1 + 1 + 1), 3, none⟩ = some (.int .i64 0) := by go_simp
  have cq4 : ((((w.alloc (.cells #[.int .i64 0, .int .i64 4096, .int .i64 0, .int .i64 4096, .int .i64 0, .int .i64 4096] 115)).alloc (.cells #[.int .i64 25, .int .i64 75, .int .i64 25, .int .i64 75, .int .i64 25, .int .i64 75] 39)).alloc (.cells #[.int .i64 0, .bool false, .bool false, .bool false, .bool false, .bool false, .bool false, .slice none 0 0] 112)).alloc (.cells #[.int .i64 0, .int .i64 0, .int .i64 0, .int .i64 0, .int .i64 0, .int .i64 0] 115)).cell? ⟨(w.heap.size + 1 + 1 + 1), 4, none⟩ = some (.int .i64 0) := by go_simp
  have cq5 : ((((w.alloc (.cells #[.int .i64 0, .int .i64 4096, .int .i64 0, .int .i64 4096, .int .i64 0, .int .i64 4096] 115)).alloc (.cells #[.int .i64 25, .int .i64 75, .int .i64 25, .int .i64 75, .int .i64 25, .int .i64 75] 39)).alloc (.cells #[.int .i64 0, .bool false, .bool false, .bool false, .bool false, .bool false, .bool false, .slice none 0 0] 112)).alloc (.cells #[.int .i64 0, .int .i64 0, .int .i64 0, .int .i64 0, .int .i64 0, .int .i64 0] 115)).cell? ⟨(w.heap.size + 1 + 1 + 1), 5, none⟩ = some (.int .i64 0) := by go_simp
  have cqf : ∀ o, ((((w.alloc (.cells #[.int .i64 0, .int .i64 4096, .int .i64 0, .int .i64 4096, .int .i64 0, .int .i64 4096] 115)).alloc (.cells #[.int .i64 25, .int .i64 75, .int .i64 25, .int .i64 75, .int .i64 25, .int .i64 75] 39)).alloc (.cells #[.int .i64 0, .bool false, .bool false, .bool false, .bool false, .bool false, .bool false, .slice none 0 0] 112)).alloc (.cells #[.int .i64 0, .int .i64 0, .int .i64 0, .int .i64 0, .int .i64 0, .int .i64 0] 115)).frozen? ⟨(w.heap.size + 1 + 1 + 1), o, none⟩ = false := fun o => by go_simp
  have y4 : w.heap.size + 1 + 1 + 1 < ((((w.alloc (.cells #[.int .i64 0, .int .i64 4096, .int .i64 0, .int .i64 4096, .int .i64 0, .int .i64 4096] 115)).alloc (.cells #[.int .i64 25, .int .i64 75, .int .i64 25, .int .i64 75, .int .i64 25, .int .i64 75] 39)).alloc (.cells #[.int .i64 0, .bool false, .bool false, .bool false, .bool false, .bool false, .bool false, .slice none 0 0] 112)).alloc (.cells #[.int .i64 0, .int .i64 0, .int .i64 0, .int .i64 0, .int .i64 0, .int .i64 0] 115)).heap.size := by simp
  generalize ((((w.alloc (.cells #[.int .i64 0, .int .i64 4096, .int .i64 0, .int .i64 4096, .int .i64 0, .int .i64 4096] 115)).alloc (.cells #[.int .i64 25, .int .i64 75, .int .i64 25, .int .i64 75, .int .i64 25, .int .i64 75] 39)).alloc (.cells #[.int .i64 0, .bool false, .bool false, .bool false, .bool false, .bool false, .bool false, .slice none 0 0] 112)).alloc (.cells #[.int .i64 0, .int .i64 0, .int .i64 0, .int .i64 0, .int .i64 0, .int .i64 0] 115)) = w4 at HB y4 ca0 ca1 ca2 ca3 ca4 ca5 cp0 cp1 cp2 cp3 cp4 cp5 cr0 cr1 cr2 cr3 cr4 cr5 cr6 cr7 cq0 cq1 cq2 cq3 cq4 cq5 caf cpf crf cqf ⊢
  go_upto_region 3 with (first | (go_at_call 79; refine (granges_yes _).mono ?_; rintro e w5 ⟨rfl, hb5⟩; have z5 := hb5.size; (try simp at z5)) | (go_at_call 80; refine (gwithin_yes _ _ _ _ (by omega) (by omega)).mono ?_; rintro e w8 ⟨rfl, rfl⟩))
  have H5 : Below w.heap.size w w5 := HB.trans (hb5.mono (by omega))
  replace ca0 := (hb5.cell (p := ⟨w.heap.size, 0, none⟩) (by show w.heap.size < w4.heap.size; omega)).trans ca0
  replace ca1 := (hb5.cell (p := ⟨w.heap.size, 1, none⟩) (by show w.heap.size < w4.heap.size; omega)).trans ca1
  replace ca2 := (hb5.cell (p := ⟨w.heap.size, 2, none⟩) (by show w.heap.size < w4.heap.size; omega)).trans ca2
  replace ca3 := (hb5.cell (p := ⟨w.heap.size, 3, none⟩) (by show w.heap.size < w4.heap.size; omega)).trans ca3
  replace ca4 := (hb5.cell (p := ⟨w.heap.size, 4, none⟩) (by show w.heap.size < w4.heap.size; omega)).trans ca4
  replace ca5 := (hb5.cell (p := ⟨w.heap.size, 5, none⟩) (by show w.heap.size < w4.heap.size; omega)).trans ca5
  replace caf := fun o => (hb5.frozen (p := ⟨w.heap.size, o, none⟩) (by show w.heap.size < w4.heap.size; omega)).trans (caf o)
  replace cp0 := (hb5.cell (p := ⟨(w.heap.size + 1), 0, none⟩) (by show (w.heap.size + 1) < w4.heap.size; omega)).trans cp0
  replace cp1 := (hb5.cell (p := ⟨(w.heap.size + 1), 1, none⟩) (by show (w.heap.size + 1) < w4.heap.size; omega)).trans cp1
  replace cp2 := (hb5.cell (p := ⟨(w.heap.size + 1), 2, none⟩) (by show (w.heap.size + 1) < w4.heap.size; omega)).trans cp2
  replace cp3 := (hb5.cell (p := ⟨(w.heap.size + 1), 3, none⟩) (by show (w.heap.size + 1) < w4.heap.size; omega)).trans cp3
  replace cp4 := (hb5.cell (p := ⟨(w.heap.size + 1), 4, none⟩) (by show (w.heap.size + 1) < w4.heap.size; omega)).trans cp4
  replace cp5 := (hb5.cell (p := ⟨(w.heap.size + 1), 5, none⟩) (by show (w.heap.size + 1) < w4.heap.size; omega)).trans cp5
  replace cpf := fun o => (hb5.frozen (p := ⟨(w.heap.size + 1), o, none⟩) (by show (w.heap.size + 1) < w4.heap.size; omega)).trans (cpf o)
  replace cr0 := (hb5.cell (p := ⟨(w.heap.size + 1 + 1), 0, none⟩) (by show (w.heap.size + 1 + 1) < w4.heap.size; omega)).trans cr0
  replace cr1 := (hb5.cell (p := ⟨(w.heap.size + 1 + 1), 1, none⟩) (by show (w.heap.size + 1 + 1) < w4.heap.size; omega)).trans cr1
  replace cr2 := (hb5.cell (p := ⟨(w.heap.size + 1 + 1), 2, none⟩) (by show (w.heap.size + 1 + 1) < w4.heap.size; omega)).trans cr2
  replace cr3 := (hb5.cell (p := ⟨(w.heap.size + 1 + 1), 3, none⟩) (by show (w.heap.size + 1 + 1) < w4.heap.size; omega)).trans cr3
  replace cr4 := (hb5.cell (p := ⟨(w.heap.size + 1 + 1), 4, none⟩) (by show (w.heap.size + 1 + 1) < w4.heap.size; omega)).trans cr4
  replace cr5 := (hb5.cell (p := ⟨(w.heap.size + 1 + 1), 5, none⟩) (by show (w.heap.size + 1 + 1) < w4.heap.size; omega)).trans cr5
  replace cr6 := (hb5.cell (p := ⟨(w.heap.size + 1 + 1), 6, none⟩) (by show (w.heap.size + 1 + 1) < w4.heap.size; omega)).trans cr6
  replace cr7 := (hb5.cell (p := ⟨(w.heap.size + 1 + 1), 7, none⟩) (by show (w.heap.size + 1 + 1) < w4.heap.size; omega)).trans cr7
  replace crf := fun o => (hb5.frozen (p := ⟨(w.heap.size + 1 + 1), o, none⟩) (by show (w.heap.size + 1 + 1) < w4.heap.size; omega)).trans (crf o)
  replace cq0 := (hb5.cell (p := ⟨(w.heap.size + 1 + 1 + 1), 0, none⟩) (by show (w.heap.size + 1 + 1 + 1) < w4.heap.size; omega)).trans cq0
  replace cq1 := (hb5.cell (p := ⟨(w.heap.size + 1 + 1 + 1), 1, none⟩) (by show (w.heap.size + 1 + 1 + 1) < w4.heap.size; omega)).trans cq1
  replace cq2 := (hb5.cell (p := ⟨(w.heap.size + 1 + 1 + 1), 2, none⟩) (by show (w.heap.size + 1 + 1 + 1) < w4.heap.size; omega)).trans cq2
  replace cq3 := (hb5.cell (p := ⟨(w.heap.size + 1 + 1 + 1), 3, none⟩) (by show (w.heap.size + 1 + 1 + 1) < w4.heap.size; omega)).trans cq3
  replace cq4 := (hb5.cell (p := ⟨(w.heap.size + 1 + 1 + 1), 4, none⟩) (by show (w.heap.size + 1 + 1 + 1) < w4.heap.size; omega)).trans cq4
  replace cq5 := (hb5.cell (p := ⟨(w.heap.size + 1 + 1 + 1), 5, none⟩) (by show (w.heap.size + 1 + 1 + 1) < w4.heap.size; omega)).trans cq5
  replace cqf := fun o => (hb5.frozen (p := ⟨(w.heap.size + 1 + 1 + 1), o, none⟩) (by show (w.heap.size + 1 + 1 + 1) < w4.heap.size; omega)).trans (cqf o)
  have y5 : w.heap.size + 1 + 1 + 1 < w5.heap.size := by omega
  clear hb5 HB z5 y4
  go_upto_block 0 with fail
  go_cut [] (fun wz => Below w5.heap.size w5 wz)
  case first =>
    clear ca0 ca1 ca2 ca3 ca4 ca5 cp0 cp1 cp2 cp3 cp4 cp5 cr0 cr1 cr2 cr3 cr4 cr5 cr6 cr7 cq0 cq1 cq2 cq3 cq4 cq5 caf cpf crf cqf H5
    have HX : Below w5.heap.size w5 w5 := Below.refl _ _
    go_wp2
    refine wp_loop_rounds 4 ?_
    rw [rounds_succ]
    go_wp2
    rw [rounds_succ]
    go_wp2
    rw [rounds_succ]
    go_wp2
    rw [rounds_succ]
    go_wp2
    go_meet
    exact (by repeat (first | with_reducible assumption | with_reducible refine Below.drew ?_ | with_reducible refine below_drewN ?_ _ | with_reducible refine Below.alloc ?_ (by first | omega | (simp <;> omega)) _ | with_reducible refine Below.setCell ?_ (by first | omega | (simp <;> omega)) _ | with_reducible exact Below.refl _ _))
  case rest =>
  have hX := hcut
  rename World => w6
  clear hcut
  have z6 := hX.size
  have H6 : Below w.heap.size w w6 := H5.trans (hX.mono (by omega))
  replace ca0 := (hX.cell (p := ⟨w.heap.size, 0, none⟩) (by show w.heap.size < w5.heap.size; omega)).trans ca0
  replace ca1 := (hX.cell (p := ⟨w.heap.size, 1, none⟩) (by show w.heap.size < w5.heap.size; omega)).trans ca1
  replace ca2 := (hX.cell (p := ⟨w.heap.size, 2, none⟩) (by show w.heap.size < w5.heap.size; omega)).trans ca2
  replace ca3 := (hX.cell (p := ⟨w.heap.size, 3, none⟩) (by show w.heap.size < w5.heap.size; omega)).trans ca3
  replace ca4 := (hX.cell (p := ⟨w.heap.size, 4, none⟩) (by show w.heap.size < w5.heap.size; omega)).trans ca4
  replace ca5 := (hX.cell (p := ⟨w.heap.size, 5, none⟩) (by show w.heap.size < w5.heap.size; omega)).trans ca5
  replace caf := fun o => (hX.frozen (p := ⟨w.heap.size, o, none⟩) (by show w.heap.size < w5.heap.size; omega)).trans (caf o)
  replace cp0 := (hX.cell (p := ⟨(w.heap.size + 1), 0, none⟩) (by show (w.heap.size + 1) < w5.heap.size; omega)).trans cp0
  replace cp1 := (hX.cell (p := ⟨(w.heap.size + 1), 1, none⟩) (by show (w.heap.size + 1) < w5.heap.size; omega)).trans cp1
  replace cp2 := (hX.cell (p := ⟨(w.heap.size + 1), 2, none⟩) (by show (w.heap.size + 1) < w5.heap.size; omega)).trans cp2
  replace cp3 := (hX.cell (p := ⟨(w.heap.size + 1), 3, none⟩) (by show (w.heap.size + 1) < w5.heap.size; omega)).trans cp3
  replace cp4 := (hX.cell (p := ⟨(w.heap.size + 1), 4, none⟩) (by show (w.heap.size + 1) < w5.heap.size; omega)).trans cp4
  replace cp5 := (hX.cell (p := ⟨(w.heap.size + 1), 5, none⟩) (by show (w.heap.size + 1) < w5.heap.size; omega)).trans cp5
  replace cpf := fun o => (hX.frozen (p := ⟨(w.heap.size + 1), o, none⟩) (by show (w.heap.size + 1) < w5.heap.size; omega)).trans (cpf o)
  replace cr0 := (hX.cell (p := ⟨(w.heap.size + 1 + 1), 0, none⟩) (by show (w.heap.size + 1 + 1) < w5.heap.size; omega)).trans cr0
  replace cr1 := (hX.cell (p := ⟨(w.heap.size + 1 + 1), 1, none⟩) (by show (w.heap.size + 1 + 1) < w5.heap.size; omega)).trans cr1
  replace cr2 := (hX.cell (p := ⟨(w.heap.size + 1 + 1), 2, none⟩) (by show (w.heap.size + 1 + 1) < w5.heap.size; omega)).trans cr2
  replace cr3 := (hX.cell (p := ⟨(w.heap.size + 1 + 1), 3, none⟩) (by show (w.heap.size + 1 + 1) < w5.heap.size; omega)).trans cr3
  replace cr4 := (hX.cell (p := ⟨(w.heap.size + 1 + 1), 4, none⟩) (by show (w.heap.size + 1 + 1) < w5.heap.size; omega)).trans cr4
  replace cr5 := (hX.cell (p := ⟨(w.heap.size + 1 + 1), 5, none⟩) (by show (w.heap.size + 1 + 1) < w5.heap.size; omega)).trans cr5
  replace cr6 := (hX.cell (p := ⟨(w.heap.size + 1 + 1), 6, none⟩) (by show (w.heap.size + 1 + 1) < w5.heap.size; omega)).trans cr6
  replace cr7 := (hX.cell (p := ⟨(w.heap.size + 1 + 1), 7, none⟩) (by show (w.heap.size + 1 + 1) < w5.heap.size; omega)).trans cr7
  replace crf := fun o => (hX.frozen (p := ⟨(w.heap.size + 1 + 1), o, none⟩) (by show (w.heap.size + 1 + 1) < w5.heap.size; omega)).trans (crf o)
  replace cq0 := (hX.cell (p := ⟨(w.heap.size + 1 + 1 + 1), 0, none⟩) (by show (w.heap.size + 1 + 1 + 1) < w5.heap.size; omega)).trans cq0
  replace cq1 := (hX.cell (p := ⟨(w.heap.size + 1 + 1 + 1), 1, none⟩) (by show (w.heap.size + 1 + 1 + 1) < w5.heap.size; omega)).trans cq1
  replace cq2 := (hX.cell (p := ⟨(w.heap.size + 1 + 1 + 1), 2, none⟩) (by show (w.heap.size + 1 + 1 + 1) < w5.heap.size; omega)).trans cq2
  replace cq3 := (hX.cell (p := ⟨(w.heap.size + 1 + 1 + 1), 3, none⟩) (by show (w.heap.size + 1 + 1 + 1) < w5.heap.size; omega)).trans cq3
  replace cq4 := (hX.cell (p := ⟨(w.heap.size + 1 + 1 + 1), 4, none⟩) (by show (w.heap.size + 1 + 1 + 1) < w5.heap.size; omega)).trans cq4
  replace cq5 := (hX.cell (p := ⟨(w.heap.size + 1 + 1 + 1), 5, none⟩) (by show (w.heap.size + 1 + 1 + 1) < w5.heap.size; omega)).trans cq5
  replace cqf := fun o => (hX.frozen (p := ⟨(w.heap.size + 1 + 1 + 1), o, none⟩) (by show (w.heap.size + 1 + 1 + 1) < w5.heap.size; omega)).trans (cqf o)
  have y6 : w.heap.size + 1 + 1 + 1 < w6.heap.size := by omega
  clear hX H5 z6 y5
  go_upto_region 10 with (go_at_call 81; refine (on_fresh _).mono ?_; rintro e w7 ⟨rfl, hb7⟩; have z7 := hb7.size; (try simp at z7))
  replace ca0 := (hb7.cell (p := ⟨w.heap.size, 0, none⟩) (by show w.heap.size < w6.heap.size; omega)).trans ca0
  replace ca1 := (hb7.cell (p := ⟨w.heap.size, 1, none⟩) (by show w.heap.size < w6.heap.size; omega)).trans ca1
  replace ca2 := (hb7.cell (p := ⟨w.heap.size, 2, none⟩) (by show w.heap.size < w6.heap.size; omega)).trans ca2
  replace ca3 := (hb7.cell (p := ⟨w.heap.size, 3, none⟩) (by show w.heap.size < w6.heap.size; omega)).trans ca3
  replace ca4 := (hb7.cell (p := ⟨w.heap.size, 4, none⟩) (by show w.heap.size < w6.heap.size; omega)).trans ca4
  replace ca5 := (hb7.cell (p := ⟨w.heap.size, 5, none⟩) (by show w.heap.size < w6.heap.size; omega)).trans ca5
  replace caf := fun o => (hb7.frozen (p := ⟨w.heap.size, o, none⟩) (by show w.heap.size < w6.heap.size; omega)).trans (caf o)
  replace cp0 := (hb7.cell (p := ⟨(w.heap.size + 1), 0, none⟩) (by show (w.heap.size + 1) < w6.heap.size; omega)).trans cp0
  replace cp1 := (hb7.cell (p := ⟨(w.heap.size + 1), 1, none⟩) (by show (w.heap.size + 1) < w6.heap.size; omega)).trans cp1
  replace cp2 := (hb7.cell (p := ⟨(w.heap.size + 1), 2, none⟩) (by show (w.heap.size + 1) < w6.heap.size; omega)).trans cp2
  replace cp3 := (hb7.cell (p := ⟨(w.heap.size + 1), 3, none⟩) (by show (w.heap.size + 1) < w6.heap.size; omega)).trans cp3
  replace cp4 := (hb7.cell (p := ⟨(w.heap.size + 1), 4, none⟩) (by show (w.heap.size + 1) < w6.heap.size; omega)).trans cp4
  replace cp5 := (hb7.cell (p := ⟨(w.heap.size + 1), 5, none⟩) (by show (w.heap.size + 1) < w6.heap.size; omega)).trans cp5
  replace cpf := fun o => (hb7.frozen (p := ⟨(w.heap.size + 1), o, none⟩) (by show (w.heap.size + 1) < w6.heap.size; omega)).trans (cpf o)
  replace cr0 := (hb7.cell (p := ⟨(w.heap.size + 1 + 1), 0, none⟩) (by show (w.heap.size + 1 + 1) < w6.heap.size; omega)).trans cr0
  replace cr1 := (hb7.cell (p := ⟨(w.heap.size + 1 + 1), 1, none⟩) (by show (w.heap.size + 1 + 1) < w6.heap.size; omega)).trans cr1
  replace cr2 := (hb7.cell (p := ⟨(w.heap.size + 1 + 1), 2, none⟩) (by show (w.heap.size + 1 + 1) < w6.heap.size; omega)).trans cr2
  replace cr3 := (hb7.cell (p := ⟨(w.heap.size + 1 + 1), 3, none⟩) (by show (w.heap.size + 1 + 1) < w6.heap.size; omega)).trans cr3
  replace cr4 := (hb7.cell (p := ⟨(w.heap.size + 1 + 1), 4, none⟩) (by show (w.heap.size + 1 + 1) < w6.heap.size; omega)).trans cr4
  replace cr5 := (hb7.cell (p := ⟨(w.heap.size + 1 + 1), 5, none⟩) (by show (w.heap.size + 1 + 1) < w6.heap.size; omega)).trans cr5
  replace cr6 := (hb7.cell (p := ⟨(w.heap.size + 1 + 1), 6, none⟩) (by show (w.heap.size + 1 + 1) < w6.heap.size; omega)).trans cr6
  replace cr7 := (hb7.cell (p := ⟨(w.heap.size + 1 + 1), 7, none⟩) (by show (w.heap.size + 1 + 1) < w6.heap.size; omega)).trans cr7
  replace crf := fun o => (hb7.frozen (p := ⟨(w.heap.size + 1 + 1), o, none⟩) (by show (w.heap.size + 1 + 1) < w6.heap.size; omega)).trans (crf o)
  replace cq0 := (hb7.cell (p := ⟨(w.heap.size + 1 + 1 + 1), 0, none⟩) (by show (w.heap.size + 1 + 1 + 1) < w6.heap.size; omega)).trans cq0
  replace cq1 := (hb7.cell (p := ⟨(w.heap.size + 1 + 1 + 1), 1, none⟩) (by show (w.heap.size + 1 + 1 + 1) < w6.heap.size; omega)).trans cq1
  replace cq2 := (hb7.cell (p := ⟨(w.heap.size + 1 + 1 + 1), 2, none⟩) (by show (w.heap.size + 1 + 1 + 1) < w6.heap.size; omega)).trans cq2
  replace cq3 := (hb7.cell (p := ⟨(w.heap.size + 1 + 1 + 1), 3, none⟩) (by show (w.heap.size + 1 + 1 + 1) < w6.heap.size; omega)).trans cq3
  replace cq4 := (hb7.cell (p := ⟨(w.heap.size + 1 + 1 + 1), 4, none⟩) (by show (w.heap.size + 1 + 1 + 1) < w6.heap.size; omega)).trans cq4
  replace cq5 := (hb7.cell (p := ⟨(w.heap.size + 1 + 1 + 1), 5, none⟩) (by show (w.heap.size + 1 + 1 + 1) < w6.heap.size; omega)).trans cq5
  replace cqf := fun o => (hb7.frozen (p := ⟨(w.heap.size + 1 + 1 + 1), o, none⟩) (by show (w.heap.size + 1 + 1 + 1) < w6.heap.size; omega)).trans (cqf o)
  have H7 : Below w.heap.size w w7 := H6.trans (hb7.mono (by omega))
  have y7 : w.heap.size + 1 + 1 + 1 < w7.heap.size := by omega
  have H1 : Below w.heap.size w (w7.alloc (.cells #[.int .i64 100, .bool false, .bool false, .bool false, .bool false, .bool false, .bool false, .slice none 0 0] 112)) := H7.alloc (by omega) _
  have hX : Below w7.heap.size w7 (w7.alloc (.cells #[.int .i64 100, .bool false, .bool false, .bool false, .bool false, .bool false, .bool false, .slice none 0 0] 112)) := (Below.refl _ _).alloc (Nat.le_refl _) _
  have cg0 : (w7.alloc (.cells #[.int .i64 100, .bool false, .bool false, .bool false, .bool false, .bool false, .bool false, .slice none 0 0] 112)).cell? ⟨w7.heap.size, 0, none⟩ = some (.int .i64 100) := by go_simp
  have cg1 : (w7.alloc (.cells #[.int .i64 100, .bool false, .bool false, .bool false, .bool false, .bool false, .bool false, .slice none 0 0] 112)).cell? ⟨w7.heap.size, 1, none⟩ = some (.bool false) := by go_simp
  have cg2 : (w7.alloc (.cells #[.int .i64 100, .bool false, .bool false, .bool false, .bool false, .bool false, .bool false, .slice none 0 0] 112)).cell? ⟨w7.heap.size, 2, none⟩ = some (.bool false) := by go_simp
  have cg3 : (w7.alloc (.cells #[.int .i64 100, .bool false, .bool false, .bool false, .bool false, .bool false, .bool false, .slice none 0 0] 112)).cell? ⟨w7.heap.size, 3, none⟩ = some (.bool false) := by go_simp
  have cg4 : (w7.alloc (.cells #[.int .i64 100, .bool false, .bool false, .bool false, .bool false, .bool false, .bool false, .slice none 0 0] 112)).cell? ⟨w7.heap.size, 4, none⟩ = some (.bool false) := by go_simp
  have cg5 : (w7.alloc (.cells #[.int .i64 100, .bool false, .bool false, .bool false, .bool false, .bool false, .bool false, .slice none 0 0] 112)).cell? ⟨w7.heap.size, 5, none⟩ = some (.bool false) := by go_simp
  have cg6 : (w7.alloc (.cells #[.int .i64 100, .bool false, .bool false, .bool false, .bool false, .bool false, .bool false, .slice none 0 0] 112)).cell? ⟨w7.heap.size, 6, none⟩ = some (.bool false) := by go_simp
  have cg7 : (w7.alloc (.cells #[.int .i64 100, .bool false, .bool false, .bool false, .bool false, .bool false, .bool false, .slice none 0 0] 112)).cell? ⟨w7.heap.size, 7, none⟩ = some (.slice none 0 0) := by go_simp
  replace ca0 := (hX.cell (p := ⟨w.heap.size, 0, none⟩) (by show w.heap.size < w7.heap.size; omega)).trans ca0
  replace ca1 := (hX.cell (p := ⟨w.heap.size, 1, none⟩) (by show w.heap.size < w7.heap.size; omega)).trans ca1
  replace ca2 := (hX.cell (p := ⟨w.heap.size, 2, none⟩) (by show w.heap.size < w7.heap.size; omega)).trans ca2
  replace ca3 := (hX.cell (p := ⟨w.heap.size, 3, none⟩) (by show w.heap.size < w7.heap.size; omega)).trans ca3
  replace ca4 := (hX.cell (p := ⟨w.heap.size, 4, none⟩) (by show w.heap.size < w7.heap.size; omega)).trans ca4
  replace ca5 := (hX.cell (p := ⟨w.heap.size, 5, none⟩) (by show w.heap.size < w7.heap.size; omega)).trans ca5
  replace caf := fun o => (hX.frozen (p := ⟨w.heap.size, o, none⟩) (by show w.heap.size < w7.heap.size; omega)).trans (caf o)
  replace cp0 := (hX.cell (p := ⟨(w.heap.size + 1), 0, none⟩) (by show (w.heap.size + 1) < w7.heap.size; omega)).trans cp0
  replace cp1 := (hX.cell (p := ⟨(w.heap.size + 1), 1, none⟩) (by show (w.heap.size + 1) < w7.heap.size; omega)).trans cp1
  replace cp2 := (hX.cell (p := ⟨(w.heap.size + 1), 2, none⟩) (by show (w.heap.size + 1) < w7.heap.size; omega)).trans cp2
  replace cp3 := (hX.cell (p := ⟨(w.heap.size + 1), 3, none⟩) (by show (w.heap.size + 1) < w7.heap.size; omega)).trans cp3
  replace cp4 := (hX.cell (p := ⟨(w.heap.size + 1), 4, none⟩) (by show (w.heap.size + 1) < w7.heap.size; omega)).trans cp4
  replace cp5 := (hX.cell (p := ⟨(w.heap.size + 1), 5, none⟩) (by show (w.heap.size + 1) < w7.heap.size; omega)).trans cp5
  replace cpf := fun o => (hX.frozen (p := ⟨(w.heap.size + 1), o, none⟩) (by show (w.heap.size + 1) < w7.heap.size; omega)).trans (cpf o)
  replace cr0 := (hX.cell (p := ⟨(w.heap.size + 1 + 1), 0, none⟩) (by show (w.heap.size + 1 + 1) < w7.heap.size; omega)).trans cr0
  replace cr1 := (hX.cell (p := ⟨(w.heap.size + 1 + 1), 1, none⟩) (by show (w.heap.size + 1 + 1) < w7.heap.size; omega)).trans cr1
  replace cr2 := (hX.cell (p := ⟨(w.heap.size + 1 + 1), 2, none⟩) (by show (w.heap.size + 1 + 1) < w7.heap.size; omega)).trans cr2
  replace cr3 := (hX.cell (p := ⟨(w.heap.size + 1 + 1), 3, none⟩) (by show (w.heap.size + 1 + 1) < w7.heap.size; omega)).trans cr3
  replace cr4 := (hX.cell (p := ⟨(w.heap.size + 1 + 1), 4, none⟩) (by show (w.heap.size + 1 + 1) < w7.heap.size; omega)).trans cr4
  replace cr5 := (hX.cell (p := ⟨(w.heap.size + 1 + 1), 5, none⟩) (by show (w.heap.size + 1 + 1) < w7.heap.size; omega)).trans cr5
  replace cr6 := (hX.cell (p := ⟨(w.heap.size + 1 + 1), 6, none⟩) (by show (w.heap.size + 1 + 1) < w7.heap.size; omega)).trans cr6
  replace cr7 := (hX.cell (p := ⟨(w.heap.size + 1 + 1), 7, none⟩) (by show (w.heap.size + 1 + 1) < w7.heap.size; omega)).trans cr7
  replace crf := fun o => (hX.frozen (p := ⟨(w.heap.size + 1 + 1), o, none⟩) (by show (w.heap.size + 1 + 1) < w7.heap.size; omega)).trans (crf o)
  replace cq0 := (hX.cell (p := ⟨(w.heap.size + 1 + 1 + 1), 0, none⟩) (by show (w.heap.size + 1 + 1 + 1) < w7.heap.size; omega)).trans cq0
  replace cq1 := (hX.cell (p := ⟨(w.heap.size + 1 + 1 + 1), 1, none⟩) (by show (w.heap.size + 1 + 1 + 1) < w7.heap.size; omega)).trans cq1
  replace cq2 := (hX.cell (p := ⟨(w.heap.size + 1 + 1 + 1), 2, none⟩) (by show (w.heap.size + 1 + 1 + 1) < w7.heap.size; omega)).trans cq2
  replace cq3 := (hX.cell (p := ⟨(w.heap.size + 1 + 1 + 1), 3, none⟩) (by show (w.heap.size + 1 + 1 + 1) < w7.heap.size; omega)).trans cq3
  replace cq4 := (hX.cell (p := ⟨(w.heap.size + 1 + 1 + 1), 4, none⟩) (by show (w.heap.size + 1 + 1 + 1) < w7.heap.size; omega)).trans cq4
  replace cq5 := (hX.cell (p := ⟨(w.heap.size + 1 + 1 + 1), 5, none⟩) (by show (w.heap.size + 1 + 1 + 1) < w7.heap.size; omega)).trans cq5
  replace cqf := fun o => (hX.frozen (p := ⟨(w.heap.size + 1 + 1 + 1), o, none⟩) (by show (w.heap.size + 1 + 1 + 1) < w7.heap.size; omega)).trans (cqf o)
  have cgf : ∀ o, (w7.alloc (.cells #[.int .i64 100, .bool false, .bool false, .bool false, .bool false, .bool false, .bool false, .slice none 0 0] 112)).frozen? ⟨w7.heap.size, o, none⟩ = false := fun o => by go_simp
  have z1 : (w7.alloc (.cells #[.int .i64 100, .bool false, .bool false, .bool false, .bool false, .bool false, .bool false, .slice none 0 0] 112)).heap.size = w7.heap.size + 1 := by simp
  have yG : w.heap.size + 1 + 1 + 1 < w7.heap.size := y7
  clear hb7 H6 H7 hX z7 y6
  generalize (w7.alloc (.cells #[.int .i64 100, .bool false, .bool false, .bool false, .bool false, .bool false, .bool false, .slice none 0 0] 112)) = w1 at H1 z1 cgf cg0 cg1 cg2 cg3 cg4 cg5 cg6 cg7 ca0 ca1 ca2 ca3 ca4 ca5 cp0 cp1 cp2 cp3 cp4 cp5 cr0 cr1 cr2 cr3 cr4 cr5 cr6 cr7 cq0 cq1 cq2 cq3 cq4 cq5 caf cpf crf cqf ⊢
  generalize w7.heap.size = G at yG z1 cgf cg0 cg1 cg2 cg3 cg4 cg5 cg6 cg7 ⊢
  clear y7
  have R0 : RunRel w1.heap.size w.heap.size G w w1 w1 0 0 := by
    refine ⟨fun j hj => ?_, ⟨_, cg7, World.ownsRow_nil _ _ _ _⟩, Keeps.refl _ _ _, H1⟩
    obtain rfl | rfl | rfl : j = 0 ∨ j = 1 ∨ j = 2 := by omega
    · exact ⟨ca0, ca1⟩
    · exact ⟨ca2, ca3⟩
    · exact ⟨ca4, ca5⟩
  have HP := hide (legs25 cp0 cp1 cp2 cp3 cp4 cp5)
  have HCG := hide (And.intro cg0 (And.intro cg1 (And.intro cg2 (And.intro cg3 (And.intro cg4 (And.intro cg5 cg6))))))
  have HCA := hide (And.intro caf cgf)
  have HCR := hide (And.intro cr0 (And.intro cr1 (And.intro cr2 (And.intro cr3 (And.intro cr4 (And.intro cr5 (And.intro cr6 (And.intro cr7 crf))))))))
  have HCQ := hide (And.intro cq0 (And.intro cq1 (And.intro cq2 (And.intro cq3 (And.intro cq4 (And.intro cq5 cqf))))))
  clear ca0 ca1 ca2 ca3 ca4 ca5 cp0 cp1 cp2 cp3 cp4 cp5 cr0 cr1 cr2 cr3 cr4 cr5 cr6 cr7 cq0 cq1 cq2 cq3 cq4 cq5 caf cpf crf cqf cgf cg0 cg1 cg2 cg3 cg4 cg5 cg6 cg7 H1
  go_upto_block 2 with fail
  go_cut [] (fun wz => RunRel w1.heap.size w.heap.size G w w1 wz 100 0)
  case first =>
    go_wp2
    go_loopw [63] (fun ix wz => ∃ t : Nat, t ≤ 100 ∧ ix = .int .i64 (t : Int) ∧ RunRel w1.heap.size w.heap.size G w w1 wz t 0) (fun ix _ => 100 - (intOf ix).toNat)
    case atStart =>
      exact ⟨0, by omega, rfl, R0⟩
    case round =>
      clear R0
      obtain ⟨t, ht, rfl, hRt⟩ := hrel
      rename World => wt
      by_cases hlt : t < 100
      · go_upto_block 3 with fail
        replace hRt := hide hRt
        go_cut [] (fun wz => RunRel w1.heap.size w.heap.size G w w1 wz t 3)
        case first =>
          go_wp2
          go_loopw [66] (fun ix wz => ∃ i : Nat, i ≤ 3 ∧ ix = .int .i64 (i : Int) ∧ RunRel w1.heap.size w.heap.size G w w1 wz t i) (fun ix _ => 3 - (intOf ix).toNat)
          case atStart =>
            exact ⟨0, by omega, rfl, hRt.out⟩
          case round =>
            clear hRt
            obtain ⟨i, hi, rfl, hR⟩ := hrel
            rename World => wz
            by_cases hi3 : i < 3
            · have hst := leg_step hlt hi3
              obtain ⟨cs, cd⟩ := hR.leg hi3
              obtain ⟨v, cg, hown⟩ := hR.row
              obtain ⟨cp0, cp1⟩ := HP.out i hi3
              obtain ⟨hfa, hfg⟩ := HCA.out
              have hK := hR.2.2.1
              have hBz := hR.2.2.2
              have hsz := hK.1
              have hLb : w.heap.size < w1.heap.size := by omega
              have hPb : w.heap.size + 1 < w1.heap.size := by omega
              have hGb : G < w1.heap.size := by omega
              have nPD : ∀ o, ¬ Dall w.heap.size G (w.heap.size + 1) o := fun o => by unfold Dall; omega
              replace cp0 := (hK.cell hPb (nPD _)).trans cp0
              replace cp1 := (hK.cell hPb (nPD _)).trans cp1
              replace hfa := fun o => (hK.frozen hLb o).trans (hfa o)
              replace hfg := fun o => (hK.frozen hGb o).trans (hfg o)
              have hwant : ∀ W : World, Calls Try.prog 82 #[.agg #[.int .i64 25, .int .i64 75], .int .i64 (t : Int), .int .i64 100] W fun e w' => e = .returned (.int .i64 (wantAt t)) ∧ Below W.heap.size W w' := fun W => wanted_any t ⟨by omega, by omega⟩ W
              have hnum : ∀ s, ∀ W : World, Calls Try.prog 83 #[.int .i64 (i : Int), .int .i64 s] W fun e w' => e = .returned (.int .i64 (numOf i s)) ∧ w' = W := fun s W => number_any i s ⟨by omega, by omega⟩ W
              have bd := idleAt_of (t := t) (by omega)
              have bs := sideAt_of t
              have bz := wantAt_of (t := t)
              have bn := cntAt_le t i (by omega)
              generalize wantAt t = z at hwant hst bz
              generalize sideAt t = s at cs hst bs
              generalize idleAt t = d at cd hst bd
              have HWANT := hide hwant
              have HNUM := hide hnum
              replace hR := hide hR
              replace hK := hide hK
              clear hwant hnum nPD hi ht
              have j1 : (0 : Int) ≤ (i : Int) := by omega
              have j2 : (i : Int) < 3 := by omega
              have yL : w.heap.size < wz.heap.size := by omega
              have yP : w.heap.size + 1 < wz.heap.size := by omega
              have yG2 : G < wz.heap.size := by omega
              go_upto_region 16 with fail
              have kcp0 := fun d os => cell_regrown cp0 d os
              have kcp1 := fun d os => cell_regrown cp1 d os
              have cW := fun d os => Calls.regrown_of (HWANT.out (Go.Sort.grow (redrawn wz d) os))
              refine wp_region_quiet_below (by kernel_rfl) (by kernel_rfl) ?_
              repeat (go_big_quiet_step (with_reducible exact cW _ _))
              refine wpQuiet_nil ?_
              rintro wq ⟨⟨dd, os⟩, rfl⟩
              have hq := below_regrown wz dd os
              clear cW kcp0 kcp1 cp0 cp1
              generalize Go.Sort.grow (redrawn wz dd) os = wq at hq ⊢
              replace cs := (hq.cell (p := ⟨w.heap.size, i * 2, none⟩) yL).trans cs
              replace cd := (hq.cell (p := ⟨w.heap.size, i * 2 + 1, none⟩) yL).trans cd
              replace cg := (hq.cell (p := ⟨G, 7, none⟩) yG2).trans cg
              replace hfa := fun o => (hq.frozen (p := ⟨w.heap.size, o, none⟩) yL).trans (hfa o)
              replace hfg := fun o => (hq.frozen (p := ⟨G, o, none⟩) yG2).trans (hfg o)
              replace hown := own_below hown hq
              have hqs := hq.size
              have KQ : Keeps w1.heap.size (Dleg w.heap.size G i) wz wq := (Keeps.refl _ _ _).below hq hsz
              have BQ : Below w.heap.size w wq := hBz.trans (hq.mono (by omega))
              have hsq : w1.heap.size ≤ wq.heap.size := by omega
              have yLq : w.heap.size < wq.heap.size := by omega
              have yGq : G < wq.heap.size := by omega
              have nGL : ¬ G = w.heap.size := by omega
              have nLG : ¬ w.heap.size = G := by omega
              clear hq yL yP yG2 hqs hBz
              replace hown := hide hown
              replace KQ := hide KQ
              replace BQ := hide BQ
              rcases hst with ⟨hs0, hsz', e1, e2, e3⟩ | ⟨hs0, hd4, e1, e2, e3⟩ | ⟨hs0, hsz', e1, e2, e3, e4, e5, e6⟩ | ⟨hs0, hd4, e1, e2, e3, e4, e5, e6⟩
              · subst hsz'
                have m1 : (s != 0) = true := bne_iff_ne.2 hs0
                have gd : IntKind.i64.wrap (d + 1) = d + 1 := IntWalk.i64_in _ (by omega)
                have m0 : (s == 0) = false := beq_eq_false_iff_ne.2 hs0
                have E := hide (And.intro e1 (And.intro e2 e3))
                clear e1 e2 e3
                go_wp2
                go_roundw
                case rel => exact ⟨i + 1, by omega, by go_num, hR.out.next hLb hi3 (by exact (by repeat (first | with_reducible exact KQ.out | with_reducible refine Keeps.drew ?_ | with_reducible refine Keeps.alloc ?_ (by first | omega | (simp <;> omega)) _ | with_reducible refine Keeps.setCell ?_ (by unfold Dleg; simp) _))) (by rw [E.out.1]; go_simp) (by rw [E.out.2.1]; go_simp <;> omega) ⟨v, by go_simp, by rw [E.out.2.2]; exact (by repeat (first | with_reducible exact hown.out | with_reducible refine World.ownsRow.drew ?_ | with_reducible refine World.ownsRow.alloc ?_ _ | with_reducible refine ownsRow_setCell_below ?_ (by show _ < _; omega) _))⟩ (by exact (by repeat (first | with_reducible exact BQ.out | with_reducible refine Below.drew ?_ | with_reducible refine below_drewN ?_ _ | with_reducible refine Below.alloc ?_ (by first | omega | (simp <;> omega)) _ | with_reducible refine Below.setCell ?_ (by first | omega | (simp <;> omega)) _)))⟩
                case measure => simp [intOf]; omega
              · subst hs0
                have gd : IntKind.i64.wrap (d + 1) = d + 1 := IntWalk.i64_in _ (by omega)
                have hm : d + 1 ≤ 4096 := by omega
                have m1 : (z != 0) = true := bne_iff_ne.2 (by omega)
                have E := hide (And.intro e1 (And.intro e2 e3))
                clear e1 e2 e3
                go_wp2
                go_roundw
                case rel => exact ⟨i + 1, by omega, by go_num, hR.out.next hLb hi3 (by exact (by repeat (first | with_reducible exact KQ.out | with_reducible refine Keeps.drew ?_ | with_reducible refine Keeps.alloc ?_ (by first | omega | (simp <;> omega)) _ | with_reducible refine Keeps.setCell ?_ (by unfold Dleg; simp) _))) (by rw [E.out.1]; go_simp) (by rw [E.out.2.1]; go_simp <;> omega) ⟨v, by go_simp, by rw [E.out.2.2]; exact (by repeat (first | with_reducible exact hown.out | with_reducible refine World.ownsRow.drew ?_ | with_reducible refine World.ownsRow.alloc ?_ _ | with_reducible refine ownsRow_setCell_below ?_ (by show _ < _; omega) _))⟩ (by exact (by repeat (first | with_reducible exact BQ.out | with_reducible refine Below.drew ?_ | with_reducible refine below_drewN ?_ _ | with_reducible refine Below.alloc ?_ (by first | omega | (simp <;> omega)) _ | with_reducible refine Below.setCell ?_ (by first | omega | (simp <;> omega)) _)))⟩
                case measure => simp [intOf]; omega
              · have m1 : (s != 0) = true := bne_iff_ne.2 hs0
                have m2 : (s != z) = true := bne_iff_ne.2 hsz'
                have m3 : (z != 0) = true := bne_iff_ne.2 (by omega)
                have HN := hide (HNUM.out s)
                clear HNUM
                generalize cntAt t i = n at *
                have E := hide (And.intro e1 (And.intro e2 (And.intro e3 (And.intro e4 (And.intro e5 e6)))))
                clear e1 e2 e3 e4 e5 e6
                go_upto_region 18 with fail
                go_cut [] (fun wx => AppRel w1.heap.size G w wq wx n (t : Int) (numOf i s) false)
                case first =>
                  rename ((t : Int) < 100) => hdd
                  clear hR hK HWANT hlt hdd
                  go_region_law (first | (refine step_append_lies _ (by rfl) (.tmp 91) (.tmp 100) 110 (by rfl) w1.heap.size 148 i0 (.agg #[.int .i64 0, .int .i64 0, .bool false]) 3 24 Try.underlying110 hi0 hz0 hz1 hz2 rfl (by decide) v n (flatE n) (by rfl) (by exact (by repeat (first | with_reducible exact hown.out | refine World.ownsRow.drew ?_ | refine own_drewN ?_ _ | refine World.ownsRow.alloc ?_ _))) ⟨wq.heap.size, 0, none⟩ 1 1 [.int .i64 (t : Int), .int .i64 (numOf i s), .bool false] (by rfl) rfl (edge_cells _ _ _ _ _ _ (by simp)) (edge_one _ _ _) (by decide) (by unfold maxLen; omega) (by omega) (by first | omega | (simp; omega)) _ rfl ?_; intro g cap w9 hown9 hgrow hlies hlt9; have K9 : Keeps w1.heap.size Dnil wq w9 := Keeps.grown (by exact (by repeat (first | with_reducible exact Keeps.refl _ _ _ | with_reducible refine Keeps.drew ?_ | with_reducible refine Keeps.alloc ?_ (by first | omega | (simp <;> omega)) _))) hgrow (by first | omega | (simp; omega)) (fun k hk => (hown.out.lt k hk).1); have c9 := (K9.cell (q := G) (o := 7) hGb (fun hx => hx)).trans cg; have f9 := (K9.frozen (q := G) hGb 7).trans (hfg 7); have y9 : G < w9.heap.size := (by have := K9.1; omega); have B9 : Below w.heap.size w w9 := Below.grown (by exact (by repeat (first | with_reducible exact BQ.out | with_reducible refine Below.drew ?_ | with_reducible refine below_drewN ?_ _ | with_reducible refine Below.alloc ?_ (by first | omega | (simp <;> omega)) _ | with_reducible refine Below.setCell ?_ (by first | omega | (simp <;> omega)) _))) hgrow (by first | omega | (simp; omega)) (fun k hk => Nat.le_trans (by omega) (hown.out.lt k hk).1); have O9 := hide hown9; clear hown9 hgrow hlies hlt9) | (go_simp; go_at_call 83; refine (HN.out _).mono ?_; rintro e w8 ⟨rfl, rfl⟩))
                  all_goals
                    go_wp2
                    go_meet
                    refine ⟨g, cap, by go_simp, ?_, ?_, ?_⟩
                    · refine ownsRow_setCell_below O9.out ?_ _
                      exact hGb
                    · exact Keeps.setCell (K9.weaken (fun _ _ hx => hx.elim)) (by unfold Dgate; simp) _
                    · exact Below.setCell B9 (by first | omega | (simp <;> omega)) _
                case rest =>
                obtain ⟨g, cap, cgx, hownx, KX, BX⟩ := hcut
                rename World => wx
                have yLx : w.heap.size < wx.heap.size := by have := KX.1; omega
                have yGx : G < wx.heap.size := by have := KX.1; omega
                have nD : ∀ o, ¬ Dgate G w.heap.size o := fun o hx => nLG hx.1
                replace cs := (KX.cell hLb (nD _)).trans cs
                replace cd := (KX.cell hLb (nD _)).trans cd
                replace hfa := fun o => (KX.frozen hLb o).trans (hfa o)
                replace hfg := fun o => (KX.frozen hGb o).trans (hfg o)
                replace KQ := hide (KQ.out.trans (KX.weaken (D' := Dleg w.heap.size G i) (fun _ _ hx => Or.inr hx)))
                replace BQ := hide BX
                replace hown := hide hownx
                clear cg yLq yGq hsq KX BX hownx nD

                go_wp2
                go_roundw
                case rel =>
                  refine ⟨i + 1, by omega, by go_num, hR.out.next hLb hi3 ?_ ?_ ?_ ⟨.slice (some ⟨g, 0, none⟩) (n + 1) cap, ?_, ?_⟩ ?_⟩
                  · exact (by repeat (first | with_reducible exact KQ.out | with_reducible refine Keeps.drew ?_ | with_reducible refine Keeps.alloc ?_ (by first | omega | (simp <;> omega)) _ | with_reducible refine Keeps.setCell ?_ (by unfold Dleg; simp) _))
                  · rw [E.out.1]
                    go_simp
                  · rw [E.out.2.1]
                    go_simp
                    all_goals omega
                  · go_simp
                  · rw [E.out.2.2.1, flatE, E.out.2.2.2.1, E.out.2.2.2.2.1, E.out.2.2.2.2.2]
                    exact (by repeat (first | with_reducible exact hown.out | with_reducible refine World.ownsRow.drew ?_ | with_reducible refine World.ownsRow.alloc ?_ _ | with_reducible refine ownsRow_setCell_below ?_ (by show _ < _; omega) _))
                  · exact (by repeat (first | with_reducible exact BQ.out | with_reducible refine Below.drew ?_ | with_reducible refine below_drewN ?_ _ | with_reducible refine Below.alloc ?_ (by first | omega | (simp <;> omega)) _ | with_reducible refine Below.setCell ?_ (by first | omega | (simp <;> omega)) _))
                case measure => simp [intOf]; omega
              · subst hs0
                have m3 : (z != 0) = true := bne_iff_ne.2 (by omega)
                have gd : IntKind.i64.wrap (d + 1) = d + 1 := IntWalk.i64_in _ (by omega)
                have HN := hide (HNUM.out z)
                clear HNUM
                generalize cntAt t i = n at *
                have E := hide (And.intro e1 (And.intro e2 (And.intro e3 (And.intro e4 (And.intro e5 e6)))))
                clear e1 e2 e3 e4 e5 e6
                go_upto_region 21 with fail
                go_cut [] (fun wx => AppRel w1.heap.size G w wq wx n (t : Int) (numOf i z) true)
                case first =>
                  rename ((t : Int) < 100) => hdd
                  clear hR hK HWANT hlt hdd
                  go_region_law (first | (refine step_append_lies _ (by rfl) (.tmp 127) (.tmp 133) 110 (by rfl) w1.heap.size 148 i0 (.agg #[.int .i64 0, .int .i64 0, .bool false]) 3 24 Try.underlying110 hi0 hz0 hz1 hz2 rfl (by decide) v n (flatE n) (by rfl) (by exact (by repeat (first | with_reducible exact hown.out | refine World.ownsRow.drew ?_ | refine own_drewN ?_ _ | refine World.ownsRow.alloc ?_ _))) ⟨wq.heap.size, 0, none⟩ 1 1 [.int .i64 (t : Int), .int .i64 (numOf i z), .bool true] (by rfl) rfl (edge_cells _ _ _ _ _ _ (by simp)) (edge_one _ _ _) (by decide) (by unfold maxLen; omega) (by omega) (by first | omega | (simp; omega)) _ rfl ?_; intro g cap w9 hown9 hgrow hlies hlt9; have K9 : Keeps w1.heap.size Dnil wq w9 := Keeps.grown (by exact (by repeat (first | with_reducible exact Keeps.refl _ _ _ | with_reducible refine Keeps.drew ?_ | with_reducible refine Keeps.alloc ?_ (by first | omega | (simp <;> omega)) _))) hgrow (by first | omega | (simp; omega)) (fun k hk => (hown.out.lt k hk).1); have c9 := (K9.cell (q := G) (o := 7) hGb (fun hx => hx)).trans cg; have f9 := (K9.frozen (q := G) hGb 7).trans (hfg 7); have y9 : G < w9.heap.size := (by have := K9.1; omega); have B9 : Below w.heap.size w w9 := Below.grown (by exact (by repeat (first | with_reducible exact BQ.out | with_reducible refine Below.drew ?_ | with_reducible refine below_drewN ?_ _ | with_reducible refine Below.alloc ?_ (by first | omega | (simp <;> omega)) _ | with_reducible refine Below.setCell ?_ (by first | omega | (simp <;> omega)) _))) hgrow (by first | omega | (simp; omega)) (fun k hk => Nat.le_trans (by omega) (hown.out.lt k hk).1); have O9 := hide hown9; clear hown9 hgrow hlies hlt9) | (go_simp; go_at_call 83; refine (HN.out _).mono ?_; rintro e w8 ⟨rfl, rfl⟩))
                  all_goals
                    go_wp2
                    go_meet
                    refine ⟨g, cap, by go_simp, ?_, ?_, ?_⟩
                    · refine ownsRow_setCell_below O9.out ?_ _
                      exact hGb
                    · exact Keeps.setCell (K9.weaken (fun _ _ hx => hx.elim)) (by unfold Dgate; simp) _
                    · exact Below.setCell B9 (by first | omega | (simp <;> omega)) _
                case rest =>
                obtain ⟨g, cap, cgx, hownx, KX, BX⟩ := hcut
                rename World => wx
                have yLx : w.heap.size < wx.heap.size := by have := KX.1; omega
                have yGx : G < wx.heap.size := by have := KX.1; omega
                have nD : ∀ o, ¬ Dgate G w.heap.size o := fun o hx => nLG hx.1
                replace cs := (KX.cell hLb (nD _)).trans cs
                replace cd := (KX.cell hLb (nD _)).trans cd
                replace hfa := fun o => (KX.frozen hLb o).trans (hfa o)
                replace hfg := fun o => (KX.frozen hGb o).trans (hfg o)
                replace KQ := hide (KQ.out.trans (KX.weaken (D' := Dleg w.heap.size G i) (fun _ _ hx => Or.inr hx)))
                replace BQ := hide BX
                replace hown := hide hownx
                clear cg yLq yGq hsq KX BX hownx nD

                go_wp2
                go_roundw
                case rel =>
                  refine ⟨i + 1, by omega, by go_num, hR.out.next hLb hi3 ?_ ?_ ?_ ⟨.slice (some ⟨g, 0, none⟩) (n + 1) cap, ?_, ?_⟩ ?_⟩
                  · exact (by repeat (first | with_reducible exact KQ.out | with_reducible refine Keeps.drew ?_ | with_reducible refine Keeps.alloc ?_ (by first | omega | (simp <;> omega)) _ | with_reducible refine Keeps.setCell ?_ (by unfold Dleg; simp) _))
                  · rw [E.out.1]
                    go_simp
                  · rw [E.out.2.1]
                    go_simp
                    all_goals omega
                  · go_simp
                  · rw [E.out.2.2.1, flatE, E.out.2.2.2.1, E.out.2.2.2.2.1, E.out.2.2.2.2.2]
                    exact (by repeat (first | with_reducible exact hown.out | with_reducible refine World.ownsRow.drew ?_ | with_reducible refine World.ownsRow.alloc ?_ _ | with_reducible refine ownsRow_setCell_below ?_ (by show _ < _; omega) _))
                  · exact (by repeat (first | with_reducible exact BQ.out | with_reducible refine Below.drew ?_ | with_reducible refine below_drewN ?_ _ | with_reducible refine Below.alloc ?_ (by first | omega | (simp <;> omega)) _ | with_reducible refine Below.setCell ?_ (by first | omega | (simp <;> omega)) _))
                case measure => simp [intOf]; omega
            · obtain rfl : i = 3 := by omega
              go_wp2
              go_meet
              exact hR
        case rest =>
        have hX := hcut
        clear hcut hRt
        replace hX := hide hX.turn
        go_wp2
        go_roundw
        case rel => exact ⟨t + 1, by omega, by go_num, hX.out⟩
        case measure => simp [intOf]; omega
      · obtain rfl : t = 100 := by omega
        go_wp2
        go_meet
        exact hRt
  case rest =>
  have hX := hcut
  rename World => wf
  clear hcut R0
  have KX := hX.2.2.1
  have BX := hX.2.2.2
  obtain ⟨v, cg7, hown⟩ := hX.row
  rw [cntAt_last] at hown
  obtain ⟨g, cap, rfl, hgb, hgl⟩ := hown.form (by decide)
  have kL : w.heap.size < w1.heap.size := by omega
  have kG : G < w1.heap.size := by omega
  have kR : w.heap.size + 1 + 1 < w1.heap.size := by omega
  have kQ : w.heap.size + 1 + 1 + 1 < w1.heap.size := by omega
  have dG : ∀ j, j < 7 → ¬ Dall w.heap.size G G j := fun j hj => by unfold Dall; omega
  have dR : ∀ j, ¬ Dall w.heap.size G (w.heap.size + 1 + 1) j := fun j => by unfold Dall; omega
  have dQ : ∀ j, ¬ Dall w.heap.size G (w.heap.size + 1 + 1 + 1) j := fun j => by unfold Dall; omega
  obtain ⟨cg0, cg1, cg2, cg3, cg4, cg5, cg6⟩ := HCG.out
  obtain ⟨cr0, cr1, cr2, cr3, cr4, cr5, cr6, cr7, crf⟩ := HCR.out
  obtain ⟨cq0, cq1, cq2, cq3, cq4, cq5, cqf⟩ := HCQ.out
  replace cg0 := (KX.cell kG (dG 0 (by decide))).trans cg0
  replace cg1 := (KX.cell kG (dG 1 (by decide))).trans cg1
  replace cg2 := (KX.cell kG (dG 2 (by decide))).trans cg2
  replace cg3 := (KX.cell kG (dG 3 (by decide))).trans cg3
  replace cg4 := (KX.cell kG (dG 4 (by decide))).trans cg4
  replace cg5 := (KX.cell kG (dG 5 (by decide))).trans cg5
  replace cg6 := (KX.cell kG (dG 6 (by decide))).trans cg6
  replace cr0 := (KX.cell kR (dR 0)).trans cr0
  replace cr1 := (KX.cell kR (dR 1)).trans cr1
  replace cr2 := (KX.cell kR (dR 2)).trans cr2
  replace cr3 := (KX.cell kR (dR 3)).trans cr3
  replace cr4 := (KX.cell kR (dR 4)).trans cr4
  replace cr5 := (KX.cell kR (dR 5)).trans cr5
  replace cr6 := (KX.cell kR (dR 6)).trans cr6
  replace cr7 := (KX.cell kR (dR 7)).trans cr7
  replace cq0 := (KX.cell kQ (dQ 0)).trans cq0
  replace cq1 := (KX.cell kQ (dQ 1)).trans cq1
  replace cq2 := (KX.cell kQ (dQ 2)).trans cq2
  replace cq3 := (KX.cell kQ (dQ 3)).trans cq3
  replace cq4 := (KX.cell kQ (dQ 4)).trans cq4
  replace cq5 := (KX.cell kQ (dQ 5)).trans cq5
  replace crf := fun o => (KX.frozen kR o).trans (crf o)
  replace cqf := fun o => (KX.frozen kQ o).trans (cqf o)
  have s1 : sideAt 100 = 1 := by decide
  have s2 : idleAt 100 = 25 := by decide
  have cl0 : wf.cell? ⟨w.heap.size, 0, none⟩ = some (.int .i64 1) := by rw [← s1]; exact (hX.1 0 (by decide)).1
  have cl1 : wf.cell? ⟨w.heap.size, 1, none⟩ = some (.int .i64 25) := by rw [← s2]; exact (hX.1 0 (by decide)).2
  have cl2 : wf.cell? ⟨w.heap.size, 2, none⟩ = some (.int .i64 1) := by rw [← s1]; exact (hX.1 1 (by decide)).1
  have cl3 : wf.cell? ⟨w.heap.size, 3, none⟩ = some (.int .i64 25) := by rw [← s2]; exact (hX.1 1 (by decide)).2
  have cl4 : wf.cell? ⟨w.heap.size, 4, none⟩ = some (.int .i64 1) := by rw [← s1]; exact (hX.1 2 (by decide)).1
  have cl5 : wf.cell? ⟨w.heap.size, 5, none⟩ = some (.int .i64 25) := by rw [← s2]; exact (hX.1 2 (by decide)).2
  have zf := KX.1
  have eL : w.heap.size < wf.heap.size := by omega
  have eG : G < wf.heap.size := by omega
  have eR : w.heap.size + 1 + 1 < wf.heap.size := by omega
  have eQ : w.heap.size + 1 + 1 + 1 < wf.heap.size := by omega
  clear HP HCG HCA HCR HCQ dG dR dQ s1 s2 zf
  replace hX := hide hX
  replace KX := hide KX
  replace BX := hide BX
  replace hown := hide hown
  go_upto_region 26 with fail
  go_region
  all_goals
    go_wp2
    refine bodyPost_ret (v := (.tuple #[.agg #[.int .i64 100, .bool false, .bool false, .bool false, .bool false, .bool false, .bool false, .slice (some ⟨g, 0, none⟩) 15 cap], .agg #[.int .i64 1, .int .i64 25, .int .i64 1, .int .i64 25, .int .i64 1, .int .i64 25], .nilIface])) (by simp only [results, Try.results47]; go_simp) rfl ⟨⟨g, cap, rfl, ?_, ?_, by omega⟩, ?_⟩
    · exact edges_own (by exact (by repeat (first | with_reducible exact hown.out | with_reducible refine World.ownsRow.drew ?_ | with_reducible refine World.ownsRow.alloc ?_ _ | with_reducible refine ownsRow_setCell_below ?_ (by show _ < _; omega) _)) : World.ownsRow _ w1.heap.size 148 3 (.slice (some ⟨g, 0, none⟩) 15 cap) 15 (flatE 15))
    · first | omega | (simp <;> omega)
    · exact (by repeat (first | with_reducible exact BX.out | with_reducible refine Below.drew ?_ | with_reducible refine below_drewN ?_ _ | with_reducible refine Below.alloc ?_ (by first | omega | (simp <;> omega)) _ | with_reducible refine Below.setCell ?_ (by first | omega | (simp <;> omega)) _))
end Go.Proofs.Ytjeomdfcfbfebaa

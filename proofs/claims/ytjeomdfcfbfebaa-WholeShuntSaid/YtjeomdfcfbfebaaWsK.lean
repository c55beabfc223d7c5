/- The walk of the gates' Safe at the signals that 'centred' names. Condition: what each theorem names. -/
import Derived.Test.YtjeomdfcfbfebaaGtRel
import Derived.Test.YtjeomdfcfbfebaaWsH
import Derived.Test.YtjeomdfcfbfebaaWsI
namespace Go.Proofs.Ytjeomdfcfbfebaa
open Go.RowKit PM
@[go_sem] theorem eqB6 (w : World) : (Op.equalIn 10000 109 (.agg #[.bool false, .bool false, .bool false, .bool false, .bool false, .bool false]) (.agg #[.bool false, .bool false, .bool false, .bool false, .bool false, .bool false])).run Try.prog w = .ok true w := by kernel_rfl
@[go_sem] theorem xb0 : bits .xor .i64 0 1 = 1 := by decide
@[go_sem] theorem xb1 : bits .xor .i64 1 1 = 0 := by decide
@[go_sem] theorem xb2 : bits .xor .i64 2 1 = 3 := by decide
@[go_sem] theorem xb3 : bits .xor .i64 3 1 = 2 := by decide
@[go_sem] theorem xb4 : bits .xor .i64 4 1 = 5 := by decide
@[go_sem] theorem xb5 : bits .xor .i64 5 1 = 4 := by decide
theorem Edges.below {w w' : World} {g n m : Nat} {A S : Nat → Int} {B : Nat → Bool} (h : Edges w g n A S B) (hg : g < m) (hb : Below m w w') : Edges w' g n A S B := fun k hk =>
  ⟨(hb.cell (p := ⟨g, k * 3, none⟩) hg).trans (h k hk).1, (hb.cell (p := ⟨g, k * 3 + 1, none⟩) hg).trans (h k hk).2.1, (hb.cell (p := ⟨g, k * 3 + 2, none⟩) hg).trans (h k hk).2.2⟩
/-- Whether a switch is on ahead of an edge. -/
def isAt (k j : Nat) : Bool := if j % 2 = 0 then decide (6 + j / 2 < k ∧ k ≤ 9 + j / 2) else decide ((j / 2 < k ∧ k ≤ 3 + j / 2) ∨ 12 + j / 2 < k)
/-- When a leg was turned off last. -/
def lastAt (k l : Nat) : Int := if 9 + l < k then 75 else if 3 + l < k then 25 else -4096
/-- The blocks that the edges write. -/
def Dls (LS IS : Nat) (q _o : Nat) : Prop := q = LS ∨ q = IS
/-- What is kept ahead of an edge. -/
def SafeRel (base LS IS : Nat) (w w7 wz : World) (k : Nat) : Prop :=
  (∀ j, j < 6 → wz.cell? ⟨IS, j, none⟩ = some (.bool (isAt k j))) ∧ (∀ l, l < 3 → wz.cell? ⟨LS, l, none⟩ = some (.int .i64 (lastAt k l))) ∧ Keeps base (Dls LS IS) w7 wz ∧ Below w.heap.size w wz
theorem SafeRel.mk6 {base LS IS : Nat} {w w7 wz : World} {k : Nat}
    (i0 : wz.cell? ⟨IS, 0, none⟩ = some (.bool (isAt k 0))) (i1 : wz.cell? ⟨IS, 1, none⟩ = some (.bool (isAt k 1))) (i2 : wz.cell? ⟨IS, 2, none⟩ = some (.bool (isAt k 2))) (i3 : wz.cell? ⟨IS, 3, none⟩ = some (.bool (isAt k 3))) (i4 : wz.cell? ⟨IS, 4, none⟩ = some (.bool (isAt k 4))) (i5 : wz.cell? ⟨IS, 5, none⟩ = some (.bool (isAt k 5)))
    (v0 : wz.cell? ⟨LS, 0, none⟩ = some (.int .i64 (lastAt k 0))) (v1 : wz.cell? ⟨LS, 1, none⟩ = some (.int .i64 (lastAt k 1))) (v2 : wz.cell? ⟨LS, 2, none⟩ = some (.int .i64 (lastAt k 2)))
    (hK : Keeps base (Dls LS IS) w7 wz) (hB : Below w.heap.size w wz) : SafeRel base LS IS w w7 wz k := by
  refine ⟨fun j hj => ?_, fun l hl => ?_, hK, hB⟩
  · obtain rfl | rfl | rfl | rfl | rfl | rfl : j = 0 ∨ j = 1 ∨ j = 2 ∨ j = 3 ∨ j = 4 ∨ j = 5 := by omega
    all_goals assumption
  · obtain rfl | rfl | rfl : l = 0 ∨ l = 1 ∨ l = 2 := by omega
    all_goals assumption
theorem Keeps.drewN {base : Nat} {D : Nat → Nat → Prop} {a b : World} (h : Keeps base D a b) (n : Nat) : Keeps base D a (b.drewN n) := h.below (n := base) (below_drewN (Below.refl _ _) n) (Nat.le_refl _)
theorem Edges.keeps {w w' : World} {g n base : Nat} {D : Nat → Nat → Prop} {A S : Nat → Int} {B : Nat → Bool} (h : Edges w g n A S B) (hg : g < base) (hb : Keeps base D w w') (hn : ∀ o, ¬ D g o) : Edges w' g n A S B := fun k hk =>
  ⟨(hb.cell hg (hn _)).trans (h k hk).1, (hb.cell hg (hn _)).trans (h k hk).2.1, (hb.cell hg (hn _)).trans (h k hk).2.2⟩
set_option maxHeartbeats 16000000 in
set_option maxRecDepth 100000 in
theorem safe_any (w : World) (gb cap : Nat) (hE : Edges w gb 15 EA ES EB) (hg : gb < w.heap.size) : Calls Try.prog 49 #[.agg #[.int .i64 0, .int .i64 4096, .int .i64 0, .int .i64 4096, .int .i64 0, .int .i64 4096], .agg #[.int .i64 100, .bool false, .bool false, .bool false, .bool false, .bool false, .bool false, .slice (some ⟨gb, 0, none⟩) 15 cap], .int .i64 4] w fun e w' => e = .returned (.tuple #[.bool true, .agg #[.int .i64 1, .int .i64 25, .int .i64 1, .int .i64 25, .int .i64 1, .int .i64 25], .nilIface]) ∧ Below w.heap.size w w' := by
  go_enter Try.func49, Try.ntmps49
  go_upto_region 1 with fail
  have HB : Below w.heap.size w (((w.alloc (.cells #[.int .i64 0, .int .i64 4096, .int .i64 0, .int .i64 4096, .int .i64 0, .int .i64 4096] 115)).alloc (.cells #[.int .i64 100, .bool false, .bool false, .bool false, .bool false, .bool false, .bool false, .slice (some ⟨gb, 0, none⟩) 15 cap] 112)).alloc (.cells #[.int .i64 0, .int .i64 0, .int .i64 0, .int .i64 0, .int .i64 0, .int .i64 0] 115)) := by exact (by repeat (first | with_reducible assumption | with_reducible refine Below.drew ?_ | with_reducible refine below_drewN ?_ _ | with_reducible refine Below.alloc ?_ (by first | omega | (simp <;> omega)) _ | with_reducible refine Below.setCell ?_ (by first | omega | (simp <;> omega)) _ | with_reducible exact Below.refl _ _))
  have cl0 : (((w.alloc (.cells #[.int .i64 0, .int .i64 4096, .int .i64 0, .int .i64 4096, .int .i64 0, .int .i64 4096] 115)).alloc (.cells #[.int .i64 100, .bool false, .bool false, .bool false, .bool false, .bool false, .bool false, .slice (some ⟨gb, 0, none⟩) 15 cap] 112)).alloc (.cells #[.int .i64 0, .int .i64 0, .int .i64 0, .int .i64 0, .int .i64 0, .int .i64 0] 115)).cell? ⟨w.heap.size, 0, none⟩ = some (.int .i64 0) := by go_simp
  have cl1 : (((w.alloc (.cells #[.int .i64 0, .int .i64 4096, .int .i64 0, .int .i64 4096, .int .i64 0, .int .i64 4096] 115)).alloc (.cells #[.int .i64 100, .bool false, .bool false, .bool false, .bool false, .bool false, .bool false, .slice (some ⟨gb, 0, none⟩) 15 cap] 112)).alloc (.cells #[.int .i64 0, .int .i64 0, .int .i64 0, .int .i64 0, .int .i64 0, .int .i64 0] 115)).cell? ⟨w.heap.size, 1, none⟩ = some (.int .i64 4096) := by go_simp
  have cl2 : (((w.alloc (.cells #[.int .i64 0, .int .i64 4096, .int .i64 0, .int .i64 4096, .int .i64 0, .int .i64 4096] 115)).alloc (.cells #[.int .i64 100, .bool false, .bool false, .bool false, .bool false, .bool false, .bool false, .slice (some ⟨gb, 0, none⟩) 15 cap] 112)).alloc (.cells #[.int .i64 0, .int .i64 0, .int .i64 0, .int .i64 0, .int .i64 0, .int .i64 0] 115)).cell? ⟨w.heap.size, 2, none⟩ = some (.int .i64 0) := by go_simp
  have cl3 : (((w.alloc (.cells #[.int .i64 0, .int .i64 4096, .int .i64 0, .int .i64 4096, .int .i64 0, .int .i64 4096] 115)).alloc (.cells #[.int .i64 100, .bool false, .bool false, .bool false, .bool false, .bool false, .bool false, .slice (some ⟨gb, 0, none⟩) 15 cap] 112)).alloc (.cells #[.int .i64 0, .int .i64 0, .int .i64 0, .int .i64 0, .int .i64 0, .int .i64 0] 115)).cell? ⟨w.heap.size, 3, none⟩ = some (.int .i64 4096) := by go_simp
  have cl4 : (((w.alloc (.cells #[.int .i64 0, .int .i64 4096, .int .i64 0, .int .i64 4096, .int .i64 0, .int .i64 4096] 115)).alloc (.cells #[.int .i64 100, .bool false, .bool false, .bool false, .bool false, .bool false, .bool false, .slice (some ⟨gb, 0, none⟩) 15 cap] 112)).alloc (.cells #[.int .i64 0, .int .i64 0, .int .i64 0, .int .i64 0, .int .i64 0, .int .i64 0] 115)).cell? ⟨w.heap.size, 4, none⟩ = some (.int .i64 0) := by go_simp
  have cl5 : (((w.alloc (.cells #[.int .i64 0, .int .i64 4096, .int .i64 0, .int .i64 4096, .int .i64 0, .int .i64 4096] 115)).alloc (.cells #[.int .i64 100, .bool false, .bool false, .bool false, .bool false, .bool false, .bool false, .slice (some ⟨gb, 0, none⟩) 15 cap] 112)).alloc (.cells #[.int .i64 0, .int .i64 0, .int .i64 0, .int .i64 0, .int .i64 0, .int .i64 0] 115)).cell? ⟨w.heap.size, 5, none⟩ = some (.int .i64 4096) := by go_simp
  have clf : ∀ o, (((w.alloc (.cells #[.int .i64 0, .int .i64 4096, .int .i64 0, .int .i64 4096, .int .i64 0, .int .i64 4096] 115)).alloc (.cells #[.int .i64 100, .bool false, .bool false, .bool false, .bool false, .bool false, .bool false, .slice (some ⟨gb, 0, none⟩) 15 cap] 112)).alloc (.cells #[.int .i64 0, .int .i64 0, .int .i64 0, .int .i64 0, .int .i64 0, .int .i64 0] 115)).frozen? ⟨w.heap.size, o, none⟩ = false := fun o => by go_simp
  have cg0 : (((w.alloc (.cells #[.int .i64 0, .int .i64 4096, .int .i64 0, .int .i64 4096, .int .i64 0, .int .i64 4096] 115)).alloc (.cells #[.int .i64 100, .bool false, .bool false, .bool false, .bool false, .bool false, .bool false, .slice (some ⟨gb, 0, none⟩) 15 cap] 112)).alloc (.cells #[.int .i64 0, .int .i64 0, .int .i64 0, .int .i64 0, .int .i64 0, .int .i64 0] 115)).cell? ⟨(w.heap.size + 1), 0, none⟩ = some (.int .i64 100) := by go_simp
  have cg1 : (((w.alloc (.cells #[.int .i64 0, .int .i64 4096, .int .i64 0, .int .i64 4096, .int .i64 0, .int .i64 4096] 115)).alloc (.cells #[.int .i64 100, .bool false, .bool false, .bool false, .bool false, .bool false, .bool false, .slice (some ⟨gb, 0, none⟩) 15 cap] 112)).alloc (.cells #[.int .i64 0, .int .i64 0, .int .i64 0, .int .i64 0, .int .i64 0, .int .i64 0] 115)).cell? ⟨(w.heap.size + 1), 1, none⟩ = some (.bool false) := by go_simp
  have cg2 : (((w.alloc (.cells #[.int .i64 0, .int .i64 4096, .int .i64 0, .int .i64 4096, .int .i64 0, .int .i64 4096] 115)).alloc (.cells #[.int .i64 100, .bool false, .bool false, .bool false, .bool false, .bool false, .bool false, .slice (some ⟨gb, 0, none⟩) 15 cap] 112)).alloc (.cells #[.int .i64 0, .int .i64 0, .int .i64 0, .int .i64 0, .int .i64 0, .int .i64 0] 115)).cell? ⟨(w.heap.size + 1), 2, none⟩ = some (.bool false) := by go_simp
  have cg3 : (((w.alloc (.cells #[.int .i64 0, .int .i64 4096, .int .i64 0, .int .i64 4096, .int .i64 0, .int .i64 4096] 115)).alloc (.cells #[.int .i64 100, .bool false, .bool false, .bool false, .bool false, .bool false, .bool false, .slice (some ⟨gb, 0, none⟩) 15 cap] 112)).alloc (.cells #[.int .i64 0, .int .i64 0, .int .i64 0, .int .i64 0, .int .i64 0, .int .i64 0] 115)).cell? ⟨(w.heap.size + 1), 3, none⟩ = some (.bool false) := by go_simp
  have cg4 : (((w.alloc (.cells #[.int .i64 0, .int .i64 4096, .int .i64 0, .int .i64 4096, .int .i64 0, .int .i64 4096] 115)).alloc (.cells #[.int .i64 100, .bool false, .bool false, .bool false, .bool false, .bool false, .bool false, .slice (some ⟨gb, 0, none⟩) 15 cap] 112)).alloc (.cells #[.int .i64 0, .int .i64 0, .int .i64 0, .int .i64 0, .int .i64 0, .int .i64 0] 115)).cell? ⟨(w.heap.size + 1), 4, none⟩ = some (.bool false) := by go_simp
  have cg5 : (((w.alloc (.cells #[.int .i64 0, .int .i64 4096, .int .i64 0, .int .i64 4096, .int .i64 0, .int .i64 4096] 115)).alloc (.cells #[.int .i64 100, .bool false, .bool false, .bool false, .bool false, .bool false, .bool false, .slice (some ⟨gb, 0, none⟩) 15 cap] 112)).alloc (.cells #[.int .i64 0, .int .i64 0, .int .i64 0, .int .i64 0, .int .i64 0, .int .i64 0] 115)).cell? ⟨(w.heap.size + 1), 5, none⟩ = some (.bool false) := by go_simp
  have cg6 : (((w.alloc (.cells #[.int .i64 0, .int .i64 4096, .int .i64 0, .int .i64 4096, .int .i64 0, .int .i64 4096] 115)).alloc (.cells #[.int .i64 100, .bool false, .bool false, .bool false, .bool false, .bool false, .bool false, .slice (some ⟨gb, 0, none⟩) 15 cap] 112)).alloc (.cells #[.int .i64 0, .int .i64 0, .int .i64 0, .int .i64 0, .int .i64 0, .int .i64 0] 115)).cell? ⟨(w.heap.size + 1), 6, none⟩ = some (.bool false) := by go_simp
  have cg7 : (((w.alloc (.cells #[.int .i64 0, .int .i64 4096, .int .i64 0, .int .i64 4096, .int .i64 0, .int .i64 4096] 115)).alloc (.cells #[.int .i64 100, .bool false, .bool false, .bool false, .bool false, .bool false, .bool false, .slice (some ⟨gb, 0, none⟩) 15 cap] 112)).alloc (.cells #[.int .i64 0, .int .i64 0, .int .i64 0, .int .i64 0, .int .i64 0, .int .i64 0] 115)).cell? ⟨(w.heap.size + 1), 7, none⟩ = some (.slice (some ⟨gb, 0, none⟩) 15 cap) := by go_simp
  have cgf : ∀ o, (((w.alloc (.cells #[.int .i64 0, .int .i64 4096, .int .i64 0, .int .i64 4096, .int .i64 0, .int .i64 4096] 115)).alloc (.cells #[.int .i64 100, .bool false, .bool false, .bool false, .bool false, .bool false, .bool false, .slice (some ⟨gb, 0, none⟩) 15 cap] 112)).alloc (.cells #[.int .i64 0, .int .i64 0, .int .i64 0, .int .i64 0, .int .i64 0, .int .i64 0] 115)).frozen? ⟨(w.heap.size + 1), o, none⟩ = false := fun o => by go_simp
  have cr0 : (((w.alloc (.cells #[.int .i64 0, .int .i64 4096, .int .i64 0, .int .i64 4096, .int .i64 0, .int .i64 4096] 115)).alloc (.cells #[.int .i64 100, .bool false, .bool false, .bool false, .bool false, .bool false, .bool false, .slice (some ⟨gb, 0, none⟩) 15 cap] 112)).alloc (.cells #[.int .i64 0, .int .i64 0, .int .i64 0, .int .i64 0, .int .i64 0, .int .i64 0] 115)).cell? ⟨(w.heap.size + 1 + 1), 0, none⟩ = some (.int .i64 0) := by go_simp
  have cr1 : (((w.alloc (.cells #[.int .i64 0, .int .i64 4096, .int .i64 0, .int .i64 4096, .int .i64 0, .int .i64 4096] 115)).alloc (.cells #[.int .i64 100, .bool false, .bool false, .bool false, .bool false, .bool false, .bool false, .slice (some ⟨gb, 0, none⟩) 15 cap] 112)).alloc (.cells #[.int .i64 0, .int .i64 0, .int .i64 0, .int .i64 0, .int .i64 0, .int .i64 0] 115)).cell? ⟨(w.heap.size + 1 + 1), 1, none⟩ = some (.int .i64 0) := by go_simp
  have cr2 : (((w.alloc (.cells #[.int .i64 0, .int .i64 4096, .int .i64 0, .int .i64 4096, .int .i64 0, .int .i64 4096] 115)).alloc (.cells #[.int .i64 100, .bool false, .bool false, .bool false, .bool false, .bool false, .bool false, .slice (some ⟨gb, 0, none⟩) 15 cap] 112)).alloc (.cells #[.int .i64 0, .int .i64 0, .int .i64 0, .int .i64 0, .int .i64 0, .int .i64 0] 115)).cell? ⟨(w.heap.size + 1 + 1), 2, none⟩ = some (.int .i64 0) := by go_simp
  have cr3 : (((w.alloc (.cells #[.int .i64 0, .int .i64 4096, .int .i64 0, .int .i64 4096, .int .i64 0, .int .i64 4096] 115)).alloc (.cells #[.int .i64 100, .bool false, .bool false, .bool false, .bool false, .bool false, .bool false, .slice (some ⟨gb, 0, none⟩) 15 cap] 112)).alloc (.cells #[.int .i64 0, .int .i64 0, .int .i64 0, .int .i64 0, .int .i64 0, .int .i64 0] 115)).cell? ⟨(w.heap.size + 1 + 1), 3, none⟩ = some (.int .i64 0) := by go_simp
  have cr4 : (((w.alloc (.cells #[.int .i64 0, .int .i64 4096, .int .i64 0, .int .i64 4096, .int .i64 0, .int .i64 4096] 115)).alloc (.cells #[.int .i64 100, .bool false, .bool false, .bool false, .bool false, .bool false, .bool false, .slice (some ⟨gb, 0, none⟩) 15 cap] 112)).alloc (.cells #[.int .i64 0, .int .i64 0, .int .i64 0, .int .i64 0, .int .i64 0, .int .i64 0] 115)).cell? ⟨(w.heap.size + 1 + 1), 4, none⟩ = some (.int .i64 0) := by go_simp
  have cr5 : (((w.alloc (.cells #[.int .i64 0, .int .i64 4096, .int .i64 0, .int .i64 4096, .int .i64 0, .int .i64 4096] 115)).alloc (.cells #[.int .i64 100, .bool false, .bool false, .bool false, .bool false, .bool false, .bool false, .slice (some ⟨gb, 0, none⟩) 15 cap] 112)).alloc (.cells #[.int .i64 0, .int .i64 0, .int .i64 0, .int .i64 0, .int .i64 0, .int .i64 0] 115)).cell? ⟨(w.heap.size + 1 + 1), 5, none⟩ = some (.int .i64 0) := by go_simp
  have crf : ∀ o, (((w.alloc (.cells #[.int .i64 0, .int .i64 4096, .int .i64 0, .int .i64 4096, .int .i64 0, .int .i64 4096] 115)).alloc (.cells #[.int .i64 100, .bool false, .bool false, .bool false, .bool false, .bool false, .bool false, .slice (some ⟨gb, 0, none⟩) 15 cap] 112)).alloc (.cells #[.int .i64 0, .int .i64 0, .int .i64 0, .int .i64 0, .int .i64 0, .int .i64 0] 115)).frozen? ⟨(w.heap.size + 1 + 1), o, none⟩ = false := fun o => by go_simp
  have y3 : w.heap.size + 1 + 1 < (((w.alloc (.cells #[.int .i64 0, .int .i64 4096, .int .i64 0, .int .i64 4096, .int .i64 0, .int .i64 4096] 115)).alloc (.cells #[.int .i64 100, .bool false, .bool false, .bool false, .bool false, .bool false, .bool false, .slice (some ⟨gb, 0, none⟩) 15 cap] 112)).alloc (.cells #[.int .i64 0, .int .i64 0, .int .i64 0, .int .i64 0, .int .i64 0, .int .i64 0] 115)).heap.size := by simp
  replace hE := hE.below hg HB
  generalize (((w.alloc (.cells #[.int .i64 0, .int .i64 4096, .int .i64 0, .int .i64 4096, .int .i64 0, .int .i64 4096] 115)).alloc (.cells #[.int .i64 100, .bool false, .bool false, .bool false, .bool false, .bool false, .bool false, .slice (some ⟨gb, 0, none⟩) 15 cap] 112)).alloc (.cells #[.int .i64 0, .int .i64 0, .int .i64 0, .int .i64 0, .int .i64 0, .int .i64 0] 115)) = w3 at HB hE y3 cl0 cl1 cl2 cl3 cl4 cl5 cg0 cg1 cg2 cg3 cg4 cg5 cg6 cg7 cr0 cr1 cr2 cr3 cr4 cr5 clf cgf crf ⊢
  go_upto_region 3 with (go_at_call 79; refine (granges_yes _).mono ?_; rintro e w5 ⟨rfl, hb5⟩; have z5 := hb5.size; (try simp at z5))
  have H5 : Below w.heap.size w w5 := HB.trans (hb5.mono (by omega))
  replace cl0 := (hb5.cell (p := ⟨w.heap.size, 0, none⟩) (by show w.heap.size < w3.heap.size; omega)).trans cl0
  replace cl1 := (hb5.cell (p := ⟨w.heap.size, 1, none⟩) (by show w.heap.size < w3.heap.size; omega)).trans cl1
  replace cl2 := (hb5.cell (p := ⟨w.heap.size, 2, none⟩) (by show w.heap.size < w3.heap.size; omega)).trans cl2
  replace cl3 := (hb5.cell (p := ⟨w.heap.size, 3, none⟩) (by show w.heap.size < w3.heap.size; omega)).trans cl3
  replace cl4 := (hb5.cell (p := ⟨w.heap.size, 4, none⟩) (by show w.heap.size < w3.heap.size; omega)).trans cl4
  replace cl5 := (hb5.cell (p := ⟨w.heap.size, 5, none⟩) (by show w.heap.size < w3.heap.size; omega)).trans cl5
  replace clf := fun o => (hb5.frozen (p := ⟨w.heap.size, o, none⟩) (by show w.heap.size < w3.heap.size; omega)).trans (clf o)
  replace cg0 := (hb5.cell (p := ⟨(w.heap.size + 1), 0, none⟩) (by show (w.heap.size + 1) < w3.heap.size; omega)).trans cg0
  replace cg1 := (hb5.cell (p := ⟨(w.heap.size + 1), 1, none⟩) (by show (w.heap.size + 1) < w3.heap.size; omega)).trans cg1
  replace cg2 := (hb5.cell (p := ⟨(w.heap.size + 1), 2, none⟩) (by show (w.heap.size + 1) < w3.heap.size; omega)).trans cg2
  replace cg3 := (hb5.cell (p := ⟨(w.heap.size + 1), 3, none⟩) (by show (w.heap.size + 1) < w3.heap.size; omega)).trans cg3
  replace cg4 := (hb5.cell (p := ⟨(w.heap.size + 1), 4, none⟩) (by show (w.heap.size + 1) < w3.heap.size; omega)).trans cg4
  replace cg5 := (hb5.cell (p := ⟨(w.heap.size + 1), 5, none⟩) (by show (w.heap.size + 1) < w3.heap.size; omega)).trans cg5
  replace cg6 := (hb5.cell (p := ⟨(w.heap.size + 1), 6, none⟩) (by show (w.heap.size + 1) < w3.heap.size; omega)).trans cg6
  replace cg7 := (hb5.cell (p := ⟨(w.heap.size + 1), 7, none⟩) (by show (w.heap.size + 1) < w3.heap.size; omega)).trans cg7
  replace cgf := fun o => (hb5.frozen (p := ⟨(w.heap.size + 1), o, none⟩) (by show (w.heap.size + 1) < w3.heap.size; omega)).trans (cgf o)
  replace cr0 := (hb5.cell (p := ⟨(w.heap.size + 1 + 1), 0, none⟩) (by show (w.heap.size + 1 + 1) < w3.heap.size; omega)).trans cr0
  replace cr1 := (hb5.cell (p := ⟨(w.heap.size + 1 + 1), 1, none⟩) (by show (w.heap.size + 1 + 1) < w3.heap.size; omega)).trans cr1
  replace cr2 := (hb5.cell (p := ⟨(w.heap.size + 1 + 1), 2, none⟩) (by show (w.heap.size + 1 + 1) < w3.heap.size; omega)).trans cr2
  replace cr3 := (hb5.cell (p := ⟨(w.heap.size + 1 + 1), 3, none⟩) (by show (w.heap.size + 1 + 1) < w3.heap.size; omega)).trans cr3
  replace cr4 := (hb5.cell (p := ⟨(w.heap.size + 1 + 1), 4, none⟩) (by show (w.heap.size + 1 + 1) < w3.heap.size; omega)).trans cr4
  replace cr5 := (hb5.cell (p := ⟨(w.heap.size + 1 + 1), 5, none⟩) (by show (w.heap.size + 1 + 1) < w3.heap.size; omega)).trans cr5
  replace crf := fun o => (hb5.frozen (p := ⟨(w.heap.size + 1 + 1), o, none⟩) (by show (w.heap.size + 1 + 1) < w3.heap.size; omega)).trans (crf o)
  have y5 : w.heap.size + 1 + 1 < w5.heap.size := by omega
  replace hE := hE.below (by omega) hb5
  clear hb5 HB z5 y3
  have hg5 : gb < w5.heap.size := by omega
  have cA := fun d os => Calls.regrown_of (on_fresh (Go.Sort.grow (redrawn w5 d) os))
  have cB := fun d os => Calls.regrown_of (sorted_any gb 15 cap EA ES EB goesUp_E (by decide) (Go.Sort.grow (redrawn w5 d) os) (Nat.lt_of_lt_of_le hg5 (below_regrown w5 d os).size) (hE.below hg5 (below_regrown w5 d os)))
  have kcl0 := fun d os => cell_regrown cl0 d os
  have kcl1 := fun d os => cell_regrown cl1 d os
  have kcl2 := fun d os => cell_regrown cl2 d os
  have kcl3 := fun d os => cell_regrown cl3 d os
  have kcl4 := fun d os => cell_regrown cl4 d os
  have kcl5 := fun d os => cell_regrown cl5 d os
  have kcg0 := fun d os => cell_regrown cg0 d os
  have kcg1 := fun d os => cell_regrown cg1 d os
  have kcg2 := fun d os => cell_regrown cg2 d os
  have kcg3 := fun d os => cell_regrown cg3 d os
  have kcg4 := fun d os => cell_regrown cg4 d os
  have kcg5 := fun d os => cell_regrown cg5 d os
  have kcg6 := fun d os => cell_regrown cg6 d os
  have kcg7 := fun d os => cell_regrown cg7 d os
  have HF := hide (And.intro clf (And.intro cgf crf))
  have HE := hide hE
  clear clf cgf crf hE
  refine wp_region_quiet_below (by kernel_rfl) (by kernel_rfl) ?_
  repeat (go_big_quiet_step (first | with_reducible exact cA _ _ | with_reducible exact cB _ _))
  refine wpQuiet_nil ?_
  rintro wq ⟨⟨dd, os⟩, rfl⟩
  have hq := below_regrown w5 dd os
  clear cA cB kcl0 kcl1 kcl2 kcl3 kcl4 kcl5 kcg0 kcg1 kcg2 kcg3 kcg4 kcg5 kcg6 kcg7
  obtain ⟨clf, cgf, crf⟩ := HF.out
  have hE := HE.out
  clear HF HE
  generalize Go.Sort.grow (redrawn w5 dd) os = wq at hq ⊢
  replace cl0 := (hq.cell (p := ⟨w.heap.size, 0, none⟩) (by show w.heap.size < w5.heap.size; omega)).trans cl0
  replace cl1 := (hq.cell (p := ⟨w.heap.size, 1, none⟩) (by show w.heap.size < w5.heap.size; omega)).trans cl1
  replace cl2 := (hq.cell (p := ⟨w.heap.size, 2, none⟩) (by show w.heap.size < w5.heap.size; omega)).trans cl2
  replace cl3 := (hq.cell (p := ⟨w.heap.size, 3, none⟩) (by show w.heap.size < w5.heap.size; omega)).trans cl3
  replace cl4 := (hq.cell (p := ⟨w.heap.size, 4, none⟩) (by show w.heap.size < w5.heap.size; omega)).trans cl4
  replace cl5 := (hq.cell (p := ⟨w.heap.size, 5, none⟩) (by show w.heap.size < w5.heap.size; omega)).trans cl5
  replace clf := fun o => (hq.frozen (p := ⟨w.heap.size, o, none⟩) (by show w.heap.size < w5.heap.size; omega)).trans (clf o)
  replace cg0 := (hq.cell (p := ⟨(w.heap.size + 1), 0, none⟩) (by show (w.heap.size + 1) < w5.heap.size; omega)).trans cg0
  replace cg1 := (hq.cell (p := ⟨(w.heap.size + 1), 1, none⟩) (by show (w.heap.size + 1) < w5.heap.size; omega)).trans cg1
  replace cg2 := (hq.cell (p := ⟨(w.heap.size + 1), 2, none⟩) (by show (w.heap.size + 1) < w5.heap.size; omega)).trans cg2
  replace cg3 := (hq.cell (p := ⟨(w.heap.size + 1), 3, none⟩) (by show (w.heap.size + 1) < w5.heap.size; omega)).trans cg3
  replace cg4 := (hq.cell (p := ⟨(w.heap.size + 1), 4, none⟩) (by show (w.heap.size + 1) < w5.heap.size; omega)).trans cg4
  replace cg5 := (hq.cell (p := ⟨(w.heap.size + 1), 5, none⟩) (by show (w.heap.size + 1) < w5.heap.size; omega)).trans cg5
  replace cg6 := (hq.cell (p := ⟨(w.heap.size + 1), 6, none⟩) (by show (w.heap.size + 1) < w5.heap.size; omega)).trans cg6
  replace cg7 := (hq.cell (p := ⟨(w.heap.size + 1), 7, none⟩) (by show (w.heap.size + 1) < w5.heap.size; omega)).trans cg7
  replace cgf := fun o => (hq.frozen (p := ⟨(w.heap.size + 1), o, none⟩) (by show (w.heap.size + 1) < w5.heap.size; omega)).trans (cgf o)
  replace cr0 := (hq.cell (p := ⟨(w.heap.size + 1 + 1), 0, none⟩) (by show (w.heap.size + 1 + 1) < w5.heap.size; omega)).trans cr0
  replace cr1 := (hq.cell (p := ⟨(w.heap.size + 1 + 1), 1, none⟩) (by show (w.heap.size + 1 + 1) < w5.heap.size; omega)).trans cr1
  replace cr2 := (hq.cell (p := ⟨(w.heap.size + 1 + 1), 2, none⟩) (by show (w.heap.size + 1 + 1) < w5.heap.size; omega)).trans cr2
  replace cr3 := (hq.cell (p := ⟨(w.heap.size + 1 + 1), 3, none⟩) (by show (w.heap.size + 1 + 1) < w5.heap.size; omega)).trans cr3
  replace cr4 := (hq.cell (p := ⟨(w.heap.size + 1 + 1), 4, none⟩) (by show (w.heap.size + 1 + 1) < w5.heap.size; omega)).trans cr4
  replace cr5 := (hq.cell (p := ⟨(w.heap.size + 1 + 1), 5, none⟩) (by show (w.heap.size + 1 + 1) < w5.heap.size; omega)).trans cr5
  replace crf := fun o => (hq.frozen (p := ⟨(w.heap.size + 1 + 1), o, none⟩) (by show (w.heap.size + 1 + 1) < w5.heap.size; omega)).trans (crf o)
  replace hE := hE.below hg5 hq
  have HQ : Below w.heap.size w wq := H5.trans (hq.mono (by omega))
  have zq := hq.size
  have yq : w.heap.size + 1 + 1 < wq.heap.size := by omega
  have hgq : gb < wq.heap.size := by omega
  clear hq H5 zq y5 hg5
  go_upto_region 6 with fail
  have H6 : Below w.heap.size w (wq.alloc (.cells #[.int .i64 0, .int .i64 0, .int .i64 0] 26)) := HQ.alloc (by omega) _
  have hX : Below wq.heap.size wq (wq.alloc (.cells #[.int .i64 0, .int .i64 0, .int .i64 0] 26)) := (Below.refl _ _).alloc (Nat.le_refl _) _
  replace cl0 := (hX.cell (p := ⟨w.heap.size, 0, none⟩) (by show w.heap.size < wq.heap.size; omega)).trans cl0
  replace cl1 := (hX.cell (p := ⟨w.heap.size, 1, none⟩) (by show w.heap.size < wq.heap.size; omega)).trans cl1
  replace cl2 := (hX.cell (p := ⟨w.heap.size, 2, none⟩) (by show w.heap.size < wq.heap.size; omega)).trans cl2
  replace cl3 := (hX.cell (p := ⟨w.heap.size, 3, none⟩) (by show w.heap.size < wq.heap.size; omega)).trans cl3
  replace cl4 := (hX.cell (p := ⟨w.heap.size, 4, none⟩) (by show w.heap.size < wq.heap.size; omega)).trans cl4
  replace cl5 := (hX.cell (p := ⟨w.heap.size, 5, none⟩) (by show w.heap.size < wq.heap.size; omega)).trans cl5
  replace clf := fun o => (hX.frozen (p := ⟨w.heap.size, o, none⟩) (by show w.heap.size < wq.heap.size; omega)).trans (clf o)
  replace cg0 := (hX.cell (p := ⟨(w.heap.size + 1), 0, none⟩) (by show (w.heap.size + 1) < wq.heap.size; omega)).trans cg0
  replace cg1 := (hX.cell (p := ⟨(w.heap.size + 1), 1, none⟩) (by show (w.heap.size + 1) < wq.heap.size; omega)).trans cg1
  replace cg2 := (hX.cell (p := ⟨(w.heap.size + 1), 2, none⟩) (by show (w.heap.size + 1) < wq.heap.size; omega)).trans cg2
  replace cg3 := (hX.cell (p := ⟨(w.heap.size + 1), 3, none⟩) (by show (w.heap.size + 1) < wq.heap.size; omega)).trans cg3
  replace cg4 := (hX.cell (p := ⟨(w.heap.size + 1), 4, none⟩) (by show (w.heap.size + 1) < wq.heap.size; omega)).trans cg4
  replace cg5 := (hX.cell (p := ⟨(w.heap.size + 1), 5, none⟩) (by show (w.heap.size + 1) < wq.heap.size; omega)).trans cg5
  replace cg6 := (hX.cell (p := ⟨(w.heap.size + 1), 6, none⟩) (by show (w.heap.size + 1) < wq.heap.size; omega)).trans cg6
  replace cg7 := (hX.cell (p := ⟨(w.heap.size + 1), 7, none⟩) (by show (w.heap.size + 1) < wq.heap.size; omega)).trans cg7
  replace cgf := fun o => (hX.frozen (p := ⟨(w.heap.size + 1), o, none⟩) (by show (w.heap.size + 1) < wq.heap.size; omega)).trans (cgf o)
  replace cr0 := (hX.cell (p := ⟨(w.heap.size + 1 + 1), 0, none⟩) (by show (w.heap.size + 1 + 1) < wq.heap.size; omega)).trans cr0
  replace cr1 := (hX.cell (p := ⟨(w.heap.size + 1 + 1), 1, none⟩) (by show (w.heap.size + 1 + 1) < wq.heap.size; omega)).trans cr1
  replace cr2 := (hX.cell (p := ⟨(w.heap.size + 1 + 1), 2, none⟩) (by show (w.heap.size + 1 + 1) < wq.heap.size; omega)).trans cr2
  replace cr3 := (hX.cell (p := ⟨(w.heap.size + 1 + 1), 3, none⟩) (by show (w.heap.size + 1 + 1) < wq.heap.size; omega)).trans cr3
  replace cr4 := (hX.cell (p := ⟨(w.heap.size + 1 + 1), 4, none⟩) (by show (w.heap.size + 1 + 1) < wq.heap.size; omega)).trans cr4
  replace cr5 := (hX.cell (p := ⟨(w.heap.size + 1 + 1), 5, none⟩) (by show (w.heap.size + 1 + 1) < wq.heap.size; omega)).trans cr5
  replace crf := fun o => (hX.frozen (p := ⟨(w.heap.size + 1 + 1), o, none⟩) (by show (w.heap.size + 1 + 1) < wq.heap.size; omega)).trans (crf o)
  replace hE := hE.below hgq hX
  have cv0 : (wq.alloc (.cells #[.int .i64 0, .int .i64 0, .int .i64 0] 26)).cell? ⟨wq.heap.size, 0, none⟩ = some (.int .i64 0) := by go_simp
  have cv1 : (wq.alloc (.cells #[.int .i64 0, .int .i64 0, .int .i64 0] 26)).cell? ⟨wq.heap.size, 1, none⟩ = some (.int .i64 0) := by go_simp
  have cv2 : (wq.alloc (.cells #[.int .i64 0, .int .i64 0, .int .i64 0] 26)).cell? ⟨wq.heap.size, 2, none⟩ = some (.int .i64 0) := by go_simp
  have cvf : ∀ o, (wq.alloc (.cells #[.int .i64 0, .int .i64 0, .int .i64 0] 26)).frozen? ⟨wq.heap.size, o, none⟩ = false := fun o => by go_simp
  have z6 : (wq.alloc (.cells #[.int .i64 0, .int .i64 0, .int .i64 0] 26)).heap.size = wq.heap.size + 1 := by simp
  clear hX HQ
  generalize (wq.alloc (.cells #[.int .i64 0, .int .i64 0, .int .i64 0] 26)) = w6 at H6 hE z6 cl0 cl1 cl2 cl3 cl4 cl5 cg0 cg1 cg2 cg3 cg4 cg5 cg6 cg7 cr0 cr1 cr2 cr3 cr4 cr5 clf cgf crf cv0 cv1 cv2 cvf ⊢
  generalize wq.heap.size = LS at yq hgq z6 cv0 cv1 cv2 cvf ⊢
  have hE := hide hE
  go_upto_block 0 with fail
  go_cut [] (fun wz => wz.cell? ⟨LS, 0, none⟩ = some (.int .i64 (-4096)) ∧ wz.cell? ⟨LS, 1, none⟩ = some (.int .i64 (-4096)) ∧ wz.cell? ⟨LS, 2, none⟩ = some (.int .i64 (-4096)) ∧ (∀ o, wz.frozen? ⟨LS, o, none⟩ = false) ∧ Below LS w6 wz ∧ w6.heap.size ≤ wz.heap.size)
  case first =>
    clear cl0 cl1 cl2 cl3 cl4 cl5 cg0 cg1 cg2 cg3 cg4 cg5 cg6 cg7 cr0 cr1 cr2 cr3 cr4 cr5 clf cgf crf hE H6
    have HX : Below LS w6 w6 := Below.refl _ _
    have yv : LS < w6.heap.size := by omega
    go_wp2
    refine wp_loop_rounds 4 ?_
    rw [rounds_succ]
    go_wp2
    rw [rounds_succ]
    go_wp2
    rw [rounds_succ]
    go_wp2
    rw [rounds_succ]
    go_wp2
    go_meet
    refine ⟨by go_simp, by go_simp, by go_simp, fun o => by go_simp, by exact (by repeat (first | with_reducible exact HX | with_reducible refine Below.drew ?_ | with_reducible refine below_drewN ?_ _ | with_reducible refine Below.alloc ?_ (by first | omega | (simp <;> omega)) _ | with_reducible refine Below.setCell ?_ (by first | omega | (simp <;> omega)) _ | with_reducible exact Below.refl _ _)), by simp <;> omega⟩
  case rest =>
  clear cv0 cv1 cv2 cvf
  obtain ⟨cv0, cv1, cv2, cvf, hX, zX⟩ := hcut
  rename World => w8
  have hE := hE.out.below hgq hX
  replace cl0 := (hX.cell (p := ⟨w.heap.size, 0, none⟩) (by show w.heap.size < LS; omega)).trans cl0
  replace cl1 := (hX.cell (p := ⟨w.heap.size, 1, none⟩) (by show w.heap.size < LS; omega)).trans cl1
  replace cl2 := (hX.cell (p := ⟨w.heap.size, 2, none⟩) (by show w.heap.size < LS; omega)).trans cl2
  replace cl3 := (hX.cell (p := ⟨w.heap.size, 3, none⟩) (by show w.heap.size < LS; omega)).trans cl3
  replace cl4 := (hX.cell (p := ⟨w.heap.size, 4, none⟩) (by show w.heap.size < LS; omega)).trans cl4
  replace cl5 := (hX.cell (p := ⟨w.heap.size, 5, none⟩) (by show w.heap.size < LS; omega)).trans cl5
  replace clf := fun o => (hX.frozen (p := ⟨w.heap.size, o, none⟩) (by show w.heap.size < LS; omega)).trans (clf o)
  replace cg0 := (hX.cell (p := ⟨(w.heap.size + 1), 0, none⟩) (by show (w.heap.size + 1) < LS; omega)).trans cg0
  replace cg1 := (hX.cell (p := ⟨(w.heap.size + 1), 1, none⟩) (by show (w.heap.size + 1) < LS; omega)).trans cg1
  replace cg2 := (hX.cell (p := ⟨(w.heap.size + 1), 2, none⟩) (by show (w.heap.size + 1) < LS; omega)).trans cg2
  replace cg3 := (hX.cell (p := ⟨(w.heap.size + 1), 3, none⟩) (by show (w.heap.size + 1) < LS; omega)).trans cg3
  replace cg4 := (hX.cell (p := ⟨(w.heap.size + 1), 4, none⟩) (by show (w.heap.size + 1) < LS; omega)).trans cg4
  replace cg5 := (hX.cell (p := ⟨(w.heap.size + 1), 5, none⟩) (by show (w.heap.size + 1) < LS; omega)).trans cg5
  replace cg6 := (hX.cell (p := ⟨(w.heap.size + 1), 6, none⟩) (by show (w.heap.size + 1) < LS; omega)).trans cg6
  replace cg7 := (hX.cell (p := ⟨(w.heap.size + 1), 7, none⟩) (by show (w.heap.size + 1) < LS; omega)).trans cg7
  replace cgf := fun o => (hX.frozen (p := ⟨(w.heap.size + 1), o, none⟩) (by show (w.heap.size + 1) < LS; omega)).trans (cgf o)
  replace cr0 := (hX.cell (p := ⟨(w.heap.size + 1 + 1), 0, none⟩) (by show (w.heap.size + 1 + 1) < LS; omega)).trans cr0
  replace cr1 := (hX.cell (p := ⟨(w.heap.size + 1 + 1), 1, none⟩) (by show (w.heap.size + 1 + 1) < LS; omega)).trans cr1
  replace cr2 := (hX.cell (p := ⟨(w.heap.size + 1 + 1), 2, none⟩) (by show (w.heap.size + 1 + 1) < LS; omega)).trans cr2
  replace cr3 := (hX.cell (p := ⟨(w.heap.size + 1 + 1), 3, none⟩) (by show (w.heap.size + 1 + 1) < LS; omega)).trans cr3
  replace cr4 := (hX.cell (p := ⟨(w.heap.size + 1 + 1), 4, none⟩) (by show (w.heap.size + 1 + 1) < LS; omega)).trans cr4
  replace cr5 := (hX.cell (p := ⟨(w.heap.size + 1 + 1), 5, none⟩) (by show (w.heap.size + 1 + 1) < LS; omega)).trans cr5
  replace crf := fun o => (hX.frozen (p := ⟨(w.heap.size + 1 + 1), o, none⟩) (by show (w.heap.size + 1 + 1) < LS; omega)).trans (crf o)
  have H8 : Below w.heap.size w w8 := H6.trans (hX.mono (by omega))
  have y8 : LS < w8.heap.size := by omega
  clear hX H6 z6 zX
  go_upto_region 12 with fail
  have H9 : Below w.heap.size w (w8.alloc (.cells #[.bool false, .bool false, .bool false, .bool false, .bool false, .bool false] 109)) := H8.alloc (by omega) _
  have hX : Below w8.heap.size w8 (w8.alloc (.cells #[.bool false, .bool false, .bool false, .bool false, .bool false, .bool false] 109)) := (Below.refl _ _).alloc (Nat.le_refl _) _
  replace cl0 := (hX.cell (p := ⟨w.heap.size, 0, none⟩) (by show w.heap.size < w8.heap.size; omega)).trans cl0
  replace cl1 := (hX.cell (p := ⟨w.heap.size, 1, none⟩) (by show w.heap.size < w8.heap.size; omega)).trans cl1
  replace cl2 := (hX.cell (p := ⟨w.heap.size, 2, none⟩) (by show w.heap.size < w8.heap.size; omega)).trans cl2
  replace cl3 := (hX.cell (p := ⟨w.heap.size, 3, none⟩) (by show w.heap.size < w8.heap.size; omega)).trans cl3
  replace cl4 := (hX.cell (p := ⟨w.heap.size, 4, none⟩) (by show w.heap.size < w8.heap.size; omega)).trans cl4
  replace cl5 := (hX.cell (p := ⟨w.heap.size, 5, none⟩) (by show w.heap.size < w8.heap.size; omega)).trans cl5
  replace clf := fun o => (hX.frozen (p := ⟨w.heap.size, o, none⟩) (by show w.heap.size < w8.heap.size; omega)).trans (clf o)
  replace cg0 := (hX.cell (p := ⟨(w.heap.size + 1), 0, none⟩) (by show (w.heap.size + 1) < w8.heap.size; omega)).trans cg0
  replace cg1 := (hX.cell (p := ⟨(w.heap.size + 1), 1, none⟩) (by show (w.heap.size + 1) < w8.heap.size; omega)).trans cg1
  replace cg2 := (hX.cell (p := ⟨(w.heap.size + 1), 2, none⟩) (by show (w.heap.size + 1) < w8.heap.size; omega)).trans cg2
  replace cg3 := (hX.cell (p := ⟨(w.heap.size + 1), 3, none⟩) (by show (w.heap.size + 1) < w8.heap.size; omega)).trans cg3
  replace cg4 := (hX.cell (p := ⟨(w.heap.size + 1), 4, none⟩) (by show (w.heap.size + 1) < w8.heap.size; omega)).trans cg4
  replace cg5 := (hX.cell (p := ⟨(w.heap.size + 1), 5, none⟩) (by show (w.heap.size + 1) < w8.heap.size; omega)).trans cg5
  replace cg6 := (hX.cell (p := ⟨(w.heap.size + 1), 6, none⟩) (by show (w.heap.size + 1) < w8.heap.size; omega)).trans cg6
  replace cg7 := (hX.cell (p := ⟨(w.heap.size + 1), 7, none⟩) (by show (w.heap.size + 1) < w8.heap.size; omega)).trans cg7
  replace cgf := fun o => (hX.frozen (p := ⟨(w.heap.size + 1), o, none⟩) (by show (w.heap.size + 1) < w8.heap.size; omega)).trans (cgf o)
  replace cr0 := (hX.cell (p := ⟨(w.heap.size + 1 + 1), 0, none⟩) (by show (w.heap.size + 1 + 1) < w8.heap.size; omega)).trans cr0
  replace cr1 := (hX.cell (p := ⟨(w.heap.size + 1 + 1), 1, none⟩) (by show (w.heap.size + 1 + 1) < w8.heap.size; omega)).trans cr1
  replace cr2 := (hX.cell (p := ⟨(w.heap.size + 1 + 1), 2, none⟩) (by show (w.heap.size + 1 + 1) < w8.heap.size; omega)).trans cr2
  replace cr3 := (hX.cell (p := ⟨(w.heap.size + 1 + 1), 3, none⟩) (by show (w.heap.size + 1 + 1) < w8.heap.size; omega)).trans cr3
  replace cr4 := (hX.cell (p := ⟨(w.heap.size + 1 + 1), 4, none⟩) (by show (w.heap.size + 1 + 1) < w8.heap.size; omega)).trans cr4
  replace cr5 := (hX.cell (p := ⟨(w.heap.size + 1 + 1), 5, none⟩) (by show (w.heap.size + 1 + 1) < w8.heap.size; omega)).trans cr5
  replace crf := fun o => (hX.frozen (p := ⟨(w.heap.size + 1 + 1), o, none⟩) (by show (w.heap.size + 1 + 1) < w8.heap.size; omega)).trans (crf o)
  replace cv0 := (hX.cell (p := ⟨LS, 0, none⟩) y8).trans cv0
  replace cv1 := (hX.cell (p := ⟨LS, 1, none⟩) y8).trans cv1
  replace cv2 := (hX.cell (p := ⟨LS, 2, none⟩) y8).trans cv2
  replace cvf := fun o => (hX.frozen (p := ⟨LS, o, none⟩) y8).trans (cvf o)
  have hE := hE.below (by omega) hX
  have ci0 : (w8.alloc (.cells #[.bool false, .bool false, .bool false, .bool false, .bool false, .bool false] 109)).cell? ⟨w8.heap.size, 0, none⟩ = some (.bool false) := by go_simp
  have ci1 : (w8.alloc (.cells #[.bool false, .bool false, .bool false, .bool false, .bool false, .bool false] 109)).cell? ⟨w8.heap.size, 1, none⟩ = some (.bool false) := by go_simp
  have ci2 : (w8.alloc (.cells #[.bool false, .bool false, .bool false, .bool false, .bool false, .bool false] 109)).cell? ⟨w8.heap.size, 2, none⟩ = some (.bool false) := by go_simp
  have ci3 : (w8.alloc (.cells #[.bool false, .bool false, .bool false, .bool false, .bool false, .bool false] 109)).cell? ⟨w8.heap.size, 3, none⟩ = some (.bool false) := by go_simp
  have ci4 : (w8.alloc (.cells #[.bool false, .bool false, .bool false, .bool false, .bool false, .bool false] 109)).cell? ⟨w8.heap.size, 4, none⟩ = some (.bool false) := by go_simp
  have ci5 : (w8.alloc (.cells #[.bool false, .bool false, .bool false, .bool false, .bool false, .bool false] 109)).cell? ⟨w8.heap.size, 5, none⟩ = some (.bool false) := by go_simp
  have cif : ∀ o, (w8.alloc (.cells #[.bool false, .bool false, .bool false, .bool false, .bool false, .bool false] 109)).frozen? ⟨w8.heap.size, o, none⟩ = false := fun o => by go_simp
  have z9 : (w8.alloc (.cells #[.bool false, .bool false, .bool false, .bool false, .bool false, .bool false] 109)).heap.size = w8.heap.size + 1 := by simp
  clear hX H8
  generalize (w8.alloc (.cells #[.bool false, .bool false, .bool false, .bool false, .bool false, .bool false] 109)) = w9 at H9 hE z9 cl0 cl1 cl2 cl3 cl4 cl5 cg0 cg1 cg2 cg3 cg4 cg5 cg6 cg7 cr0 cr1 cr2 cr3 cr4 cr5 clf cgf crf cv0 cv1 cv2 cvf ci0 ci1 ci2 ci3 ci4 ci5 cif ⊢
  generalize w8.heap.size = IS at y8 z9 ci0 ci1 ci2 ci3 ci4 ci5 cif ⊢
  have R0 : SafeRel w9.heap.size LS IS w w9 w9 0 := SafeRel.mk6 ci0 ci1 ci2 ci3 ci4 ci5 cv0 cv1 cv2 (Keeps.refl _ _ _) H9
  have hE := hide hE
  have hF := hide (And.intro cvf cif)
  have HL := hide (And.intro cl0 (And.intro cl1 (And.intro cl2 (And.intro cl3 (And.intro cl4 (And.intro cl5 clf))))))
  have HR := hide (And.intro cr0 (And.intro cr1 (And.intro cr2 (And.intro cr3 (And.intro cr4 (And.intro cr5 crf))))))
  have HG := hide cg0
  go_upto_block 2 with fail
  clear cl0 cl1 cl2 cl3 cl4 cl5 cg0 cg1 cg2 cg3 cg4 cg5 cg6 cg7 cr0 cr1 cr2 cr3 cr4 cr5 clf cgf crf cv0 cv1 cv2 cvf ci0 ci1 ci2 ci3 ci4 ci5 cif H9
  go_cut [] (fun wz => SafeRel w9.heap.size LS IS w w9 wz 15)
  case first =>
    go_wp2
    go_loopw [56] (fun ix wz => ∃ k : Nat, k ≤ 15 ∧ ix = .int .i64 (k : Int) ∧ SafeRel w9.heap.size LS IS w w9 wz k) (fun ix _ => 15 - (intOf ix).toNat)
    case atStart =>
      exact ⟨0, by omega, rfl, R0⟩
    case round =>
      clear R0 HL HR HG
      obtain ⟨k, hk, rfl, hR⟩ := hrel
      rename World => wz
      by_cases hlt : k < 15
      · have hEz : Edges wz gb 15 EA ES EB := hE.out.keeps (by omega) hR.2.2.1 (fun _ => by unfold Dls; omega)
        obtain ⟨hI, hV, KZ, BZ⟩ := hR
        have fV := fun o => (KZ.frozen (q := LS) (by omega) o).trans (hF.out.1 o)
        have fI := fun o => (KZ.frozen (q := IS) (by omega) o).trans (hF.out.2 o)
        have yV : LS < wz.heap.size := by have := KZ.1; omega
        have yI : IS < wz.heap.size := by have := KZ.1; omega
        have yg : gb < wz.heap.size := by omega
        have yW : w.heap.size ≤ wz.heap.size := by omega
        have yB : w9.heap.size ≤ wz.heap.size := KZ.1
        have nVI : ¬ LS = IS := by omega
        have nIV : ¬ IS = LS := by omega
        replace KZ := hide KZ
        replace BZ := hide BZ
        clear hE hF hk z9
        obtain rfl | rfl | rfl | rfl | rfl | rfl | rfl | rfl | rfl | rfl | rfl | rfl | rfl | rfl | rfl : k = 0 ∨ k = 1 ∨ k = 2 ∨ k = 3 ∨ k = 4 ∨ k = 5 ∨ k = 6 ∨ k = 7 ∨ k = 8 ∨ k = 9 ∨ k = 10 ∨ k = 11 ∨ k = 12 ∨ k = 13 ∨ k = 14 := by omega
        · have e0 : wz.cell? ⟨gb, 0, none⟩ = some (.int .i64 0) := (hEz 0 (by decide)).1
          have e1 : wz.cell? ⟨gb, 1, none⟩ = some (.int .i64 1) := (hEz 0 (by decide)).2.1
          have e2 : wz.cell? ⟨gb, 2, none⟩ = some (.bool true) := (hEz 0 (by decide)).2.2
          have i0 : wz.cell? ⟨IS, 0, none⟩ = some (.bool false) := hI 0 (by decide)
          have i1 : wz.cell? ⟨IS, 1, none⟩ = some (.bool false) := hI 1 (by decide)
          have i2 : wz.cell? ⟨IS, 2, none⟩ = some (.bool false) := hI 2 (by decide)
          have i3 : wz.cell? ⟨IS, 3, none⟩ = some (.bool false) := hI 3 (by decide)
          have i4 : wz.cell? ⟨IS, 4, none⟩ = some (.bool false) := hI 4 (by decide)
          have i5 : wz.cell? ⟨IS, 5, none⟩ = some (.bool false) := hI 5 (by decide)
          have v0 : wz.cell? ⟨LS, 0, none⟩ = some (.int .i64 (-4096)) := hV 0 (by decide)
          have v1 : wz.cell? ⟨LS, 1, none⟩ = some (.int .i64 (-4096)) := hV 1 (by decide)
          have v2 : wz.cell? ⟨LS, 2, none⟩ = some (.int .i64 (-4096)) := hV 2 (by decide)
          clear hEz hI hV hlt
          go_upto_region 16 with fail
          go_quiet (fail)
          go_upto_region 18 with fail
          go_quiet (fail)
          go_wp2
          go_roundw
          case rel => exact ⟨1, by omega, by go_num, SafeRel.mk6 (by go_simp; try rfl) (by go_simp; try rfl) (by go_simp; try rfl) (by go_simp; try rfl) (by go_simp; try rfl) (by go_simp; try rfl) (by go_simp; try rfl) (by go_simp; try rfl) (by go_simp; try rfl) (by exact (by repeat (first | with_reducible exact KZ.out | with_reducible refine Keeps.drew ?_ | with_reducible refine Keeps.drewN ?_ _ | with_reducible refine Keeps.alloc ?_ (by first | omega | (simp <;> omega)) _ | with_reducible refine Keeps.setCell ?_ (by unfold Dls; simp) _))) (by exact (by repeat (first | with_reducible exact BZ.out | with_reducible refine Below.drew ?_ | with_reducible refine below_drewN ?_ _ | with_reducible refine Below.alloc ?_ (by first | omega | (simp <;> omega)) _ | with_reducible refine Below.setCell ?_ (by first | omega | (simp <;> omega)) _)))⟩
          case measure => simp [intOf]
        · have e0 : wz.cell? ⟨gb, 3, none⟩ = some (.int .i64 0) := (hEz 1 (by decide)).1
          have e1 : wz.cell? ⟨gb, 4, none⟩ = some (.int .i64 3) := (hEz 1 (by decide)).2.1
          have e2 : wz.cell? ⟨gb, 5, none⟩ = some (.bool true) := (hEz 1 (by decide)).2.2
          have i0 : wz.cell? ⟨IS, 0, none⟩ = some (.bool false) := hI 0 (by decide)
          have i1 : wz.cell? ⟨IS, 1, none⟩ = some (.bool true) := hI 1 (by decide)
          have i2 : wz.cell? ⟨IS, 2, none⟩ = some (.bool false) := hI 2 (by decide)
          have i3 : wz.cell? ⟨IS, 3, none⟩ = some (.bool false) := hI 3 (by decide)
          have i4 : wz.cell? ⟨IS, 4, none⟩ = some (.bool false) := hI 4 (by decide)
          have i5 : wz.cell? ⟨IS, 5, none⟩ = some (.bool false) := hI 5 (by decide)
          have v0 : wz.cell? ⟨LS, 0, none⟩ = some (.int .i64 (-4096)) := hV 0 (by decide)
          have v1 : wz.cell? ⟨LS, 1, none⟩ = some (.int .i64 (-4096)) := hV 1 (by decide)
          have v2 : wz.cell? ⟨LS, 2, none⟩ = some (.int .i64 (-4096)) := hV 2 (by decide)
          clear hEz hI hV hlt
          go_upto_region 16 with fail
          go_quiet (fail)
          go_upto_region 18 with fail
          go_quiet (fail)
          go_wp2
          go_roundw
          case rel => exact ⟨2, by omega, by go_num, SafeRel.mk6 (by go_simp; try rfl) (by go_simp; try rfl) (by go_simp; try rfl) (by go_simp; try rfl) (by go_simp; try rfl) (by go_simp; try rfl) (by go_simp; try rfl) (by go_simp; try rfl) (by go_simp; try rfl) (by exact (by repeat (first | with_reducible exact KZ.out | with_reducible refine Keeps.drew ?_ | with_reducible refine Keeps.drewN ?_ _ | with_reducible refine Keeps.alloc ?_ (by first | omega | (simp <;> omega)) _ | with_reducible refine Keeps.setCell ?_ (by unfold Dls; simp) _))) (by exact (by repeat (first | with_reducible exact BZ.out | with_reducible refine Below.drew ?_ | with_reducible refine below_drewN ?_ _ | with_reducible refine Below.alloc ?_ (by first | omega | (simp <;> omega)) _ | with_reducible refine Below.setCell ?_ (by first | omega | (simp <;> omega)) _)))⟩
          case measure => simp [intOf]
        · have e0 : wz.cell? ⟨gb, 6, none⟩ = some (.int .i64 0) := (hEz 2 (by decide)).1
          have e1 : wz.cell? ⟨gb, 7, none⟩ = some (.int .i64 5) := (hEz 2 (by decide)).2.1
          have e2 : wz.cell? ⟨gb, 8, none⟩ = some (.bool true) := (hEz 2 (by decide)).2.2
          have i0 : wz.cell? ⟨IS, 0, none⟩ = some (.bool false) := hI 0 (by decide)
          have i1 : wz.cell? ⟨IS, 1, none⟩ = some (.bool true) := hI 1 (by decide)
          have i2 : wz.cell? ⟨IS, 2, none⟩ = some (.bool false) := hI 2 (by decide)
          have i3 : wz.cell? ⟨IS, 3, none⟩ = some (.bool true) := hI 3 (by decide)
          have i4 : wz.cell? ⟨IS, 4, none⟩ = some (.bool false) := hI 4 (by decide)
          have i5 : wz.cell? ⟨IS, 5, none⟩ = some (.bool false) := hI 5 (by decide)
          have v0 : wz.cell? ⟨LS, 0, none⟩ = some (.int .i64 (-4096)) := hV 0 (by decide)
          have v1 : wz.cell? ⟨LS, 1, none⟩ = some (.int .i64 (-4096)) := hV 1 (by decide)
          have v2 : wz.cell? ⟨LS, 2, none⟩ = some (.int .i64 (-4096)) := hV 2 (by decide)
          clear hEz hI hV hlt
          go_upto_region 16 with fail
          go_quiet (fail)
          go_upto_region 18 with fail
          go_quiet (fail)
          go_wp2
          go_roundw
          case rel => exact ⟨3, by omega, by go_num, SafeRel.mk6 (by go_simp; try rfl) (by go_simp; try rfl) (by go_simp; try rfl) (by go_simp; try rfl) (by go_simp; try rfl) (by go_simp; try rfl) (by go_simp; try rfl) (by go_simp; try rfl) (by go_simp; try rfl) (by exact (by repeat (first | with_reducible exact KZ.out | with_reducible refine Keeps.drew ?_ | with_reducible refine Keeps.drewN ?_ _ | with_reducible refine Keeps.alloc ?_ (by first | omega | (simp <;> omega)) _ | with_reducible refine Keeps.setCell ?_ (by unfold Dls; simp) _))) (by exact (by repeat (first | with_reducible exact BZ.out | with_reducible refine Below.drew ?_ | with_reducible refine below_drewN ?_ _ | with_reducible refine Below.alloc ?_ (by first | omega | (simp <;> omega)) _ | with_reducible refine Below.setCell ?_ (by first | omega | (simp <;> omega)) _)))⟩
          case measure => simp [intOf]
        · have e0 : wz.cell? ⟨gb, 9, none⟩ = some (.int .i64 25) := (hEz 3 (by decide)).1
          have e1 : wz.cell? ⟨gb, 10, none⟩ = some (.int .i64 1) := (hEz 3 (by decide)).2.1
          have e2 : wz.cell? ⟨gb, 11, none⟩ = some (.bool false) := (hEz 3 (by decide)).2.2
          have i0 : wz.cell? ⟨IS, 0, none⟩ = some (.bool false) := hI 0 (by decide)
          have i1 : wz.cell? ⟨IS, 1, none⟩ = some (.bool true) := hI 1 (by decide)
          have i2 : wz.cell? ⟨IS, 2, none⟩ = some (.bool false) := hI 2 (by decide)
          have i3 : wz.cell? ⟨IS, 3, none⟩ = some (.bool true) := hI 3 (by decide)
          have i4 : wz.cell? ⟨IS, 4, none⟩ = some (.bool false) := hI 4 (by decide)
          have i5 : wz.cell? ⟨IS, 5, none⟩ = some (.bool true) := hI 5 (by decide)
          have v0 : wz.cell? ⟨LS, 0, none⟩ = some (.int .i64 (-4096)) := hV 0 (by decide)
          have v1 : wz.cell? ⟨LS, 1, none⟩ = some (.int .i64 (-4096)) := hV 1 (by decide)
          have v2 : wz.cell? ⟨LS, 2, none⟩ = some (.int .i64 (-4096)) := hV 2 (by decide)
          clear hEz hI hV hlt
          go_upto_region 16 with fail
          go_quiet (fail)
          go_upto_region 18 with fail
          go_quiet (fail)
          go_wp2
          go_roundw
          case rel => exact ⟨4, by omega, by go_num, SafeRel.mk6 (by go_simp; try rfl) (by go_simp; try rfl) (by go_simp; try rfl) (by go_simp; try rfl) (by go_simp; try rfl) (by go_simp; try rfl) (by go_simp; try rfl) (by go_simp; try rfl) (by go_simp; try rfl) (by exact (by repeat (first | with_reducible exact KZ.out | with_reducible refine Keeps.drew ?_ | with_reducible refine Keeps.drewN ?_ _ | with_reducible refine Keeps.alloc ?_ (by first | omega | (simp <;> omega)) _ | with_reducible refine Keeps.setCell ?_ (by unfold Dls; simp) _))) (by exact (by repeat (first | with_reducible exact BZ.out | with_reducible refine Below.drew ?_ | with_reducible refine below_drewN ?_ _ | with_reducible refine Below.alloc ?_ (by first | omega | (simp <;> omega)) _ | with_reducible refine Below.setCell ?_ (by first | omega | (simp <;> omega)) _)))⟩
          case measure => simp [intOf]
        · have e0 : wz.cell? ⟨gb, 12, none⟩ = some (.int .i64 25) := (hEz 4 (by decide)).1
          have e1 : wz.cell? ⟨gb, 13, none⟩ = some (.int .i64 3) := (hEz 4 (by decide)).2.1
          have e2 : wz.cell? ⟨gb, 14, none⟩ = some (.bool false) := (hEz 4 (by decide)).2.2
          have i0 : wz.cell? ⟨IS, 0, none⟩ = some (.bool false) := hI 0 (by decide)
          have i1 : wz.cell? ⟨IS, 1, none⟩ = some (.bool false) := hI 1 (by decide)
          have i2 : wz.cell? ⟨IS, 2, none⟩ = some (.bool false) := hI 2 (by decide)
          have i3 : wz.cell? ⟨IS, 3, none⟩ = some (.bool true) := hI 3 (by decide)
          have i4 : wz.cell? ⟨IS, 4, none⟩ = some (.bool false) := hI 4 (by decide)
          have i5 : wz.cell? ⟨IS, 5, none⟩ = some (.bool true) := hI 5 (by decide)
          have v0 : wz.cell? ⟨LS, 0, none⟩ = some (.int .i64 25) := hV 0 (by decide)
          have v1 : wz.cell? ⟨LS, 1, none⟩ = some (.int .i64 (-4096)) := hV 1 (by decide)
          have v2 : wz.cell? ⟨LS, 2, none⟩ = some (.int .i64 (-4096)) := hV 2 (by decide)
          clear hEz hI hV hlt
          go_upto_region 16 with fail
          go_quiet (fail)
          go_upto_region 18 with fail
          go_quiet (fail)
          go_wp2
          go_roundw
          case rel => exact ⟨5, by omega, by go_num, SafeRel.mk6 (by go_simp; try rfl) (by go_simp; try rfl) (by go_simp; try rfl) (by go_simp; try rfl) (by go_simp; try rfl) (by go_simp; try rfl) (by go_simp; try rfl) (by go_simp; try rfl) (by go_simp; try rfl) (by exact (by repeat (first | with_reducible exact KZ.out | with_reducible refine Keeps.drew ?_ | with_reducible refine Keeps.drewN ?_ _ | with_reducible refine Keeps.alloc ?_ (by first | omega | (simp <;> omega)) _ | with_reducible refine Keeps.setCell ?_ (by unfold Dls; simp) _))) (by exact (by repeat (first | with_reducible exact BZ.out | with_reducible refine Below.drew ?_ | with_reducible refine below_drewN ?_ _ | with_reducible refine Below.alloc ?_ (by first | omega | (simp <;> omega)) _ | with_reducible refine Below.setCell ?_ (by first | omega | (simp <;> omega)) _)))⟩
          case measure => simp [intOf]
        · have e0 : wz.cell? ⟨gb, 15, none⟩ = some (.int .i64 25) := (hEz 5 (by decide)).1
          have e1 : wz.cell? ⟨gb, 16, none⟩ = some (.int .i64 5) := (hEz 5 (by decide)).2.1
          have e2 : wz.cell? ⟨gb, 17, none⟩ = some (.bool false) := (hEz 5 (by decide)).2.2
          have i0 : wz.cell? ⟨IS, 0, none⟩ = some (.bool false) := hI 0 (by decide)
          have i1 : wz.cell? ⟨IS, 1, none⟩ = some (.bool false) := hI 1 (by decide)
          have i2 : wz.cell? ⟨IS, 2, none⟩ = some (.bool false) := hI 2 (by decide)
          have i3 : wz.cell? ⟨IS, 3, none⟩ = some (.bool false) := hI 3 (by decide)
          have i4 : wz.cell? ⟨IS, 4, none⟩ = some (.bool false) := hI 4 (by decide)
          have i5 : wz.cell? ⟨IS, 5, none⟩ = some (.bool true) := hI 5 (by decide)
          have v0 : wz.cell? ⟨LS, 0, none⟩ = some (.int .i64 25) := hV 0 (by decide)
          have v1 : wz.cell? ⟨LS, 1, none⟩ = some (.int .i64 25) := hV 1 (by decide)
          have v2 : wz.cell? ⟨LS, 2, none⟩ = some (.int .i64 (-4096)) := hV 2 (by decide)
          clear hEz hI hV hlt
          go_upto_region 16 with fail
          go_quiet (fail)
          go_upto_region 18 with fail
          go_quiet (fail)
          go_wp2
          go_roundw
          case rel => exact ⟨6, by omega, by go_num, SafeRel.mk6 (by go_simp; try rfl) (by go_simp; try rfl) (by go_simp; try rfl) (by go_simp; try rfl) (by go_simp; try rfl) (by go_simp; try rfl) (by go_simp; try rfl) (by go_simp; try rfl) (by go_simp; try rfl) (by exact (by repeat (first | with_reducible exact KZ.out | with_reducible refine Keeps.drew ?_ | with_reducible refine Keeps.drewN ?_ _ | with_reducible refine Keeps.alloc ?_ (by first | omega | (simp <;> omega)) _ | with_reducible refine Keeps.setCell ?_ (by unfold Dls; simp) _))) (by exact (by repeat (first | with_reducible exact BZ.out | with_reducible refine Below.drew ?_ | with_reducible refine below_drewN ?_ _ | with_reducible refine Below.alloc ?_ (by first | omega | (simp <;> omega)) _ | with_reducible refine Below.setCell ?_ (by first | omega | (simp <;> omega)) _)))⟩
          case measure => simp [intOf]
        · have e0 : wz.cell? ⟨gb, 18, none⟩ = some (.int .i64 29) := (hEz 6 (by decide)).1
          have e1 : wz.cell? ⟨gb, 19, none⟩ = some (.int .i64 0) := (hEz 6 (by decide)).2.1
          have e2 : wz.cell? ⟨gb, 20, none⟩ = some (.bool true) := (hEz 6 (by decide)).2.2
          have i0 : wz.cell? ⟨IS, 0, none⟩ = some (.bool false) := hI 0 (by decide)
          have i1 : wz.cell? ⟨IS, 1, none⟩ = some (.bool false) := hI 1 (by decide)
          have i2 : wz.cell? ⟨IS, 2, none⟩ = some (.bool false) := hI 2 (by decide)
          have i3 : wz.cell? ⟨IS, 3, none⟩ = some (.bool false) := hI 3 (by decide)
          have i4 : wz.cell? ⟨IS, 4, none⟩ = some (.bool false) := hI 4 (by decide)
          have i5 : wz.cell? ⟨IS, 5, none⟩ = some (.bool false) := hI 5 (by decide)
          have v0 : wz.cell? ⟨LS, 0, none⟩ = some (.int .i64 25) := hV 0 (by decide)
          have v1 : wz.cell? ⟨LS, 1, none⟩ = some (.int .i64 25) := hV 1 (by decide)
          have v2 : wz.cell? ⟨LS, 2, none⟩ = some (.int .i64 25) := hV 2 (by decide)
          clear hEz hI hV hlt
          go_upto_region 16 with fail
          go_quiet (fail)
          go_upto_region 18 with fail
          go_quiet (fail)
          go_wp2
          go_roundw
          case rel => exact ⟨7, by omega, by go_num, SafeRel.mk6 (by go_simp; try rfl) (by go_simp; try rfl) (by go_simp; try rfl) (by go_simp; try rfl) (by go_simp; try rfl) (by go_simp; try rfl) (by go_simp; try rfl) (by go_simp; try rfl) (by go_simp; try rfl) (by exact (by repeat (first | with_reducible exact KZ.out | with_reducible refine Keeps.drew ?_ | with_reducible refine Keeps.drewN ?_ _ | with_reducible refine Keeps.alloc ?_ (by first | omega | (simp <;> omega)) _ | with_reducible refine Keeps.setCell ?_ (by unfold Dls; simp) _))) (by exact (by repeat (first | with_reducible exact BZ.out | with_reducible refine Below.drew ?_ | with_reducible refine below_drewN ?_ _ | with_reducible refine Below.alloc ?_ (by first | omega | (simp <;> omega)) _ | with_reducible refine Below.setCell ?_ (by first | omega | (simp <;> omega)) _)))⟩
          case measure => simp [intOf]
        · have e0 : wz.cell? ⟨gb, 21, none⟩ = some (.int .i64 29) := (hEz 7 (by decide)).1
          have e1 : wz.cell? ⟨gb, 22, none⟩ = some (.int .i64 2) := (hEz 7 (by decide)).2.1
          have e2 : wz.cell? ⟨gb, 23, none⟩ = some (.bool true) := (hEz 7 (by decide)).2.2
          have i0 : wz.cell? ⟨IS, 0, none⟩ = some (.bool true) := hI 0 (by decide)
          have i1 : wz.cell? ⟨IS, 1, none⟩ = some (.bool false) := hI 1 (by decide)
          have i2 : wz.cell? ⟨IS, 2, none⟩ = some (.bool false) := hI 2 (by decide)
          have i3 : wz.cell? ⟨IS, 3, none⟩ = some (.bool false) := hI 3 (by decide)
          have i4 : wz.cell? ⟨IS, 4, none⟩ = some (.bool false) := hI 4 (by decide)
          have i5 : wz.cell? ⟨IS, 5, none⟩ = some (.bool false) := hI 5 (by decide)
          have v0 : wz.cell? ⟨LS, 0, none⟩ = some (.int .i64 25) := hV 0 (by decide)
          have v1 : wz.cell? ⟨LS, 1, none⟩ = some (.int .i64 25) := hV 1 (by decide)
          have v2 : wz.cell? ⟨LS, 2, none⟩ = some (.int .i64 25) := hV 2 (by decide)
          clear hEz hI hV hlt
          go_upto_region 16 with fail
          go_quiet (fail)
          go_upto_region 18 with fail
          go_quiet (fail)
          go_wp2
          go_roundw
          case rel => exact ⟨8, by omega, by go_num, SafeRel.mk6 (by go_simp; try rfl) (by go_simp; try rfl) (by go_simp; try rfl) (by go_simp; try rfl) (by go_simp; try rfl) (by go_simp; try rfl) (by go_simp; try rfl) (by go_simp; try rfl) (by go_simp; try rfl) (by exact (by repeat (first | with_reducible exact KZ.out | with_reducible refine Keeps.drew ?_ | with_reducible refine Keeps.drewN ?_ _ | with_reducible refine Keeps.alloc ?_ (by first | omega | (simp <;> omega)) _ | with_reducible refine Keeps.setCell ?_ (by unfold Dls; simp) _))) (by exact (by repeat (first | with_reducible exact BZ.out | with_reducible refine Below.drew ?_ | with_reducible refine below_drewN ?_ _ | with_reducible refine Below.alloc ?_ (by first | omega | (simp <;> omega)) _ | with_reducible refine Below.setCell ?_ (by first | omega | (simp <;> omega)) _)))⟩
          case measure => simp [intOf]
        · have e0 : wz.cell? ⟨gb, 24, none⟩ = some (.int .i64 29) := (hEz 8 (by decide)).1
          have e1 : wz.cell? ⟨gb, 25, none⟩ = some (.int .i64 4) := (hEz 8 (by decide)).2.1
          have e2 : wz.cell? ⟨gb, 26, none⟩ = some (.bool true) := (hEz 8 (by decide)).2.2
          have i0 : wz.cell? ⟨IS, 0, none⟩ = some (.bool true) := hI 0 (by decide)
          have i1 : wz.cell? ⟨IS, 1, none⟩ = some (.bool false) := hI 1 (by decide)
          have i2 : wz.cell? ⟨IS, 2, none⟩ = some (.bool true) := hI 2 (by decide)
          have i3 : wz.cell? ⟨IS, 3, none⟩ = some (.bool false) := hI 3 (by decide)
          have i4 : wz.cell? ⟨IS, 4, none⟩ = some (.bool false) := hI 4 (by decide)
          have i5 : wz.cell? ⟨IS, 5, none⟩ = some (.bool false) := hI 5 (by decide)
          have v0 : wz.cell? ⟨LS, 0, none⟩ = some (.int .i64 25) := hV 0 (by decide)
          have v1 : wz.cell? ⟨LS, 1, none⟩ = some (.int .i64 25) := hV 1 (by decide)
          have v2 : wz.cell? ⟨LS, 2, none⟩ = some (.int .i64 25) := hV 2 (by decide)
          clear hEz hI hV hlt
          go_upto_region 16 with fail
          go_quiet (fail)
          go_upto_region 18 with fail
          go_quiet (fail)
          go_wp2
          go_roundw
          case rel => exact ⟨9, by omega, by go_num, SafeRel.mk6 (by go_simp; try rfl) (by go_simp; try rfl) (by go_simp; try rfl) (by go_simp; try rfl) (by go_simp; try rfl) (by go_simp; try rfl) (by go_simp; try rfl) (by go_simp; try rfl) (by go_simp; try rfl) (by exact (by repeat (first | with_reducible exact KZ.out | with_reducible refine Keeps.drew ?_ | with_reducible refine Keeps.drewN ?_ _ | with_reducible refine Keeps.alloc ?_ (by first | omega | (simp <;> omega)) _ | with_reducible refine Keeps.setCell ?_ (by unfold Dls; simp) _))) (by exact (by repeat (first | with_reducible exact BZ.out | with_reducible refine Below.drew ?_ | with_reducible refine below_drewN ?_ _ | with_reducible refine Below.alloc ?_ (by first | omega | (simp <;> omega)) _ | with_reducible refine Below.setCell ?_ (by first | omega | (simp <;> omega)) _)))⟩
          case measure => simp [intOf]
        · have e0 : wz.cell? ⟨gb, 27, none⟩ = some (.int .i64 75) := (hEz 9 (by decide)).1
          have e1 : wz.cell? ⟨gb, 28, none⟩ = some (.int .i64 0) := (hEz 9 (by decide)).2.1
          have e2 : wz.cell? ⟨gb, 29, none⟩ = some (.bool false) := (hEz 9 (by decide)).2.2
          have i0 : wz.cell? ⟨IS, 0, none⟩ = some (.bool true) := hI 0 (by decide)
          have i1 : wz.cell? ⟨IS, 1, none⟩ = some (.bool false) := hI 1 (by decide)
          have i2 : wz.cell? ⟨IS, 2, none⟩ = some (.bool true) := hI 2 (by decide)
          have i3 : wz.cell? ⟨IS, 3, none⟩ = some (.bool false) := hI 3 (by decide)
          have i4 : wz.cell? ⟨IS, 4, none⟩ = some (.bool true) := hI 4 (by decide)
          have i5 : wz.cell? ⟨IS, 5, none⟩ = some (.bool false) := hI 5 (by decide)
          have v0 : wz.cell? ⟨LS, 0, none⟩ = some (.int .i64 25) := hV 0 (by decide)
          have v1 : wz.cell? ⟨LS, 1, none⟩ = some (.int .i64 25) := hV 1 (by decide)
          have v2 : wz.cell? ⟨LS, 2, none⟩ = some (.int .i64 25) := hV 2 (by decide)
          clear hEz hI hV hlt
          go_upto_region 16 with fail
          go_quiet (fail)
          go_upto_region 18 with fail
          go_quiet (fail)
          go_wp2
          go_roundw
          case rel => exact ⟨10, by omega, by go_num, SafeRel.mk6 (by go_simp; try rfl) (by go_simp; try rfl) (by go_simp; try rfl) (by go_simp; try rfl) (by go_simp; try rfl) (by go_simp; try rfl) (by go_simp; try rfl) (by go_simp; try rfl) (by go_simp; try rfl) (by exact (by repeat (first | with_reducible exact KZ.out | with_reducible refine Keeps.drew ?_ | with_reducible refine Keeps.drewN ?_ _ | with_reducible refine Keeps.alloc ?_ (by first | omega | (simp <;> omega)) _ | with_reducible refine Keeps.setCell ?_ (by unfold Dls; simp) _))) (by exact (by repeat (first | with_reducible exact BZ.out | with_reducible refine Below.drew ?_ | with_reducible refine below_drewN ?_ _ | with_reducible refine Below.alloc ?_ (by first | omega | (simp <;> omega)) _ | with_reducible refine Below.setCell ?_ (by first | omega | (simp <;> omega)) _)))⟩
          case measure => simp [intOf]
        · have e0 : wz.cell? ⟨gb, 30, none⟩ = some (.int .i64 75) := (hEz 10 (by decide)).1
          have e1 : wz.cell? ⟨gb, 31, none⟩ = some (.int .i64 2) := (hEz 10 (by decide)).2.1
          have e2 : wz.cell? ⟨gb, 32, none⟩ = some (.bool false) := (hEz 10 (by decide)).2.2
          have i0 : wz.cell? ⟨IS, 0, none⟩ = some (.bool false) := hI 0 (by decide)
          have i1 : wz.cell? ⟨IS, 1, none⟩ = some (.bool false) := hI 1 (by decide)
          have i2 : wz.cell? ⟨IS, 2, none⟩ = some (.bool true) := hI 2 (by decide)
          have i3 : wz.cell? ⟨IS, 3, none⟩ = some (.bool false) := hI 3 (by decide)
          have i4 : wz.cell? ⟨IS, 4, none⟩ = some (.bool true) := hI 4 (by decide)
          have i5 : wz.cell? ⟨IS, 5, none⟩ = some (.bool false) := hI 5 (by decide)
          have v0 : wz.cell? ⟨LS, 0, none⟩ = some (.int .i64 75) := hV 0 (by decide)
          have v1 : wz.cell? ⟨LS, 1, none⟩ = some (.int .i64 25) := hV 1 (by decide)
          have v2 : wz.cell? ⟨LS, 2, none⟩ = some (.int .i64 25) := hV 2 (by decide)
          clear hEz hI hV hlt
          go_upto_region 16 with fail
          go_quiet (fail)
          go_upto_region 18 with fail
          go_quiet (fail)
          go_wp2
          go_roundw
          case rel => exact ⟨11, by omega, by go_num, SafeRel.mk6 (by go_simp; try rfl) (by go_simp; try rfl) (by go_simp; try rfl) (by go_simp; try rfl) (by go_simp; try rfl) (by go_simp; try rfl) (by go_simp; try rfl) (by go_simp; try rfl) (by go_simp; try rfl) (by exact (by repeat (first | with_reducible exact KZ.out | with_reducible refine Keeps.drew ?_ | with_reducible refine Keeps.drewN ?_ _ | with_reducible refine Keeps.alloc ?_ (by first | omega | (simp <;> omega)) _ | with_reducible refine Keeps.setCell ?_ (by unfold Dls; simp) _))) (by exact (by repeat (first | with_reducible exact BZ.out | with_reducible refine Below.drew ?_ | with_reducible refine below_drewN ?_ _ | with_reducible refine Below.alloc ?_ (by first | omega | (simp <;> omega)) _ | with_reducible refine Below.setCell ?_ (by first | omega | (simp <;> omega)) _)))⟩
          case measure => simp [intOf]
        · have e0 : wz.cell? ⟨gb, 33, none⟩ = some (.int .i64 75) := (hEz 11 (by decide)).1
          have e1 : wz.cell? ⟨gb, 34, none⟩ = some (.int .i64 4) := (hEz 11 (by decide)).2.1
          have e2 : wz.cell? ⟨gb, 35, none⟩ = some (.bool false) := (hEz 11 (by decide)).2.2
          have i0 : wz.cell? ⟨IS, 0, none⟩ = some (.bool false) := hI 0 (by decide)
          have i1 : wz.cell? ⟨IS, 1, none⟩ = some (.bool false) := hI 1 (by decide)
          have i2 : wz.cell? ⟨IS, 2, none⟩ = some (.bool false) := hI 2 (by decide)
          have i3 : wz.cell? ⟨IS, 3, none⟩ = some (.bool false) := hI 3 (by decide)
          have i4 : wz.cell? ⟨IS, 4, none⟩ = some (.bool true) := hI 4 (by decide)
          have i5 : wz.cell? ⟨IS, 5, none⟩ = some (.bool false) := hI 5 (by decide)
          have v0 : wz.cell? ⟨LS, 0, none⟩ = some (.int .i64 75) := hV 0 (by decide)
          have v1 : wz.cell? ⟨LS, 1, none⟩ = some (.int .i64 75) := hV 1 (by decide)
          have v2 : wz.cell? ⟨LS, 2, none⟩ = some (.int .i64 25) := hV 2 (by decide)
          clear hEz hI hV hlt
          go_upto_region 16 with fail
          go_quiet (fail)
          go_upto_region 18 with fail
          go_quiet (fail)
          go_wp2
          go_roundw
          case rel => exact ⟨12, by omega, by go_num, SafeRel.mk6 (by go_simp; try rfl) (by go_simp; try rfl) (by go_simp; try rfl) (by go_simp; try rfl) (by go_simp; try rfl) (by go_simp; try rfl) (by go_simp; try rfl) (by go_simp; try rfl) (by go_simp; try rfl) (by exact (by repeat (first | with_reducible exact KZ.out | with_reducible refine Keeps.drew ?_ | with_reducible refine Keeps.drewN ?_ _ | with_reducible refine Keeps.alloc ?_ (by first | omega | (simp <;> omega)) _ | with_reducible refine Keeps.setCell ?_ (by unfold Dls; simp) _))) (by exact (by repeat (first | with_reducible exact BZ.out | with_reducible refine Below.drew ?_ | with_reducible refine below_drewN ?_ _ | with_reducible refine Below.alloc ?_ (by first | omega | (simp <;> omega)) _ | with_reducible refine Below.setCell ?_ (by first | omega | (simp <;> omega)) _)))⟩
          case measure => simp [intOf]
        · have e0 : wz.cell? ⟨gb, 36, none⟩ = some (.int .i64 79) := (hEz 12 (by decide)).1
          have e1 : wz.cell? ⟨gb, 37, none⟩ = some (.int .i64 1) := (hEz 12 (by decide)).2.1
          have e2 : wz.cell? ⟨gb, 38, none⟩ = some (.bool true) := (hEz 12 (by decide)).2.2
          have i0 : wz.cell? ⟨IS, 0, none⟩ = some (.bool false) := hI 0 (by decide)
          have i1 : wz.cell? ⟨IS, 1, none⟩ = some (.bool false) := hI 1 (by decide)
          have i2 : wz.cell? ⟨IS, 2, none⟩ = some (.bool false) := hI 2 (by decide)
          have i3 : wz.cell? ⟨IS, 3, none⟩ = some (.bool false) := hI 3 (by decide)
          have i4 : wz.cell? ⟨IS, 4, none⟩ = some (.bool false) := hI 4 (by decide)
          have i5 : wz.cell? ⟨IS, 5, none⟩ = some (.bool false) := hI 5 (by decide)
          have v0 : wz.cell? ⟨LS, 0, none⟩ = some (.int .i64 75) := hV 0 (by decide)
          have v1 : wz.cell? ⟨LS, 1, none⟩ = some (.int .i64 75) := hV 1 (by decide)
          have v2 : wz.cell? ⟨LS, 2, none⟩ = some (.int .i64 75) := hV 2 (by decide)
          clear hEz hI hV hlt
          go_upto_region 16 with fail
          go_quiet (fail)
          go_upto_region 18 with fail
          go_quiet (fail)
          go_wp2
          go_roundw
          case rel => exact ⟨13, by omega, by go_num, SafeRel.mk6 (by go_simp; try rfl) (by go_simp; try rfl) (by go_simp; try rfl) (by go_simp; try rfl) (by go_simp; try rfl) (by go_simp; try rfl) (by go_simp; try rfl) (by go_simp; try rfl) (by go_simp; try rfl) (by exact (by repeat (first | with_reducible exact KZ.out | with_reducible refine Keeps.drew ?_ | with_reducible refine Keeps.drewN ?_ _ | with_reducible refine Keeps.alloc ?_ (by first | omega | (simp <;> omega)) _ | with_reducible refine Keeps.setCell ?_ (by unfold Dls; simp) _))) (by exact (by repeat (first | with_reducible exact BZ.out | with_reducible refine Below.drew ?_ | with_reducible refine below_drewN ?_ _ | with_reducible refine Below.alloc ?_ (by first | omega | (simp <;> omega)) _ | with_reducible refine Below.setCell ?_ (by first | omega | (simp <;> omega)) _)))⟩
          case measure => simp [intOf]
        · have e0 : wz.cell? ⟨gb, 39, none⟩ = some (.int .i64 79) := (hEz 13 (by decide)).1
          have e1 : wz.cell? ⟨gb, 40, none⟩ = some (.int .i64 3) := (hEz 13 (by decide)).2.1
          have e2 : wz.cell? ⟨gb, 41, none⟩ = some (.bool true) := (hEz 13 (by decide)).2.2
          have i0 : wz.cell? ⟨IS, 0, none⟩ = some (.bool false) := hI 0 (by decide)
          have i1 : wz.cell? ⟨IS, 1, none⟩ = some (.bool true) := hI 1 (by decide)
          have i2 : wz.cell? ⟨IS, 2, none⟩ = some (.bool false) := hI 2 (by decide)
          have i3 : wz.cell? ⟨IS, 3, none⟩ = some (.bool false) := hI 3 (by decide)
          have i4 : wz.cell? ⟨IS, 4, none⟩ = some (.bool false) := hI 4 (by decide)
          have i5 : wz.cell? ⟨IS, 5, none⟩ = some (.bool false) := hI 5 (by decide)
          have v0 : wz.cell? ⟨LS, 0, none⟩ = some (.int .i64 75) := hV 0 (by decide)
          have v1 : wz.cell? ⟨LS, 1, none⟩ = some (.int .i64 75) := hV 1 (by decide)
          have v2 : wz.cell? ⟨LS, 2, none⟩ = some (.int .i64 75) := hV 2 (by decide)
          clear hEz hI hV hlt
          go_upto_region 16 with fail
          go_quiet (fail)
          go_upto_region 18 with fail
          go_quiet (fail)
          go_wp2
          go_roundw
          case rel => exact ⟨14, by omega, by go_num, SafeRel.mk6 (by go_simp; try rfl) (by go_simp; try rfl) (by go_simp; try rfl) (by go_simp; try rfl) (by go_simp; try rfl) (by go_simp; try rfl) (by go_simp; try rfl) (by go_simp; try rfl) (by go_simp; try rfl) (by exact (by repeat (first | with_reducible exact KZ.out | with_reducible refine Keeps.drew ?_ | with_reducible refine Keeps.drewN ?_ _ | with_reducible refine Keeps.alloc ?_ (by first | omega | (simp <;> omega)) _ | with_reducible refine Keeps.setCell ?_ (by unfold Dls; simp) _))) (by exact (by repeat (first | with_reducible exact BZ.out | with_reducible refine Below.drew ?_ | with_reducible refine below_drewN ?_ _ | with_reducible refine Below.alloc ?_ (by first | omega | (simp <;> omega)) _ | with_reducible refine Below.setCell ?_ (by first | omega | (simp <;> omega)) _)))⟩
          case measure => simp [intOf]
        · have e0 : wz.cell? ⟨gb, 42, none⟩ = some (.int .i64 79) := (hEz 14 (by decide)).1
          have e1 : wz.cell? ⟨gb, 43, none⟩ = some (.int .i64 5) := (hEz 14 (by decide)).2.1
          have e2 : wz.cell? ⟨gb, 44, none⟩ = some (.bool true) := (hEz 14 (by decide)).2.2
          have i0 : wz.cell? ⟨IS, 0, none⟩ = some (.bool false) := hI 0 (by decide)
          have i1 : wz.cell? ⟨IS, 1, none⟩ = some (.bool true) := hI 1 (by decide)
          have i2 : wz.cell? ⟨IS, 2, none⟩ = some (.bool false) := hI 2 (by decide)
          have i3 : wz.cell? ⟨IS, 3, none⟩ = some (.bool true) := hI 3 (by decide)
          have i4 : wz.cell? ⟨IS, 4, none⟩ = some (.bool false) := hI 4 (by decide)
          have i5 : wz.cell? ⟨IS, 5, none⟩ = some (.bool false) := hI 5 (by decide)
          have v0 : wz.cell? ⟨LS, 0, none⟩ = some (.int .i64 75) := hV 0 (by decide)
          have v1 : wz.cell? ⟨LS, 1, none⟩ = some (.int .i64 75) := hV 1 (by decide)
          have v2 : wz.cell? ⟨LS, 2, none⟩ = some (.int .i64 75) := hV 2 (by decide)
          clear hEz hI hV hlt
          go_upto_region 16 with fail
          go_quiet (fail)
          go_upto_region 18 with fail
          go_quiet (fail)
          go_wp2
          go_roundw
          case rel => exact ⟨15, by omega, by go_num, SafeRel.mk6 (by go_simp; try rfl) (by go_simp; try rfl) (by go_simp; try rfl) (by go_simp; try rfl) (by go_simp; try rfl) (by go_simp; try rfl) (by go_simp; try rfl) (by go_simp; try rfl) (by go_simp; try rfl) (by exact (by repeat (first | with_reducible exact KZ.out | with_reducible refine Keeps.drew ?_ | with_reducible refine Keeps.drewN ?_ _ | with_reducible refine Keeps.alloc ?_ (by first | omega | (simp <;> omega)) _ | with_reducible refine Keeps.setCell ?_ (by unfold Dls; simp) _))) (by exact (by repeat (first | with_reducible exact BZ.out | with_reducible refine Below.drew ?_ | with_reducible refine below_drewN ?_ _ | with_reducible refine Below.alloc ?_ (by first | omega | (simp <;> omega)) _ | with_reducible refine Below.setCell ?_ (by first | omega | (simp <;> omega)) _)))⟩
          case measure => simp [intOf]
      · obtain rfl : k = 15 := by omega
        go_wp2
        go_meet
        exact hR
  case rest =>
  have hX := hcut
  rename World => wf
  clear hcut R0
  obtain ⟨hI, hV, KX, BX⟩ := hX
  have i0 : wf.cell? ⟨IS, 0, none⟩ = some (.bool false) := hI 0 (by decide)
  have i1 : wf.cell? ⟨IS, 1, none⟩ = some (.bool true) := hI 1 (by decide)
  have i2 : wf.cell? ⟨IS, 2, none⟩ = some (.bool false) := hI 2 (by decide)
  have i3 : wf.cell? ⟨IS, 3, none⟩ = some (.bool true) := hI 3 (by decide)
  have i4 : wf.cell? ⟨IS, 4, none⟩ = some (.bool false) := hI 4 (by decide)
  have i5 : wf.cell? ⟨IS, 5, none⟩ = some (.bool true) := hI 5 (by decide)
  have v0 : wf.cell? ⟨LS, 0, none⟩ = some (.int .i64 75) := hV 0 (by decide)
  have v1 : wf.cell? ⟨LS, 1, none⟩ = some (.int .i64 75) := hV 1 (by decide)
  have v2 : wf.cell? ⟨LS, 2, none⟩ = some (.int .i64 75) := hV 2 (by decide)
  clear hI hV hE hF
  have dL : ∀ b, b < LS → ∀ o, ¬ Dls LS IS b o := fun b hb o => by unfold Dls; omega
  have kL : w.heap.size < w9.heap.size := by omega
  have kP : w.heap.size + 1 < w9.heap.size := by omega
  have kR : w.heap.size + 1 + 1 < w9.heap.size := by omega
  obtain ⟨cl0, cl1, cl2, cl3, cl4, cl5, clf⟩ := HL.out
  obtain ⟨cr0, cr1, cr2, cr3, cr4, cr5, crf⟩ := HR.out
  have cg0 := (KX.cell kP (dL _ (by omega) 0)).trans HG.out
  replace cl0 := (KX.cell kL (dL _ (by omega) 0)).trans cl0
  replace cl1 := (KX.cell kL (dL _ (by omega) 1)).trans cl1
  replace cl2 := (KX.cell kL (dL _ (by omega) 2)).trans cl2
  replace cl3 := (KX.cell kL (dL _ (by omega) 3)).trans cl3
  replace cl4 := (KX.cell kL (dL _ (by omega) 4)).trans cl4
  replace cl5 := (KX.cell kL (dL _ (by omega) 5)).trans cl5
  replace cr0 := (KX.cell kR (dL _ (by omega) 0)).trans cr0
  replace cr1 := (KX.cell kR (dL _ (by omega) 1)).trans cr1
  replace cr2 := (KX.cell kR (dL _ (by omega) 2)).trans cr2
  replace cr3 := (KX.cell kR (dL _ (by omega) 3)).trans cr3
  replace cr4 := (KX.cell kR (dL _ (by omega) 4)).trans cr4
  replace cr5 := (KX.cell kR (dL _ (by omega) 5)).trans cr5
  replace clf := fun o => (KX.frozen kL o).trans (clf o)
  replace crf := fun o => (KX.frozen kR o).trans (crf o)
  have zf := KX.1
  have eL : w.heap.size < wf.heap.size := by omega
  have eP : w.heap.size + 1 < wf.heap.size := by omega
  have eR : w.heap.size + 1 + 1 < wf.heap.size := by omega
  have eV : LS < wf.heap.size := by omega
  have eI : IS < wf.heap.size := by omega
  have nVI : ¬ LS = IS := by omega
  have nIV : ¬ IS = LS := by omega
  have nLV : ¬ w.heap.size = LS := by omega
  have nLI : ¬ w.heap.size = IS := by omega
  have nVL : ¬ LS = w.heap.size := by omega
  have nIL : ¬ IS = w.heap.size := by omega
  have nLP : ¬ w.heap.size = w.heap.size + 1 := by omega
  have nPL : ¬ w.heap.size + 1 = w.heap.size := by omega
  clear HL HR HG dL zf
  replace KX := hide KX
  replace BX := hide BX
  have HR := hide (And.intro cr0 (And.intro cr1 (And.intro cr2 (And.intro cr3 (And.intro cr4 (And.intro cr5 crf))))))
  clear cr0 cr1 cr2 cr3 cr4 cr5 crf
  go_upto_block 5 with fail
  go_cut [] (fun wz => wz.cell? ⟨w.heap.size, 0, none⟩ = some (.int .i64 1) ∧ wz.cell? ⟨w.heap.size, 1, none⟩ = some (.int .i64 25) ∧ wz.cell? ⟨w.heap.size, 2, none⟩ = some (.int .i64 1) ∧ wz.cell? ⟨w.heap.size, 3, none⟩ = some (.int .i64 25) ∧ wz.cell? ⟨w.heap.size, 4, none⟩ = some (.int .i64 1) ∧ wz.cell? ⟨w.heap.size, 5, none⟩ = some (.int .i64 25) ∧ Keeps wf.heap.size (fun q _ => q = w.heap.size) wf wz ∧ Below w.heap.size w wz)
  case first =>
    have KF : Keeps wf.heap.size (fun q _ => q = w.heap.size) wf wf := Keeps.refl _ _ _
    replace KF := hide KF
    go_wp2
    refine wp_loop_rounds 4 ?_
    rw [rounds_succ]
    go_upto_region 27 with fail
    go_region
    go_wp2
    rw [rounds_succ]
    go_upto_region 27 with fail
    go_region
    go_wp2
    rw [rounds_succ]
    go_upto_region 27 with fail
    go_region
    go_wp2
    rw [rounds_succ]
    go_wp2
    go_meet
    exact ⟨by go_simp, by go_simp <;> rfl, by go_simp, by go_simp <;> rfl, by go_simp, by go_simp <;> rfl, by exact (by repeat (first | with_reducible exact KF.out | with_reducible refine Keeps.drew ?_ | with_reducible refine Keeps.drewN ?_ _ | with_reducible refine Keeps.setCell ?_ (by show _ = _; rfl) _)), by exact (by repeat (first | with_reducible exact BX.out | with_reducible refine Below.drew ?_ | with_reducible refine below_drewN ?_ _ | with_reducible refine Below.setCell ?_ (by first | omega | (simp <;> omega)) _))⟩
  case rest =>
  clear cl0 cl1 cl2 cl3 cl4 cl5
  obtain ⟨cl0, cl1, cl2, cl3, cl4, cl5, KF, BF⟩ := hcut
  rename World => wh
  obtain ⟨cr0, cr1, cr2, cr3, cr4, cr5, crf⟩ := HR.out
  replace cr0 := (KF.cell eR (by show ¬ _ = _; omega)).trans cr0
  replace cr1 := (KF.cell eR (by show ¬ _ = _; omega)).trans cr1
  replace cr2 := (KF.cell eR (by show ¬ _ = _; omega)).trans cr2
  replace cr3 := (KF.cell eR (by show ¬ _ = _; omega)).trans cr3
  replace cr4 := (KF.cell eR (by show ¬ _ = _; omega)).trans cr4
  replace cr5 := (KF.cell eR (by show ¬ _ = _; omega)).trans cr5
  replace crf := fun o => (KF.frozen eR o).trans (crf o)
  have zh := KF.1
  have hL : w.heap.size < wh.heap.size := by omega
  have hR2 : w.heap.size + 1 + 1 < wh.heap.size := by omega
  clear HR zh clf cg0 i0 i1 i2 i3 i4 i5 v0 v1 v2
  replace KF := hide KF
  replace BF := hide BF
  go_upto_region 33 with fail
  go_region
  all_goals
    go_wp2
    refine bodyPost_ret (v := (.tuple #[.bool true, .agg #[.int .i64 1, .int .i64 25, .int .i64 1, .int .i64 25, .int .i64 1, .int .i64 25], .nilIface])) (by simp only [results, Try.results49]; go_simp) rfl ⟨rfl, ?_⟩
    exact (by repeat (first | with_reducible exact BF.out | with_reducible refine Below.drew ?_ | with_reducible refine below_drewN ?_ _ | with_reducible refine Below.setCell ?_ (by first | omega | (simp <;> omega)) _))
end Go.Proofs.Ytjeomdfcfbfebaa

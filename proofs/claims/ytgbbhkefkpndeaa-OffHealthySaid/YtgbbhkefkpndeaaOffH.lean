/- The plant's beginning and its tick as the laws use them. Condition: a checked configuration. -/
import Derived.Test.YtgbbhkefkpndeaaOffG
namespace Go.Proofs.Ytgbbhkefkpndeaa
open Go.RowKit OM

theorem gb_cell {w w' : World} {pb b : Nat} (h : w.grownBy w' (some pb)) (hb : b < w.heap.size) (hne : ¬ b = pb) : ∀ o, w'.cell? ⟨b, o, none⟩ = w.cell? ⟨b, o, none⟩ := fun o => World.cell?_of_block (h.block b hb (by simp; exact hne))
theorem gb_fro {w w' : World} {pb b : Nat} (h : w.grownBy w' (some pb)) (hb : b < w.heap.size) (hne : ¬ b = pb) : ∀ o, w'.frozen? ⟨b, o, none⟩ = w.frozen? ⟨b, o, none⟩ := fun o => World.frozen?_of_block (h.block b hb (by simp; exact hne))
theorem gb_below' {B : Nat} {w w' : World} {pb : Nat} (h : w.grownBy w' (some pb)) (hB : B ≤ pb) (hp : pb < w.heap.size) : Below B w w' := (gb_toBelow h hp).mono hB

theorem tick_ok (c : Cf) (h : c.Rng) (z : Int) (hz : z = -1 ∨ z = 0 ∨ z = 1) (p : Pl) (r0 r1 : Bool) (pb : Nat) (w : World) (hc : PC w pb c z p) :
    Calls Try.prog 24 #[.pointer (some ⟨pb, 0, none⟩), .agg #[.bool r0, .bool r1]] w
      fun e w' => e = .returned (.tuple #[]) ∧ w.grownBy w' (some pb) ∧ PC w' pb c z (OM.tick c z r0 r1 p) :=
  tick_core c h z hz p.s p.g p.k0 p.k1 r0 r1 pb w _ _ _ _ (hide rfl) (hide rfl) (hide rfl) (hide rfl) hc

set_option maxHeartbeats 4000000 in
theorem begin_ok (c : Cf) (h : c.Rng) (w : World) :
    Calls Try.prog 23 #[.agg #[.int .i64 c.every, .int .i64 c.length, .int .i64 c.apart], .int .i64 (-1)] w fun e w' => ∃ pb, e = .returned (.pointer (some ⟨pb, 0, none⟩)) ∧ w.heap.size ≤ pb ∧ PC w' pb c (-1) (begin0 c) ∧ Below w.heap.size w w' := by
  have HS := hide (start_ok c h)
  clear h
  go_enter Try.func23, Try.ntmps23
  go_wp2_with (go_at_call 13; refine (HS.out _).mono ?_; rintro e w1 ⟨rfl, hb1⟩; have z1 := hb1.size; (try simp at z1); have c1x0 := bstep (b := w.heap.size) hb1 (by first | omega | (simp <;> omega)); have y1x0 : w.heap.size < w1.heap.size := (by omega))
  go_region
  all_goals
    go_wp2
    go_ret
    refine ⟨_, rfl, ?_, ⟨?_, ?_, ?_⟩, ?_⟩
    · first | omega | (simp <;> omega)
    · simp only [begin0, OM.start]
      refine ⟨?_, ?_, ?_, ?_, ?_, ?_, ?_, ?_, ?_, ?_, ?_, ?_, ?_, ?_, ?_, ?_, ?_⟩
      all_goals go_simp
    · intro o
      go_simp
    · first | omega | (simp <;> omega)
    · have H1 : Below w.heap.size w w1 := ((Below.refl _ _).alloc (Nat.le_refl _) _).trans (hb1.mono (by simp <;> omega))
      exact (by repeat (first | with_reducible assumption | with_reducible refine Below.drew ?_ | with_reducible refine below_drewN ?_ _ | with_reducible refine Below.alloc ?_ (by first | omega | (simp <;> omega)) _ | with_reducible refine Below.setCell ?_ (by first | omega | (simp <;> omega)) _ | with_reducible exact Below.refl _ _))
end Go.Proofs.Ytgbbhkefkpndeaa

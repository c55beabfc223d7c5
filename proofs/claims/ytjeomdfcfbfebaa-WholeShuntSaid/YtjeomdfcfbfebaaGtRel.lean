/- What the loops of the gates' period keep. No condition beyond those that a theorem names. -/
import Derived.Test.YtjeomdfcfbfebaaGtMath
import Derived.Test.YtjeomdfcfbfebaaPatG
namespace Go.Proofs.Ytjeomdfcfbfebaa
open Go.RowKit PM
theorem Keeps.weaken {base : Nat} {D D' : Nat → Nat → Prop} {a b : World} (h : Keeps base D a b) (hd : ∀ q o, D q o → D' q o) : Keeps base D' a b :=
  ⟨h.1, fun q o hq => ⟨fun hn => (h.2 q o hq).1 (fun x => hn (hd q o x)), (h.2 q o hq).2⟩⟩
theorem Keeps.cell {base : Nat} {D : Nat → Nat → Prop} {a b : World} (h : Keeps base D a b) {q o : Nat} (hq : q < base) (hn : ¬ D q o) : b.cell? ⟨q, o, none⟩ = a.cell? ⟨q, o, none⟩ := (h.2 q o hq).1 hn
theorem Keeps.frozen {base : Nat} {D : Nat → Nat → Prop} {a b : World} (h : Keeps base D a b) {q : Nat} (hq : q < base) (o : Nat) : b.frozen? ⟨q, o, none⟩ = a.frozen? ⟨q, o, none⟩ := (h.2 q o hq).2
/-- The cells that a count writes. -/
def Dall (L G : Nat) (q o : Nat) : Prop := (q = L ∧ o < 6) ∨ (q = G ∧ o = 7)
/-- The cells that a leg at a count writes. -/
def Dleg (L G i : Nat) (q o : Nat) : Prop := (q = L ∧ (o = i * 2 ∨ o = i * 2 + 1)) ∨ (q = G ∧ o = 7)
/-- The cell that an edge writes. -/
def Dgate (G : Nat) (q o : Nat) : Prop := q = G ∧ o = 7
/-- No cell. -/
def Dnil (_ _ : Nat) : Prop := False
/-- What an edge that is appended leaves. -/
def AppRel (base G : Nat) (w wq wx : World) (n : Nat) (a s : Int) (b : Bool) : Prop :=
  ∃ g cap, wx.cell? ⟨G, 7, none⟩ = some (.slice (some ⟨g, 0, none⟩) (n + 1) cap) ∧ wx.ownsRow base 148 3 (.slice (some ⟨g, 0, none⟩) (n + 1) cap) (n + 1) (flatE n ++ [.int .i64 a, .int .i64 s, .bool b]) ∧ Keeps base (Dgate G) wq wx ∧ Below w.heap.size w wx
/-- What is kept ahead of leg i at count t. -/
def RunRel (base L G : Nat) (w w1 wz : World) (t i : Nat) : Prop :=
  (∀ j, j < 3 → wz.cell? ⟨L, j * 2, none⟩ = some (.int .i64 (if j < i then sideAt (t + 1) else sideAt t)) ∧ wz.cell? ⟨L, j * 2 + 1, none⟩ = some (.int .i64 (if j < i then idleAt (t + 1) else idleAt t))) ∧
  (∃ v, wz.cell? ⟨G, 7, none⟩ = some v ∧ wz.ownsRow base 148 3 v (cntAt t i) (flatE (cntAt t i))) ∧ Keeps base (Dall L G) w1 wz ∧ Below w.heap.size w wz
theorem RunRel.next {base L G : Nat} {w w1 wz wE : World} {t i : Nat} (h : RunRel base L G w w1 wz t i) (hL : L < base) (hi : i < 3) (hK : Keeps base (Dleg L G i) wz wE)
    (c0 : wE.cell? ⟨L, i * 2, none⟩ = some (.int .i64 (sideAt (t + 1)))) (c1 : wE.cell? ⟨L, i * 2 + 1, none⟩ = some (.int .i64 (idleAt (t + 1))))
    (hrow : ∃ v, wE.cell? ⟨G, 7, none⟩ = some v ∧ wE.ownsRow base 148 3 v (cntAt t (i + 1)) (flatE (cntAt t (i + 1)))) (hB : Below w.heap.size w wE) : RunRel base L G w w1 wE t (i + 1) := by
  refine ⟨fun j hj => ?_, hrow, h.2.2.1.trans (hK.weaken ?_), hB⟩
  · by_cases e : j = i
    · subst e
      rw [if_pos (by omega), if_pos (by omega)]
      exact ⟨c0, c1⟩
    · obtain ⟨x, y⟩ := h.1 j hj
      have n0 : ¬ Dleg L G i L (j * 2) := by unfold Dleg; omega
      have n1 : ¬ Dleg L G i L (j * 2 + 1) := by unfold Dleg; omega
      rw [hK.cell hL n0, hK.cell hL n1]
      by_cases e2 : j < i
      · rw [if_pos e2] at x
        rw [if_pos e2] at y
        rw [if_pos (by omega), if_pos (by omega)]
        exact ⟨x, y⟩
      · rw [if_neg e2] at x
        rw [if_neg e2] at y
        rw [if_neg (by omega), if_neg (by omega)]
        exact ⟨x, y⟩
  · intro q o hd
    unfold Dleg at hd
    unfold Dall
    omega
theorem RunRel.turn {base L G : Nat} {w w1 wz : World} {t : Nat} (h : RunRel base L G w w1 wz t 3) : RunRel base L G w w1 wz (t + 1) 0 := by
  refine ⟨fun j hj => ?_, ?_, h.2.2.1, h.2.2.2⟩
  · obtain ⟨x, y⟩ := h.1 j hj
    rw [if_pos hj] at x y
    rw [if_neg (by omega), if_neg (by omega)]
    exact ⟨x, y⟩
  · obtain ⟨v, a, b⟩ := h.2.1
    rw [cntAt_next] at b
    exact ⟨v, a, b⟩
theorem RunRel.row {base L G : Nat} {w w1 wz : World} {t i : Nat} (h : RunRel base L G w w1 wz t i) : ∃ v, wz.cell? ⟨G, 7, none⟩ = some v ∧ wz.ownsRow base 148 3 v (cntAt t i) (flatE (cntAt t i)) := h.2.1
theorem RunRel.leg {base L G : Nat} {w w1 wz : World} {t i : Nat} (h : RunRel base L G w w1 wz t i) (hi : i < 3) : wz.cell? ⟨L, i * 2, none⟩ = some (.int .i64 (sideAt t)) ∧ wz.cell? ⟨L, i * 2 + 1, none⟩ = some (.int .i64 (idleAt t)) := by
  obtain ⟨x, y⟩ := h.1 i hi
  rw [if_neg (Nat.lt_irrefl _)] at x y
  exact ⟨x, y⟩
theorem info_edge : (Try.prog.info? 148).map (fun i => (i.zero, i.size, i.bytes)) = some (some (.agg #[.int .i64 0, .int .i64 0, .bool false]), 3, 24) := by kernel_rfl
theorem legs25 {W : World} {b : Nat} (h0 : W.cell? ⟨b, 0, none⟩ = some (.int .i64 25)) (h1 : W.cell? ⟨b, 1, none⟩ = some (.int .i64 75)) (h2 : W.cell? ⟨b, 2, none⟩ = some (.int .i64 25)) (h3 : W.cell? ⟨b, 3, none⟩ = some (.int .i64 75)) (h4 : W.cell? ⟨b, 4, none⟩ = some (.int .i64 25)) (h5 : W.cell? ⟨b, 5, none⟩ = some (.int .i64 75)) :
    ∀ k, k < 3 → W.cell? ⟨b, k * 2, none⟩ = some (.int .i64 25) ∧ W.cell? ⟨b, k * 2 + 1, none⟩ = some (.int .i64 75) := by
  intro k hk
  obtain rfl | rfl | rfl : k = 0 ∨ k = 1 ∨ k = 2 := by omega
  · exact ⟨h0, h1⟩
  · exact ⟨h2, h3⟩
  · exact ⟨h4, h5⟩
end Go.Proofs.Ytjeomdfcfbfebaa

/- LinkSwitch holds: the resistor is on from BrakeOn upward, off below BrakeOff, and otherwise as before; a tick with more draw never ends with more voltage. No condition. -/
import Derived.Test.YtahhebeceehbeaaRows
import Derived.Test.YtahhebeceehbeaaFlat
import Derived.Test.YtahhebeceehbeaaLinkD
import Derived.Deep.RegionHeld3
namespace Go.Proofs.Ytahhebeceehbeaa
open Go.RowKit LM Flat Go.ChangeShapes

set_option maxHeartbeats 4000000 in
theorem linkSwitch_A1 (c : Cfg) (h : c.Ok) (V : Int) (b : Bool) (d0 d1 : Int) (dead0 broken0 dead1 broken1 : Bool) (q1 : c.on ≤ vclip V) (hd : d0 < d1) (w : World) :
    Calls Try.prog 5 #[.agg #[.int .i64 c.num, .int .i64 c.den, .int .i64 c.supply, .int .i64 c.feed, .int .i64 c.ohm, .int .i64 c.on, .int .i64 c.off, .int .i64 c.bohm], .agg #[.int .i64 V, .bool b], .agg #[.int .i64 d0, .bool dead0, .bool broken0, .int .i64 d1, .bool dead1, .bool broken1]] w fun e w' => e = .returned (.bool true) ∧ Below w.heap.size w w' := by
  have hv : vclip (vclip V) = vclip V := vclip_self (vclip_bd V).1 (vclip_bd V).2
  have hB : stepB c (vclip V) b = true := by simp only [stepB, hv]; simp [brakeB]; try omega
  have HK := hide (fun W => check_ok c W h)
  have HS0 := step_ok c h (vclip V) d0 b dead0 broken0
  have HS1 := step_ok c h (vclip V) d1 b dead0 broken0
  have hle := fun hh => stepV_anti h.rng (vclip V) b (d := d0) (d' := d1) hh dead0 broken0
  rw [hB] at HS0 HS1
  generalize stepV c (vclip V) b d0 dead0 broken0 = A0 at HS0 hle
  generalize stepV c (vclip V) b d1 dead0 broken0 = A1 at HS1 hle
  have HS0 := hide HS0
  have HS1 := hide HS1
  have ho1 := h.ord.1
  have ho2 := h.ord.2
  clear hB hv h
  clear hle
  go_enter Try.func5, Try.ntmps5
  go_wp2_with (first
    | (go_at_call 11; refine (awake_any _).mono ?_; rintro e w1 ⟨rfl, hb1⟩; have z1 := hb1.size; (try simp at z1); have c1x0 := bstep (b := w.heap.size) hb1 (by first | omega | (simp <;> omega)); have y1x0 : w.heap.size < w1.heap.size := (by omega); have c1x1 := bstep (b := w.heap.size + 1) hb1 (by first | omega | (simp <;> omega)); have y1x1 : w.heap.size + 1 < w1.heap.size := (by omega); have c1x2 := bstep (b := w.heap.size + 1 + 1) hb1 (by first | omega | (simp <;> omega)); have y1x2 : w.heap.size + 1 + 1 < w1.heap.size := (by omega); have f1x0 := bfro (b := w.heap.size) hb1 (by first | omega | (simp <;> omega)); have f1x1 := bfro (b := w.heap.size + 1) hb1 (by first | omega | (simp <;> omega)); have f1x2 := bfro (b := w.heap.size + 1 + 1) hb1 (by first | omega | (simp <;> omega)))
    | (go_at_call 16; refine (HK.out _).mono ?_; rintro e w2 ⟨rfl, hb2⟩; have z2 := hb2.size; (try simp at z2); have c2x0 := bstep (b := w.heap.size) hb2 (by first | omega | (simp <;> omega)); have y2x0 : w.heap.size < w2.heap.size := (by omega); have c2x1 := bstep (b := w.heap.size + 1) hb2 (by first | omega | (simp <;> omega)); have y2x1 : w.heap.size + 1 < w2.heap.size := (by omega); have c2x2 := bstep (b := w.heap.size + 1 + 1) hb2 (by first | omega | (simp <;> omega)); have y2x2 : w.heap.size + 1 + 1 < w2.heap.size := (by omega); have f2x0 := bfro (b := w.heap.size) hb2 (by first | omega | (simp <;> omega)); have f2x1 := bfro (b := w.heap.size + 1) hb2 (by first | omega | (simp <;> omega)); have f2x2 := bfro (b := w.heap.size + 1 + 1) hb2 (by first | omega | (simp <;> omega)))
    | (go_at_call 17; refine (bclip_v _ _).mono ?_; rintro e w8 ⟨rfl, rfl⟩)
    | (go_at_call 12; first | (with_reducible refine (HS0.out _).mono ?_; rintro e w3 ⟨rfl, hb3⟩; have z3 := hb3.size; (try simp at z3); have c3x0 := bstep (b := w.heap.size) hb3 (by first | omega | (simp <;> omega)); have y3x0 : w.heap.size < w3.heap.size := (by omega); have c3x1 := bstep (b := w.heap.size + 1) hb3 (by first | omega | (simp <;> omega)); have y3x1 : w.heap.size + 1 < w3.heap.size := (by omega); have c3x2 := bstep (b := w.heap.size + 1 + 1) hb3 (by first | omega | (simp <;> omega)); have y3x2 : w.heap.size + 1 + 1 < w3.heap.size := (by omega)) | (with_reducible refine (HS1.out _).mono ?_; rintro e w4 ⟨rfl, hb4⟩; have z4 := hb4.size; (try simp at z4); have c4x0 := bstep (b := w.heap.size) hb4 (by first | omega | (simp <;> omega)); have y4x0 : w.heap.size < w4.heap.size := (by omega); have c4x1 := bstep (b := w.heap.size + 1) hb4 (by first | omega | (simp <;> omega)); have y4x1 : w.heap.size + 1 < w4.heap.size := (by omega); have c4x2 := bstep (b := w.heap.size + 1 + 1) hb4 (by first | omega | (simp <;> omega)); have y4x2 : w.heap.size + 1 + 1 < w4.heap.size := (by omega); have c4x3 := bstep (b := w3.heap.size) hb4 (by first | omega | (simp <;> omega)); have y4x3 : w3.heap.size < w4.heap.size := (by omega))))
  go_ret
  have H1 : Below w.heap.size w w1 := ((((Below.refl _ _).alloc (Nat.le_refl _) _).alloc (by first | omega | (simp <;> omega)) _).alloc (by first | omega | (simp <;> omega)) _).trans (hb1.mono (by first | omega | (simp <;> omega)))
  have H2 : Below w.heap.size w w2 := H1.trans (hb2.mono (by first | omega | (simp <;> omega)))
  have S2 : Below w.heap.size w (((w2.setCell _ _).setCell _ _).setCell _ _) := ((H2.setCell (p := ⟨w.heap.size + 1, 0, none⟩) (by first | omega | (simp <;> omega)) (.int .i64 (vclip V))).setCell (p := ⟨w.heap.size + 1 + 1, 4, none⟩) (by first | omega | (simp <;> omega)) (.bool dead0)).setCell (p := ⟨w.heap.size + 1 + 1, 5, none⟩) (by first | omega | (simp <;> omega)) (.bool broken0)
  have H3 : Below w.heap.size w w3 := S2.trans (hb3.mono (by first | omega | (simp <;> omega)))
  have H4 : Below w.heap.size w w4 := (H3.alloc (by first | omega | (simp <;> omega)) _).trans (hb4.mono (by first | omega | (simp <;> omega)))
  exact ⟨rfl, H4.alloc (by first | omega | (simp <;> omega)) _⟩

set_option maxHeartbeats 4000000 in
theorem linkSwitch_A2 (c : Cfg) (h : c.Ok) (V : Int) (b : Bool) (d0 d1 : Int) (dead0 broken0 dead1 broken1 : Bool) (q1 : c.on ≤ vclip V) (hd : d1 ≤ d0) (w : World) :
    Calls Try.prog 5 #[.agg #[.int .i64 c.num, .int .i64 c.den, .int .i64 c.supply, .int .i64 c.feed, .int .i64 c.ohm, .int .i64 c.on, .int .i64 c.off, .int .i64 c.bohm], .agg #[.int .i64 V, .bool b], .agg #[.int .i64 d0, .bool dead0, .bool broken0, .int .i64 d1, .bool dead1, .bool broken1]] w fun e w' => e = .returned (.bool true) ∧ Below w.heap.size w w' := by
  have hv : vclip (vclip V) = vclip V := vclip_self (vclip_bd V).1 (vclip_bd V).2
  have hB : stepB c (vclip V) b = true := by simp only [stepB, hv]; simp [brakeB]; try omega
  have HK := hide (fun W => check_ok c W h)
  have HS0 := step_ok c h (vclip V) d0 b dead0 broken0
  have HS1 := step_ok c h (vclip V) d1 b dead0 broken0
  have hle := fun hh => stepV_anti h.rng (vclip V) b (d := d0) (d' := d1) hh dead0 broken0
  rw [hB] at HS0 HS1
  generalize stepV c (vclip V) b d0 dead0 broken0 = A0 at HS0 hle
  generalize stepV c (vclip V) b d1 dead0 broken0 = A1 at HS1 hle
  have HS0 := hide HS0
  have HS1 := hide HS1
  have ho1 := h.ord.1
  have ho2 := h.ord.2
  clear hB hv h
  have hle := hle hd
  go_enter Try.func5, Try.ntmps5
  go_wp2_with (first
    | (go_at_call 11; refine (awake_any _).mono ?_; rintro e w1 ⟨rfl, hb1⟩; have z1 := hb1.size; (try simp at z1); have c1x0 := bstep (b := w.heap.size) hb1 (by first | omega | (simp <;> omega)); have y1x0 : w.heap.size < w1.heap.size := (by omega); have c1x1 := bstep (b := w.heap.size + 1) hb1 (by first | omega | (simp <;> omega)); have y1x1 : w.heap.size + 1 < w1.heap.size := (by omega); have c1x2 := bstep (b := w.heap.size + 1 + 1) hb1 (by first | omega | (simp <;> omega)); have y1x2 : w.heap.size + 1 + 1 < w1.heap.size := (by omega); have f1x0 := bfro (b := w.heap.size) hb1 (by first | omega | (simp <;> omega)); have f1x1 := bfro (b := w.heap.size + 1) hb1 (by first | omega | (simp <;> omega)); have f1x2 := bfro (b := w.heap.size + 1 + 1) hb1 (by first | omega | (simp <;> omega)))
    | (go_at_call 16; refine (HK.out _).mono ?_; rintro e w2 ⟨rfl, hb2⟩; have z2 := hb2.size; (try simp at z2); have c2x0 := bstep (b := w.heap.size) hb2 (by first | omega | (simp <;> omega)); have y2x0 : w.heap.size < w2.heap.size := (by omega); have c2x1 := bstep (b := w.heap.size + 1) hb2 (by first | omega | (simp <;> omega)); have y2x1 : w.heap.size + 1 < w2.heap.size := (by omega); have c2x2 := bstep (b := w.heap.size + 1 + 1) hb2 (by first | omega | (simp <;> omega)); have y2x2 : w.heap.size + 1 + 1 < w2.heap.size := (by omega); have f2x0 := bfro (b := w.heap.size) hb2 (by first | omega | (simp <;> omega)); have f2x1 := bfro (b := w.heap.size + 1) hb2 (by first | omega | (simp <;> omega)); have f2x2 := bfro (b := w.heap.size + 1 + 1) hb2 (by first | omega | (simp <;> omega)))
    | (go_at_call 17; refine (bclip_v _ _).mono ?_; rintro e w8 ⟨rfl, rfl⟩)
    | (go_at_call 12; first | (with_reducible refine (HS0.out _).mono ?_; rintro e w3 ⟨rfl, hb3⟩; have z3 := hb3.size; (try simp at z3); have c3x0 := bstep (b := w.heap.size) hb3 (by first | omega | (simp <;> omega)); have y3x0 : w.heap.size < w3.heap.size := (by omega); have c3x1 := bstep (b := w.heap.size + 1) hb3 (by first | omega | (simp <;> omega)); have y3x1 : w.heap.size + 1 < w3.heap.size := (by omega); have c3x2 := bstep (b := w.heap.size + 1 + 1) hb3 (by first | omega | (simp <;> omega)); have y3x2 : w.heap.size + 1 + 1 < w3.heap.size := (by omega)) | (with_reducible refine (HS1.out _).mono ?_; rintro e w4 ⟨rfl, hb4⟩; have z4 := hb4.size; (try simp at z4); have c4x0 := bstep (b := w.heap.size) hb4 (by first | omega | (simp <;> omega)); have y4x0 : w.heap.size < w4.heap.size := (by omega); have c4x1 := bstep (b := w.heap.size + 1) hb4 (by first | omega | (simp <;> omega)); have y4x1 : w.heap.size + 1 < w4.heap.size := (by omega); have c4x2 := bstep (b := w.heap.size + 1 + 1) hb4 (by first | omega | (simp <;> omega)); have y4x2 : w.heap.size + 1 + 1 < w4.heap.size := (by omega); have c4x3 := bstep (b := w3.heap.size) hb4 (by first | omega | (simp <;> omega)); have y4x3 : w3.heap.size < w4.heap.size := (by omega))))
  go_ret
  have H1 : Below w.heap.size w w1 := ((((Below.refl _ _).alloc (Nat.le_refl _) _).alloc (by first | omega | (simp <;> omega)) _).alloc (by first | omega | (simp <;> omega)) _).trans (hb1.mono (by first | omega | (simp <;> omega)))
  have H2 : Below w.heap.size w w2 := H1.trans (hb2.mono (by first | omega | (simp <;> omega)))
  have S2 : Below w.heap.size w (((w2.setCell _ _).setCell _ _).setCell _ _) := ((H2.setCell (p := ⟨w.heap.size + 1, 0, none⟩) (by first | omega | (simp <;> omega)) (.int .i64 (vclip V))).setCell (p := ⟨w.heap.size + 1 + 1, 4, none⟩) (by first | omega | (simp <;> omega)) (.bool dead0)).setCell (p := ⟨w.heap.size + 1 + 1, 5, none⟩) (by first | omega | (simp <;> omega)) (.bool broken0)
  have H3 : Below w.heap.size w w3 := S2.trans (hb3.mono (by first | omega | (simp <;> omega)))
  have H4 : Below w.heap.size w w4 := (H3.alloc (by first | omega | (simp <;> omega)) _).trans (hb4.mono (by first | omega | (simp <;> omega)))
  exact ⟨rfl, H4.alloc (by first | omega | (simp <;> omega)) _⟩

set_option maxHeartbeats 4000000 in
theorem linkSwitch_B1 (c : Cfg) (h : c.Ok) (V : Int) (d0 d1 : Int) (dead0 broken0 dead1 broken1 : Bool) (q1 : vclip V < c.on) (q2 : c.off ≤ vclip V) (hd : d0 < d1) (w : World) :
    Calls Try.prog 5 #[.agg #[.int .i64 c.num, .int .i64 c.den, .int .i64 c.supply, .int .i64 c.feed, .int .i64 c.ohm, .int .i64 c.on, .int .i64 c.off, .int .i64 c.bohm], .agg #[.int .i64 V, .bool true], .agg #[.int .i64 d0, .bool dead0, .bool broken0, .int .i64 d1, .bool dead1, .bool broken1]] w fun e w' => e = .returned (.bool true) ∧ Below w.heap.size w w' := by
  have hv : vclip (vclip V) = vclip V := vclip_self (vclip_bd V).1 (vclip_bd V).2
  have hB : stepB c (vclip V) true = true := by simp only [stepB, hv]; simp [brakeB]; try omega
  have HK := hide (fun W => check_ok c W h)
  have HS0 := step_ok c h (vclip V) d0 true dead0 broken0
  have HS1 := step_ok c h (vclip V) d1 true dead0 broken0
  have hle := fun hh => stepV_anti h.rng (vclip V) true (d := d0) (d' := d1) hh dead0 broken0
  rw [hB] at HS0 HS1
  generalize stepV c (vclip V) true d0 dead0 broken0 = A0 at HS0 hle
  generalize stepV c (vclip V) true d1 dead0 broken0 = A1 at HS1 hle
  have HS0 := hide HS0
  have HS1 := hide HS1
  have ho1 := h.ord.1
  have ho2 := h.ord.2
  clear hB hv h
  clear hle
  go_enter Try.func5, Try.ntmps5
  go_wp2_with (first
    | (go_at_call 11; refine (awake_any _).mono ?_; rintro e w1 ⟨rfl, hb1⟩; have z1 := hb1.size; (try simp at z1); have c1x0 := bstep (b := w.heap.size) hb1 (by first | omega | (simp <;> omega)); have y1x0 : w.heap.size < w1.heap.size := (by omega); have c1x1 := bstep (b := w.heap.size + 1) hb1 (by first | omega | (simp <;> omega)); have y1x1 : w.heap.size + 1 < w1.heap.size := (by omega); have c1x2 := bstep (b := w.heap.size + 1 + 1) hb1 (by first | omega | (simp <;> omega)); have y1x2 : w.heap.size + 1 + 1 < w1.heap.size := (by omega); have f1x0 := bfro (b := w.heap.size) hb1 (by first | omega | (simp <;> omega)); have f1x1 := bfro (b := w.heap.size + 1) hb1 (by first | omega | (simp <;> omega)); have f1x2 := bfro (b := w.heap.size + 1 + 1) hb1 (by first | omega | (simp <;> omega)))
    | (go_at_call 16; refine (HK.out _).mono ?_; rintro e w2 ⟨rfl, hb2⟩; have z2 := hb2.size; (try simp at z2); have c2x0 := bstep (b := w.heap.size) hb2 (by first | omega | (simp <;> omega)); have y2x0 : w.heap.size < w2.heap.size := (by omega); have c2x1 := bstep (b := w.heap.size + 1) hb2 (by first | omega | (simp <;> omega)); have y2x1 : w.heap.size + 1 < w2.heap.size := (by omega); have c2x2 := bstep (b := w.heap.size + 1 + 1) hb2 (by first | omega | (simp <;> omega)); have y2x2 : w.heap.size + 1 + 1 < w2.heap.size := (by omega); have f2x0 := bfro (b := w.heap.size) hb2 (by first | omega | (simp <;> omega)); have f2x1 := bfro (b := w.heap.size + 1) hb2 (by first | omega | (simp <;> omega)); have f2x2 := bfro (b := w.heap.size + 1 + 1) hb2 (by first | omega | (simp <;> omega)))
    | (go_at_call 17; refine (bclip_v _ _).mono ?_; rintro e w8 ⟨rfl, rfl⟩)
    | (go_at_call 12; first | (with_reducible refine (HS0.out _).mono ?_; rintro e w3 ⟨rfl, hb3⟩; have z3 := hb3.size; (try simp at z3); have c3x0 := bstep (b := w.heap.size) hb3 (by first | omega | (simp <;> omega)); have y3x0 : w.heap.size < w3.heap.size := (by omega); have c3x1 := bstep (b := w.heap.size + 1) hb3 (by first | omega | (simp <;> omega)); have y3x1 : w.heap.size + 1 < w3.heap.size := (by omega); have c3x2 := bstep (b := w.heap.size + 1 + 1) hb3 (by first | omega | (simp <;> omega)); have y3x2 : w.heap.size + 1 + 1 < w3.heap.size := (by omega)) | (with_reducible refine (HS1.out _).mono ?_; rintro e w4 ⟨rfl, hb4⟩; have z4 := hb4.size; (try simp at z4); have c4x0 := bstep (b := w.heap.size) hb4 (by first | omega | (simp <;> omega)); have y4x0 : w.heap.size < w4.heap.size := (by omega); have c4x1 := bstep (b := w.heap.size + 1) hb4 (by first | omega | (simp <;> omega)); have y4x1 : w.heap.size + 1 < w4.heap.size := (by omega); have c4x2 := bstep (b := w.heap.size + 1 + 1) hb4 (by first | omega | (simp <;> omega)); have y4x2 : w.heap.size + 1 + 1 < w4.heap.size := (by omega); have c4x3 := bstep (b := w3.heap.size) hb4 (by first | omega | (simp <;> omega)); have y4x3 : w3.heap.size < w4.heap.size := (by omega))))
  go_ret
  have H1 : Below w.heap.size w w1 := ((((Below.refl _ _).alloc (Nat.le_refl _) _).alloc (by first | omega | (simp <;> omega)) _).alloc (by first | omega | (simp <;> omega)) _).trans (hb1.mono (by first | omega | (simp <;> omega)))
  have H2 : Below w.heap.size w w2 := H1.trans (hb2.mono (by first | omega | (simp <;> omega)))
  have S2 : Below w.heap.size w (((w2.setCell _ _).setCell _ _).setCell _ _) := ((H2.setCell (p := ⟨w.heap.size + 1, 0, none⟩) (by first | omega | (simp <;> omega)) (.int .i64 (vclip V))).setCell (p := ⟨w.heap.size + 1 + 1, 4, none⟩) (by first | omega | (simp <;> omega)) (.bool dead0)).setCell (p := ⟨w.heap.size + 1 + 1, 5, none⟩) (by first | omega | (simp <;> omega)) (.bool broken0)
  have H3 : Below w.heap.size w w3 := S2.trans (hb3.mono (by first | omega | (simp <;> omega)))
  have H4 : Below w.heap.size w w4 := (H3.alloc (by first | omega | (simp <;> omega)) _).trans (hb4.mono (by first | omega | (simp <;> omega)))
  exact ⟨rfl, H4.alloc (by first | omega | (simp <;> omega)) _⟩

set_option maxHeartbeats 4000000 in
theorem linkSwitch_B2 (c : Cfg) (h : c.Ok) (V : Int) (d0 d1 : Int) (dead0 broken0 dead1 broken1 : Bool) (q1 : vclip V < c.on) (q2 : c.off ≤ vclip V) (hd : d1 ≤ d0) (w : World) :
    Calls Try.prog 5 #[.agg #[.int .i64 c.num, .int .i64 c.den, .int .i64 c.supply, .int .i64 c.feed, .int .i64 c.ohm, .int .i64 c.on, .int .i64 c.off, .int .i64 c.bohm], .agg #[.int .i64 V, .bool true], .agg #[.int .i64 d0, .bool dead0, .bool broken0, .int .i64 d1, .bool dead1, .bool broken1]] w fun e w' => e = .returned (.bool true) ∧ Below w.heap.size w w' := by
  have hv : vclip (vclip V) = vclip V := vclip_self (vclip_bd V).1 (vclip_bd V).2
  have hB : stepB c (vclip V) true = true := by simp only [stepB, hv]; simp [brakeB]; try omega
  have HK := hide (fun W => check_ok c W h)
  have HS0 := step_ok c h (vclip V) d0 true dead0 broken0
  have HS1 := step_ok c h (vclip V) d1 true dead0 broken0
  have hle := fun hh => stepV_anti h.rng (vclip V) true (d := d0) (d' := d1) hh dead0 broken0
  rw [hB] at HS0 HS1
  generalize stepV c (vclip V) true d0 dead0 broken0 = A0 at HS0 hle
  generalize stepV c (vclip V) true d1 dead0 broken0 = A1 at HS1 hle
  have HS0 := hide HS0
  have HS1 := hide HS1
  have ho1 := h.ord.1
  have ho2 := h.ord.2
  clear hB hv h
  have hle := hle hd
  go_enter Try.func5, Try.ntmps5
  go_wp2_with (first
    | (go_at_call 11; refine (awake_any _).mono ?_; rintro e w1 ⟨rfl, hb1⟩; have z1 := hb1.size; (try simp at z1); have c1x0 := bstep (b := w.heap.size) hb1 (by first | omega | (simp <;> omega)); have y1x0 : w.heap.size < w1.heap.size := (by omega); have c1x1 := bstep (b := w.heap.size + 1) hb1 (by first | omega | (simp <;> omega)); have y1x1 : w.heap.size + 1 < w1.heap.size := (by omega); have c1x2 := bstep (b := w.heap.size + 1 + 1) hb1 (by first | omega | (simp <;> omega)); have y1x2 : w.heap.size + 1 + 1 < w1.heap.size := (by omega); have f1x0 := bfro (b := w.heap.size) hb1 (by first | omega | (simp <;> omega)); have f1x1 := bfro (b := w.heap.size + 1) hb1 (by first | omega | (simp <;> omega)); have f1x2 := bfro (b := w.heap.size + 1 + 1) hb1 (by first | omega | (simp <;> omega)))
    | (go_at_call 16; refine (HK.out _).mono ?_; rintro e w2 ⟨rfl, hb2⟩; have z2 := hb2.size; (try simp at z2); have c2x0 := bstep (b := w.heap.size) hb2 (by first | omega | (simp <;> omega)); have y2x0 : w.heap.size < w2.heap.size := (by omega); have c2x1 := bstep (b := w.heap.size + 1) hb2 (by first | omega | (simp <;> omega)); have y2x1 : w.heap.size + 1 < w2.heap.size := (by omega); have c2x2 := bstep (b := w.heap.size + 1 + 1) hb2 (by first | omega | (simp <;> omega)); have y2x2 : w.heap.size + 1 + 1 < w2.heap.size := (by omega); have f2x0 := bfro (b := w.heap.size) hb2 (by first | omega | (simp <;> omega)); have f2x1 := bfro (b := w.heap.size + 1) hb2 (by first | omega | (simp <;> omega)); have f2x2 := bfro (b := w.heap.size + 1 + 1) hb2 (by first | omega | (simp <;> omega)))
    | (go_at_call 17; refine (bclip_v _ _).mono ?_; rintro e w8 ⟨rfl, rfl⟩)
    | (go_at_call 12; first | (with_reducible refine (HS0.out _).mono ?_; rintro e w3 ⟨rfl, hb3⟩; have z3 := hb3.size; (try simp at z3); have c3x0 := bstep (b := w.heap.size) hb3 (by first | omega | (simp <;> omega)); have y3x0 : w.heap.size < w3.heap.size := (by omega); have c3x1 := bstep (b := w.heap.size + 1) hb3 (by first | omega | (simp <;> omega)); have y3x1 : w.heap.size + 1 < w3.heap.size := (by omega); have c3x2 := bstep (b := w.heap.size + 1 + 1) hb3 (by first | omega | (simp <;> omega)); have y3x2 : w.heap.size + 1 + 1 < w3.heap.size := (by omega)) | (with_reducible refine (HS1.out _).mono ?_; rintro e w4 ⟨rfl, hb4⟩; have z4 := hb4.size; (try simp at z4); have c4x0 := bstep (b := w.heap.size) hb4 (by first | omega | (simp <;> omega)); have y4x0 : w.heap.size < w4.heap.size := (by omega); have c4x1 := bstep (b := w.heap.size + 1) hb4 (by first | omega | (simp <;> omega)); have y4x1 : w.heap.size + 1 < w4.heap.size := (by omega); have c4x2 := bstep (b := w.heap.size + 1 + 1) hb4 (by first | omega | (simp <;> omega)); have y4x2 : w.heap.size + 1 + 1 < w4.heap.size := (by omega); have c4x3 := bstep (b := w3.heap.size) hb4 (by first | omega | (simp <;> omega)); have y4x3 : w3.heap.size < w4.heap.size := (by omega))))
  go_ret
  have H1 : Below w.heap.size w w1 := ((((Below.refl _ _).alloc (Nat.le_refl _) _).alloc (by first | omega | (simp <;> omega)) _).alloc (by first | omega | (simp <;> omega)) _).trans (hb1.mono (by first | omega | (simp <;> omega)))
  have H2 : Below w.heap.size w w2 := H1.trans (hb2.mono (by first | omega | (simp <;> omega)))
  have S2 : Below w.heap.size w (((w2.setCell _ _).setCell _ _).setCell _ _) := ((H2.setCell (p := ⟨w.heap.size + 1, 0, none⟩) (by first | omega | (simp <;> omega)) (.int .i64 (vclip V))).setCell (p := ⟨w.heap.size + 1 + 1, 4, none⟩) (by first | omega | (simp <;> omega)) (.bool dead0)).setCell (p := ⟨w.heap.size + 1 + 1, 5, none⟩) (by first | omega | (simp <;> omega)) (.bool broken0)
  have H3 : Below w.heap.size w w3 := S2.trans (hb3.mono (by first | omega | (simp <;> omega)))
  have H4 : Below w.heap.size w w4 := (H3.alloc (by first | omega | (simp <;> omega)) _).trans (hb4.mono (by first | omega | (simp <;> omega)))
  exact ⟨rfl, H4.alloc (by first | omega | (simp <;> omega)) _⟩

set_option maxHeartbeats 4000000 in
theorem linkSwitch_C1 (c : Cfg) (h : c.Ok) (V : Int) (d0 d1 : Int) (dead0 broken0 dead1 broken1 : Bool) (q1 : vclip V < c.on) (q2 : c.off ≤ vclip V) (hd : d0 < d1) (w : World) :
    Calls Try.prog 5 #[.agg #[.int .i64 c.num, .int .i64 c.den, .int .i64 c.supply, .int .i64 c.feed, .int .i64 c.ohm, .int .i64 c.on, .int .i64 c.off, .int .i64 c.bohm], .agg #[.int .i64 V, .bool false], .agg #[.int .i64 d0, .bool dead0, .bool broken0, .int .i64 d1, .bool dead1, .bool broken1]] w fun e w' => e = .returned (.bool true) ∧ Below w.heap.size w w' := by
  have hv : vclip (vclip V) = vclip V := vclip_self (vclip_bd V).1 (vclip_bd V).2
  have hB : stepB c (vclip V) false = false := by simp only [stepB, hv]; simp [brakeB]; try omega
  have HK := hide (fun W => check_ok c W h)
  have HS0 := step_ok c h (vclip V) d0 false dead0 broken0
  have HS1 := step_ok c h (vclip V) d1 false dead0 broken0
  have hle := fun hh => stepV_anti h.rng (vclip V) false (d := d0) (d' := d1) hh dead0 broken0
  rw [hB] at HS0 HS1
  generalize stepV c (vclip V) false d0 dead0 broken0 = A0 at HS0 hle
  generalize stepV c (vclip V) false d1 dead0 broken0 = A1 at HS1 hle
  have HS0 := hide HS0
  have HS1 := hide HS1
  have ho1 := h.ord.1
  have ho2 := h.ord.2
  clear hB hv h
  clear hle
  go_enter Try.func5, Try.ntmps5
  go_wp2_with (first
    | (go_at_call 11; refine (awake_any _).mono ?_; rintro e w1 ⟨rfl, hb1⟩; have z1 := hb1.size; (try simp at z1); have c1x0 := bstep (b := w.heap.size) hb1 (by first | omega | (simp <;> omega)); have y1x0 : w.heap.size < w1.heap.size := (by omega); have c1x1 := bstep (b := w.heap.size + 1) hb1 (by first | omega | (simp <;> omega)); have y1x1 : w.heap.size + 1 < w1.heap.size := (by omega); have c1x2 := bstep (b := w.heap.size + 1 + 1) hb1 (by first | omega | (simp <;> omega)); have y1x2 : w.heap.size + 1 + 1 < w1.heap.size := (by omega); have f1x0 := bfro (b := w.heap.size) hb1 (by first | omega | (simp <;> omega)); have f1x1 := bfro (b := w.heap.size + 1) hb1 (by first | omega | (simp <;> omega)); have f1x2 := bfro (b := w.heap.size + 1 + 1) hb1 (by first | omega | (simp <;> omega)))
    | (go_at_call 16; refine (HK.out _).mono ?_; rintro e w2 ⟨rfl, hb2⟩; have z2 := hb2.size; (try simp at z2); have c2x0 := bstep (b := w.heap.size) hb2 (by first | omega | (simp <;> omega)); have y2x0 : w.heap.size < w2.heap.size := (by omega); have c2x1 := bstep (b := w.heap.size + 1) hb2 (by first | omega | (simp <;> omega)); have y2x1 : w.heap.size + 1 < w2.heap.size := (by omega); have c2x2 := bstep (b := w.heap.size + 1 + 1) hb2 (by first | omega | (simp <;> omega)); have y2x2 : w.heap.size + 1 + 1 < w2.heap.size := (by omega); have f2x0 := bfro (b := w.heap.size) hb2 (by first | omega | (simp <;> omega)); have f2x1 := bfro (b := w.heap.size + 1) hb2 (by first | omega | (simp <;> omega)); have f2x2 := bfro (b := w.heap.size + 1 + 1) hb2 (by first | omega | (simp <;> omega)))
    | (go_at_call 17; refine (bclip_v _ _).mono ?_; rintro e w8 ⟨rfl, rfl⟩)
    | (go_at_call 12; first | (with_reducible refine (HS0.out _).mono ?_; rintro e w3 ⟨rfl, hb3⟩; have z3 := hb3.size; (try simp at z3); have c3x0 := bstep (b := w.heap.size) hb3 (by first | omega | (simp <;> omega)); have y3x0 : w.heap.size < w3.heap.size := (by omega); have c3x1 := bstep (b := w.heap.size + 1) hb3 (by first | omega | (simp <;> omega)); have y3x1 : w.heap.size + 1 < w3.heap.size := (by omega); have c3x2 := bstep (b := w.heap.size + 1 + 1) hb3 (by first | omega | (simp <;> omega)); have y3x2 : w.heap.size + 1 + 1 < w3.heap.size := (by omega)) | (with_reducible refine (HS1.out _).mono ?_; rintro e w4 ⟨rfl, hb4⟩; have z4 := hb4.size; (try simp at z4); have c4x0 := bstep (b := w.heap.size) hb4 (by first | omega | (simp <;> omega)); have y4x0 : w.heap.size < w4.heap.size := (by omega); have c4x1 := bstep (b := w.heap.size + 1) hb4 (by first | omega | (simp <;> omega)); have y4x1 : w.heap.size + 1 < w4.heap.size := (by omega); have c4x2 := bstep (b := w.heap.size + 1 + 1) hb4 (by first | omega | (simp <;> omega)); have y4x2 : w.heap.size + 1 + 1 < w4.heap.size := (by omega); have c4x3 := bstep (b := w3.heap.size) hb4 (by first | omega | (simp <;> omega)); have y4x3 : w3.heap.size < w4.heap.size := (by omega))))
  go_ret
  have H1 : Below w.heap.size w w1 := ((((Below.refl _ _).alloc (Nat.le_refl _) _).alloc (by first | omega | (simp <;> omega)) _).alloc (by first | omega | (simp <;> omega)) _).trans (hb1.mono (by first | omega | (simp <;> omega)))
  have H2 : Below w.heap.size w w2 := H1.trans (hb2.mono (by first | omega | (simp <;> omega)))
  have S2 : Below w.heap.size w (((w2.setCell _ _).setCell _ _).setCell _ _) := ((H2.setCell (p := ⟨w.heap.size + 1, 0, none⟩) (by first | omega | (simp <;> omega)) (.int .i64 (vclip V))).setCell (p := ⟨w.heap.size + 1 + 1, 4, none⟩) (by first | omega | (simp <;> omega)) (.bool dead0)).setCell (p := ⟨w.heap.size + 1 + 1, 5, none⟩) (by first | omega | (simp <;> omega)) (.bool broken0)
  have H3 : Below w.heap.size w w3 := S2.trans (hb3.mono (by first | omega | (simp <;> omega)))
  have H4 : Below w.heap.size w w4 := (H3.alloc (by first | omega | (simp <;> omega)) _).trans (hb4.mono (by first | omega | (simp <;> omega)))
  exact ⟨rfl, H4.alloc (by first | omega | (simp <;> omega)) _⟩

set_option maxHeartbeats 4000000 in
theorem linkSwitch_C2 (c : Cfg) (h : c.Ok) (V : Int) (d0 d1 : Int) (dead0 broken0 dead1 broken1 : Bool) (q1 : vclip V < c.on) (q2 : c.off ≤ vclip V) (hd : d1 ≤ d0) (w : World) :
    Calls Try.prog 5 #[.agg #[.int .i64 c.num, .int .i64 c.den, .int .i64 c.supply, .int .i64 c.feed, .int .i64 c.ohm, .int .i64 c.on, .int .i64 c.off, .int .i64 c.bohm], .agg #[.int .i64 V, .bool false], .agg #[.int .i64 d0, .bool dead0, .bool broken0, .int .i64 d1, .bool dead1, .bool broken1]] w fun e w' => e = .returned (.bool true) ∧ Below w.heap.size w w' := by
  have hv : vclip (vclip V) = vclip V := vclip_self (vclip_bd V).1 (vclip_bd V).2
  have hB : stepB c (vclip V) false = false := by simp only [stepB, hv]; simp [brakeB]; try omega
  have HK := hide (fun W => check_ok c W h)
  have HS0 := step_ok c h (vclip V) d0 false dead0 broken0
  have HS1 := step_ok c h (vclip V) d1 false dead0 broken0
  have hle := fun hh => stepV_anti h.rng (vclip V) false (d := d0) (d' := d1) hh dead0 broken0
  rw [hB] at HS0 HS1
  generalize stepV c (vclip V) false d0 dead0 broken0 = A0 at HS0 hle
  generalize stepV c (vclip V) false d1 dead0 broken0 = A1 at HS1 hle
  have HS0 := hide HS0
  have HS1 := hide HS1
  have ho1 := h.ord.1
  have ho2 := h.ord.2
  clear hB hv h
  have hle := hle hd
  go_enter Try.func5, Try.ntmps5
  go_wp2_with (first
    | (go_at_call 11; refine (awake_any _).mono ?_; rintro e w1 ⟨rfl, hb1⟩; have z1 := hb1.size; (try simp at z1); have c1x0 := bstep (b := w.heap.size) hb1 (by first | omega | (simp <;> omega)); have y1x0 : w.heap.size < w1.heap.size := (by omega); have c1x1 := bstep (b := w.heap.size + 1) hb1 (by first | omega | (simp <;> omega)); have y1x1 : w.heap.size + 1 < w1.heap.size := (by omega); have c1x2 := bstep (b := w.heap.size + 1 + 1) hb1 (by first | omega | (simp <;> omega)); have y1x2 : w.heap.size + 1 + 1 < w1.heap.size := (by omega); have f1x0 := bfro (b := w.heap.size) hb1 (by first | omega | (simp <;> omega)); have f1x1 := bfro (b := w.heap.size + 1) hb1 (by first | omega | (simp <;> omega)); have f1x2 := bfro (b := w.heap.size + 1 + 1) hb1 (by first | omega | (simp <;> omega)))
    | (go_at_call 16; refine (HK.out _).mono ?_; rintro e w2 ⟨rfl, hb2⟩; have z2 := hb2.size; (try simp at z2); have c2x0 := bstep (b := w.heap.size) hb2 (by first | omega | (simp <;> omega)); have y2x0 : w.heap.size < w2.heap.size := (by omega); have c2x1 := bstep (b := w.heap.size + 1) hb2 (by first | omega | (simp <;> omega)); have y2x1 : w.heap.size + 1 < w2.heap.size := (by omega); have c2x2 := bstep (b := w.heap.size + 1 + 1) hb2 (by first | omega | (simp <;> omega)); have y2x2 : w.heap.size + 1 + 1 < w2.heap.size := (by omega); have f2x0 := bfro (b := w.heap.size) hb2 (by first | omega | (simp <;> omega)); have f2x1 := bfro (b := w.heap.size + 1) hb2 (by first | omega | (simp <;> omega)); have f2x2 := bfro (b := w.heap.size + 1 + 1) hb2 (by first | omega | (simp <;> omega)))
    | (go_at_call 17; refine (bclip_v _ _).mono ?_; rintro e w8 ⟨rfl, rfl⟩)
    | (go_at_call 12; first | (with_reducible refine (HS0.out _).mono ?_; rintro e w3 ⟨rfl, hb3⟩; have z3 := hb3.size; (try simp at z3); have c3x0 := bstep (b := w.heap.size) hb3 (by first | omega | (simp <;> omega)); have y3x0 : w.heap.size < w3.heap.size := (by omega); have c3x1 := bstep (b := w.heap.size + 1) hb3 (by first | omega | (simp <;> omega)); have y3x1 : w.heap.size + 1 < w3.heap.size := (by omega); have c3x2 := bstep (b := w.heap.size + 1 + 1) hb3 (by first | omega | (simp <;> omega)); have y3x2 : w.heap.size + 1 + 1 < w3.heap.size := (by omega)) | (with_reducible refine (HS1.out _).mono ?_; rintro e w4 ⟨rfl, hb4⟩; have z4 := hb4.size; (try simp at z4); have c4x0 := bstep (b := w.heap.size) hb4 (by first | omega | (simp <;> omega)); have y4x0 : w.heap.size < w4.heap.size := (by omega); have c4x1 := bstep (b := w.heap.size + 1) hb4 (by first | omega | (simp <;> omega)); have y4x1 : w.heap.size + 1 < w4.heap.size := (by omega); have c4x2 := bstep (b := w.heap.size + 1 + 1) hb4 (by first | omega | (simp <;> omega)); have y4x2 : w.heap.size + 1 + 1 < w4.heap.size := (by omega); have c4x3 := bstep (b := w3.heap.size) hb4 (by first | omega | (simp <;> omega)); have y4x3 : w3.heap.size < w4.heap.size := (by omega))))
  go_ret
  have H1 : Below w.heap.size w w1 := ((((Below.refl _ _).alloc (Nat.le_refl _) _).alloc (by first | omega | (simp <;> omega)) _).alloc (by first | omega | (simp <;> omega)) _).trans (hb1.mono (by first | omega | (simp <;> omega)))
  have H2 : Below w.heap.size w w2 := H1.trans (hb2.mono (by first | omega | (simp <;> omega)))
  have S2 : Below w.heap.size w (((w2.setCell _ _).setCell _ _).setCell _ _) := ((H2.setCell (p := ⟨w.heap.size + 1, 0, none⟩) (by first | omega | (simp <;> omega)) (.int .i64 (vclip V))).setCell (p := ⟨w.heap.size + 1 + 1, 4, none⟩) (by first | omega | (simp <;> omega)) (.bool dead0)).setCell (p := ⟨w.heap.size + 1 + 1, 5, none⟩) (by first | omega | (simp <;> omega)) (.bool broken0)
  have H3 : Below w.heap.size w w3 := S2.trans (hb3.mono (by first | omega | (simp <;> omega)))
  have H4 : Below w.heap.size w w4 := (H3.alloc (by first | omega | (simp <;> omega)) _).trans (hb4.mono (by first | omega | (simp <;> omega)))
  exact ⟨rfl, H4.alloc (by first | omega | (simp <;> omega)) _⟩

set_option maxHeartbeats 4000000 in
theorem linkSwitch_D1 (c : Cfg) (h : c.Ok) (V : Int) (b : Bool) (d0 d1 : Int) (dead0 broken0 dead1 broken1 : Bool) (q1 : vclip V < c.on) (q2 : vclip V < c.off) (hd : d0 < d1) (w : World) :
    Calls Try.prog 5 #[.agg #[.int .i64 c.num, .int .i64 c.den, .int .i64 c.supply, .int .i64 c.feed, .int .i64 c.ohm, .int .i64 c.on, .int .i64 c.off, .int .i64 c.bohm], .agg #[.int .i64 V, .bool b], .agg #[.int .i64 d0, .bool dead0, .bool broken0, .int .i64 d1, .bool dead1, .bool broken1]] w fun e w' => e = .returned (.bool true) ∧ Below w.heap.size w w' := by
  have hv : vclip (vclip V) = vclip V := vclip_self (vclip_bd V).1 (vclip_bd V).2
  have hB : stepB c (vclip V) b = false := by simp only [stepB, hv]; simp [brakeB]; try omega
  have HK := hide (fun W => check_ok c W h)
  have HS0 := step_ok c h (vclip V) d0 b dead0 broken0
  have HS1 := step_ok c h (vclip V) d1 b dead0 broken0
  have hle := fun hh => stepV_anti h.rng (vclip V) b (d := d0) (d' := d1) hh dead0 broken0
  rw [hB] at HS0 HS1
  generalize stepV c (vclip V) b d0 dead0 broken0 = A0 at HS0 hle
  generalize stepV c (vclip V) b d1 dead0 broken0 = A1 at HS1 hle
  have HS0 := hide HS0
  have HS1 := hide HS1
  have ho1 := h.ord.1
  have ho2 := h.ord.2
  clear hB hv h
  clear hle
  go_enter Try.func5, Try.ntmps5
  go_wp2_with (first
    | (go_at_call 11; refine (awake_any _).mono ?_; rintro e w1 ⟨rfl, hb1⟩; have z1 := hb1.size; (try simp at z1); have c1x0 := bstep (b := w.heap.size) hb1 (by first | omega | (simp <;> omega)); have y1x0 : w.heap.size < w1.heap.size := (by omega); have c1x1 := bstep (b := w.heap.size + 1) hb1 (by first | omega | (simp <;> omega)); have y1x1 : w.heap.size + 1 < w1.heap.size := (by omega); have c1x2 := bstep (b := w.heap.size + 1 + 1) hb1 (by first | omega | (simp <;> omega)); have y1x2 : w.heap.size + 1 + 1 < w1.heap.size := (by omega); have f1x0 := bfro (b := w.heap.size) hb1 (by first | omega | (simp <;> omega)); have f1x1 := bfro (b := w.heap.size + 1) hb1 (by first | omega | (simp <;> omega)); have f1x2 := bfro (b := w.heap.size + 1 + 1) hb1 (by first | omega | (simp <;> omega)))
    | (go_at_call 16; refine (HK.out _).mono ?_; rintro e w2 ⟨rfl, hb2⟩; have z2 := hb2.size; (try simp at z2); have c2x0 := bstep (b := w.heap.size) hb2 (by first | omega | (simp <;> omega)); have y2x0 : w.heap.size < w2.heap.size := (by omega); have c2x1 := bstep (b := w.heap.size + 1) hb2 (by first | omega | (simp <;> omega)); have y2x1 : w.heap.size + 1 < w2.heap.size := (by omega); have c2x2 := bstep (b := w.heap.size + 1 + 1) hb2 (by first | omega | (simp <;> omega)); have y2x2 : w.heap.size + 1 + 1 < w2.heap.size := (by omega); have f2x0 := bfro (b := w.heap.size) hb2 (by first | omega | (simp <;> omega)); have f2x1 := bfro (b := w.heap.size + 1) hb2 (by first | omega | (simp <;> omega)); have f2x2 := bfro (b := w.heap.size + 1 + 1) hb2 (by first | omega | (simp <;> omega)))
    | (go_at_call 17; refine (bclip_v _ _).mono ?_; rintro e w8 ⟨rfl, rfl⟩)
    | (go_at_call 12; first | (with_reducible refine (HS0.out _).mono ?_; rintro e w3 ⟨rfl, hb3⟩; have z3 := hb3.size; (try simp at z3); have c3x0 := bstep (b := w.heap.size) hb3 (by first | omega | (simp <;> omega)); have y3x0 : w.heap.size < w3.heap.size := (by omega); have c3x1 := bstep (b := w.heap.size + 1) hb3 (by first | omega | (simp <;> omega)); have y3x1 : w.heap.size + 1 < w3.heap.size := (by omega); have c3x2 := bstep (b := w.heap.size + 1 + 1) hb3 (by first | omega | (simp <;> omega)); have y3x2 : w.heap.size + 1 + 1 < w3.heap.size := (by omega)) | (with_reducible refine (HS1.out _).mono ?_; rintro e w4 ⟨rfl, hb4⟩; have z4 := hb4.size; (try simp at z4); have c4x0 := bstep (b := w.heap.size) hb4 (by first | omega | (simp <;> omega)); have y4x0 : w.heap.size < w4.heap.size := (by omega); have c4x1 := bstep (b := w.heap.size + 1) hb4 (by first | omega | (simp <;> omega)); have y4x1 : w.heap.size + 1 < w4.heap.size := (by omega); have c4x2 := bstep (b := w.heap.size + 1 + 1) hb4 (by first | omega | (simp <;> omega)); have y4x2 : w.heap.size + 1 + 1 < w4.heap.size := (by omega); have c4x3 := bstep (b := w3.heap.size) hb4 (by first | omega | (simp <;> omega)); have y4x3 : w3.heap.size < w4.heap.size := (by omega))))
  go_ret
  have H1 : Below w.heap.size w w1 := ((((Below.refl _ _).alloc (Nat.le_refl _) _).alloc (by first | omega | (simp <;> omega)) _).alloc (by first | omega | (simp <;> omega)) _).trans (hb1.mono (by first | omega | (simp <;> omega)))
  have H2 : Below w.heap.size w w2 := H1.trans (hb2.mono (by first | omega | (simp <;> omega)))
  have S2 : Below w.heap.size w (((w2.setCell _ _).setCell _ _).setCell _ _) := ((H2.setCell (p := ⟨w.heap.size + 1, 0, none⟩) (by first | omega | (simp <;> omega)) (.int .i64 (vclip V))).setCell (p := ⟨w.heap.size + 1 + 1, 4, none⟩) (by first | omega | (simp <;> omega)) (.bool dead0)).setCell (p := ⟨w.heap.size + 1 + 1, 5, none⟩) (by first | omega | (simp <;> omega)) (.bool broken0)
  have H3 : Below w.heap.size w w3 := S2.trans (hb3.mono (by first | omega | (simp <;> omega)))
  have H4 : Below w.heap.size w w4 := (H3.alloc (by first | omega | (simp <;> omega)) _).trans (hb4.mono (by first | omega | (simp <;> omega)))
  exact ⟨rfl, H4.alloc (by first | omega | (simp <;> omega)) _⟩

set_option maxHeartbeats 4000000 in
theorem linkSwitch_D2 (c : Cfg) (h : c.Ok) (V : Int) (b : Bool) (d0 d1 : Int) (dead0 broken0 dead1 broken1 : Bool) (q1 : vclip V < c.on) (q2 : vclip V < c.off) (hd : d1 ≤ d0) (w : World) :
    Calls Try.prog 5 #[.agg #[.int .i64 c.num, .int .i64 c.den, .int .i64 c.supply, .int .i64 c.feed, .int .i64 c.ohm, .int .i64 c.on, .int .i64 c.off, .int .i64 c.bohm], .agg #[.int .i64 V, .bool b], .agg #[.int .i64 d0, .bool dead0, .bool broken0, .int .i64 d1, .bool dead1, .bool broken1]] w fun e w' => e = .returned (.bool true) ∧ Below w.heap.size w w' := by
  have hv : vclip (vclip V) = vclip V := vclip_self (vclip_bd V).1 (vclip_bd V).2
  have hB : stepB c (vclip V) b = false := by simp only [stepB, hv]; simp [brakeB]; try omega
  have HK := hide (fun W => check_ok c W h)
  have HS0 := step_ok c h (vclip V) d0 b dead0 broken0
  have HS1 := step_ok c h (vclip V) d1 b dead0 broken0
  have hle := fun hh => stepV_anti h.rng (vclip V) b (d := d0) (d' := d1) hh dead0 broken0
  rw [hB] at HS0 HS1
  generalize stepV c (vclip V) b d0 dead0 broken0 = A0 at HS0 hle
  generalize stepV c (vclip V) b d1 dead0 broken0 = A1 at HS1 hle
  have HS0 := hide HS0
  have HS1 := hide HS1
  have ho1 := h.ord.1
  have ho2 := h.ord.2
  clear hB hv h
  have hle := hle hd
  go_enter Try.func5, Try.ntmps5
  go_wp2_with (first
    | (go_at_call 11; refine (awake_any _).mono ?_; rintro e w1 ⟨rfl, hb1⟩; have z1 := hb1.size; (try simp at z1); have c1x0 := bstep (b := w.heap.size) hb1 (by first | omega | (simp <;> omega)); have y1x0 : w.heap.size < w1.heap.size := (by omega); have c1x1 := bstep (b := w.heap.size + 1) hb1 (by first | omega | (simp <;> omega)); have y1x1 : w.heap.size + 1 < w1.heap.size := (by omega); have c1x2 := bstep (b := w.heap.size + 1 + 1) hb1 (by first | omega | (simp <;> omega)); have y1x2 : w.heap.size + 1 + 1 < w1.heap.size := (by omega); have f1x0 := bfro (b := w.heap.size) hb1 (by first | omega | (simp <;> omega)); have f1x1 := bfro (b := w.heap.size + 1) hb1 (by first | omega | (simp <;> omega)); have f1x2 := bfro (b := w.heap.size + 1 + 1) hb1 (by first | omega | (simp <;> omega)))
    | (go_at_call 16; refine (HK.out _).mono ?_; rintro e w2 ⟨rfl, hb2⟩; have z2 := hb2.size; (try simp at z2); have c2x0 := bstep (b := w.heap.size) hb2 (by first | omega | (simp <;> omega)); have y2x0 : w.heap.size < w2.heap.size := (by omega); have c2x1 := bstep (b := w.heap.size + 1) hb2 (by first | omega | (simp <;> omega)); have y2x1 : w.heap.size + 1 < w2.heap.size := (by omega); have c2x2 := bstep (b := w.heap.size + 1 + 1) hb2 (by first | omega | (simp <;> omega)); have y2x2 : w.heap.size + 1 + 1 < w2.heap.size := (by omega); have f2x0 := bfro (b := w.heap.size) hb2 (by first | omega | (simp <;> omega)); have f2x1 := bfro (b := w.heap.size + 1) hb2 (by first | omega | (simp <;> omega)); have f2x2 := bfro (b := w.heap.size + 1 + 1) hb2 (by first | omega | (simp <;> omega)))
    | (go_at_call 17; refine (bclip_v _ _).mono ?_; rintro e w8 ⟨rfl, rfl⟩)
    | (go_at_call 12; first | (with_reducible refine (HS0.out _).mono ?_; rintro e w3 ⟨rfl, hb3⟩; have z3 := hb3.size; (try simp at z3); have c3x0 := bstep (b := w.heap.size) hb3 (by first | omega | (simp <;> omega)); have y3x0 : w.heap.size < w3.heap.size := (by omega); have c3x1 := bstep (b := w.heap.size + 1) hb3 (by first | omega | (simp <;> omega)); have y3x1 : w.heap.size + 1 < w3.heap.size := (by omega); have c3x2 := bstep (b := w.heap.size + 1 + 1) hb3 (by first | omega | (simp <;> omega)); have y3x2 : w.heap.size + 1 + 1 < w3.heap.size := (by omega)) | (with_reducible refine (HS1.out _).mono ?_; rintro e w4 ⟨rfl, hb4⟩; have z4 := hb4.size; (try simp at z4); have c4x0 := bstep (b := w.heap.size) hb4 (by first | omega | (simp <;> omega)); have y4x0 : w.heap.size < w4.heap.size := (by omega); have c4x1 := bstep (b := w.heap.size + 1) hb4 (by first | omega | (simp <;> omega)); have y4x1 : w.heap.size + 1 < w4.heap.size := (by omega); have c4x2 := bstep (b := w.heap.size + 1 + 1) hb4 (by first | omega | (simp <;> omega)); have y4x2 : w.heap.size + 1 + 1 < w4.heap.size := (by omega); have c4x3 := bstep (b := w3.heap.size) hb4 (by first | omega | (simp <;> omega)); have y4x3 : w3.heap.size < w4.heap.size := (by omega))))
  go_ret
  have H1 : Below w.heap.size w w1 := ((((Below.refl _ _).alloc (Nat.le_refl _) _).alloc (by first | omega | (simp <;> omega)) _).alloc (by first | omega | (simp <;> omega)) _).trans (hb1.mono (by first | omega | (simp <;> omega)))
  have H2 : Below w.heap.size w w2 := H1.trans (hb2.mono (by first | omega | (simp <;> omega)))
  have S2 : Below w.heap.size w (((w2.setCell _ _).setCell _ _).setCell _ _) := ((H2.setCell (p := ⟨w.heap.size + 1, 0, none⟩) (by first | omega | (simp <;> omega)) (.int .i64 (vclip V))).setCell (p := ⟨w.heap.size + 1 + 1, 4, none⟩) (by first | omega | (simp <;> omega)) (.bool dead0)).setCell (p := ⟨w.heap.size + 1 + 1, 5, none⟩) (by first | omega | (simp <;> omega)) (.bool broken0)
  have H3 : Below w.heap.size w w3 := S2.trans (hb3.mono (by first | omega | (simp <;> omega)))
  have H4 : Below w.heap.size w w4 := (H3.alloc (by first | omega | (simp <;> omega)) _).trans (hb4.mono (by first | omega | (simp <;> omega)))
  exact ⟨rfl, H4.alloc (by first | omega | (simp <;> omega)) _⟩

set_option maxHeartbeats 2000000 in
theorem linkSwitch_err (c : Cfg) (h : c.code ≠ 0) (V : Int) (b : Bool) (d0 d1 : Int) (dead0 broken0 dead1 broken1 : Bool) (w : World) :
    Calls Try.prog 5 #[.agg #[.int .i64 c.num, .int .i64 c.den, .int .i64 c.supply, .int .i64 c.feed, .int .i64 c.ohm, .int .i64 c.on, .int .i64 c.off, .int .i64 c.bohm], .agg #[.int .i64 V, .bool b], .agg #[.int .i64 d0, .bool dead0, .bool broken0, .int .i64 d1, .bool dead1, .bool broken1]] w fun e w' => e = .returned (.bool true) ∧ Below w.heap.size w w' := by
  have HK := hide (fun W => check_err c W h)
  clear h
  go_enter Try.func5, Try.ntmps5
  go_wp2_with fail
  refine (awake_any _).mono ?_
  rintro e w1 ⟨rfl, hb1⟩
  have z1 := hb1.size
  try simp at z1
  have c1x0 := bstep (b := w.heap.size) hb1 (by first | omega | (simp <;> omega))
  have y1x0 : w.heap.size < w1.heap.size := (by omega)
  have c1x1 := bstep (b := w.heap.size + 1) hb1 (by first | omega | (simp <;> omega))
  have y1x1 : w.heap.size + 1 < w1.heap.size := (by omega)
  have c1x2 := bstep (b := w.heap.size + 1 + 1) hb1 (by first | omega | (simp <;> omega))
  have y1x2 : w.heap.size + 1 + 1 < w1.heap.size := (by omega)
  go_wp2_with (go_at_call 16; refine (HK.out _).mono ?_; rintro e w2 ⟨rfl, hb2⟩; have z2 := hb2.size; (try simp at z2); have c2x0 := bstep (b := w.heap.size) hb2 (by first | omega | (simp <;> omega)); have y2x0 : w.heap.size < w2.heap.size := (by omega); have c2x1 := bstep (b := w.heap.size + 1) hb2 (by first | omega | (simp <;> omega)); have y2x1 : w.heap.size + 1 < w2.heap.size := (by omega); have c2x2 := bstep (b := w.heap.size + 1 + 1) hb2 (by first | omega | (simp <;> omega)); have y2x2 : w.heap.size + 1 + 1 < w2.heap.size := (by omega))
  refine (awake_any _).mono ?_
  rintro e w3 ⟨rfl, hb3⟩
  go_wp2
  go_ret
  have H1 : Below w.heap.size w w1 := ((((Below.refl _ _).alloc (Nat.le_refl _) _).alloc (by first | omega | (simp <;> omega)) _).alloc (by first | omega | (simp <;> omega)) _).trans (hb1.mono (by first | omega | (simp <;> omega)))
  have H2 : Below w.heap.size w w2 := H1.trans (hb2.mono (by first | omega | (simp <;> omega)))
  have H3 : Below w.heap.size w w3 := H2.trans (hb3.mono (by first | omega | (simp <;> omega)))
  exact ⟨rfl, H3⟩

theorem linkSwitch_walk (c : Cfg) (V : Int) (b : Bool) (d0 d1 : Int) (dead0 broken0 dead1 broken1 : Bool) (w : World) :
    Calls Try.prog 5 #[.agg #[.int .i64 c.num, .int .i64 c.den, .int .i64 c.supply, .int .i64 c.feed, .int .i64 c.ohm, .int .i64 c.on, .int .i64 c.off, .int .i64 c.bohm], .agg #[.int .i64 V, .bool b], .agg #[.int .i64 d0, .bool dead0, .bool broken0, .int .i64 d1, .bool dead1, .bool broken1]] w fun e w' => e = .returned (.bool true) ∧ Below w.heap.size w w' := by
  by_cases h : c.code = 0
  · have hk := Cfg.ok_of_code h
    by_cases hd : d0 < d1
    · by_cases q1 : c.on ≤ vclip V
      · exact linkSwitch_A1 c hk V b d0 d1 dead0 broken0 dead1 broken1 q1 hd w
      · by_cases q2 : c.off ≤ vclip V
        · cases b
          · exact linkSwitch_C1 c hk V d0 d1 dead0 broken0 dead1 broken1 (by omega) q2 hd w
          · exact linkSwitch_B1 c hk V d0 d1 dead0 broken0 dead1 broken1 (by omega) q2 hd w
        · exact linkSwitch_D1 c hk V b d0 d1 dead0 broken0 dead1 broken1 (by omega) (by omega) hd w
    · have hd : d1 ≤ d0 := by omega
      by_cases q1 : c.on ≤ vclip V
      · exact linkSwitch_A2 c hk V b d0 d1 dead0 broken0 dead1 broken1 q1 hd w
      · by_cases q2 : c.off ≤ vclip V
        · cases b
          · exact linkSwitch_C2 c hk V d0 d1 dead0 broken0 dead1 broken1 (by omega) q2 hd w
          · exact linkSwitch_B2 c hk V d0 d1 dead0 broken0 dead1 broken1 (by omega) q2 hd w
        · exact linkSwitch_D2 c hk V b d0 d1 dead0 broken0 dead1 broken1 (by omega) (by omega) hd w
  · exact linkSwitch_err c h V b d0 d1 dead0 broken0 dead1 broken1 w

set_option maxRecDepth 100000 in
theorem linkSwitch_lifted (os : Os) (started : os.Started) (H : Type) (enc : TypeId × Value → H) :
    ReturnsInHanded {} Try.checked os 5 .any (Rows.linkSwitchSpec.pre6 enc Try.prog Try.f5 Rows.linkSwitchRow.domain false) (Rows.linkSwitchSpec.post enc Try.prog Try.f5 false true false false) := by
  refine lift (C := Try.checked) (s := Rows.linkSwitchSpec) 4 Try.own started (by kernel_rfl) Try.func5 Try.laidOut rfl rfl Try.underlying4 (by kernel_rfl)
    (fun ds hds => by
      have hl : ds.length = 3 := hds
      match ds, hl with
      | [_, _, _], _ => rfl)
    (ChangeSpec.witness6 (enc := enc) (C := Try.checked) false ⟨#[], #[.agg #[.int .i64 0, .int .i64 0, .int .i64 0, .int .i64 0, .int .i64 0, .int .i64 0, .int .i64 0, .int .i64 0], .agg #[.int .i64 0, .bool false], .agg #[.int .i64 0, .bool false, .bool false, .int .i64 0, .bool false, .bool false]], []⟩ 8 (by kernel_rfl) (by kernel_rfl) (by kernel_rfl) (by kernel_rfl)) ?_
  intro W base args ds p hval0 hA0
  have hval : ∀ (j : Nat) t v, Try.f5.params[j]? = some t → args[j]? = some v → Value.okWide Try.prog W .any base t v := hval0
  have hA : DataW.TrodAll enc Try.prog W 0 (fun _ => true) true Try.f5.params.toList args.toList ds p := hA0
  clear hval0 hA0
  rw [Try.params5] at hA hval
  obtain ⟨v0, vs0, d0, ds0, p0, q0, hargs, rfl, rfl, h0, r0⟩ := trodAll_cons hA
  obtain ⟨v1, vs1, d1, ds1, p1, q1, rfl, rfl, rfl, h1, r1⟩ := trodAll_cons r0
  obtain ⟨v2, vs2, d2, ds2, p2, q2, rfl, rfl, rfl, h2, r2⟩ := trodAll_cons r1
  obtain ⟨rfl, rfl, rfl⟩ := trodAll_nil r2
  obtain rfl : args = #[v0, v1, v2] := by cases args; simp_all
  obtain ⟨l0, rfl, g0⟩ := arg_struct 4 Try.underlying23 (ks := [some .i64, some .i64, some .i64, some .i64, some .i64, some .i64, some .i64, some .i64]) (by kernel_rfl) (hval 0 23 v0 rfl rfl) h0
  obtain ⟨_, _, rfl, ⟨a0, rfl, wa0⟩, g0x0⟩ := g0
  obtain ⟨_, _, rfl, ⟨a1, rfl, wa1⟩, g0x1⟩ := g0x0
  obtain ⟨_, _, rfl, ⟨a2, rfl, wa2⟩, g0x2⟩ := g0x1
  obtain ⟨_, _, rfl, ⟨a3, rfl, wa3⟩, g0x3⟩ := g0x2
  obtain ⟨_, _, rfl, ⟨a4, rfl, wa4⟩, g0x4⟩ := g0x3
  obtain ⟨_, _, rfl, ⟨a5, rfl, wa5⟩, g0x5⟩ := g0x4
  obtain ⟨_, _, rfl, ⟨a6, rfl, wa6⟩, g0x6⟩ := g0x5
  obtain ⟨_, _, rfl, ⟨a7, rfl, wa7⟩, g0x7⟩ := g0x6
  simp only [Fits] at g0x7
  subst g0x7
  obtain ⟨l1, rfl, g1⟩ := arg_struct 4 Try.underlying25 (ks := [some .i64, none]) (by kernel_rfl) (hval 1 25 v1 rfl rfl) h1
  obtain ⟨_, _, rfl, ⟨s0, rfl, ws0⟩, g1x0⟩ := g1
  obtain ⟨_, _, rfl, ⟨s1, rfl⟩, g1x1⟩ := g1x0
  simp only [Fits] at g1x1
  subst g1x1
  obtain ⟨l2, rfl, g2⟩ := arg_array 4 Try.underlying40 (ks := [some .i64, none, none, some .i64, none, none]) (by kernel_rfl) (hval 2 40 v2 rfl rfl) h2
  obtain ⟨_, _, rfl, ⟨x0, rfl, wx0⟩, g2x0⟩ := g2
  obtain ⟨_, _, rfl, ⟨x1, rfl⟩, g2x1⟩ := g2x0
  obtain ⟨_, _, rfl, ⟨x2, rfl⟩, g2x2⟩ := g2x1
  obtain ⟨_, _, rfl, ⟨x3, rfl, wx3⟩, g2x3⟩ := g2x2
  obtain ⟨_, _, rfl, ⟨x4, rfl⟩, g2x4⟩ := g2x3
  obtain ⟨_, _, rfl, ⟨x5, rfl⟩, g2x5⟩ := g2x4
  simp only [Fits] at g2x5
  subst g2x5
  exact linkSwitch_walk ⟨a0, a1, a2, a3, a4, a5, a6, a7⟩ s0 s1 x0 x3 x1 x2 x4 x5 W

theorem linkSwitch_over : Rows.linkSwitchRow.holds Try.pinned (OpenSpec.ofChange Rows.linkSwitchSpec) :=
  OpenClaim.holds_of_wide 5 Try.f5 rfl rfl rfl rfl rfl rfl rfl ⟨rfl, rfl, rfl, rfl, rfl⟩ rfl rfl rfl rfl rfl (by kernel_rfl) Try.func5 (by kernel_rfl)
    (of_decide_eq_true (by kernel_rfl)) (by unfold Func.isWrapper; first | (rw [if_pos (by decide +kernel)]; kernel_rfl) | (rw [if_neg (by decide +kernel)]; exact ⟨rfl, rfl⟩))
    (fun os started H enc _ => linkSwitch_lifted os started H enc)

theorem linkSwitch_holds : Rows.LinkSwitchSaid := linkSwitch_over
#print axioms linkSwitch_holds
end Go.Proofs.Ytahhebeceehbeaa

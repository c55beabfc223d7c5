/- LinkCeils holds: as long as the resistor works and can take what is returned, the voltage never exceeds its value at the beginning and Ceiling. No condition. -/
import Derived.Test.YtahhebeceehbeaaRows
import Derived.Test.YtahhebeceehbeaaFlat
import Derived.Test.YtahhebeceehbeaaLinkG
import Derived.Deep.RegionHeld3
namespace Go.Proofs.Ytahhebeceehbeaa
open Go.RowKit LM Flat Go.ChangeShapes

/-- What holds at each head of the second loop: the configuration, the voltage at the beginning and the state in their boxes, and all old memory as it was. -/
def CeilRel (c : Cfg) (v0 m : Int) (w : World) (tb : Nat) (wr : World) : Prop := ∃ (V : Int) (b : Bool), (0 ≤ V ∧ V ≤ 1048576 ∧ V ≤ max v0 m) ∧ (wr.cell? ⟨w.heap.size, 0, none⟩ = some (.int .i64 c.num) ∧ wr.cell? ⟨w.heap.size, 1, none⟩ = some (.int .i64 c.den) ∧ wr.cell? ⟨w.heap.size, 2, none⟩ = some (.int .i64 c.supply) ∧ wr.cell? ⟨w.heap.size, 3, none⟩ = some (.int .i64 c.feed) ∧ wr.cell? ⟨w.heap.size, 4, none⟩ = some (.int .i64 c.ohm) ∧ wr.cell? ⟨w.heap.size, 5, none⟩ = some (.int .i64 c.on) ∧ wr.cell? ⟨w.heap.size, 6, none⟩ = some (.int .i64 c.off) ∧ wr.cell? ⟨w.heap.size, 7, none⟩ = some (.int .i64 c.bohm)) ∧ wr.cell? ⟨w.heap.size + 1, 0, none⟩ = some (.int .i64 v0) ∧
  (wr.cell? ⟨tb, 0, none⟩ = some (.int .i64 V) ∧ wr.cell? ⟨tb, 1, none⟩ = some (.bool b)) ∧ (∀ o, wr.frozen? ⟨tb, o, none⟩ = false) ∧ Below w.heap.size w wr ∧ tb < wr.heap.size

set_option maxHeartbeats 8000000 in
theorem linkCeils_ok (c : Cfg) (h : c.Ok) (V : Int) (b : Bool) (sb so len cap : Nat) (hl : len ≤ 200) (hcap : len ≤ cap) (dr : Nat → Int) (de br : Nat → Bool) (w : World) (hs : Script w sb so len dr de br) (hsb : sb < w.heap.size) :
    Calls Try.prog 8 #[.agg #[.int .i64 c.num, .int .i64 c.den, .int .i64 c.supply, .int .i64 c.feed, .int .i64 c.ohm, .int .i64 c.on, .int .i64 c.off, .int .i64 c.bohm], .agg #[.int .i64 V, .bool b], .slice (some ⟨sb, so, none⟩) len cap] w fun e w' => e = .returned (.bool true) ∧ Below w.heap.size w w' := by
  have HV := hide (fun W => valid_ok c h (some ⟨sb, so, none⟩) len cap hl W)
  obtain ⟨v0, v1⟩ := vclip_bd V
  have HH := hide h
  have HS := hide hs
  clear h hs
  go_enter Try.func8, Try.ntmps8
  go_wp2_with (first
    | (go_at_call 11; refine (awake_any _).mono ?_; rintro e w1 ⟨rfl, hb1⟩; have z1 := hb1.size; (try simp at z1); have c1x0 := bstep (b := w.heap.size) hb1 (by first | omega | (simp <;> omega)); have y1x0 : w.heap.size < w1.heap.size := (by omega); have c1x1 := bstep (b := w.heap.size + 1) hb1 (by first | omega | (simp <;> omega)); have y1x1 : w.heap.size + 1 < w1.heap.size := (by omega); have f1x0 := bfro (b := w.heap.size) hb1 (by first | omega | (simp <;> omega)); have f1x1 := bfro (b := w.heap.size + 1) hb1 (by first | omega | (simp <;> omega)))
    | (go_at_call 24; refine (HV.out _).mono ?_; rintro e w2 ⟨rfl, hb2⟩; have z2 := hb2.size; (try simp at z2); have c2x0 := bstep (b := w.heap.size) hb2 (by first | omega | (simp <;> omega)); have y2x0 : w.heap.size < w2.heap.size := (by omega); have c2x1 := bstep (b := w.heap.size + 1) hb2 (by first | omega | (simp <;> omega)); have y2x1 : w.heap.size + 1 < w2.heap.size := (by omega); have f2x0 := bfro (b := w.heap.size) hb2 (by first | omega | (simp <;> omega)); have f2x1 := bfro (b := w.heap.size + 1) hb2 (by first | omega | (simp <;> omega)))
    | (go_at_call 17; refine (bclip_v _ _).mono ?_; rintro e w8 ⟨rfl, rfl⟩))
  have H1 : Below w.heap.size w w1 := (((Below.refl _ _).alloc (Nat.le_refl _) _).alloc (by first | omega | (simp <;> omega)) _).trans (hb1.mono (by first | omega | (simp <;> omega)))
  have H2 : Below w.heap.size w w2 := H1.trans (hb2.mono (by first | omega | (simp <;> omega)))
  have hsc : ∀ i, i < len → w2.cell? ⟨sb, so + i * 3, none⟩ = some (.int .i64 (dr i)) := fun i hi => (H2.cell (p := ⟨sb, so + i * 3, none⟩) hsb).trans (HS.out i hi).1
  have HSC := hide hsc
  clear hsc
  have hsb1 : ¬ w.heap.size + 1 = sb := by omega
  have hsb2 : ¬ sb = w.heap.size + 1 := by omega
  go_loop [7, 8] (fun bk i => ∃ k : Nat, k ≤ len ∧ i = .int .i64 k ∧ bk = .int .i64 (backN dr k)) (fun _ i => len - (intOf i).toNat)
  case atStart => exact ⟨0, Nat.zero_le _, rfl, rfl⟩
  case round =>
    obtain ⟨k, hk, rfl, rfl⟩ := hrel
    obtain ⟨q0, q1⟩ := backN_bd dr k
    by_cases hlt : k < len
    · have hc := HSC.out k hlt
      obtain ⟨d0, d1⟩ := dclip_bd (dr k)
      have i1 : (0 : Int) ≤ (k : Int) := by omega
      have i2 : (k : Int) < (len : Int) := by omega
      go_wp2_with (go_at_call 17; refine (bclip_d _ _).mono ?_; rintro e w8 ⟨rfl, rfl⟩)
      go_round
      case rel => exact ⟨k + 1, by omega, by go_num, congrArg (Value.int .i64) (by simp only [backN]; omega)⟩
      case measure => simp [intOf]; omega
    · have e : k = len := by omega
      subst e
      clear hlt hk
      cases hh : holdsB c (backN dr k) with
      | false =>
        have HO := holds_ok c HH.out (backN dr k) q0 q1
        rw [hh] at HO
        have HO := hide HO
        clear hh
        go_wp2_with (go_at_call 19; refine (HO.out _).mono ?_; rintro e w3 ⟨rfl, hb3⟩; have z3 := hb3.size; (try simp at z3); have c3x0 := bstep (b := w.heap.size) hb3 (by first | omega | (simp <;> omega)); have y3x0 : w.heap.size < w3.heap.size := (by omega); have c3x1 := bstep (b := w.heap.size + 1) hb3 (by first | omega | (simp <;> omega)); have y3x1 : w.heap.size + 1 < w3.heap.size := (by omega); have f3x0 := bfro (b := w.heap.size) hb3 (by first | omega | (simp <;> omega)); have f3x1 := bfro (b := w.heap.size + 1) hb3 (by first | omega | (simp <;> omega)))
        go_ret
        exact ⟨rfl, (H2.setCell (by simp <;> omega) _).trans (hb3.mono (by simp <;> omega))⟩
      | true =>
        have HO := holds_ok c HH.out (backN dr k) q0 q1
        have HE := hide (ceiling_ok c HH.out (backN dr k) q0 q1 hh)
        rw [hh] at HO
        have HO := hide HO
        have HHH := hide hh
        clear hh
        go_wp2_with (first
    | (go_at_call 19; refine (HO.out _).mono ?_; rintro e w3 ⟨rfl, hb3⟩; have z3 := hb3.size; (try simp at z3); have c3x0 := bstep (b := w.heap.size) hb3 (by first | omega | (simp <;> omega)); have y3x0 : w.heap.size < w3.heap.size := (by omega); have c3x1 := bstep (b := w.heap.size + 1) hb3 (by first | omega | (simp <;> omega)); have y3x1 : w.heap.size + 1 < w3.heap.size := (by omega); have f3x0 := bfro (b := w.heap.size) hb3 (by first | omega | (simp <;> omega)); have f3x1 := bfro (b := w.heap.size + 1) hb3 (by first | omega | (simp <;> omega)))
    | (go_at_call 20; refine (HE.out _).mono ?_; rintro e w4 ⟨rfl, hb4⟩; have z4 := hb4.size; (try simp at z4); have c4x0 := bstep (b := w.heap.size) hb4 (by first | omega | (simp <;> omega)); have y4x0 : w.heap.size < w4.heap.size := (by omega); have c4x1 := bstep (b := w.heap.size + 1) hb4 (by first | omega | (simp <;> omega)); have y4x1 : w.heap.size + 1 < w4.heap.size := (by omega); have f4x0 := bfro (b := w.heap.size) hb4 (by first | omega | (simp <;> omega)); have f4x1 := bfro (b := w.heap.size + 1) hb4 (by first | omega | (simp <;> omega))))
        have H4 : Below w.heap.size w w4 := by
          have h3 : Below w.heap.size w w3 := (H2.setCell (by simp <;> omega) _).trans (hb3.mono (by simp <;> omega))
          exact h3.trans (hb4.mono (by first | omega | (simp <;> omega)))
        have zz : w.heap.size + 1 < w4.heap.size := by omega
        go_loopw [13] (fun i wr => ∃ j : Nat, j ≤ k ∧ i = .int .i64 j ∧ CeilRel c (vclip V) (ceil c (backN dr k)) w w4.heap.size wr) (fun i _ => k - (intOf i).toNat)
        case atStart =>
          refine ⟨0, Nat.zero_le _, rfl, vclip V, b, ⟨v0, v1, by omega⟩, ?_, ?_, ?_, ?_, ?_, ?_⟩
          · refine ⟨?_, ?_, ?_, ?_, ?_, ?_, ?_, ?_⟩
            all_goals go_simp
          · go_simp
          · refine ⟨?_, ?_⟩
            all_goals go_simp
          · intro o
            go_simp
          · exact (by repeat (first | with_reducible assumption | with_reducible refine Below.drew ?_ | with_reducible refine below_drewN ?_ _ | with_reducible refine Below.alloc ?_ (by first | omega | (simp <;> omega)) _ | with_reducible refine Below.setCell ?_ (by first | omega | (simp <;> omega)) _ | with_reducible exact Below.refl _ _))
          · simp <;> omega
        case round =>
          obtain ⟨j, hj, rfl, V1, b1, ⟨hV0, hV1, hVM⟩, ⟨a0, a1, a2, a3, a4, a5, a6, a7⟩, s0, ⟨t0, t1⟩, tf, HW, hsz⟩ := hrel
          have htw : ¬ w4.heap.size = w.heap.size := by omega
          have htw1 : ¬ w4.heap.size = w.heap.size + 1 := by omega
          have hwt0 : ¬ w.heap.size = w4.heap.size := by omega
          have hwt1 : ¬ w.heap.size + 1 = w4.heap.size := by omega
          have yr0 : w.heap.size < wr.heap.size := by omega
          have yr1 : w.heap.size + 1 < wr.heap.size := by omega
          have nr0 : ¬ w.heap.size = wr.heap.size := by omega
          have nr1 : ¬ w.heap.size + 1 = wr.heap.size := by omega
          have nr2 : ¬ w4.heap.size = wr.heap.size := by omega
          have nr3 : ¬ wr.heap.size = w4.heap.size := by omega
          clear c1x0 c1x1 c2x0 c2x1 c3x0 c3x1 c4x0 c4x1 f1x0 f1x1 f2x0 f2x1 f3x0 f3x1 f4x0 f4x1 H1 H2 H4 hb1 hb2 hb3 hb4 z1 z2 z3 y1x0 y1x1 y2x0 y2x1 y3x0 y3x1 y4x0 y4x1 HSC HV HO HE
          by_cases hlt : j < k
          · obtain ⟨h0, h1, h2⟩ := HS.out j hlt
            have hx0 := (HW.cell (p := ⟨sb, so + j * 3, none⟩) hsb).trans h0
            have hx1 := (HW.cell (p := ⟨sb, so + j * 3 + 1, none⟩) hsb).trans h1
            have hx2 := (HW.cell (p := ⟨sb, so + j * 3 + 2, none⟩) hsb).trans h2
            clear h0 h1 h2
            have i1 : (0 : Int) ≤ (j : Int) := by omega
            have i2 : (j : Int) < (k : Int) := by omega
            have hrng := HH.out.rng
            have hu := ceil_step hrng HH.out.ord HH.out.lim hV0 hV1 b1 (backN_ge dr hlt) q0 HHH.out hVM (de j)
            have hbd := stepV_bd c V1 b1 (dr j) (de j) false
            have HT := step_ok c HH.out V1 (dr j) b1 (de j) false
            generalize stepV c V1 b1 (dr j) (de j) false = X at hu hbd HT
            generalize stepB c V1 b1 = B at HT
            obtain ⟨X0, X1⟩ := hbd
            have HT := hide HT
            clear hrng
            go_wp2_with (go_at_call 12; refine (HT.out _).mono ?_; rintro e w5 ⟨rfl, hb5⟩; have z5 := hb5.size; (try simp at z5); have c5x0 := bstep (b := w.heap.size) hb5 (by first | omega | (simp <;> omega)); have y5x0 : w.heap.size < w5.heap.size := (by omega); have c5x1 := bstep (b := w.heap.size + 1) hb5 (by first | omega | (simp <;> omega)); have y5x1 : w.heap.size + 1 < w5.heap.size := (by omega); have c5x2 := bstep (b := w4.heap.size) hb5 (by first | omega | (simp <;> omega)); have y5x2 : w4.heap.size < w5.heap.size := (by omega); have f5x0 := bfro (b := w4.heap.size) hb5 (by first | omega | (simp <;> omega)))
            go_roundw
            case rel =>
              refine ⟨j + 1, by omega, by go_num, X, B, ⟨X0, X1, hu⟩, ?_, ?_, ?_, ?_, ?_, ?_⟩
              · refine ⟨?_, ?_, ?_, ?_, ?_, ?_, ?_, ?_⟩
                all_goals go_simp
              · go_simp
              · refine ⟨?_, ?_⟩
                all_goals go_simp
              · intro o
                go_simp
              · have H5 : Below w.heap.size w w5 := (HW.alloc (by omega) _).trans (hb5.mono (by simp <;> omega))
                exact (by repeat (first | with_reducible assumption | with_reducible refine Below.drew ?_ | with_reducible refine below_drewN ?_ _ | with_reducible refine Below.alloc ?_ (by first | omega | (simp <;> omega)) _ | with_reducible refine Below.setCell ?_ (by first | omega | (simp <;> omega)) _ | with_reducible exact Below.refl _ _))
              · simp <;> omega
            case measure => simp [intOf]; omega
          · have e : j = k := by omega
            subst e
            go_wp2
            go_ret
            exact ⟨rfl, HW⟩
set_option maxHeartbeats 8000000 in
theorem linkCeils_nil (c : Cfg) (h : c.Ok) (V : Int) (b : Bool) (a : Option Addr) (cap : Nat) (w : World) :
    Calls Try.prog 8 #[.agg #[.int .i64 c.num, .int .i64 c.den, .int .i64 c.supply, .int .i64 c.feed, .int .i64 c.ohm, .int .i64 c.on, .int .i64 c.off, .int .i64 c.bohm], .agg #[.int .i64 V, .bool b], .slice a 0 cap] w fun e w' => e = .returned (.bool true) ∧ Below w.heap.size w w' := by
  have HV := hide (fun W => valid_ok c h a 0 cap (by omega) W)
  obtain ⟨v0, v1⟩ := vclip_bd V
  have HH := hide h
  clear h
  go_enter Try.func8, Try.ntmps8
  go_wp2_with (first
    | (go_at_call 11; refine (awake_any _).mono ?_; rintro e w1 ⟨rfl, hb1⟩; have z1 := hb1.size; (try simp at z1); have c1x0 := bstep (b := w.heap.size) hb1 (by first | omega | (simp <;> omega)); have y1x0 : w.heap.size < w1.heap.size := (by omega); have c1x1 := bstep (b := w.heap.size + 1) hb1 (by first | omega | (simp <;> omega)); have y1x1 : w.heap.size + 1 < w1.heap.size := (by omega); have f1x0 := bfro (b := w.heap.size) hb1 (by first | omega | (simp <;> omega)); have f1x1 := bfro (b := w.heap.size + 1) hb1 (by first | omega | (simp <;> omega)))
    | (go_at_call 24; refine (HV.out _).mono ?_; rintro e w2 ⟨rfl, hb2⟩; have z2 := hb2.size; (try simp at z2); have c2x0 := bstep (b := w.heap.size) hb2 (by first | omega | (simp <;> omega)); have y2x0 : w.heap.size < w2.heap.size := (by omega); have c2x1 := bstep (b := w.heap.size + 1) hb2 (by first | omega | (simp <;> omega)); have y2x1 : w.heap.size + 1 < w2.heap.size := (by omega); have f2x0 := bfro (b := w.heap.size) hb2 (by first | omega | (simp <;> omega)); have f2x1 := bfro (b := w.heap.size + 1) hb2 (by first | omega | (simp <;> omega)))
    | (go_at_call 17; refine (bclip_v _ _).mono ?_; rintro e w8 ⟨rfl, rfl⟩))
  have H1 : Below w.heap.size w w1 := (((Below.refl _ _).alloc (Nat.le_refl _) _).alloc (by first | omega | (simp <;> omega)) _).trans (hb1.mono (by first | omega | (simp <;> omega)))
  have H2 : Below w.heap.size w w2 := H1.trans (hb2.mono (by first | omega | (simp <;> omega)))
  go_loop [7, 8] (fun bk i => ∃ k : Nat, k ≤ 0 ∧ i = .int .i64 k ∧ bk = .int .i64 0) (fun _ i => 0 - (intOf i).toNat)
  case atStart => exact ⟨0, Nat.zero_le _, rfl, rfl⟩
  case round =>
    obtain ⟨k, hk, rfl, rfl⟩ := hrel
    obtain rfl : k = 0 := by omega
    clear hk
    cases hh : holdsB c 0 with
    | false =>
      have HO := holds_ok c HH.out 0 (by omega) (by omega)
      rw [hh] at HO
      have HO := hide HO
      clear hh
      go_wp2_with (go_at_call 19; refine (HO.out _).mono ?_; rintro e w3 ⟨rfl, hb3⟩; have z3 := hb3.size; (try simp at z3); have c3x0 := bstep (b := w.heap.size) hb3 (by first | omega | (simp <;> omega)); have y3x0 : w.heap.size < w3.heap.size := (by omega); have c3x1 := bstep (b := w.heap.size + 1) hb3 (by first | omega | (simp <;> omega)); have y3x1 : w.heap.size + 1 < w3.heap.size := (by omega); have f3x0 := bfro (b := w.heap.size) hb3 (by first | omega | (simp <;> omega)); have f3x1 := bfro (b := w.heap.size + 1) hb3 (by first | omega | (simp <;> omega)))
      go_ret
      exact ⟨rfl, (H2.setCell (by simp <;> omega) _).trans (hb3.mono (by simp <;> omega))⟩
    | true =>
      have HO := holds_ok c HH.out 0 (by omega) (by omega)
      have HE := hide (ceiling_ok c HH.out 0 (by omega) (by omega) hh)
      rw [hh] at HO
      have HO := hide HO
      have HHH := hide hh
      clear hh
      go_wp2_with (first
    | (go_at_call 19; refine (HO.out _).mono ?_; rintro e w3 ⟨rfl, hb3⟩; have z3 := hb3.size; (try simp at z3); have c3x0 := bstep (b := w.heap.size) hb3 (by first | omega | (simp <;> omega)); have y3x0 : w.heap.size < w3.heap.size := (by omega); have c3x1 := bstep (b := w.heap.size + 1) hb3 (by first | omega | (simp <;> omega)); have y3x1 : w.heap.size + 1 < w3.heap.size := (by omega); have f3x0 := bfro (b := w.heap.size) hb3 (by first | omega | (simp <;> omega)); have f3x1 := bfro (b := w.heap.size + 1) hb3 (by first | omega | (simp <;> omega)))
    | (go_at_call 20; refine (HE.out _).mono ?_; rintro e w4 ⟨rfl, hb4⟩; have z4 := hb4.size; (try simp at z4); have c4x0 := bstep (b := w.heap.size) hb4 (by first | omega | (simp <;> omega)); have y4x0 : w.heap.size < w4.heap.size := (by omega); have c4x1 := bstep (b := w.heap.size + 1) hb4 (by first | omega | (simp <;> omega)); have y4x1 : w.heap.size + 1 < w4.heap.size := (by omega); have f4x0 := bfro (b := w.heap.size) hb4 (by first | omega | (simp <;> omega)); have f4x1 := bfro (b := w.heap.size + 1) hb4 (by first | omega | (simp <;> omega))))
      have H4 : Below w.heap.size w w4 := by
        have h3 : Below w.heap.size w w3 := (H2.setCell (by simp <;> omega) _).trans (hb3.mono (by simp <;> omega))
        exact h3.trans (hb4.mono (by first | omega | (simp <;> omega)))
      have zz : w.heap.size + 1 < w4.heap.size := by omega
      go_loopw [13] (fun i wr => ∃ j : Nat, j ≤ 0 ∧ i = .int .i64 j ∧ CeilRel c (vclip V) (ceil c 0) w w4.heap.size wr) (fun i _ => 0 - (intOf i).toNat)
      case atStart =>
        refine ⟨0, Nat.zero_le _, rfl, vclip V, b, ⟨v0, v1, by omega⟩, ?_, ?_, ?_, ?_, ?_, ?_⟩
        · refine ⟨?_, ?_, ?_, ?_, ?_, ?_, ?_, ?_⟩
          all_goals go_simp
        · go_simp
        · refine ⟨?_, ?_⟩
          all_goals go_simp
        · intro o
          go_simp
        · exact (by repeat (first | with_reducible assumption | with_reducible refine Below.drew ?_ | with_reducible refine below_drewN ?_ _ | with_reducible refine Below.alloc ?_ (by first | omega | (simp <;> omega)) _ | with_reducible refine Below.setCell ?_ (by first | omega | (simp <;> omega)) _ | with_reducible exact Below.refl _ _))
        · simp <;> omega
      case round =>
        obtain ⟨j, hj, rfl, V1, b1, ⟨hV0, hV1, hVM⟩, ⟨a0, a1, a2, a3, a4, a5, a6, a7⟩, s0, ⟨t0, t1⟩, tf, HW, hsz⟩ := hrel
        have htw : ¬ w4.heap.size = w.heap.size := by omega
        have htw1 : ¬ w4.heap.size = w.heap.size + 1 := by omega
        have hwt0 : ¬ w.heap.size = w4.heap.size := by omega
        have hwt1 : ¬ w.heap.size + 1 = w4.heap.size := by omega
        have yr0 : w.heap.size < wr.heap.size := by omega
        have yr1 : w.heap.size + 1 < wr.heap.size := by omega
        have nr0 : ¬ w.heap.size = wr.heap.size := by omega
        have nr1 : ¬ w.heap.size + 1 = wr.heap.size := by omega
        have nr2 : ¬ w4.heap.size = wr.heap.size := by omega
        have nr3 : ¬ wr.heap.size = w4.heap.size := by omega
        clear c1x0 c1x1 c2x0 c2x1 c3x0 c3x1 c4x0 c4x1 f1x0 f1x1 f2x0 f2x1 f3x0 f3x1 f4x0 f4x1 H1 H2 H4 hb1 hb2 hb3 hb4 z1 z2 z3 y1x0 y1x1 y2x0 y2x1 y3x0 y3x1 y4x0 y4x1 HV HO HE
        obtain rfl : j = 0 := by omega
        clear hj
        go_wp2
        go_ret
        exact ⟨rfl, HW⟩
set_option maxHeartbeats 2000000 in
theorem linkCeils_err (c : Cfg) (V : Int) (b : Bool) (a : Option Addr) (len cap : Nat) (h : c.code ≠ 0) (w : World) :
    Calls Try.prog 8 #[.agg #[.int .i64 c.num, .int .i64 c.den, .int .i64 c.supply, .int .i64 c.feed, .int .i64 c.ohm, .int .i64 c.on, .int .i64 c.off, .int .i64 c.bohm], .agg #[.int .i64 V, .bool b], .slice a len cap] w fun e w' => e = .returned (.bool true) ∧ Below w.heap.size w w' := by
  have HK := hide (fun W => valid_err c h a len cap W)
  clear h
  go_enter Try.func8, Try.ntmps8
  go_wp2_with fail
  refine (awake_any _).mono ?_
  rintro e w1 ⟨rfl, hb1⟩
  have z1 := hb1.size
  try simp at z1
  have c1x0 := bstep (b := w.heap.size) hb1 (by first | omega | (simp <;> omega))
  have y1x0 : w.heap.size < w1.heap.size := (by omega)
  have c1x1 := bstep (b := w.heap.size + 1) hb1 (by first | omega | (simp <;> omega))
  have y1x1 : w.heap.size + 1 < w1.heap.size := (by omega)
  go_wp2_with (go_at_call 24; refine (HK.out _).mono ?_; rintro e w2 ⟨rfl, hb2⟩; have z2 := hb2.size; (try simp at z2); have c2x0 := bstep (b := w.heap.size) hb2 (by first | omega | (simp <;> omega)); have y2x0 : w.heap.size < w2.heap.size := (by omega); have c2x1 := bstep (b := w.heap.size + 1) hb2 (by first | omega | (simp <;> omega)); have y2x1 : w.heap.size + 1 < w2.heap.size := (by omega))
  refine (awake_any _).mono ?_
  rintro e w3 ⟨rfl, hb3⟩
  go_wp2
  go_ret
  have H1 : Below w.heap.size w w1 := (((Below.refl _ _).alloc (Nat.le_refl _) _).alloc (by first | omega | (simp <;> omega)) _).trans (hb1.mono (by first | omega | (simp <;> omega)))
  have H2 : Below w.heap.size w w2 := H1.trans (hb2.mono (by first | omega | (simp <;> omega)))
  have H3 : Below w.heap.size w w3 := H2.trans (hb3.mono (by first | omega | (simp <;> omega)))
  exact ⟨rfl, H3⟩

set_option maxHeartbeats 2000000 in
theorem linkCeils_long (c : Cfg) (V : Int) (b : Bool) (a : Option Addr) (len cap : Nat) (h : 200 < len) (w : World) :
    Calls Try.prog 8 #[.agg #[.int .i64 c.num, .int .i64 c.den, .int .i64 c.supply, .int .i64 c.feed, .int .i64 c.ohm, .int .i64 c.on, .int .i64 c.off, .int .i64 c.bohm], .agg #[.int .i64 V, .bool b], .slice a len cap] w fun e w' => e = .returned (.bool true) ∧ Below w.heap.size w w' := by
  have HK := hide (fun W => valid_long c a len cap h W)
  clear h
  go_enter Try.func8, Try.ntmps8
  go_wp2_with fail
  refine (awake_any _).mono ?_
  rintro e w1 ⟨rfl, hb1⟩
  have z1 := hb1.size
  try simp at z1
  have c1x0 := bstep (b := w.heap.size) hb1 (by first | omega | (simp <;> omega))
  have y1x0 : w.heap.size < w1.heap.size := (by omega)
  have c1x1 := bstep (b := w.heap.size + 1) hb1 (by first | omega | (simp <;> omega))
  have y1x1 : w.heap.size + 1 < w1.heap.size := (by omega)
  go_wp2_with (go_at_call 24; refine (HK.out _).mono ?_; rintro e w2 ⟨rfl, hb2⟩; have z2 := hb2.size; (try simp at z2); have c2x0 := bstep (b := w.heap.size) hb2 (by first | omega | (simp <;> omega)); have y2x0 : w.heap.size < w2.heap.size := (by omega); have c2x1 := bstep (b := w.heap.size + 1) hb2 (by first | omega | (simp <;> omega)); have y2x1 : w.heap.size + 1 < w2.heap.size := (by omega))
  refine (awake_any _).mono ?_
  rintro e w3 ⟨rfl, hb3⟩
  go_wp2
  go_ret
  have H1 : Below w.heap.size w w1 := (((Below.refl _ _).alloc (Nat.le_refl _) _).alloc (by first | omega | (simp <;> omega)) _).trans (hb1.mono (by first | omega | (simp <;> omega)))
  have H2 : Below w.heap.size w w2 := H1.trans (hb2.mono (by first | omega | (simp <;> omega)))
  have H3 : Below w.heap.size w w3 := H2.trans (hb3.mono (by first | omega | (simp <;> omega)))
  exact ⟨rfl, H3⟩

theorem linkCeils_walk (c : Cfg) (V : Int) (b : Bool) (a : Option Addr) (len cap : Nat) (w : World) (hs : len = 0 ∨ ∃ sb so dr de br, a = some ⟨sb, so, none⟩ ∧ len ≤ cap ∧ sb < w.heap.size ∧ Script w sb so len dr de br) :
    Calls Try.prog 8 #[.agg #[.int .i64 c.num, .int .i64 c.den, .int .i64 c.supply, .int .i64 c.feed, .int .i64 c.ohm, .int .i64 c.on, .int .i64 c.off, .int .i64 c.bohm], .agg #[.int .i64 V, .bool b], .slice a len cap] w fun e w' => e = .returned (.bool true) ∧ Below w.heap.size w w' := by
  by_cases h : c.code = 0
  · by_cases hl : len ≤ 200
    · rcases hs with rfl | ⟨sb, so, dr, de, br, rfl, hcap, hsb, hs⟩
      · exact linkCeils_nil c (Cfg.ok_of_code h) V b a cap w
      · exact linkCeils_ok c (Cfg.ok_of_code h) V b sb so len cap hl hcap dr de br w hs hsb
    · exact linkCeils_long c V b a len cap (by omega) w
  · exact linkCeils_err c V b a len cap h w

set_option maxRecDepth 100000 in
theorem linkCeils_lifted (os : Os) (started : os.Started) (H : Type) (enc : TypeId × Value → H) :
    ReturnsInHanded {} Try.checked os 8 .any (Rows.linkCeilsSpec.pre6 enc Try.prog Try.f8 Rows.linkCeilsRow.domain false) (Rows.linkCeilsSpec.post enc Try.prog Try.f8 false true false false) := by
  refine lift (C := Try.checked) (s := Rows.linkCeilsSpec) 4 Try.own started (by kernel_rfl) Try.func8 Try.laidOut rfl rfl Try.underlying4 (by kernel_rfl)
    (fun ds hds => by
      have hl : ds.length = 3 := hds
      match ds, hl with
      | [_, _, _], _ => rfl)
    (ChangeSpec.witness6 (enc := enc) (C := Try.checked) false ⟨#[], #[.agg #[.int .i64 0, .int .i64 0, .int .i64 0, .int .i64 0, .int .i64 0, .int .i64 0, .int .i64 0, .int .i64 0], .agg #[.int .i64 0, .bool false], .slice none 0 0], []⟩ 8 (by kernel_rfl) (by kernel_rfl) (by kernel_rfl) (by kernel_rfl)) ?_
  intro W base args ds p hval0 hA0
  have hval : ∀ (j : Nat) t v, Try.f8.params[j]? = some t → args[j]? = some v → Value.okWide Try.prog W .any base t v := hval0
  have hA : DataW.TrodAll enc Try.prog W 0 (fun _ => true) true Try.f8.params.toList args.toList ds p := hA0
  clear hval0 hA0
  rw [Try.params8] at hA hval
  obtain ⟨v0, vs0, d0, ds0, p0, q0, hargs, rfl, rfl, h0, r0⟩ := trodAll_cons hA
  obtain ⟨v1, vs1, d1, ds1, p1, q1, rfl, rfl, rfl, h1, r1⟩ := trodAll_cons r0
  obtain ⟨v2, vs2, d2, ds2, p2, q2, rfl, rfl, rfl, h2, r2⟩ := trodAll_cons r1
  obtain ⟨rfl, rfl, rfl⟩ := trodAll_nil r2
  obtain rfl : args = #[v0, v1, v2] := by cases args; simp_all
  obtain ⟨l0, rfl, g0⟩ := arg_struct 4 Try.underlying23 (ks := [some .i64, some .i64, some .i64, some .i64, some .i64, some .i64, some .i64, some .i64]) (by kernel_rfl) (hval 0 23 v0 rfl rfl) h0
  obtain ⟨_, _, rfl, ⟨a0, rfl, wa0⟩, g0x0⟩ := g0
  obtain ⟨_, _, rfl, ⟨a1, rfl, wa1⟩, g0x1⟩ := g0x0
  obtain ⟨_, _, rfl, ⟨a2, rfl, wa2⟩, g0x2⟩ := g0x1
  obtain ⟨_, _, rfl, ⟨a3, rfl, wa3⟩, g0x3⟩ := g0x2
  obtain ⟨_, _, rfl, ⟨a4, rfl, wa4⟩, g0x4⟩ := g0x3
  obtain ⟨_, _, rfl, ⟨a5, rfl, wa5⟩, g0x5⟩ := g0x4
  obtain ⟨_, _, rfl, ⟨a6, rfl, wa6⟩, g0x6⟩ := g0x5
  obtain ⟨_, _, rfl, ⟨a7, rfl, wa7⟩, g0x7⟩ := g0x6
  simp only [Fits] at g0x7
  subst g0x7
  obtain ⟨l1, rfl, g1⟩ := arg_struct 4 Try.underlying25 (ks := [some .i64, none]) (by kernel_rfl) (hval 1 25 v1 rfl rfl) h1
  obtain ⟨_, _, rfl, ⟨s0, rfl, ws0⟩, g1x0⟩ := g1
  obtain ⟨_, _, rfl, ⟨s1, rfl⟩, g1x1⟩ := g1x0
  simp only [Fits] at g1x1
  subst g1x1
  have hS : ∃ (sa : Option Addr) (len cap : Nat), v2 = .slice sa len cap ∧ (len = 0 ∨ ∃ sb so dr de br, sa = some ⟨sb, so, none⟩ ∧ len ≤ cap ∧ sb < W.heap.size ∧ Script W sb so len dr de br) := by
    rcases arg_slice (ks := [some .i64, none, none]) 4 Try.underlying52 (by kernel_rfl) (by kernel_rfl) (hval 2 52 v2 rfl rfl) h2 with rfl | ⟨a, len, cap, f, rfl, hc, hm, hf⟩
    · exact ⟨none, 0, 0, rfl, .inl rfl⟩
    · refine ⟨some a, len, cap, rfl, ?_⟩
      by_cases hp : 0 < len
      · obtain ⟨sb, so, dr, de, br, rfl, hsb, hs⟩ := script_of hp hf
        exact .inr ⟨sb, so, dr, de, br, rfl, hc, hsb, hs⟩
      · exact .inl (by omega)
  obtain ⟨sa, len, cap, rfl, hS⟩ := hS
  exact linkCeils_walk ⟨a0, a1, a2, a3, a4, a5, a6, a7⟩ s0 s1 sa len cap W hS

theorem linkCeils_over : Rows.linkCeilsRow.holds Try.pinned (OpenSpec.ofChange Rows.linkCeilsSpec) :=
  OpenClaim.holds_of_wide 8 Try.f8 rfl rfl rfl rfl rfl rfl rfl ⟨rfl, rfl, rfl, rfl, rfl⟩ rfl rfl rfl rfl rfl (by kernel_rfl) Try.func8 (by kernel_rfl)
    (of_decide_eq_true (by kernel_rfl)) (by unfold Func.isWrapper; first | (rw [if_pos (by decide +kernel)]; kernel_rfl) | (rw [if_neg (by decide +kernel)]; exact ⟨rfl, rfl⟩))
    (fun os started H enc _ => linkCeils_lifted os started H enc)

theorem linkCeils_holds : Rows.LinkCeilsSaid := linkCeils_over
#print axioms linkCeils_holds
end Go.Proofs.Ytahhebeceehbeaa

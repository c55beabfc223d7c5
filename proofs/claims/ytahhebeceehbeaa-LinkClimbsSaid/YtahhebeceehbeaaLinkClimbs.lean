/- LinkClimbs holds: after any ticks the voltage is at most Climb for the greatest current that was returned, and at least Fall for the greatest one that was drawn. No condition. -/
import Derived.Test.YtahhebeceehbeaaRows
import Derived.Test.YtahhebeceehbeaaFlat
import Derived.Test.YtahhebeceehbeaaLinkF
import Derived.Deep.RegionHeld3
import Derived.Test.YtahhebeceehbeaaLinkG
namespace Go.Proofs.Ytahhebeceehbeaa
open Go.RowKit LM Flat Go.ChangeShapes

def mclip (n : Int) : Int := max 0 (min n 4194304)
theorem bclip_m (n : Int) (w : World) :
    Calls Try.prog 17 #[.int .i64 n, .int .i64 0, .int .i64 4194304] w fun e w' => e = .returned (.int .i64 (mclip n)) ∧ w = w' :=
  (bclip_any n 0 4194304 w).mono fun _ _ ⟨a, b⟩ => ⟨a.trans (ret_int rfl), b⟩
/-- The greatest current that was returned in the first ticks, and the greatest that was drawn. -/
def backC (dr : Nat → Int) : Nat → Int
  | 0 => 0
  | k + 1 => mclip (max (backC dr k) (-(dclip (dr k))))
def drawnC (dr : Nat → Int) : Nat → Int
  | 0 => 0
  | k + 1 => mclip (max (drawnC dr k) (dr k))
theorem backC_bd (dr : Nat → Int) : ∀ k, 0 ≤ backC dr k ∧ backC dr k ≤ 4194304
  | 0 => by simp [backC]
  | k + 1 => by simp only [backC, mclip]; omega
theorem drawnC_bd (dr : Nat → Int) : ∀ k, 0 ≤ drawnC dr k ∧ drawnC dr k ≤ 4194304
  | 0 => by simp [drawnC]
  | k + 1 => by simp only [drawnC, mclip]; omega
theorem backC_up (dr : Nat → Int) (k : Nat) : backC dr k ≤ backC dr (k + 1) ∧ -(dclip (dr k)) ≤ backC dr (k + 1) := by
  have h := backC_bd dr k
  have d := dclip_bd (dr k)
  simp only [backC, mclip]
  omega
theorem drawnC_up (dr : Nat → Int) (k : Nat) : drawnC dr k ≤ drawnC dr (k + 1) ∧ dclip (dr k) ≤ drawnC dr (k + 1) := by
  have h := drawnC_bd dr k
  simp only [drawnC, mclip, dclip]
  omega
theorem climb_zero (c : Cfg) (v : Int) (h : v ≤ 1048576) : v ≤ climb c v 0 (0 : Nat) := by
  unfold climb
  simp only [Int.natCast_zero, Int.zero_mul]
  omega
theorem fall_zero (c : Cfg) (v : Int) (h : 0 ≤ v) : fall c v 0 (0 : Nat) ≤ v := by
  unfold fall
  simp only [Int.natCast_zero, Int.zero_mul]
  omega

/-- What holds at each head of the loop: the configuration, the voltage at the beginning and the state in their boxes, and all old memory as it was. -/
def ClimbRel (c : Cfg) (v0 : Int) (dr : Nat → Int) (w : World) (tb : Nat) (j : Nat) (wr : World) : Prop := ∃ (V : Int) (b : Bool), (0 ≤ V ∧ V ≤ 1048576 ∧ V ≤ climb c v0 (backC dr j) j ∧ fall c v0 (drawnC dr j) j ≤ V) ∧ (wr.cell? ⟨w.heap.size, 0, none⟩ = some (.int .i64 c.num) ∧ wr.cell? ⟨w.heap.size, 1, none⟩ = some (.int .i64 c.den) ∧ wr.cell? ⟨w.heap.size, 2, none⟩ = some (.int .i64 c.supply) ∧ wr.cell? ⟨w.heap.size, 3, none⟩ = some (.int .i64 c.feed) ∧ wr.cell? ⟨w.heap.size, 4, none⟩ = some (.int .i64 c.ohm) ∧ wr.cell? ⟨w.heap.size, 5, none⟩ = some (.int .i64 c.on) ∧ wr.cell? ⟨w.heap.size, 6, none⟩ = some (.int .i64 c.off) ∧ wr.cell? ⟨w.heap.size, 7, none⟩ = some (.int .i64 c.bohm)) ∧ wr.cell? ⟨w.heap.size + 1, 0, none⟩ = some (.int .i64 v0) ∧
  (wr.cell? ⟨tb, 0, none⟩ = some (.int .i64 V) ∧ wr.cell? ⟨tb, 1, none⟩ = some (.bool b)) ∧ (∀ o, wr.frozen? ⟨tb, o, none⟩ = false) ∧ Below w.heap.size w wr ∧ tb < wr.heap.size

set_option maxHeartbeats 8000000 in
set_option maxRecDepth 100000 in
theorem linkClimbs_ok (c : Cfg) (h : c.Ok) (V : Int) (b : Bool) (sb so len cap : Nat) (hl : len ≤ 200) (hcap : len ≤ cap) (dr : Nat → Int) (de br : Nat → Bool) (w : World) (hs : Script w sb so len dr de br) (hsb : sb < w.heap.size) :
    Calls Try.prog 10 #[.agg #[.int .i64 c.num, .int .i64 c.den, .int .i64 c.supply, .int .i64 c.feed, .int .i64 c.ohm, .int .i64 c.on, .int .i64 c.off, .int .i64 c.bohm], .agg #[.int .i64 V, .bool b], .slice (some ⟨sb, so, none⟩) len cap] w fun e w' => e = .returned (.bool true) ∧ Below w.heap.size w w' := by
  have HV := hide (fun W => valid_ok c h (some ⟨sb, so, none⟩) len cap hl W)
  obtain ⟨v0, v1⟩ := vclip_bd V
  have HH := hide h
  have HS := hide hs
  clear h hs
  go_enter Try.func10, Try.ntmps10
  go_wp2_with (first
    | (go_at_call 11; refine (awake_any _).mono ?_; rintro e w1 ⟨rfl, hb1⟩; have z1 := hb1.size; (try simp at z1); have c1x0 := bstep (b := w.heap.size) hb1 (by first | omega | (simp <;> omega)); have y1x0 : w.heap.size < w1.heap.size := (by omega); have c1x1 := bstep (b := w.heap.size + 1) hb1 (by first | omega | (simp <;> omega)); have y1x1 : w.heap.size + 1 < w1.heap.size := (by omega); have f1x0 := bfro (b := w.heap.size) hb1 (by first | omega | (simp <;> omega)); have f1x1 := bfro (b := w.heap.size + 1) hb1 (by first | omega | (simp <;> omega)))
    | (go_at_call 24; refine (HV.out _).mono ?_; rintro e w2 ⟨rfl, hb2⟩; have z2 := hb2.size; (try simp at z2); have c2x0 := bstep (b := w.heap.size) hb2 (by first | omega | (simp <;> omega)); have y2x0 : w.heap.size < w2.heap.size := (by omega); have c2x1 := bstep (b := w.heap.size + 1) hb2 (by first | omega | (simp <;> omega)); have y2x1 : w.heap.size + 1 < w2.heap.size := (by omega); have f2x0 := bfro (b := w.heap.size) hb2 (by first | omega | (simp <;> omega)); have f2x1 := bfro (b := w.heap.size + 1) hb2 (by first | omega | (simp <;> omega)))
    | (go_at_call 17; with_reducible refine (bclip_v _ _).mono ?_; rintro e w8 ⟨rfl, rfl⟩)
    | (go_at_call 17; with_reducible refine (bclip_d _ _).mono ?_; rintro e w8 ⟨rfl, rfl⟩)
    | (go_at_call 17; with_reducible refine (bclip_m _ _).mono ?_; rintro e w8 ⟨rfl, rfl⟩))
  have H1 : Below w.heap.size w w1 := (((Below.refl _ _).alloc (Nat.le_refl _) _).alloc (by first | omega | (simp <;> omega)) _).trans (hb1.mono (by first | omega | (simp <;> omega)))
  have H2 : Below w.heap.size w w2 := H1.trans (hb2.mono (by first | omega | (simp <;> omega)))
  go_region
  go_wp2
  have hsb1 : ¬ w.heap.size + 1 = sb := by omega
  have hsb2 : ¬ sb = w.heap.size + 1 := by omega
  go_loopw [7, 8, 10] (fun bk dn i wr => ∃ j : Nat, j ≤ len ∧ i = .int .i64 j ∧ bk = .int .i64 (backC dr j) ∧ dn = .int .i64 (drawnC dr j) ∧ ClimbRel c (vclip V) dr w w2.heap.size j wr) (fun _ _ i _ => len - (intOf i).toNat)
  case atStart =>
    refine ⟨0, Nat.zero_le _, rfl, rfl, rfl, vclip V, b, ⟨v0, v1, climb_zero c _ v1, fall_zero c _ v0⟩, ?_, ?_, ?_, ?_, ?_, ?_⟩
    · refine ⟨?_, ?_, ?_, ?_, ?_, ?_, ?_, ?_⟩
      all_goals go_simp
    · go_simp
    · refine ⟨?_, ?_⟩
      all_goals go_simp
    · intro o
      go_simp
    · exact (by repeat (first | with_reducible assumption | with_reducible refine Below.drew ?_ | with_reducible refine below_drewN ?_ _ | with_reducible refine Below.alloc ?_ (by first | omega | (simp <;> omega)) _ | with_reducible refine Below.setCell ?_ (by first | omega | (simp <;> omega)) _ | with_reducible exact Below.refl _ _))
    · simp <;> omega
  case round =>
    obtain ⟨j, hj, rfl, rfl, rfl, V1, b1, ⟨hV0, hV1, hVM, hVm⟩, ⟨a0, a1, a2, a3, a4, a5, a6, a7⟩, s0, ⟨t0, t1⟩, tf, HW, hsz⟩ := hrel
    have zz : w.heap.size + 1 < w2.heap.size := by omega
    have htw : ¬ w2.heap.size = w.heap.size := by omega
    have htw1 : ¬ w2.heap.size = w.heap.size + 1 := by omega
    have hwt0 : ¬ w.heap.size = w2.heap.size := by omega
    have hwt1 : ¬ w.heap.size + 1 = w2.heap.size := by omega
    have yr0 : w.heap.size < wr.heap.size := by omega
    have yr1 : w.heap.size + 1 < wr.heap.size := by omega
    have nr0 : ¬ w.heap.size = wr.heap.size := by omega
    have nr1 : ¬ w.heap.size + 1 = wr.heap.size := by omega
    have nr2 : ¬ w2.heap.size = wr.heap.size := by omega
    have nr3 : ¬ wr.heap.size = w2.heap.size := by omega
    clear c1x0 c1x1 c2x0 c2x1 f1x0 f1x1 f2x0 f2x1 H1 H2 hb1 hb2 z1 z2 y1x0 y1x1 y2x0 y2x1 HV
    obtain ⟨q0, q1⟩ := backC_bd dr j
    obtain ⟨p0, p1⟩ := drawnC_bd dr j
    by_cases hlt : j < len
    · obtain ⟨h0, h1, h2⟩ := HS.out j hlt
      have hx0 := (HW.cell (p := ⟨sb, so + j * 3, none⟩) hsb).trans h0
      have hx1 := (HW.cell (p := ⟨sb, so + j * 3 + 1, none⟩) hsb).trans h1
      have hx2 := (HW.cell (p := ⟨sb, so + j * 3 + 2, none⟩) hsb).trans h2
      clear h0 h1 h2
      have i1 : (0 : Int) ≤ (j : Int) := by omega
      have i2 : (j : Int) < (len : Int) := by omega
      obtain ⟨d0, d1⟩ := dclip_bd (dr j)
      have hrng := HH.out.rng
      have hu := climb_step hrng HH.out.lim hV0 hV1 b1 (backC_up dr j).2 q0 (backC_up dr j).1 i1 hVM (de j) (br j)
      have hd := fall_step hrng HH.out.ord hV0 hV1 b1 (drawnC_up dr j).2 p0 (drawnC_up dr j).1 i1 hVm (de j) (br j)
      have hbd := stepV_bd c V1 b1 (dr j) (de j) (br j)
      have HT := step_ok c HH.out V1 (dr j) b1 (de j) (br j)
      generalize stepV c V1 b1 (dr j) (de j) (br j) = X at hu hd hbd HT
      generalize stepB c V1 b1 = B at HT
      obtain ⟨X0, X1⟩ := hbd
      have HT := hide HT
      have HU := hide (And.intro hu hd)
      clear hrng hu hd hVM hVm
      go_wp2_with (first
    | (go_at_call 12; refine (HT.out _).mono ?_; rintro e w5 ⟨rfl, hb5⟩; have z5 := hb5.size; (try simp at z5); have c5x0 := bstep (b := w.heap.size) hb5 (by first | omega | (simp <;> omega)); have y5x0 : w.heap.size < w5.heap.size := (by omega); have c5x1 := bstep (b := w.heap.size + 1) hb5 (by first | omega | (simp <;> omega)); have y5x1 : w.heap.size + 1 < w5.heap.size := (by omega); have c5x2 := bstep (b := w2.heap.size) hb5 (by first | omega | (simp <;> omega)); have y5x2 : w2.heap.size < w5.heap.size := (by omega); have f5x0 := bfro (b := w2.heap.size) hb5 (by first | omega | (simp <;> omega)))
    | (go_at_call 17; with_reducible refine (bclip_v _ _).mono ?_; rintro e w8 ⟨rfl, rfl⟩)
    | (go_at_call 17; with_reducible refine (bclip_d _ _).mono ?_; rintro e w8 ⟨rfl, rfl⟩)
    | (go_at_call 17; with_reducible refine (bclip_m _ _).mono ?_; rintro e w8 ⟨rfl, rfl⟩))
      go_roundw
      case rel =>
        refine ⟨j + 1, by omega, by go_num, ?_, ?_, X, B, ⟨X0, X1, HU.out.1, HU.out.2⟩, ?_, ?_, ?_, ?_, ?_, ?_⟩
        · exact congrArg (Value.int .i64) (by simp only [backC, mclip]; omega)
        · exact congrArg (Value.int .i64) (by simp only [drawnC, mclip]; omega)
        · refine ⟨?_, ?_, ?_, ?_, ?_, ?_, ?_, ?_⟩
          all_goals go_simp
        · go_simp
        · refine ⟨?_, ?_⟩
          all_goals go_simp
        · intro o
          go_simp
        · have H5 : Below w.heap.size w w5 := (HW.alloc (by omega) _).trans (hb5.mono (by simp <;> omega))
          exact (by repeat (first | with_reducible assumption | with_reducible refine Below.drew ?_ | with_reducible refine below_drewN ?_ _ | with_reducible refine Below.alloc ?_ (by first | omega | (simp <;> omega)) _ | with_reducible refine Below.setCell ?_ (by first | omega | (simp <;> omega)) _ | with_reducible exact Below.refl _ _))
        · simp <;> omega
      case measure => simp [intOf]; omega
    · have e : j = len := by omega
      subst e
      clear hlt hj
      have hk0 : 0 ≤ (j : Int) ∧ (j : Int) ≤ 1048576 := by omega
      have HC := climb_ok c HH.out (vclip V) (backC dr j) (j : Int) ⟨⟨v0, v1⟩, ⟨q0, q1⟩, hk0⟩
      have HF := fall_ok c HH.out (vclip V) (drawnC dr j) (j : Int) ⟨⟨v0, v1⟩, ⟨p0, p1⟩, hk0⟩
      generalize climb c (vclip V) (backC dr j) (j : Int) = M at hVM HC
      generalize fall c (vclip V) (drawnC dr j) (j : Int) = m at hVm HF
      have HC := hide HC
      have HF := hide HF
      clear hk0
      go_wp2_with (first
    | (go_at_call 25; refine (HC.out _).mono ?_; rintro e w3 ⟨rfl, hb3⟩; have z3 := hb3.size; (try simp at z3); have c3x0 := bstep (b := w.heap.size) hb3 (by first | omega | (simp <;> omega)); have y3x0 : w.heap.size < w3.heap.size := (by omega); have c3x1 := bstep (b := w.heap.size + 1) hb3 (by first | omega | (simp <;> omega)); have y3x1 : w.heap.size + 1 < w3.heap.size := (by omega); have c3x2 := bstep (b := w2.heap.size) hb3 (by first | omega | (simp <;> omega)); have y3x2 : w2.heap.size < w3.heap.size := (by omega))
    | (go_at_call 26; refine (HF.out _).mono ?_; rintro e w4 ⟨rfl, hb4⟩; have z4 := hb4.size; (try simp at z4); have c4x0 := bstep (b := w.heap.size) hb4 (by first | omega | (simp <;> omega)); have y4x0 : w.heap.size < w4.heap.size := (by omega); have c4x1 := bstep (b := w.heap.size + 1) hb4 (by first | omega | (simp <;> omega)); have y4x1 : w.heap.size + 1 < w4.heap.size := (by omega); have c4x2 := bstep (b := w2.heap.size) hb4 (by first | omega | (simp <;> omega)); have y4x2 : w2.heap.size < w4.heap.size := (by omega)))
      go_ret
      exact ⟨rfl, (HW.trans (hb3.mono (by omega))).trans (hb4.mono (by omega))⟩

set_option maxHeartbeats 8000000 in
set_option maxRecDepth 100000 in
theorem linkClimbs_nil (c : Cfg) (h : c.Ok) (V : Int) (b : Bool) (a : Option Addr) (cap : Nat) (w : World) :
    Calls Try.prog 10 #[.agg #[.int .i64 c.num, .int .i64 c.den, .int .i64 c.supply, .int .i64 c.feed, .int .i64 c.ohm, .int .i64 c.on, .int .i64 c.off, .int .i64 c.bohm], .agg #[.int .i64 V, .bool b], .slice a 0 cap] w fun e w' => e = .returned (.bool true) ∧ Below w.heap.size w w' := by
  have HV := hide (fun W => valid_ok c h a 0 cap (by omega) W)
  obtain ⟨v0, v1⟩ := vclip_bd V
  have HH := hide h
  clear h
  go_enter Try.func10, Try.ntmps10
  go_wp2_with (first
    | (go_at_call 11; refine (awake_any _).mono ?_; rintro e w1 ⟨rfl, hb1⟩; have z1 := hb1.size; (try simp at z1); have c1x0 := bstep (b := w.heap.size) hb1 (by first | omega | (simp <;> omega)); have y1x0 : w.heap.size < w1.heap.size := (by omega); have c1x1 := bstep (b := w.heap.size + 1) hb1 (by first | omega | (simp <;> omega)); have y1x1 : w.heap.size + 1 < w1.heap.size := (by omega); have f1x0 := bfro (b := w.heap.size) hb1 (by first | omega | (simp <;> omega)); have f1x1 := bfro (b := w.heap.size + 1) hb1 (by first | omega | (simp <;> omega)))
    | (go_at_call 24; refine (HV.out _).mono ?_; rintro e w2 ⟨rfl, hb2⟩; have z2 := hb2.size; (try simp at z2); have c2x0 := bstep (b := w.heap.size) hb2 (by first | omega | (simp <;> omega)); have y2x0 : w.heap.size < w2.heap.size := (by omega); have c2x1 := bstep (b := w.heap.size + 1) hb2 (by first | omega | (simp <;> omega)); have y2x1 : w.heap.size + 1 < w2.heap.size := (by omega); have f2x0 := bfro (b := w.heap.size) hb2 (by first | omega | (simp <;> omega)); have f2x1 := bfro (b := w.heap.size + 1) hb2 (by first | omega | (simp <;> omega)))
    | (go_at_call 17; with_reducible refine (bclip_v _ _).mono ?_; rintro e w8 ⟨rfl, rfl⟩)
    | (go_at_call 17; with_reducible refine (bclip_d _ _).mono ?_; rintro e w8 ⟨rfl, rfl⟩)
    | (go_at_call 17; with_reducible refine (bclip_m _ _).mono ?_; rintro e w8 ⟨rfl, rfl⟩))
  have H1 : Below w.heap.size w w1 := (((Below.refl _ _).alloc (Nat.le_refl _) _).alloc (by first | omega | (simp <;> omega)) _).trans (hb1.mono (by first | omega | (simp <;> omega)))
  have H2 : Below w.heap.size w w2 := H1.trans (hb2.mono (by first | omega | (simp <;> omega)))
  go_region
  go_wp2
  go_loopw [7, 8, 10] (fun bk dn i wr => ∃ j : Nat, j ≤ 0 ∧ i = .int .i64 j ∧ bk = .int .i64 (backC (fun _ => 0) j) ∧ dn = .int .i64 (drawnC (fun _ => 0) j) ∧ ClimbRel c (vclip V) (fun _ => 0) w w2.heap.size j wr) (fun _ _ i _ => 0 - (intOf i).toNat)
  case atStart =>
    refine ⟨0, Nat.zero_le _, rfl, rfl, rfl, vclip V, b, ⟨v0, v1, climb_zero c _ v1, fall_zero c _ v0⟩, ?_, ?_, ?_, ?_, ?_, ?_⟩
    · refine ⟨?_, ?_, ?_, ?_, ?_, ?_, ?_, ?_⟩
      all_goals go_simp
    · go_simp
    · refine ⟨?_, ?_⟩
      all_goals go_simp
    · intro o
      go_simp
    · exact (by repeat (first | with_reducible assumption | with_reducible refine Below.drew ?_ | with_reducible refine below_drewN ?_ _ | with_reducible refine Below.alloc ?_ (by first | omega | (simp <;> omega)) _ | with_reducible refine Below.setCell ?_ (by first | omega | (simp <;> omega)) _ | with_reducible exact Below.refl _ _))
    · simp <;> omega
  case round =>
    obtain ⟨j, hj, rfl, rfl, rfl, V1, b1, ⟨hV0, hV1, hVM, hVm⟩, ⟨a0, a1, a2, a3, a4, a5, a6, a7⟩, s0, ⟨t0, t1⟩, tf, HW, hsz⟩ := hrel
    have zz : w.heap.size + 1 < w2.heap.size := by omega
    have htw : ¬ w2.heap.size = w.heap.size := by omega
    have htw1 : ¬ w2.heap.size = w.heap.size + 1 := by omega
    have hwt0 : ¬ w.heap.size = w2.heap.size := by omega
    have hwt1 : ¬ w.heap.size + 1 = w2.heap.size := by omega
    have yr0 : w.heap.size < wr.heap.size := by omega
    have yr1 : w.heap.size + 1 < wr.heap.size := by omega
    have nr0 : ¬ w.heap.size = wr.heap.size := by omega
    have nr1 : ¬ w.heap.size + 1 = wr.heap.size := by omega
    have nr2 : ¬ w2.heap.size = wr.heap.size := by omega
    have nr3 : ¬ wr.heap.size = w2.heap.size := by omega
    clear c1x0 c1x1 c2x0 c2x1 f1x0 f1x1 f2x0 f2x1 H1 H2 hb1 hb2 z1 z2 y1x0 y1x1 y2x0 y2x1 HV
    obtain ⟨q0, q1⟩ := backC_bd (fun _ => 0) j
    obtain ⟨p0, p1⟩ := drawnC_bd (fun _ => 0) j
    · obtain rfl : j = 0 := by omega
      clear hj
      have hl : 0 ≤ 200 := by omega
      have hk0 : 0 ≤ ((0 : Nat) : Int) ∧ ((0 : Nat) : Int) ≤ 1048576 := by omega
      have HC := climb_ok c HH.out (vclip V) (backC (fun _ => 0) 0) ((0 : Nat) : Int) ⟨⟨v0, v1⟩, ⟨q0, q1⟩, hk0⟩
      have HF := fall_ok c HH.out (vclip V) (drawnC (fun _ => 0) 0) ((0 : Nat) : Int) ⟨⟨v0, v1⟩, ⟨p0, p1⟩, hk0⟩
      generalize climb c (vclip V) (backC (fun _ => 0) 0) ((0 : Nat) : Int) = M at hVM HC
      generalize fall c (vclip V) (drawnC (fun _ => 0) 0) ((0 : Nat) : Int) = m at hVm HF
      have HC := hide HC
      have HF := hide HF
      clear hk0
      go_wp2_with (first
    | (go_at_call 25; refine (HC.out _).mono ?_; rintro e w3 ⟨rfl, hb3⟩; have z3 := hb3.size; (try simp at z3); have c3x0 := bstep (b := w.heap.size) hb3 (by first | omega | (simp <;> omega)); have y3x0 : w.heap.size < w3.heap.size := (by omega); have c3x1 := bstep (b := w.heap.size + 1) hb3 (by first | omega | (simp <;> omega)); have y3x1 : w.heap.size + 1 < w3.heap.size := (by omega); have c3x2 := bstep (b := w2.heap.size) hb3 (by first | omega | (simp <;> omega)); have y3x2 : w2.heap.size < w3.heap.size := (by omega))
    | (go_at_call 26; refine (HF.out _).mono ?_; rintro e w4 ⟨rfl, hb4⟩; have z4 := hb4.size; (try simp at z4); have c4x0 := bstep (b := w.heap.size) hb4 (by first | omega | (simp <;> omega)); have y4x0 : w.heap.size < w4.heap.size := (by omega); have c4x1 := bstep (b := w.heap.size + 1) hb4 (by first | omega | (simp <;> omega)); have y4x1 : w.heap.size + 1 < w4.heap.size := (by omega); have c4x2 := bstep (b := w2.heap.size) hb4 (by first | omega | (simp <;> omega)); have y4x2 : w2.heap.size < w4.heap.size := (by omega)))
      go_ret
      exact ⟨rfl, (HW.trans (hb3.mono (by omega))).trans (hb4.mono (by omega))⟩
set_option maxHeartbeats 2000000 in
set_option maxRecDepth 100000 in
theorem linkClimbs_err (c : Cfg) (V : Int) (b : Bool) (a : Option Addr) (len cap : Nat) (h : c.code ≠ 0) (w : World) :
    Calls Try.prog 10 #[.agg #[.int .i64 c.num, .int .i64 c.den, .int .i64 c.supply, .int .i64 c.feed, .int .i64 c.ohm, .int .i64 c.on, .int .i64 c.off, .int .i64 c.bohm], .agg #[.int .i64 V, .bool b], .slice a len cap] w fun e w' => e = .returned (.bool true) ∧ Below w.heap.size w w' := by
  have HK := hide (fun W => valid_err c h a len cap W)
  clear h
  go_enter Try.func10, Try.ntmps10
  go_wp2_with fail
  refine (awake_any _).mono ?_
  rintro e w1 ⟨rfl, hb1⟩
  have z1 := hb1.size
  try simp at z1
  have c1x0 := bstep (b := w.heap.size) hb1 (by first | omega | (simp <;> omega))
  have y1x0 : w.heap.size < w1.heap.size := (by omega)
  have c1x1 := bstep (b := w.heap.size + 1) hb1 (by first | omega | (simp <;> omega))
  have y1x1 : w.heap.size + 1 < w1.heap.size := (by omega)
  go_wp2_with (go_at_call 24; refine (HK.out _).mono ?_; rintro e w2 ⟨rfl, hb2⟩; have z2 := hb2.size; (try simp at z2); have c2x0 := bstep (b := w.heap.size) hb2 (by first | omega | (simp <;> omega)); have y2x0 : w.heap.size < w2.heap.size := (by omega); have c2x1 := bstep (b := w.heap.size + 1) hb2 (by first | omega | (simp <;> omega)); have y2x1 : w.heap.size + 1 < w2.heap.size := (by omega))
  refine (awake_any _).mono ?_
  rintro e w3 ⟨rfl, hb3⟩
  go_wp2
  go_ret
  have H1 : Below w.heap.size w w1 := (((Below.refl _ _).alloc (Nat.le_refl _) _).alloc (by first | omega | (simp <;> omega)) _).trans (hb1.mono (by first | omega | (simp <;> omega)))
  have H2 : Below w.heap.size w w2 := H1.trans (hb2.mono (by first | omega | (simp <;> omega)))
  have H3 : Below w.heap.size w w3 := H2.trans (hb3.mono (by first | omega | (simp <;> omega)))
  exact ⟨rfl, H3⟩

set_option maxHeartbeats 2000000 in
set_option maxRecDepth 100000 in
theorem linkClimbs_long (c : Cfg) (V : Int) (b : Bool) (a : Option Addr) (len cap : Nat) (h : 200 < len) (w : World) :
    Calls Try.prog 10 #[.agg #[.int .i64 c.num, .int .i64 c.den, .int .i64 c.supply, .int .i64 c.feed, .int .i64 c.ohm, .int .i64 c.on, .int .i64 c.off, .int .i64 c.bohm], .agg #[.int .i64 V, .bool b], .slice a len cap] w fun e w' => e = .returned (.bool true) ∧ Below w.heap.size w w' := by
  have HK := hide (fun W => valid_long c a len cap h W)
  clear h
  go_enter Try.func10, Try.ntmps10
  go_wp2_with fail
  refine (awake_any _).mono ?_
  rintro e w1 ⟨rfl, hb1⟩
  have z1 := hb1.size
  try simp at z1
  have c1x0 := bstep (b := w.heap.size) hb1 (by first | omega | (simp <;> omega))
  have y1x0 : w.heap.size < w1.heap.size := (by omega)
  have c1x1 := bstep (b := w.heap.size + 1) hb1 (by first | omega | (simp <;> omega))
  have y1x1 : w.heap.size + 1 < w1.heap.size := (by omega)
  go_wp2_with (go_at_call 24; refine (HK.out _).mono ?_; rintro e w2 ⟨rfl, hb2⟩; have z2 := hb2.size; (try simp at z2); have c2x0 := bstep (b := w.heap.size) hb2 (by first | omega | (simp <;> omega)); have y2x0 : w.heap.size < w2.heap.size := (by omega); have c2x1 := bstep (b := w.heap.size + 1) hb2 (by first | omega | (simp <;> omega)); have y2x1 : w.heap.size + 1 < w2.heap.size := (by omega))
  refine (awake_any _).mono ?_
  rintro e w3 ⟨rfl, hb3⟩
  go_wp2
  go_ret
  have H1 : Below w.heap.size w w1 := (((Below.refl _ _).alloc (Nat.le_refl _) _).alloc (by first | omega | (simp <;> omega)) _).trans (hb1.mono (by first | omega | (simp <;> omega)))
  have H2 : Below w.heap.size w w2 := H1.trans (hb2.mono (by first | omega | (simp <;> omega)))
  have H3 : Below w.heap.size w w3 := H2.trans (hb3.mono (by first | omega | (simp <;> omega)))
  exact ⟨rfl, H3⟩

theorem linkClimbs_walk (c : Cfg) (V : Int) (b : Bool) (a : Option Addr) (len cap : Nat) (w : World) (hs : len = 0 ∨ ∃ sb so dr de br, a = some ⟨sb, so, none⟩ ∧ len ≤ cap ∧ sb < w.heap.size ∧ Script w sb so len dr de br) :
    Calls Try.prog 10 #[.agg #[.int .i64 c.num, .int .i64 c.den, .int .i64 c.supply, .int .i64 c.feed, .int .i64 c.ohm, .int .i64 c.on, .int .i64 c.off, .int .i64 c.bohm], .agg #[.int .i64 V, .bool b], .slice a len cap] w fun e w' => e = .returned (.bool true) ∧ Below w.heap.size w w' := by
  by_cases h : c.code = 0
  · by_cases hl : len ≤ 200
    · rcases hs with rfl | ⟨sb, so, dr, de, br, rfl, hcap, hsb, hs⟩
      · exact linkClimbs_nil c (Cfg.ok_of_code h) V b a cap w
      · exact linkClimbs_ok c (Cfg.ok_of_code h) V b sb so len cap hl hcap dr de br w hs hsb
    · exact linkClimbs_long c V b a len cap (by omega) w
  · exact linkClimbs_err c V b a len cap h w

set_option maxRecDepth 100000 in
theorem linkClimbs_lifted (os : Os) (started : os.Started) (H : Type) (enc : TypeId × Value → H) :
    ReturnsInHanded {} Try.checked os 10 .any (Rows.linkClimbsSpec.pre6 enc Try.prog Try.f10 Rows.linkClimbsRow.domain false) (Rows.linkClimbsSpec.post enc Try.prog Try.f10 false true false false) := by
  refine lift (C := Try.checked) (s := Rows.linkClimbsSpec) 4 Try.own started (by kernel_rfl) Try.func10 Try.laidOut rfl rfl Try.underlying4 (by kernel_rfl)
    (fun ds hds => by
      have hl : ds.length = 3 := hds
      match ds, hl with
      | [_, _, _], _ => rfl)
    (ChangeSpec.witness6 (enc := enc) (C := Try.checked) false ⟨#[], #[.agg #[.int .i64 0, .int .i64 0, .int .i64 0, .int .i64 0, .int .i64 0, .int .i64 0, .int .i64 0, .int .i64 0], .agg #[.int .i64 0, .bool false], .slice none 0 0], []⟩ 8 (by kernel_rfl) (by kernel_rfl) (by kernel_rfl) (by kernel_rfl)) ?_
  intro W base args ds p hval0 hA0
  have hval : ∀ (j : Nat) t v, Try.f10.params[j]? = some t → args[j]? = some v → Value.okWide Try.prog W .any base t v := hval0
  have hA : DataW.TrodAll enc Try.prog W 0 (fun _ => true) true Try.f10.params.toList args.toList ds p := hA0
  clear hval0 hA0
  rw [Try.params10] at hA hval
  obtain ⟨v0, vs0, d0, ds0, p0, q0, hargs, rfl, rfl, h0, r0⟩ := trodAll_cons hA
  obtain ⟨v1, vs1, d1, ds1, p1, q1, rfl, rfl, rfl, h1, r1⟩ := trodAll_cons r0
  obtain ⟨v2, vs2, d2, ds2, p2, q2, rfl, rfl, rfl, h2, r2⟩ := trodAll_cons r1
  obtain ⟨rfl, rfl, rfl⟩ := trodAll_nil r2
  obtain rfl : args = #[v0, v1, v2] := by cases args; simp_all
  obtain ⟨l0, rfl, g0⟩ := arg_struct 4 Try.underlying23 (ks := [some .i64, some .i64, some .i64, some .i64, some .i64, some .i64, some .i64, some .i64]) (by kernel_rfl) (hval 0 23 v0 rfl rfl) h0
  obtain ⟨_, _, rfl, ⟨a0, rfl, wa0⟩, g0x0⟩ := g0
  obtain ⟨_, _, rfl, ⟨a1, rfl, wa1⟩, g0x1⟩ := g0x0
  obtain ⟨_, _, rfl, ⟨a2, rfl, wa2⟩, g0x2⟩ := g0x1
  obtain ⟨_, _, rfl, ⟨a3, rfl, wa3⟩, g0x3⟩ := g0x2
  obtain ⟨_, _, rfl, ⟨a4, rfl, wa4⟩, g0x4⟩ := g0x3
  obtain ⟨_, _, rfl, ⟨a5, rfl, wa5⟩, g0x5⟩ := g0x4
  obtain ⟨_, _, rfl, ⟨a6, rfl, wa6⟩, g0x6⟩ := g0x5
  obtain ⟨_, _, rfl, ⟨a7, rfl, wa7⟩, g0x7⟩ := g0x6
  simp only [Fits] at g0x7
  subst g0x7
  obtain ⟨l1, rfl, g1⟩ := arg_struct 4 Try.underlying25 (ks := [some .i64, none]) (by kernel_rfl) (hval 1 25 v1 rfl rfl) h1
  obtain ⟨_, _, rfl, ⟨s0, rfl, ws0⟩, g1x0⟩ := g1
  obtain ⟨_, _, rfl, ⟨s1, rfl⟩, g1x1⟩ := g1x0
  simp only [Fits] at g1x1
  subst g1x1
  have hS : ∃ (sa : Option Addr) (len cap : Nat), v2 = .slice sa len cap ∧ (len = 0 ∨ ∃ sb so dr de br, sa = some ⟨sb, so, none⟩ ∧ len ≤ cap ∧ sb < W.heap.size ∧ Script W sb so len dr de br) := by
    rcases arg_slice (ks := [some .i64, none, none]) 4 Try.underlying52 (by kernel_rfl) (by kernel_rfl) (hval 2 52 v2 rfl rfl) h2 with rfl | ⟨a, len, cap, f, rfl, hc, hm, hf⟩
    · exact ⟨none, 0, 0, rfl, .inl rfl⟩
    · refine ⟨some a, len, cap, rfl, ?_⟩
      by_cases hp : 0 < len
      · obtain ⟨sb, so, dr, de, br, rfl, hsb, hs⟩ := script_of hp hf
        exact .inr ⟨sb, so, dr, de, br, rfl, hc, hsb, hs⟩
      · exact .inl (by omega)
  obtain ⟨sa, len, cap, rfl, hS⟩ := hS
  exact linkClimbs_walk ⟨a0, a1, a2, a3, a4, a5, a6, a7⟩ s0 s1 sa len cap W hS

theorem linkClimbs_over : Rows.linkClimbsRow.holds Try.pinned (OpenSpec.ofChange Rows.linkClimbsSpec) :=
  OpenClaim.holds_of_wide 10 Try.f10 rfl rfl rfl rfl rfl rfl rfl ⟨rfl, rfl, rfl, rfl, rfl⟩ rfl rfl rfl rfl rfl (by kernel_rfl) Try.func10 (by kernel_rfl)
    (of_decide_eq_true (by kernel_rfl)) (by unfold Func.isWrapper; first | (rw [if_pos (by decide +kernel)]; kernel_rfl) | (rw [if_neg (by decide +kernel)]; exact ⟨rfl, rfl⟩))
    (fun os started H enc _ => linkClimbs_lifted os started H enc)

theorem linkClimbs_holds : Rows.LinkClimbsSaid := linkClimbs_over
#print axioms linkClimbs_holds
end Go.Proofs.Ytahhebeceehbeaa

/- LinkIdle holds: without a draw a voltage that is at most Supply stays at most Supply, and does not fall while it is below BrakeOff. No condition. -/
import Derived.Test.YtahhebeceehbeaaRows
import Derived.Test.YtahhebeceehbeaaFlat
import Derived.Test.YtahhebeceehbeaaLinkD
import Derived.Deep.RegionHeld3
namespace Go.Proofs.Ytahhebeceehbeaa
open Go.RowKit LM Flat Go.ChangeShapes

def sclip (n s : Int) : Int := max 0 (min n s)
theorem bclip_s (n s : Int) (w : World) :
    Calls Try.prog 17 #[.int .i64 n, .int .i64 0, .int .i64 s] w fun e w' => e = .returned (.int .i64 (sclip n s)) ∧ w = w' :=
  (bclip_any n 0 s w).mono fun _ _ ⟨a, b⟩ => ⟨a.trans (ret_int rfl), b⟩

/-- What holds at each head of the loop: the configuration and the state in their boxes, and all old memory as it was. -/
def IdleRel (c : Cfg) (w wr : World) : Prop := ∃ (V : Int) (b : Bool), (0 ≤ V ∧ V ≤ c.supply) ∧ (wr.cell? ⟨w.heap.size, 0, none⟩ = some (.int .i64 c.num) ∧ wr.cell? ⟨w.heap.size, 1, none⟩ = some (.int .i64 c.den) ∧ wr.cell? ⟨w.heap.size, 2, none⟩ = some (.int .i64 c.supply) ∧ wr.cell? ⟨w.heap.size, 3, none⟩ = some (.int .i64 c.feed) ∧ wr.cell? ⟨w.heap.size, 4, none⟩ = some (.int .i64 c.ohm) ∧ wr.cell? ⟨w.heap.size, 5, none⟩ = some (.int .i64 c.on) ∧ wr.cell? ⟨w.heap.size, 6, none⟩ = some (.int .i64 c.off) ∧ wr.cell? ⟨w.heap.size, 7, none⟩ = some (.int .i64 c.bohm)) ∧ (wr.cell? ⟨w.heap.size + 1, 0, none⟩ = some (.int .i64 V) ∧ wr.cell? ⟨w.heap.size + 1, 1, none⟩ = some (.bool b)) ∧
  (∀ o, wr.frozen? ⟨w.heap.size + 1, o, none⟩ = false) ∧ Below w.heap.size w wr ∧ w.heap.size + 1 < wr.heap.size

set_option maxHeartbeats 4000000 in
theorem linkIdle_ok (c : Cfg) (h : c.Ok) (V : Int) (b : Bool) (n : Nat) (hn : n ≤ 255) (w : World) :
    Calls Try.prog 4 #[.agg #[.int .i64 c.num, .int .i64 c.den, .int .i64 c.supply, .int .i64 c.feed, .int .i64 c.ohm, .int .i64 c.on, .int .i64 c.off, .int .i64 c.bohm], .agg #[.int .i64 V, .bool b], .int .u8 n] w fun e w' => e = .returned (.bool true) ∧ Below w.heap.size w w' := by
  have HK := hide (fun W => check_ok c W h)
  have hv0 : 0 ≤ sclip V c.supply ∧ sclip V c.supply ≤ c.supply := by have := h.rng.2.2.1.1; unfold sclip; omega
  have HH := hide h
  clear h
  go_enter Try.func4, Try.ntmps4
  go_wp2_with (first
    | (go_at_call 11; refine (awake_any _).mono ?_; rintro e w1 ⟨rfl, hb1⟩; have z1 := hb1.size; (try simp at z1); have c1x0 := bstep (b := w.heap.size) hb1 (by first | omega | (simp <;> omega)); have y1x0 : w.heap.size < w1.heap.size := (by omega); have c1x1 := bstep (b := w.heap.size + 1) hb1 (by first | omega | (simp <;> omega)); have y1x1 : w.heap.size + 1 < w1.heap.size := (by omega); have f1x0 := bfro (b := w.heap.size) hb1 (by first | omega | (simp <;> omega)); have f1x1 := bfro (b := w.heap.size + 1) hb1 (by first | omega | (simp <;> omega)))
    | (go_at_call 16; refine (HK.out _).mono ?_; rintro e w2 ⟨rfl, hb2⟩; have z2 := hb2.size; (try simp at z2); have c2x0 := bstep (b := w.heap.size) hb2 (by first | omega | (simp <;> omega)); have y2x0 : w.heap.size < w2.heap.size := (by omega); have c2x1 := bstep (b := w.heap.size + 1) hb2 (by first | omega | (simp <;> omega)); have y2x1 : w.heap.size + 1 < w2.heap.size := (by omega); have f2x0 := bfro (b := w.heap.size) hb2 (by first | omega | (simp <;> omega)); have f2x1 := bfro (b := w.heap.size + 1) hb2 (by first | omega | (simp <;> omega)))
    | (go_at_call 17; refine (bclip_s _ _ _).mono ?_; rintro e w8 ⟨rfl, rfl⟩))
  have H1 : Below w.heap.size w w1 := (((Below.refl _ _).alloc (Nat.le_refl _) _).alloc (by first | omega | (simp <;> omega)) _).trans (hb1.mono (by first | omega | (simp <;> omega)))
  have H2 : Below w.heap.size w w2 := H1.trans (hb2.mono (by first | omega | (simp <;> omega)))
  go_loopw [7] (fun i wr => ∃ k : Nat, k ≤ n ∧ i = .int .i64 k ∧ IdleRel c w wr) (fun i _ => n - (intOf i).toNat)
  case atStart =>
    refine ⟨0, Nat.zero_le _, rfl, sclip V c.supply, b, hv0, ?_, ?_, ?_, ?_, ?_⟩
    · refine ⟨?_, ?_, ?_, ?_, ?_, ?_, ?_, ?_⟩
      all_goals go_simp
    · refine ⟨?_, ?_⟩
      all_goals go_simp
    · intro o
      go_simp
    · exact H2.setCell (by simp <;> omega) _
    · simp <;> omega
  case round =>
    obtain ⟨k, hk, rfl, V1, b1, ⟨hV0, hV1⟩, ⟨a0, a1, a2, a3, a4, a5, a6, a7⟩, ⟨s0, s1⟩, sf, HW, hsz⟩ := hrel
    clear hv0 c1x0 c1x1 c2x0 c2x1 f1x0 f1x1 f2x0 f2x1 H1 H2 hb1 hb2 z1 z2 y1x0 y1x1 y2x0 y2x1
    by_cases hlt : k < n
    · obtain ⟨dd, hdd⟩ : ∃ dd : Bool, ((k : Int) % 5 == 4) = dd := ⟨_, rfl⟩
      have hrng := HH.out.rng
      have hu := idle_up hrng HH.out.lim hV0 hV1 b1 dd false
      have hl := fun hx => idle_low hrng hV0 (by have := hrng.2.2.1.2; omega) hx HH.out.ord b1 dd false
      have hbd := (stepV_bd c V1 b1 0 dd false).1
      have HS := step_ok c HH.out V1 0 b1 dd false
      generalize stepV c V1 b1 0 dd false = X at hu hl hbd HS
      generalize stepB c V1 b1 = B at HS
      have HS := hide HS
      clear hrng
      rcases Int.lt_or_le V1 c.off with hV | hV
      · have hl := hl hV
        go_wp2_with (go_at_call 12; refine (HS.out _).mono ?_; rintro e w3 ⟨rfl, hb3⟩; have z3 := hb3.size; (try simp at z3); have c3x0 := bstep (b := w.heap.size) hb3 (by first | omega | (simp <;> omega)); have y3x0 : w.heap.size < w3.heap.size := (by omega); have c3x1 := bstep (b := w.heap.size + 1) hb3 (by first | omega | (simp <;> omega)); have y3x1 : w.heap.size + 1 < w3.heap.size := (by omega); have f3x0 := bfro (b := w.heap.size) hb3 (by first | omega | (simp <;> omega)); have f3x1 := bfro (b := w.heap.size + 1) hb3 (by first | omega | (simp <;> omega)))
        go_roundw
        case rel =>
          refine ⟨k + 1, by omega, by go_num, X, B, ⟨hbd, hu⟩, ?_, ?_, ?_, ?_, ?_⟩
          · refine ⟨?_, ?_, ?_, ?_, ?_, ?_, ?_, ?_⟩
            all_goals go_simp
          · refine ⟨?_, ?_⟩
            all_goals go_simp
          · intro o
            go_simp
          · have H3 : Below w.heap.size w w3 := HW.trans (hb3.mono (by omega))
            repeat (first | with_reducible assumption | with_reducible refine Below.drew ?_ | with_reducible refine Below.alloc ?_ (by first | omega | (simp <;> omega)) _ | with_reducible refine Below.setCell ?_ (by first | omega | (simp <;> omega)) _)
          · simp <;> omega
        case measure => simp [intOf]; omega
      · clear hl
        go_wp2_with (go_at_call 12; refine (HS.out _).mono ?_; rintro e w3 ⟨rfl, hb3⟩; have z3 := hb3.size; (try simp at z3); have c3x0 := bstep (b := w.heap.size) hb3 (by first | omega | (simp <;> omega)); have y3x0 : w.heap.size < w3.heap.size := (by omega); have c3x1 := bstep (b := w.heap.size + 1) hb3 (by first | omega | (simp <;> omega)); have y3x1 : w.heap.size + 1 < w3.heap.size := (by omega); have f3x0 := bfro (b := w.heap.size) hb3 (by first | omega | (simp <;> omega)); have f3x1 := bfro (b := w.heap.size + 1) hb3 (by first | omega | (simp <;> omega)))
        go_roundw
        case rel =>
          refine ⟨k + 1, by omega, by go_num, X, B, ⟨hbd, hu⟩, ?_, ?_, ?_, ?_, ?_⟩
          · refine ⟨?_, ?_, ?_, ?_, ?_, ?_, ?_, ?_⟩
            all_goals go_simp
          · refine ⟨?_, ?_⟩
            all_goals go_simp
          · intro o
            go_simp
          · have H3 : Below w.heap.size w w3 := HW.trans (hb3.mono (by omega))
            repeat (first | with_reducible assumption | with_reducible refine Below.drew ?_ | with_reducible refine Below.alloc ?_ (by first | omega | (simp <;> omega)) _ | with_reducible refine Below.setCell ?_ (by first | omega | (simp <;> omega)) _)
          · simp <;> omega
        case measure => simp [intOf]; omega
    · have e : k = n := by omega
      subst e
      go_wp2
      go_ret
      exact ⟨rfl, HW⟩
set_option maxHeartbeats 2000000 in
theorem linkIdle_err (c : Cfg) (h : c.code ≠ 0) (V : Int) (b : Bool) (n : Int) (w : World) :
    Calls Try.prog 4 #[.agg #[.int .i64 c.num, .int .i64 c.den, .int .i64 c.supply, .int .i64 c.feed, .int .i64 c.ohm, .int .i64 c.on, .int .i64 c.off, .int .i64 c.bohm], .agg #[.int .i64 V, .bool b], .int .u8 n] w fun e w' => e = .returned (.bool true) ∧ Below w.heap.size w w' := by
  have HK := hide (fun W => check_err c W h)
  clear h
  go_enter Try.func4, Try.ntmps4
  go_wp2_with fail
  refine (awake_any _).mono ?_
  rintro e w1 ⟨rfl, hb1⟩
  have z1 := hb1.size
  try simp at z1
  have c1x0 := bstep (b := w.heap.size) hb1 (by first | omega | (simp <;> omega))
  have y1x0 : w.heap.size < w1.heap.size := (by omega)
  have c1x1 := bstep (b := w.heap.size + 1) hb1 (by first | omega | (simp <;> omega))
  have y1x1 : w.heap.size + 1 < w1.heap.size := (by omega)
  go_wp2_with (go_at_call 16; refine (HK.out _).mono ?_; rintro e w2 ⟨rfl, hb2⟩; have z2 := hb2.size; (try simp at z2); have c2x0 := bstep (b := w.heap.size) hb2 (by first | omega | (simp <;> omega)); have y2x0 : w.heap.size < w2.heap.size := (by omega); have c2x1 := bstep (b := w.heap.size + 1) hb2 (by first | omega | (simp <;> omega)); have y2x1 : w.heap.size + 1 < w2.heap.size := (by omega))
  refine (awake_any _).mono ?_
  rintro e w3 ⟨rfl, hb3⟩
  go_wp2
  go_ret
  have H1 : Below w.heap.size w w1 := (((Below.refl _ _).alloc (Nat.le_refl _) _).alloc (by first | omega | (simp <;> omega)) _).trans (hb1.mono (by first | omega | (simp <;> omega)))
  have H2 : Below w.heap.size w w2 := H1.trans (hb2.mono (by first | omega | (simp <;> omega)))
  have H3 : Below w.heap.size w w3 := H2.trans (hb3.mono (by first | omega | (simp <;> omega)))
  exact ⟨rfl, H3⟩

theorem linkIdle_walk (c : Cfg) (V : Int) (b : Bool) (x : Int) (hx : 0 ≤ x ∧ x ≤ 255) (w : World) :
    Calls Try.prog 4 #[.agg #[.int .i64 c.num, .int .i64 c.den, .int .i64 c.supply, .int .i64 c.feed, .int .i64 c.ohm, .int .i64 c.on, .int .i64 c.off, .int .i64 c.bohm], .agg #[.int .i64 V, .bool b], .int .u8 x] w fun e w' => e = .returned (.bool true) ∧ Below w.heap.size w w' := by
  obtain ⟨n, rfl⟩ := Int.eq_ofNat_of_zero_le hx.1
  by_cases h : c.code = 0
  · exact linkIdle_ok c (Cfg.ok_of_code h) V b n (by omega) w
  · exact linkIdle_err c h V b n w

set_option maxRecDepth 100000 in
theorem linkIdle_lifted (os : Os) (started : os.Started) (H : Type) (enc : TypeId × Value → H) :
    ReturnsInHanded {} Try.checked os 4 .any (Rows.linkIdleSpec.pre6 enc Try.prog Try.f4 Rows.linkIdleRow.domain false) (Rows.linkIdleSpec.post enc Try.prog Try.f4 false true false false) := by
  refine lift (C := Try.checked) (s := Rows.linkIdleSpec) 4 Try.own started (by kernel_rfl) Try.func4 Try.laidOut rfl rfl Try.underlying4 (by kernel_rfl)
    (fun ds hds => by
      have hl : ds.length = 3 := hds
      match ds, hl with
      | [_, _, _], _ => rfl)
    (ChangeSpec.witness6 (enc := enc) (C := Try.checked) false ⟨#[], #[.agg #[.int .i64 0, .int .i64 0, .int .i64 0, .int .i64 0, .int .i64 0, .int .i64 0, .int .i64 0, .int .i64 0], .agg #[.int .i64 0, .bool false], .int .u8 0], []⟩ 8 (by kernel_rfl) (by kernel_rfl) (by kernel_rfl) (by kernel_rfl)) ?_
  intro W base args ds p hval0 hA0
  have hval : ∀ (j : Nat) t v, Try.f4.params[j]? = some t → args[j]? = some v → Value.okWide Try.prog W .any base t v := hval0
  have hA : DataW.TrodAll enc Try.prog W 0 (fun _ => true) true Try.f4.params.toList args.toList ds p := hA0
  clear hval0 hA0
  rw [Try.params4] at hA hval
  obtain ⟨v0, vs0, d0, ds0, p0, q0, hargs, rfl, rfl, h0, r0⟩ := trodAll_cons hA
  obtain ⟨v1, vs1, d1, ds1, p1, q1, rfl, rfl, rfl, h1, r1⟩ := trodAll_cons r0
  obtain ⟨v2, vs2, d2, ds2, p2, q2, rfl, rfl, rfl, h2, r2⟩ := trodAll_cons r1
  obtain ⟨rfl, rfl, rfl⟩ := trodAll_nil r2
  obtain rfl : args = #[v0, v1, v2] := by cases args; simp_all
  obtain ⟨l0, rfl, g0⟩ := arg_struct 4 Try.underlying23 (ks := [some .i64, some .i64, some .i64, some .i64, some .i64, some .i64, some .i64, some .i64]) (by kernel_rfl) (hval 0 23 v0 rfl rfl) h0
  obtain ⟨_, _, rfl, ⟨a0, rfl, wa0⟩, g0x0⟩ := g0
  obtain ⟨_, _, rfl, ⟨a1, rfl, wa1⟩, g0x1⟩ := g0x0
  obtain ⟨_, _, rfl, ⟨a2, rfl, wa2⟩, g0x2⟩ := g0x1
  obtain ⟨_, _, rfl, ⟨a3, rfl, wa3⟩, g0x3⟩ := g0x2
  obtain ⟨_, _, rfl, ⟨a4, rfl, wa4⟩, g0x4⟩ := g0x3
  obtain ⟨_, _, rfl, ⟨a5, rfl, wa5⟩, g0x5⟩ := g0x4
  obtain ⟨_, _, rfl, ⟨a6, rfl, wa6⟩, g0x6⟩ := g0x5
  obtain ⟨_, _, rfl, ⟨a7, rfl, wa7⟩, g0x7⟩ := g0x6
  simp only [Fits] at g0x7
  subst g0x7
  obtain ⟨l1, rfl, g1⟩ := arg_struct 4 Try.underlying25 (ks := [some .i64, none]) (by kernel_rfl) (hval 1 25 v1 rfl rfl) h1
  obtain ⟨_, _, rfl, ⟨s0, rfl, ws0⟩, g1x0⟩ := g1
  obtain ⟨_, _, rfl, ⟨s1, rfl⟩, g1x1⟩ := g1x0
  simp only [Fits] at g1x1
  subst g1x1
  obtain ⟨x, rfl, wx⟩ := arg_int Try.underlying5 (hval 2 5 v2 rfl rfl) h2
  have hx : 0 ≤ x ∧ x ≤ 255 := by simpa [Lit.wf, IntKind.min, IntKind.max, IntKind.signed, IntKind.bits] using wx
  exact linkIdle_walk ⟨a0, a1, a2, a3, a4, a5, a6, a7⟩ s0 s1 x hx W

theorem linkIdle_over : Rows.linkIdleRow.holds Try.pinned (OpenSpec.ofChange Rows.linkIdleSpec) :=
  OpenClaim.holds_of_wide 4 Try.f4 rfl rfl rfl rfl rfl rfl rfl ⟨rfl, rfl, rfl, rfl, rfl⟩ rfl rfl rfl rfl rfl (by kernel_rfl) Try.func4 (by kernel_rfl)
    (of_decide_eq_true (by kernel_rfl)) (by unfold Func.isWrapper; first | (rw [if_pos (by decide +kernel)]; kernel_rfl) | (rw [if_neg (by decide +kernel)]; exact ⟨rfl, rfl⟩))
    (fun os started H enc _ => linkIdle_lifted os started H enc)

theorem linkIdle_holds : Rows.LinkIdleSaid := linkIdle_over
#print axioms linkIdle_holds
end Go.Proofs.Ytahhebeceehbeaa

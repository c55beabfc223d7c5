/- Plain reckoning of the plant of the laws: logic, channels and gate stage from tick to tick; what a request, a stuck channel and requests that differ bring. Condition: the ranges of a checked configuration. -/
import Derived.Test.YtgbbhkefkpndeaaOffMath
namespace Go.Proofs.Ytgbbhkefkpndeaa.OM

/-- The plant between two ticks: the logic, the gate stage, what the channels conduct. -/
structure Pl where
  s : St
  g : Sg
  k0 : Bool
  k1 : Bool

def tickS (c : Cf) (p : Pl) (r0 r1 : Bool) : St := step c p.s r0 r1 p.k0 p.k1
def tick (c : Cf) (z : Int) (r0 r1 : Bool) (p : Pl) : Pl :=
  { s := tickS c p r0 r1, g := stage c p.g ((tickS c p r0 r1).d0 || decide (z = 0)) ((tickS c p r0 r1).d1 || decide (z = 1)),
    k0 := (tickS c p r0 r1).d0 || decide (z = 0), k1 := (tickS c p r0 r1).d1 || decide (z = 1) }

def begin0 (c : Cf) : Pl := { s := start c, g := ⟨0, 0, false⟩, k0 := false, k1 := false }

/-! ### healthy -/
def PQuiet (c : Cf) (p : Pl) : Prop := Quiet c p.s p.g ∧ p.k0 = p.s.d0 ∧ p.k1 = p.s.d1
theorem pquiet_begin {c : Cf} (h : c.Rng) : PQuiet c (begin0 c) := ⟨quiet_start h, rfl, rfl⟩
theorem pquiet_tick {c : Cf} (h : c.Rng) {p : Pl} (hp : PQuiet c p) : PQuiet c (tick c (-1) false false p) := by
  obtain ⟨hq, h0, h1⟩ := hp
  have e := quiet_step h hq
  refine ⟨?_, by simp [tick], by simp [tick]⟩
  simp only [tick, tickS]
  rw [h0, h1]
  simpa using e
theorem pquiet_off {c : Cf} {p : Pl} (hp : PQuiet c p) : p.s.latched = false ∧ p.g.off = false := ⟨hp.1.2.1, hp.1.2.2.1⟩

def PHealthy (c : Cf) (p : Pl) : Prop := Healthy c p.s ∧ p.k0 = p.s.d0 ∧ p.k1 = p.s.d1
theorem phealthy_begin {c : Cf} (h : c.Rng) : PHealthy c (begin0 c) := ⟨healthy_start h, rfl, rfl⟩
theorem phealthy_quiet {c : Cf} {p : Pl} (h : PQuiet c p) : PHealthy c p := ⟨h.1.1, h.2⟩
theorem phealthy_tick {c : Cf} (h : c.Rng) {p : Pl} (r0 r1 : Bool) : PHealthy c (tick c (-1) r0 r1 p) :=
  ⟨healthy_step h _ _ _ _, by simp [tick], by simp [tick]⟩
theorem phealthy_same {c : Cf} (h : c.Rng) {p : Pl} (hp : PHealthy c p) (r : Bool) : (tick c (-1) r r p).s.latched = p.s.latched := by
  obtain ⟨hh, h0, h1⟩ := hp
  show (step c p.s r r p.k0 p.k1).latched = _
  rw [h0, h1]
  exact healthy_same h hh r

theorem off_of_latched {c : Cf} {s : St} {r0 r1 b0 b1 : Bool} (h : (step c s r0 r1 b0 b1).latched = true) : offN c s r0 r1 b0 b1 = true := by
  have h' : latchN c s r0 r1 b0 b1 = true := h
  unfold offN
  rw [h']
  simp
theorem off_of_req {c : Cf} {s : St} {r0 r1 b0 b1 : Bool} (h : (r0 || r1) = true) : offN c s r0 r1 b0 b1 = true := by
  unfold offN
  rw [Bool.or_assoc, h]
  simp
theorem d_off {c : Cf} {s : St} {r0 r1 b0 b1 : Bool} (h : offN c s r0 r1 b0 b1 = true) : (step c s r0 r1 b0 b1).d0 = false ∧ (step c s r0 r1 b0 b1).d1 = false := ⟨step_d0_off h, step_d1_off h⟩
theorem for_off {c : Cf} {s : St} {r0 r1 b0 b1 : Bool} (h : offN c s r0 r1 b0 b1 = true) :
    (step c s r0 r1 b0 b1).for0 = counted s.for0 true (c.length + 1) ∧ (step c s r0 r1 b0 b1).for1 = counted s.for1 true (c.length + 1) := by
  constructor
  · show counted s.for0 (!(!offN c s r0 r1 b0 b1 && _)) _ = _
    rw [h]; rfl
  · show counted s.for1 (!(!offN c s r0 r1 b0 b1 && _)) _ = _
    rw [h]; rfl
theorem latch_keep {c : Cf} {s : St} {r0 r1 b0 b1 : Bool} (h : s.latched = true) : (step c s r0 r1 b0 b1).latched = true := by
  show latchN c s r0 r1 b0 b1 = true
  unfold latchN
  rw [h]
  simp
theorem latch_0 {c : Cf} {s : St} {r0 r1 b0 b1 : Bool} (h : c.length ≤ s.for0) (hb : b0 = true) : (step c s r0 r1 b0 b1).latched = true := by
  show latchN c s r0 r1 b0 b1 = true
  unfold latchN
  rw [hb, decide_eq_true h]
  simp
theorem latch_1 {c : Cf} {s : St} {r0 r1 b0 b1 : Bool} (h : c.length ≤ s.for1) (hb : b1 = true) : (step c s r0 r1 b0 b1).latched = true := by
  show latchN c s r0 r1 b0 b1 = true
  unfold latchN
  rw [hb, decide_eq_true h]
  simp

theorem cnt_ge {n most k : Int} (h : min k most ≤ max n 0) (_hk : 0 ≤ k) (_hm : 0 ≤ most) : min (k + 1) most ≤ counted n true most := by
  simp only [counted, if_true]
  omega

/-! ### a request -/
def PAsked (c : Cf) (z n : Int) (p : Pl) : Prop :=
  0 ≤ n ∧ min n (c.length + 1) ≤ max p.s.for0 0 ∧ min n (c.length + 1) ≤ max p.s.for1 0 ∧ (z ≠ 0 → min n (c.length + 1) ≤ max p.g.for0 0) ∧ (z ≠ 1 → min n (c.length + 1) ≤ max p.g.for1 0) ∧
  (1 ≤ n → (z = 0 → p.k0 = true) ∧ (z = 1 → p.k1 = true)) ∧ (c.length < n → (z = 0 ∨ z = 1) → p.s.latched = true) ∧ (c.length < n → p.g.off = true)
theorem pasked_zero (c : Cf) (h : c.Rng) (z : Int) (p : Pl) : PAsked c z 0 p := by
  obtain ⟨⟨h1, _⟩, _⟩ := h
  refine ⟨by omega, by omega, by omega, fun _ => by omega, fun _ => by omega, fun _ => by omega, fun _ => by omega, fun _ => by omega⟩
theorem stage_off {c : Cf} {g : Sg} {k0 k1 : Bool} (h : c.length < (stage c g k0 k1).for0 ∨ c.length < (stage c g k0 k1).for1) : (stage c g k0 k1).off = true := by
  show (decide (c.length < counted g.for0 (!k0) (c.length + 1)) || decide (c.length < counted g.for1 (!k1) (c.length + 1))) = true
  simp only [Bool.or_eq_true, decide_eq_true_eq]
  exact h
theorem stage_for0 {c : Cf} {g : Sg} {k0 k1 : Bool} (h : k0 = false) : (stage c g k0 k1).for0 = counted g.for0 true (c.length + 1) := by
  show counted g.for0 (!k0) _ = _
  rw [h]; rfl
theorem stage_for1 {c : Cf} {g : Sg} {k0 k1 : Bool} (h : k1 = false) : (stage c g k0 k1).for1 = counted g.for1 true (c.length + 1) := by
  show counted g.for1 (!k1) _ = _
  rw [h]; rfl
theorem pasked_tick {c : Cf} (h : c.Rng) {z n : Int} {r0 r1 : Bool} (hr : (r0 || r1) = true) {p : Pl} (hp : PAsked c z n p) : PAsked c z (n + 1) (tick c z r0 r1 p) := by
  obtain ⟨⟨h1, _⟩, _⟩ := h
  obtain ⟨a0, a1, a2, a3, a4, a5, a6, a7⟩ := hp
  have ho : offN c p.s r0 r1 p.k0 p.k1 = true := off_of_req hr
  obtain ⟨e0, e1⟩ := for_off ho
  obtain ⟨d0, d1⟩ := d_off ho
  have b1 := cnt_ge a1 a0 (by omega)
  have b2 := cnt_ge a2 a0 (by omega)
  have g0 : z ≠ 0 → min (n + 1) (c.length + 1) ≤ (tick c z r0 r1 p).g.for0 := fun hz => by
    show _ ≤ (stage c p.g _ _).for0
    rw [stage_for0 (by show ((step c p.s r0 r1 p.k0 p.k1).d0 || decide (z = 0)) = false; rw [d0]; simpa using hz)]
    exact cnt_ge (a3 hz) a0 (by omega)
  have g1 : z ≠ 1 → min (n + 1) (c.length + 1) ≤ (tick c z r0 r1 p).g.for1 := fun hz => by
    show _ ≤ (stage c p.g _ _).for1
    rw [stage_for1 (by show ((step c p.s r0 r1 p.k0 p.k1).d1 || decide (z = 1)) = false; rw [d1]; simpa using hz)]
    exact cnt_ge (a4 hz) a0 (by omega)
  refine ⟨by omega, ?_, ?_, fun hz => Int.le_trans (g0 hz) (by omega), fun hz => Int.le_trans (g1 hz) (by omega), fun _ => ⟨fun hz => ?_, fun hz => ?_⟩, fun hn hz => ?_, fun hn => ?_⟩
  · show _ ≤ max (step c p.s r0 r1 p.k0 p.k1).for0 0
    rw [e0]; omega
  · show _ ≤ max (step c p.s r0 r1 p.k0 p.k1).for1 0
    rw [e1]; omega
  · show ((step c p.s r0 r1 p.k0 p.k1).d0 || decide (z = 0)) = true
    simp [hz]
  · show ((step c p.s r0 r1 p.k0 p.k1).d1 || decide (z = 1)) = true
    simp [hz]
  · show (step c p.s r0 r1 p.k0 p.k1).latched = true
    rcases hz with hz | hz
    · exact latch_0 (by omega) ((a5 (by omega)).1 hz)
    · exact latch_1 (by omega) ((a5 (by omega)).2 hz)
  · show (stage c p.g _ _).off = true
    refine stage_off ?_
    by_cases hz : z = 0
    · right
      have := g1 (by omega)
      show c.length < (tick c z r0 r1 p).g.for1
      omega
    · left
      have := g0 hz
      show c.length < (tick c z r0 r1 p).g.for0
      omega

/-! ### a stuck channel without a request -/
def endw (c : Cf) (z : Int) : Int := if z = 0 then c.every / 2 + c.length else c.every
def since (c : Cf) (z t : Int) : Int := if endw c z ≤ t then t - endw c z else t - endw c z + c.every
def forz (z : Int) (s : St) : Int := if z = 0 then s.for0 else s.for1
def kz (z : Int) (p : Pl) : Bool := if z = 0 then p.k0 else p.k1
/-- i ticks done and nothing latched. -/
def PWait (c : Cf) (z i : Int) (p : Pl) : Prop :=
  0 ≤ i ∧ (1 ≤ i → kz z p = true ∧ 0 ≤ p.s.time ∧ p.s.time < c.every ∧ (c.every - c.length ≤ since c z p.s.time → min i (since c z p.s.time - (c.every - c.length) + 1) ≤ forz z p.s) ∧ (i ≤ c.length ∨ i - c.length ≤ since c z p.s.time))
theorem pwait_zero (c : Cf) (z : Int) (p : Pl) : PWait c z 0 p := ⟨by omega, fun _ => by omega⟩
theorem pwait_end {c : Cf} (h : c.Rng) {z i : Int} {p : Pl} (hz : z = 0 ∨ z = 1) (hp : PWait c z i p) : i < c.every + c.length := by
  obtain ⟨⟨h1, _⟩, ⟨h2, _⟩, _⟩ := h
  obtain ⟨a0, a1⟩ := hp
  by_cases hi : 1 ≤ i
  · obtain ⟨_, b0, b1, _, b2⟩ := a1 hi
    have : since c z p.s.time < c.every := by
      unfold since endw
      rcases hz with rfl | rfl <;> simp <;> split <;> omega
    omega
  · omega
theorem latch_z {c : Cf} {z : Int} {p : Pl} {r0 r1 : Bool} (h : c.length ≤ forz z p.s) (hk : kz z p = true) : (tick c z r0 r1 p).s.latched = true := by
  show (step c p.s r0 r1 p.k0 p.k1).latched = true
  unfold forz at h
  unfold kz at hk
  by_cases hz : z = 0
  · rw [if_pos hz] at h hk
    exact latch_0 h hk
  · rw [if_neg hz] at h hk
    exact latch_1 h hk
theorem kz_tick {c : Cf} {z : Int} {r0 r1 : Bool} {p : Pl} (hz : z = 0 ∨ z = 1) : kz z (tick c z r0 r1 p) = true := by
  rcases hz with rfl | rfl
  · simp [kz, tick]
  · simp [kz, tick]
/-- The stuck channel's count after a tick without a request that latches nothing. -/
theorem forz_tick {c : Cf} {z : Int} {p : Pl} (hz : z = 0 ∨ z = 1) (ho : offN c p.s false false p.k0 p.k1 = false) :
    forz z (tick c z false false p).s = counted (forz z p.s) (tested c (decide (z = 1)) (next c p.s.time)) (c.length + 1) := by
  rcases hz with rfl | rfl
  · show counted p.s.for0 (!(!offN c p.s false false p.k0 p.k1 && !tested c false (timeN c p.s false false p.k0 p.k1))) _ = _
    unfold timeN
    rw [ho]
    simp [forz]
  · show counted p.s.for1 (!(!offN c p.s false false p.k0 p.k1 && !tested c true (timeN c p.s false false p.k0 p.k1))) _ = _
    unfold timeN
    rw [ho]
    simp [forz]
theorem time_tick {c : Cf} {z : Int} {p : Pl} (ho : offN c p.s false false p.k0 p.k1 = false) : (tick c z false false p).s.time = next c p.s.time := by
  show timeN c p.s false false p.k0 p.k1 = _
  unfold timeN
  rw [ho]
  rfl
theorem off_eq {c : Cf} {z : Int} {p : Pl} : offN c p.s false false p.k0 p.k1 = (tick c z false false p).s.latched := by
  show (latchN c p.s false false p.k0 p.k1 || false || false) = latchN c p.s false false p.k0 p.k1
  simp
theorem pwait_tick {c : Cf} (h : c.Rng) {z i : Int} {p : Pl} (hz : z = 0 ∨ z = 1) (hp : PWait c z i p) (hl : (tick c z false false p).s.latched = false) : PWait c z (i + 1) (tick c z false false p) := by
  have ho : offN c p.s false false p.k0 p.k1 = false := by rw [off_eq (z := z)]; exact hl
  obtain ⟨a0, a1⟩ := hp
  refine ⟨by omega, fun _ => ⟨kz_tick hz, ?_⟩⟩
  rw [time_tick ho, forz_tick hz ho]
  have hn := next_eq h p.s.time
  have hnb := norm_bd h p.s.time
  have hlz : 1 ≤ i → ¬ c.length ≤ forz z p.s := fun hi hc => by
    rw [latch_z hc (a1 hi).1] at hl
    cases hl
  have hns : 1 ≤ i → norm c p.s.time = p.s.time := fun hi => norm_self h (a1 hi).2.1 (a1 hi).2.2.1
  obtain ⟨⟨h1, h1'⟩, ⟨h2, h3⟩, _⟩ := h
  have nb : 0 ≤ next c p.s.time ∧ next c p.s.time < c.every := by rw [hn]; split <;> omega
  refine ⟨nb.1, nb.2, ?_⟩
  have key : c.every - c.length ≤ since c z (next c p.s.time) ↔ tested c (decide (z = 1)) (next c p.s.time) = true := by
    rcases hz with rfl | rfl
    · simp only [since, endw, tested]
      simp
      split <;> omega
    · simp only [since, endw, tested]
      simp
      split <;> omega
  have sb : 0 ≤ since c z (next c p.s.time) := by
    rcases hz with rfl | rfl <;> simp only [since, endw] <;> simp <;> split <;> omega
  constructor
  · intro hw
    rw [key.1 hw]
    by_cases hi : 1 ≤ i
    · obtain ⟨_, b0, b1, b2, _⟩ := a1 hi
      have step1 : since c z (next c p.s.time) = since c z p.s.time + 1 ∨ since c z (next c p.s.time) = 0 := by
        rw [hn, hns hi]
        rcases hz with rfl | rfl <;> simp only [since, endw] <;> simp <;> split <;> split <;> (try split) <;> omega
      simp only [counted, if_true]
      rcases step1 with e | e
      · by_cases hb : c.every - c.length ≤ since c z p.s.time
        · have := b2 hb
          have sl : since c z (next c p.s.time) < c.every := by
            rcases hz with rfl | rfl <;> simp only [since, endw] <;> simp <;> split <;> omega
          omega
        · omega
      · omega
    · simp only [counted, if_true]
      omega
  · by_cases hi : i + 1 ≤ c.length
    · exact .inl hi
    · right
      have hi1 : 1 ≤ i := by omega
      obtain ⟨_, b0, b1, b2, b3⟩ := a1 hi1
      have hlz1 := hlz hi1
      have step1 : since c z (next c p.s.time) = since c z p.s.time + 1 ∨ (since c z (next c p.s.time) = 0 ∧ since c z p.s.time = c.every - 1) := by
        rw [hn, hns hi1]
        rcases hz with rfl | rfl <;> simp only [since, endw] <;> simp <;> split <;> split <;> (try split) <;> omega
      rcases step1 with e | ⟨e, e'⟩
      · have : 0 ≤ since c z p.s.time := by
          rcases hz with rfl | rfl <;> simp only [since, endw] <;> simp <;> split <;> omega
        omega
      · have := b2 (by omega)
        omega

/-- Latched for m ticks, this one counted. -/
def PDown (c : Cf) (z m : Int) (p : Pl) : Prop :=
  0 ≤ m ∧ (1 ≤ m → p.s.latched = true) ∧ min m (c.length + 1) ≤ max (if z = 0 then p.g.for1 else p.g.for0) 0 ∧ (c.length < m → p.g.off = true)
theorem pdown_zero (c : Cf) (h : c.Rng) (z : Int) (p : Pl) : PDown c z 0 p := by
  obtain ⟨⟨h1, _⟩, _⟩ := h
  exact ⟨by omega, fun _ => by omega, by split <;> omega, fun _ => by omega⟩
theorem pdown_tick {c : Cf} (h : c.Rng) {z m : Int} {p : Pl} (hz : z = 0 ∨ z = 1) (hp : PDown c z m p) (hl : (tick c z false false p).s.latched = true) : PDown c z (m + 1) (tick c z false false p) := by
  obtain ⟨⟨h1, _⟩, _⟩ := h
  obtain ⟨a0, _, a1, _⟩ := hp
  have ho : offN c p.s false false p.k0 p.k1 = true := off_of_latched hl
  obtain ⟨d0, d1⟩ := d_off ho
  have g : min (m + 1) (c.length + 1) ≤ (if z = 0 then (tick c z false false p).g.for1 else (tick c z false false p).g.for0) := by
    rcases hz with rfl | rfl
    · simp only [if_true] at a1 ⊢
      show _ ≤ (stage c p.g _ _).for1
      rw [stage_for1 (by show ((step c p.s false false p.k0 p.k1).d1 || decide ((0 : Int) = 1)) = false; rw [d1]; rfl)]
      exact cnt_ge a1 a0 (by omega)
    · simp only [show ((1 : Int) = 0) = False by simp, if_false] at a1 ⊢
      show _ ≤ (stage c p.g _ _).for0
      rw [stage_for0 (by show ((step c p.s false false p.k0 p.k1).d0 || decide ((1 : Int) = 0)) = false; rw [d0]; rfl)]
      exact cnt_ge a1 a0 (by omega)
  refine ⟨by omega, fun _ => hl, by omega, fun hm => ?_⟩
  show (stage c p.g _ _).off = true
  refine stage_off ?_
  rcases hz with rfl | rfl
  · right
    simp only [if_true] at g
    show c.length < (tick c 0 false false p).g.for1
    omega
  · left
    simp only [show ((1 : Int) = 0) = False by simp, if_false] at g
    show c.length < (tick c 1 false false p).g.for0
    omega
theorem latched_keep {c : Cf} {z : Int} {r0 r1 : Bool} {p : Pl} (h : p.s.latched = true) : (tick c z r0 r1 p).s.latched = true := latch_keep h

/-! ### requests that differ -/
def PApart (c : Cf) (row : Int) (latched : Bool) (p : Pl) : Prop := PHealthy c p ∧ 0 ≤ row ∧ p.s.apartFor = min row (c.apart + 1) ∧ p.s.latched = latched
theorem papart_begin {c : Cf} (h : c.Rng) : PApart c 0 false (begin0 c) := by
  have hh := phealthy_begin h
  obtain ⟨_, _, ⟨h1, _⟩⟩ := h
  exact ⟨hh, by omega, by show (0 : Int) = _; omega, rfl⟩
theorem papart_differ {c : Cf} (h : c.Rng) {row : Int} {latched : Bool} {p : Pl} (r : Bool) (hp : PApart c row latched p) : PApart c (row + 1) (latched || decide (c.apart < row + 1)) (tick c (-1) r (!r) p) := by
  obtain ⟨⟨hh, k0, k1⟩, a0, a1, a2⟩ := hp
  have ha : apartN c p.s r (!r) = min (row + 1) (c.apart + 1) := by
    unfold apartN counted
    obtain ⟨_, _, ⟨h1, _⟩⟩ := h
    have : (r != !r) = true := by cases r <;> rfl
    rw [this, a1]
    simp only [if_true]
    omega
  refine ⟨phealthy_tick h r (!r), by omega, ha, ?_⟩
  show latchN c p.s r (!r) p.k0 p.k1 = _
  rw [k0, k1, healthy_latch h hh, ha, a2]
  congr 1
  rw [decide_eq_decide]
  omega
theorem papart_same {c : Cf} (h : c.Rng) {row : Int} {latched : Bool} {p : Pl} (r : Bool) (hp : PApart c row latched p) : PApart c 0 latched (tick c (-1) r r p) := by
  obtain ⟨hh, a0, a1, a2⟩ := hp
  have e := phealthy_same h hh r
  refine ⟨phealthy_tick h r r, by omega, ?_, by rw [e, a2]⟩
  show apartN c p.s r r = _
  rw [apart_same]
  obtain ⟨_, _, ⟨h1, _⟩⟩ := h
  omega
theorem drive_of_latched {c : Cf} {z : Int} {r0 r1 : Bool} {p : Pl} (h : (tick c z r0 r1 p).s.latched = true) : (tick c z r0 r1 p).s.d0 = false ∧ (tick c z r0 r1 p).s.d1 = false := d_off (off_of_latched h)
theorem drive_of_req {c : Cf} {z : Int} {r0 r1 : Bool} {p : Pl} (h : (r0 || r1) = true) : (tick c z r0 r1 p).s.d0 = false ∧ (tick c z r0 r1 p).s.d1 = false := d_off (off_of_req h)

/-! ### the reference's tick -/
def clipI (n lo hi : Int) : Int := max lo (min n hi)
theorem counted_clip (n : Int) (is : Bool) {most : Int} (h : 0 ≤ most) : (if is then min (clipI n 0 most + 1) most else 0) = counted n is most := by
  unfold clipI counted
  cases is
  · rfl
  · simp only [if_true]
    omega
theorem clip_le {n l : Int} (h : 1 ≤ l) : (l ≤ clipI n 0 (l + 1)) = (l ≤ n) := by
  unfold clipI
  apply propext
  omega
end Go.Proofs.Ytgbbhkefkpndeaa.OM

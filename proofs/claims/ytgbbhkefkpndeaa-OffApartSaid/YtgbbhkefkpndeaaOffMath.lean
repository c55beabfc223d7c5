/- Plain reckoning of safe torque off: what a tick of the logic and of the gate stage computes, and what holds of it from tick to tick. Conditions: the ranges of a checked configuration, where a theorem names them. -/
namespace Go.Proofs.Ytgbbhkefkpndeaa.OM

structure Cf where
  every : Int
  length : Int
  apart : Int

def Cf.Rng (c : Cf) : Prop := (1 ≤ c.length ∧ c.length ≤ 8) ∧ (4 * c.length ≤ c.every ∧ c.every ≤ 65536) ∧ (1 ≤ c.apart ∧ c.apart ≤ 1024)
instance (c : Cf) : Decidable c.Rng := by unfold Cf.Rng; infer_instance

structure St where
  time : Int
  apartFor : Int
  for0 : Int
  for1 : Int
  d0 : Bool
  d1 : Bool
  latched : Bool

structure Sg where
  for0 : Int
  for1 : Int
  off : Bool

/-- A number of ticks in a row, up to most. -/
def counted (n : Int) (is : Bool) (most : Int) : Int := if is then min (min (max n 0) most + 1) most else 0

def tested (c : Cf) (second : Bool) (t : Int) : Bool :=
  if second then decide (c.every - c.length ≤ t ∧ t < c.every) else decide (c.every / 2 ≤ t ∧ t < c.every / 2 + c.length)

def norm (c : Cf) (t : Int) : Int := (t.tmod c.every + c.every).tmod c.every
def next (c : Cf) (t : Int) : Int := (norm c t + 1).tmod c.every

def apartN (c : Cf) (s : St) (r0 r1 : Bool) : Int := counted s.apartFor (r0 != r1) (c.apart + 1)
def latchN (c : Cf) (s : St) (r0 r1 b0 b1 : Bool) : Bool :=
  ((s.latched || (decide (c.length ≤ s.for0) && b0)) || (decide (c.length ≤ s.for1) && b1)) || decide (c.apart < apartN c s r0 r1)
def offN (c : Cf) (s : St) (r0 r1 b0 b1 : Bool) : Bool := latchN c s r0 r1 b0 b1 || r0 || r1
def timeN (c : Cf) (s : St) (r0 r1 b0 b1 : Bool) : Int := if offN c s r0 r1 b0 b1 then 0 else next c s.time

/-- The state after a tick of the logic. -/
def step (c : Cf) (s : St) (r0 r1 b0 b1 : Bool) : St :=
  let off := offN c s r0 r1 b0 b1
  let t := timeN c s r0 r1 b0 b1
  let d0 := !off && !tested c false t
  let d1 := !off && !tested c true t
  { time := t, apartFor := apartN c s r0 r1, for0 := counted s.for0 (!d0) (c.length + 1), for1 := counted s.for1 (!d1) (c.length + 1), d0 := d0, d1 := d1, latched := latchN c s r0 r1 b0 b1 }

def start (c : Cf) : St := { time := 0, apartFor := 0, for0 := c.length + 1, for1 := c.length + 1, d0 := false, d1 := false, latched := false }

/-- The gate stage after a tick. -/
def stage (c : Cf) (s : Sg) (k0 k1 : Bool) : Sg :=
  let f0 := counted s.for0 (!k0) (c.length + 1)
  let f1 := counted s.for1 (!k1) (c.length + 1)
  { for0 := f0, for1 := f1, off := decide (c.length < f0) || decide (c.length < f1) }

theorem norm_bd {c : Cf} (h : c.Rng) (t : Int) : 0 ≤ norm c t ∧ norm c t < c.every := by
  obtain ⟨⟨h1, _⟩, ⟨h2, h3⟩, _⟩ := h
  have he : 0 < c.every := by omega
  have a1 := Int.lt_tmod_of_pos t he
  have a2 := Int.tmod_lt_of_pos t he
  unfold norm
  rw [Int.tmod_eq_emod_of_nonneg (by omega)]
  exact ⟨Int.emod_nonneg _ (by omega), Int.emod_lt_of_pos _ he⟩

theorem norm_self {c : Cf} (_h : c.Rng) {t : Int} (h0 : 0 ≤ t) (h1 : t < c.every) : norm c t = t := by
  unfold norm
  rw [Int.tmod_eq_emod_of_nonneg h0, Int.emod_eq_of_lt h0 h1, Int.tmod_eq_emod_of_nonneg (by omega), Int.add_emod_right, Int.emod_eq_of_lt h0 h1]

theorem next_eq {c : Cf} (h : c.Rng) (t : Int) : next c t = if norm c t + 1 = c.every then 0 else norm c t + 1 := by
  have hb := norm_bd h t
  unfold next
  rw [Int.tmod_eq_emod_of_nonneg (by omega)]
  split
  · rename_i e
    rw [e, Int.emod_self]
  · exact Int.emod_eq_of_lt (by omega) (by omega)

theorem counted_bd {n : Int} {is : Bool} {most : Int} (_h : 0 ≤ most) : 0 ≤ counted n is most ∧ counted n is most ≤ most := by
  unfold counted
  split <;> omega

/-! ### one channel, seen alone: what the walks of the laws want -/
/-- The logic in a state that a run has come to: the time in its range. -/
def Good (c : Cf) (s : St) : Prop := 0 ≤ s.time ∧ s.time < c.every

theorem step_good {c : Cf} (h : c.Rng) (s : St) (r0 r1 b0 b1 : Bool) : Good c (step c s r0 r1 b0 b1) := by
  have hb := norm_bd h s.time
  have hn := next_eq h s.time
  obtain ⟨⟨h1, _⟩, ⟨h2, h3⟩, _⟩ := h
  simp only [Good, step, timeN]
  split
  · omega
  · rw [hn]
    split <;> omega

/-! ### healthy channels -/
/-- The channels conduct as they were driven, and a channel that conducts has not been off. -/
def Healthy (c : Cf) (s : St) : Prop := 0 ≤ s.time ∧ s.time < c.every ∧ (s.d0 = true → s.for0 = 0) ∧ (s.d1 = true → s.for1 = 0)

theorem healthy_start {c : Cf} (h : c.Rng) : Healthy c (start c) := by
  obtain ⟨⟨h1, _⟩, ⟨h2, h3⟩, _⟩ := h
  refine ⟨by simp [start], by simp [start]; omega, by simp [start], by simp [start]⟩

theorem healthy_step {c : Cf} (h : c.Rng) {s : St} (r0 r1 b0 b1 : Bool) : Healthy c (step c s r0 r1 b0 b1) := by
  obtain ⟨g1, g2⟩ := step_good h s r0 r1 b0 b1
  refine ⟨g1, g2, ?_, ?_⟩
  · intro hd
    have hd' : (!offN c s r0 r1 b0 b1 && !tested c false (timeN c s r0 r1 b0 b1)) = true := hd
    show counted s.for0 (!(!offN c s r0 r1 b0 b1 && !tested c false (timeN c s r0 r1 b0 b1))) (c.length + 1) = 0
    rw [hd']
    rfl
  · intro hd
    have hd' : (!offN c s r0 r1 b0 b1 && !tested c true (timeN c s r0 r1 b0 b1)) = true := hd
    show counted s.for1 (!(!offN c s r0 r1 b0 b1 && !tested c true (timeN c s r0 r1 b0 b1))) (c.length + 1) = 0
    rw [hd']
    rfl

/-- With healthy channels only requests that differ too long are latched. -/
theorem healthy_latch {c : Cf} (h : c.Rng) {s : St} (hs : Healthy c s) (r0 r1 : Bool) : latchN c s r0 r1 s.d0 s.d1 = (s.latched || decide (c.apart < apartN c s r0 r1)) := by
  obtain ⟨_, _, h0, h1⟩ := hs
  obtain ⟨⟨hl, _⟩, _⟩ := h
  have e0 : (decide (c.length ≤ s.for0) && s.d0) = false := by
    cases hd : s.d0 with
    | false => simp
    | true => rw [h0 hd]; simp; omega
  have e1 : (decide (c.length ≤ s.for1) && s.d1) = false := by
    cases hd : s.d1 with
    | false => simp
    | true => rw [h1 hd]; simp; omega
  unfold latchN
  rw [e0, e1]
  simp

theorem apart_same (c : Cf) (s : St) (r : Bool) : apartN c s r r = 0 := by simp [apartN, counted]

theorem healthy_same {c : Cf} (h : c.Rng) {s : St} (hs : Healthy c s) (r : Bool) : (step c s r r s.d0 s.d1).latched = s.latched := by
  show latchN c s r r s.d0 s.d1 = _
  rw [healthy_latch h hs, apart_same]
  have : c.Rng := h
  obtain ⟨_, _, ⟨ha, _⟩⟩ := this
  have e : decide (c.apart < 0) = false := by simp; omega
  rw [e, Bool.or_false]

/-- Quiet: no request, nothing latched; the stage counts what the tests leave out. -/
def win (from_ len t : Int) : Int := if from_ ≤ t ∧ t < from_ + len then t - from_ + 1 else 0
def Quiet (c : Cf) (s : St) (g : Sg) : Prop :=
  Healthy c s ∧ s.latched = false ∧ g.off = false ∧ g.for0 = win (c.every / 2) c.length s.time ∧ g.for1 = win (c.every - c.length) c.length s.time

theorem quiet_start {c : Cf} (h : c.Rng) : Quiet c (start c) ⟨0, 0, false⟩ := by
  have hh := healthy_start h
  obtain ⟨⟨h1, _⟩, ⟨h2, h3⟩, _⟩ := h
  refine ⟨hh, rfl, rfl, ?_, ?_⟩
  · show 0 = win (c.every / 2) c.length 0
    unfold win
    split <;> omega
  · show 0 = win (c.every - c.length) c.length 0
    unfold win
    split <;> omega

theorem quiet_step {c : Cf} (h : c.Rng) {s : St} {g : Sg} (hq : Quiet c s g) :
    Quiet c (step c s false false s.d0 s.d1) (stage c g (step c s false false s.d0 s.d1).d0 (step c s false false s.d0 s.d1).d1) := by
  obtain ⟨hs, hl, hg, hf0, hf1⟩ := hq
  have hl' : (step c s false false s.d0 s.d1).latched = false := by rw [healthy_same h hs, hl]
  have hoff : offN c s false false s.d0 s.d1 = false := by
    unfold offN
    have : latchN c s false false s.d0 s.d1 = false := hl'
    rw [this]; rfl
  have ht : (step c s false false s.d0 s.d1).time = next c s.time := by
    show timeN c s false false s.d0 s.d1 = _
    unfold timeN
    rw [hoff]
    rfl
  have hd0 : (step c s false false s.d0 s.d1).d0 = !tested c false (next c s.time) := by
    show (!offN c s false false s.d0 s.d1 && !tested c false (timeN c s false false s.d0 s.d1)) = _
    unfold timeN
    rw [hoff]
    simp
  have hd1 : (step c s false false s.d0 s.d1).d1 = !tested c true (next c s.time) := by
    show (!offN c s false false s.d0 s.d1 && !tested c true (timeN c s false false s.d0 s.d1)) = _
    unfold timeN
    rw [hoff]
    simp
  have hh := healthy_step h (s := s) false false s.d0 s.d1
  obtain ⟨t0, t1, _, _⟩ := hs
  have hn := next_eq h s.time
  rw [norm_self h t0 t1] at hn
  obtain ⟨⟨h1, h1'⟩, ⟨h2, h3⟩, _⟩ := h
  have key0 : counted g.for0 (tested c false (next c s.time)) (c.length + 1) = win (c.every / 2) c.length (next c s.time) := by
    rw [hf0, hn]
    simp only [tested, win, counted, Bool.false_eq_true, if_false, decide_eq_true_eq]
    repeat' split
    all_goals omega
  have key1 : counted g.for1 (tested c true (next c s.time)) (c.length + 1) = win (c.every - c.length) c.length (next c s.time) := by
    rw [hf1, hn]
    simp only [tested, win, counted, if_true, decide_eq_true_eq]
    repeat' split
    all_goals omega
  have w0 : win (c.every / 2) c.length (next c s.time) ≤ c.length := by unfold win; split <;> omega
  have w1 : win (c.every - c.length) c.length (next c s.time) ≤ c.length := by unfold win; split <;> omega
  refine ⟨hh, hl', ?_, ?_, ?_⟩
  · simp only [stage]
    rw [hd0, hd1, Bool.not_not, Bool.not_not, key0, key1]
    simp
    omega
  · simp only [stage]
    rw [hd0, Bool.not_not, key0, ht]
  · simp only [stage]
    rw [hd1, Bool.not_not, key1, ht]

/-! ### a stuck channel -/
/-- What the channels conduct: as driven, and the stuck one always. -/
def cond0 (stuck : Int) (d : Bool) : Bool := d || decide (stuck = 0)
def cond1 (stuck : Int) (d : Bool) : Bool := d || decide (stuck = 1)

theorem step_d0_off {c : Cf} {s : St} {r0 r1 b0 b1 : Bool} (h : offN c s r0 r1 b0 b1 = true) : (step c s r0 r1 b0 b1).d0 = false := by
  show (!offN c s r0 r1 b0 b1 && _) = false
  rw [h]; rfl
theorem step_d1_off {c : Cf} {s : St} {r0 r1 b0 b1 : Bool} (h : offN c s r0 r1 b0 b1 = true) : (step c s r0 r1 b0 b1).d1 = false := by
  show (!offN c s r0 r1 b0 b1 && _) = false
  rw [h]; rfl

theorem counted_ge {n : Int} {most k : Int} (h : min k most ≤ n) (hk : 0 ≤ k) (hm : 0 ≤ most) : min (k + 1) most ≤ counted n true most := by
  simp only [counted, if_true]
  omega

/-- Under a request: after n ticks both channels have not been driven for n ticks, and the stage counts the healthy one's. -/
def Asked (c : Cf) (stuck : Int) (n : Int) (s : St) (g : Sg) (k0 k1 : Bool) : Prop :=
  min n (c.length + 1) ≤ s.for0 ∧ min n (c.length + 1) ≤ s.for1 ∧ (stuck ≠ 0 → min n (c.length + 1) ≤ g.for0) ∧ (stuck ≠ 1 → min n (c.length + 1) ≤ g.for1) ∧
  (1 ≤ n → (stuck = 0 → k0 = true) ∧ (stuck = 1 → k1 = true)) ∧ (c.length + 1 < n → (stuck = 0 ∨ stuck = 1) → s.latched = true) ∧ (c.length < n → g.off = true)

end Go.Proofs.Ytgbbhkefkpndeaa.OM

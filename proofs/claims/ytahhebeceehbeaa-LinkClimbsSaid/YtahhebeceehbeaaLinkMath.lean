/- Plain arithmetic of the link: what a tick computes, and the bounds that hold of it. Conditions: the ranges of a checked configuration, where a theorem names them. -/
namespace Go.Proofs.Ytahhebeceehbeaa.LM

structure Cfg where
  num : Int
  den : Int
  supply : Int
  feed : Int
  ohm : Int
  on : Int
  off : Int
  bohm : Int

def Cfg.Rng (c : Cfg) : Prop :=
  (0 ≤ c.num ∧ c.num ≤ 1048576) ∧ (1 ≤ c.den ∧ c.den ≤ 1048576) ∧ (0 ≤ c.supply ∧ c.supply ≤ 1048576) ∧ (0 ≤ c.feed ∧ c.feed ≤ 4194304) ∧
  (1 ≤ c.ohm ∧ c.ohm ≤ 1048576) ∧ (1 ≤ c.on ∧ c.on ≤ 1048576) ∧ (1 ≤ c.off ∧ c.off ≤ 1048576) ∧ (1 ≤ c.bohm ∧ c.bohm ≤ 1048576)
def Cfg.Ord (c : Cfg) : Prop := c.supply < c.on ∧ c.off < c.on
def Cfg.Lim (c : Cfg) : Prop := 1000 * c.num ≤ c.ohm * c.den

instance (c : Cfg) : Decidable c.Rng := by unfold Cfg.Rng; infer_instance
instance (c : Cfg) : Decidable c.Ord := by unfold Cfg.Ord; infer_instance
instance (c : Cfg) : Decidable c.Lim := by unfold Cfg.Lim; infer_instance

/-- The number of Check's error. -/
def Cfg.code (c : Cfg) : Int := if c.Rng then if c.Ord then if c.Lim then 0 else 16 else 26 else 3

structure Cfg.Ok (c : Cfg) : Prop where
  rng : c.Rng
  ord : c.Ord
  lim : c.Lim

theorem Cfg.ok_of_code {c : Cfg} (h : c.code = 0) : c.Ok := by
  unfold Cfg.code at h
  by_cases h1 : c.Rng
  · by_cases h2 : c.Ord
    · by_cases h3 : c.Lim
      · exact ⟨h1, h2, h3⟩
      · simp [h1, h2, h3] at h
    · simp [h1, h2] at h
  · simp [h1] at h

theorem Cfg.code_of_ok {c : Cfg} (h : c.Ok) : c.code = 0 := by simp [Cfg.code, h.rng, h.ord, h.lim]

def vclip (n : Int) : Int := max 0 (min n 1048576)
def dclip (n : Int) : Int := max (-4194304) (min n 4194304)

theorem vclip_bd (n : Int) : 0 ≤ vclip n ∧ vclip n ≤ 1048576 := by unfold vclip; omega
theorem dclip_bd (n : Int) : -4194304 ≤ dclip n ∧ dclip n ≤ 4194304 := by unfold dclip; omega

/-- Is the resistor on. -/
def brakeB (c : Cfg) (v : Int) (b : Bool) : Bool := decide (c.on ≤ v) || (decide (c.off ≤ v) && b)

def srcV (c : Cfg) (v : Int) (dead : Bool) : Int := if dead then 0 else max 0 (min (((c.supply - v) * 1000).tdiv c.ohm) c.feed)
def resV (c : Cfg) (v : Int) (on broken : Bool) : Int := if on && !broken then (v * 1000).tdiv c.bohm else 0
def netV (c : Cfg) (v : Int) (on : Bool) (draw : Int) (dead broken : Bool) : Int := srcV c v dead - dclip draw - resV c v on broken

/-- The voltage after a tick. -/
def stepV (c : Cfg) (V : Int) (b : Bool) (draw : Int) (dead broken : Bool) : Int :=
  vclip (vclip V + (netV c (vclip V) (brakeB c (vclip V) b) draw dead broken * c.num).tdiv c.den)
def stepB (c : Cfg) (V : Int) (b : Bool) : Bool := brakeB c (vclip V) b

/-! ### division toward zero -/
theorem tdiv_nonneg {a b : Int} (ha : 0 ≤ a) (hb : 0 < b) : 0 ≤ a.tdiv b := by
  rw [Int.tdiv_eq_ediv_of_nonneg ha]; exact Int.ediv_nonneg ha (by omega)

theorem tdiv_nonpos {a b : Int} (ha : a ≤ 0) (hb : 0 < b) : a.tdiv b ≤ 0 := by
  have h : (-a).tdiv b = -(a.tdiv b) := Int.neg_tdiv a b
  have := tdiv_nonneg (a := -a) (b := b) (by omega) hb
  omega

theorem tdiv_mono {a a' b : Int} (hb : 0 < b) (h : a ≤ a') : a.tdiv b ≤ a'.tdiv b := by
  by_cases h0 : 0 ≤ a
  · rw [Int.tdiv_eq_ediv_of_nonneg h0, Int.tdiv_eq_ediv_of_nonneg (by omega)]
    exact Int.ediv_le_ediv hb h
  · by_cases h1 : 0 ≤ a'
    · have := tdiv_nonpos (a := a) (b := b) (by omega) hb
      have := tdiv_nonneg (a := a') (b := b) h1 hb
      omega
    · have e1 : (-a).tdiv b = -(a.tdiv b) := Int.neg_tdiv a b
      have e2 : (-a').tdiv b = -(a'.tdiv b) := Int.neg_tdiv a' b
      have e3 : (-a').tdiv b ≤ (-a).tdiv b := by
        rw [Int.tdiv_eq_ediv_of_nonneg (by omega), Int.tdiv_eq_ediv_of_nonneg (by omega)]
        exact Int.ediv_le_ediv hb (by omega)
      omega

/-- A quotient toward zero is at most q if the number is at most q * b, for q not below 0. -/
theorem tdiv_le {a b q : Int} (hb : 0 < b) (h : a ≤ q * b) : a.tdiv b ≤ q := by
  have h1 := tdiv_mono hb h
  rw [Int.mul_tdiv_cancel _ (by omega)] at h1
  exact h1

theorem tdiv_le_add {a b q r : Int} (hb : 0 < b) (hr : 0 ≤ r) (h : a ≤ q * b + r) (hq : 0 ≤ q) : a.tdiv b ≤ q + r.tdiv b := by
  have h1 := tdiv_mono hb h
  have hqb : 0 ≤ q * b := Int.mul_nonneg hq (by omega)
  rw [Int.tdiv_eq_ediv_of_nonneg (a := q * b + r) (by omega), Int.add_comm, Int.add_mul_ediv_right _ _ (by omega)] at h1
  rw [Int.tdiv_eq_ediv_of_nonneg (a := r) hr]
  omega

theorem tdiv_mul_le {a b : Int} (ha : 0 ≤ a) (hb : 0 < b) : a.tdiv b * b ≤ a := by
  rw [Int.tdiv_eq_ediv_of_nonneg ha]
  exact Int.ediv_mul_le _ (by omega)

theorem tdiv_abs {a b B : Int} (hb : 0 < b) (h1 : -B ≤ a) (h2 : a ≤ B) : -B ≤ a.tdiv b ∧ a.tdiv b ≤ B := by
  have hB : 0 ≤ B := by omega
  have k : ∀ x : Int, 0 ≤ x → x ≤ B → x.tdiv b ≤ B := fun x hx hB' => by
    rw [Int.tdiv_eq_ediv_of_nonneg hx]
    have : x / b ≤ x := Int.ediv_le_self b hx
    omega
  by_cases h0 : 0 ≤ a
  · have := tdiv_nonneg h0 hb
    have := k a h0 h2
    omega
  · have e1 : (-a).tdiv b = -(a.tdiv b) := Int.neg_tdiv a b
    have := tdiv_nonneg (a := -a) (b := b) (by omega) hb
    have := k (-a) (by omega) (by omega)
    omega

/-- What a returned current raises in a tick. -/
def rise (c : Cfg) (draw : Int) : Int := (draw * c.num).tdiv c.den

theorem rise_nonneg {c : Cfg} (h : c.Rng) {d : Int} (hd : 0 ≤ d) : 0 ≤ rise c d := by
  obtain ⟨⟨h1, _⟩, ⟨h2, _⟩, _⟩ := h
  exact tdiv_nonneg (Int.mul_nonneg hd h1) (by omega)

theorem rise_mono {c : Cfg} (h : c.Rng) {d d' : Int} (hd : d ≤ d') : rise c d ≤ rise c d' := by
  obtain ⟨⟨h1, _⟩, ⟨h2, _⟩, _⟩ := h
  exact tdiv_mono (by omega) (Int.mul_le_mul_of_nonneg_right hd h1)

theorem srcV_bd {c : Cfg} (h : c.Rng) (v : Int) (dead : Bool) : 0 ≤ srcV c v dead ∧ srcV c v dead ≤ c.feed := by
  obtain ⟨_, _, _, ⟨h1, _⟩, _⟩ := h
  unfold srcV
  cases dead <;> simp <;> omega

theorem srcV_zero {c : Cfg} (h : c.Rng) {v : Int} (hv : c.supply ≤ v) (dead : Bool) : srcV c v dead = 0 := by
  obtain ⟨_, _, _, ⟨h1, _⟩, ⟨h2, _⟩, _⟩ := h
  have := tdiv_nonpos (a := (c.supply - v) * 1000) (b := c.ohm) (by omega) (by omega)
  unfold srcV
  cases dead <;> simp <;> omega

/-- The source alone never charges the link above Supply. -/
theorem srcV_le {c : Cfg} (h : c.Rng) (hl : c.Lim) {v : Int} (hv : v ≤ c.supply) (dead : Bool) : srcV c v dead * c.num ≤ (c.supply - v) * c.den := by
  obtain ⟨⟨hn, _⟩, ⟨hd, _⟩, _, ⟨hf, _⟩, ⟨ho, _⟩, _⟩ := h
  have hz : 0 ≤ (c.supply - v) * c.den := Int.mul_nonneg (by omega) (by omega)
  cases dead with
  | true => simpa [srcV] using hz
  | false =>
    have hq0 : 0 ≤ ((c.supply - v) * 1000).tdiv c.ohm := tdiv_nonneg (by omega) (by omega)
    have hq : ((c.supply - v) * 1000).tdiv c.ohm * c.ohm ≤ (c.supply - v) * 1000 := tdiv_mul_le (by omega) (by omega)
    have hs : srcV c v false ≤ ((c.supply - v) * 1000).tdiv c.ohm := by unfold srcV; simp; omega
    generalize ((c.supply - v) * 1000).tdiv c.ohm = q at hq0 hq hs
    generalize srcV c v false = s at hs
    unfold Cfg.Lim at hl
    have h1 : s * c.num ≤ q * c.num := Int.mul_le_mul_of_nonneg_right hs hn
    have h2 : q * (1000 * c.num) ≤ q * (c.ohm * c.den) := Int.mul_le_mul_of_nonneg_left hl hq0
    have h3 : q * c.ohm * c.den ≤ (c.supply - v) * 1000 * c.den := Int.mul_le_mul_of_nonneg_right hq (by omega)
    have e1 : q * (1000 * c.num) = 1000 * (q * c.num) := by rw [Int.mul_left_comm]
    have e2 : q * (c.ohm * c.den) = q * c.ohm * c.den := by rw [Int.mul_assoc]
    have e3 : (c.supply - v) * 1000 * c.den = 1000 * ((c.supply - v) * c.den) := by rw [Int.mul_comm (c.supply - v) 1000, Int.mul_assoc]
    omega

theorem resV_nonneg {c : Cfg} (h : c.Rng) {v : Int} (hv : 0 ≤ v) (on broken : Bool) : 0 ≤ resV c v on broken := by
  obtain ⟨_, _, _, _, _, _, _, ⟨h1, _⟩⟩ := h
  have := tdiv_nonneg (a := v * 1000) (b := c.bohm) (by omega) (by omega)
  unfold resV
  split <;> omega

theorem resV_le {c : Cfg} (h : c.Rng) {v w : Int} (hv : 0 ≤ v) (hw : v ≤ w) (on broken : Bool) : resV c v on broken ≤ (w * 1000).tdiv c.bohm := by
  obtain ⟨_, _, _, _, _, _, _, ⟨h1, _⟩⟩ := h
  have := tdiv_nonneg (a := w * 1000) (b := c.bohm) (by omega) (by omega)
  have := tdiv_mono (a := v * 1000) (a' := w * 1000) (b := c.bohm) (by omega) (by omega)
  unfold resV
  split <;> omega

theorem vclip_mono {a b : Int} (h : a ≤ b) : vclip a ≤ vclip b := by unfold vclip; omega
theorem vclip_self {a : Int} (h0 : 0 ≤ a) (h1 : a ≤ 1048576) : vclip a = a := by unfold vclip; omega

/-- More draw never ends with more voltage. -/
theorem stepV_anti {c : Cfg} (h : c.Rng) (V : Int) (b : Bool) {d d' : Int} (hd : d' ≤ d) (dead broken : Bool) : stepV c V b d dead broken ≤ stepV c V b d' dead broken := by
  obtain ⟨⟨hn, _⟩, ⟨hdn, _⟩, _⟩ := h
  unfold stepV
  apply vclip_mono
  have hc : dclip d' ≤ dclip d := by unfold dclip; omega
  have h1 : netV c (vclip V) (brakeB c (vclip V) b) d dead broken ≤ netV c (vclip V) (brakeB c (vclip V) b) d' dead broken := by unfold netV; omega
  have := tdiv_mono (b := c.den) (by omega) (Int.mul_le_mul_of_nonneg_right h1 hn)
  omega

theorem stepV_bd (c : Cfg) (V : Int) (b : Bool) (d : Int) (dead broken : Bool) : 0 ≤ stepV c V b d dead broken ∧ stepV c V b d dead broken ≤ 1048576 := vclip_bd _

/-- A bound from above on a tick, by a returned current. -/
theorem stepV_up {c : Cfg} (h : c.Rng) (hl : c.Lim) {V : Int} (h0 : 0 ≤ V) (h1 : V ≤ 1048576) (b : Bool) {d back : Int} (hb : -(dclip d) ≤ back) (hb0 : 0 ≤ back) (dead broken : Bool) :
    stepV c V b d dead broken ≤ max V c.supply + rise c back := by
  have hv := vclip_self h0 h1
  have hr := rise_nonneg h hb0
  have hs0 := h.2.2.1.1
  have hres := resV_nonneg h h0 (brakeB c V b) broken
  obtain ⟨hn, _⟩ := h.1
  obtain ⟨hdn, _⟩ := h.2.1
  have hbn : 0 ≤ back * c.num := Int.mul_nonneg hb0 hn
  have key : (netV c V (brakeB c V b) d dead broken * c.num).tdiv c.den ≤ (max V c.supply - V) + rise c back := by
    by_cases hc : c.supply ≤ V
    · have hsz := srcV_zero h hc dead
      have hm : max V c.supply - V = 0 := by omega
      have hnet : netV c V (brakeB c V b) d dead broken ≤ back := by unfold netV; omega
      have := tdiv_mono (b := c.den) (by omega) (Int.mul_le_mul_of_nonneg_right hnet hn)
      unfold rise
      omega
    · have hle := srcV_le h hl (v := V) (by omega) dead
      have hm : max V c.supply - V = c.supply - V := by omega
      have hnet : netV c V (brakeB c V b) d dead broken ≤ srcV c V dead + back := by unfold netV; omega
      have h2 := Int.mul_le_mul_of_nonneg_right hnet hn
      rw [Int.add_mul] at h2
      rw [hm]
      exact tdiv_le_add (by omega) hbn (by omega) (by omega)
  unfold stepV
  rw [hv]
  generalize (netV c V (brakeB c V b) d dead broken * c.num).tdiv c.den = k at key
  unfold vclip
  omega

/-- A bound from below on a tick, by a drawn current: without the resistor. -/
theorem stepV_low {c : Cfg} (h : c.Rng) {V : Int} (h0 : 0 ≤ V) (h1 : V ≤ 1048576) (b : Bool) {d drawn : Int} (hb : dclip d ≤ drawn) (hb0 : 0 ≤ drawn) (dead broken : Bool)
    {r : Int} (hr : resV c V (brakeB c V b) broken ≤ r) (hr0 : 0 ≤ r) : V - rise c (drawn + r) ≤ stepV c V b d dead broken := by
  have hv := vclip_self h0 h1
  obtain ⟨hn, _⟩ := h.1
  obtain ⟨hdn, _⟩ := h.2.1
  have hs := srcV_bd h V dead
  have hrise := rise_nonneg h (d := drawn + r) (by omega)
  have hnet : -(drawn + r) ≤ netV c V (brakeB c V b) d dead broken := by unfold netV; omega
  have h2 := tdiv_mono (b := c.den) (by omega) (Int.mul_le_mul_of_nonneg_right hnet hn)
  have e : (-(drawn + r) * c.num).tdiv c.den = -(rise c (drawn + r)) := by
    unfold rise
    rw [Int.neg_mul, Int.neg_tdiv]
  rw [e] at h2
  unfold stepV
  rw [hv]
  generalize (netV c V (brakeB c V b) d dead broken * c.num).tdiv c.den = k at h2
  unfold vclip
  omega

/-! ### LinkIdle -/
theorem idle_up {c : Cfg} (h : c.Rng) (hl : c.Lim) {V : Int} (h0 : 0 ≤ V) (h1 : V ≤ c.supply) (b dead broken : Bool) : stepV c V b 0 dead broken ≤ c.supply := by
  have hs := h.2.2.1.2
  have h2 := stepV_up h hl h0 (by omega) b (d := 0) (back := 0) (by unfold dclip; omega) (by omega) dead broken
  have e : rise c 0 = 0 := by simp [rise]
  omega

theorem idle_low {c : Cfg} (h : c.Rng) {V : Int} (h0 : 0 ≤ V) (h1 : V ≤ 1048576) (ho : V < c.off) (hord : c.Ord) (b dead broken : Bool) : V ≤ stepV c V b 0 dead broken := by
  unfold Cfg.Ord at hord
  have hb : brakeB c V b = false := by simp [brakeB]; omega
  have h2 := stepV_low h h0 h1 b (d := 0) (drawn := 0) (by unfold dclip; omega) (by omega) dead broken (r := 0) (by simp [resV, hb]) (by omega)
  have e : rise c (0 + 0) = 0 := by simp [rise]
  omega

/-! ### LinkCeils -/
def ceil (c : Cfg) (draw : Int) : Int := min (c.on - 1 + rise c draw) 1048576
def holdsB (c : Cfg) (draw : Int) : Bool := decide (draw ≤ (c.on * 1000).tdiv c.bohm)

theorem ceil_step {c : Cfg} (h : c.Rng) (hord : c.Ord) (hl : c.Lim) {V m0 : Int} (h0 : 0 ≤ V) (h1 : V ≤ 1048576) (b : Bool) {d back : Int} (hb : -(dclip d) ≤ back) (hb0 : 0 ≤ back)
    (hh : holdsB c back = true) (hV : V ≤ max m0 (ceil c back)) (dead : Bool) : stepV c V b d dead false ≤ max m0 (ceil c back) := by
  have hv := vclip_self h0 h1
  obtain ⟨hn, _⟩ := h.1
  obtain ⟨hdn, _⟩ := h.2.1
  obtain ⟨ho1, _⟩ := h.2.2.2.2.2.1
  obtain ⟨hbo, _⟩ := h.2.2.2.2.2.2.2
  unfold Cfg.Ord at hord
  by_cases hon : c.on ≤ V
  · have hbr : brakeB c V b = true := by simp [brakeB, hon]
    have hs := srcV_zero h (v := V) (by omega) dead
    have hres : resV c V (brakeB c V b) false = (V * 1000).tdiv c.bohm := by simp [resV, hbr]
    have hm := tdiv_mono (a := c.on * 1000) (a' := V * 1000) (b := c.bohm) (by omega) (by omega)
    simp only [holdsB, decide_eq_true_eq] at hh
    have hnet : netV c V (brakeB c V b) d dead false ≤ 0 := by unfold netV; omega
    have hk : (netV c V (brakeB c V b) d dead false * c.num).tdiv c.den ≤ 0 := by
      apply tdiv_nonpos _ (by omega)
      have := Int.mul_le_mul_of_nonneg_right hnet hn
      omega
    have : stepV c V b d dead false ≤ V := by
      unfold stepV
      rw [hv]
      generalize (netV c V (brakeB c V b) d dead false * c.num).tdiv c.den = k at hk
      unfold vclip
      omega
    omega
  · have h2 := stepV_up h hl h0 h1 b hb hb0 dead false
    have h3 := (stepV_bd c V b d dead false).2
    unfold ceil
    omega

/-! ### LinkClimbs -/
def climb (c : Cfg) (v draw ticks : Int) : Int := min (max v c.supply + ticks * rise c draw) 1048576
def fallR (c : Cfg) : Int := Int.tdiv 1048576000 c.bohm
def fall (c : Cfg) (v draw ticks : Int) : Int := max (min v (c.off - rise c (draw + fallR c)) - ticks * rise c draw) 0

theorem climb_step {c : Cfg} (h : c.Rng) (hl : c.Lim) {V v0 i : Int} (h0 : 0 ≤ V) (h1 : V ≤ 1048576) (b : Bool) {d back back' : Int} (hb : -(dclip d) ≤ back') (hb0 : 0 ≤ back) (hbb : back ≤ back') (hi : 0 ≤ i)
    (hV : V ≤ climb c v0 back i) (dead broken : Bool) : stepV c V b d dead broken ≤ climb c v0 back' (i + 1) := by
  have h2 := stepV_up h hl h0 h1 b hb (by omega) dead broken
  have h3 := (stepV_bd c V b d dead broken).2
  have hr := rise_mono h hbb
  have hr0 := rise_nonneg h hb0
  unfold climb at *
  have h4 : i * rise c back ≤ i * rise c back' := Int.mul_le_mul_of_nonneg_left hr hi
  have h5 : 0 ≤ i * rise c back := Int.mul_nonneg hi hr0
  rw [Int.add_mul, Int.one_mul]
  omega

theorem fallR_bd {c : Cfg} (h : c.Rng) : 0 ≤ fallR c ∧ fallR c ≤ 1048576000 := by
  obtain ⟨_, _, _, _, _, _, _, ⟨h1, _⟩⟩ := h
  have := tdiv_abs (a := 1048576000) (b := c.bohm) (B := 1048576000) (by omega) (by omega) (by omega)
  have := tdiv_nonneg (a := 1048576000) (b := c.bohm) (by omega) (by omega)
  unfold fallR
  omega

theorem fall_step {c : Cfg} (h : c.Rng) (hord : c.Ord) {V v0 i : Int} (h0 : 0 ≤ V) (h1 : V ≤ 1048576) (b : Bool) {d drawn drawn' : Int} (hb : dclip d ≤ drawn') (hb0 : 0 ≤ drawn) (hbb : drawn ≤ drawn') (hi : 0 ≤ i)
    (hV : fall c v0 drawn i ≤ V) (dead broken : Bool) : fall c v0 drawn' (i + 1) ≤ stepV c V b d dead broken := by
  have h3 := (stepV_bd c V b d dead broken).1
  have hfr := fallR_bd h
  have hr := rise_mono h hbb
  have hr0 := rise_nonneg h hb0
  have hrr := rise_mono h (d := drawn + fallR c) (d' := drawn' + fallR c) (by omega)
  have h4 : i * rise c drawn ≤ i * rise c drawn' := Int.mul_le_mul_of_nonneg_left hr hi
  have h5 : 0 ≤ i * rise c drawn := Int.mul_nonneg hi hr0
  unfold Cfg.Ord at hord
  have e : (i + 1) * rise c drawn' = i * rise c drawn' + rise c drawn' := by rw [Int.add_mul, Int.one_mul]
  unfold fall at *
  rw [e]
  by_cases hon : c.off ≤ V
  · have hle := resV_le h h0 h1 (brakeB c V b) broken
    have e2 : (1048576 * 1000 : Int).tdiv c.bohm = fallR c := rfl
    rw [e2] at hle
    have h2 := stepV_low h h0 h1 b hb (by omega) dead broken hle (by omega)
    omega
  · have hbr : brakeB c V b = false := by simp [brakeB]; omega
    have h2 := stepV_low h h0 h1 b hb (by omega) dead broken (r := 0) (by simp [resV, hbr]) (by omega)
    rw [Int.add_zero] at h2
    omega
end Go.Proofs.Ytahhebeceehbeaa.LM

/- Plain reckoning of the switching pattern: legs, parts of the period, the list of parts that is the only one. No condition. -/
import Derived.Lib.SlicesCompact
namespace Go.Proofs.Ytjeomdfcfbfebaa.PM

structure Lg where
  a : Int
  b : Int

structure Pt where
  l0 : Lg
  l1 : Lg
  l2 : Lg

abbrev B3 := Bool × Bool × Bool

def Lg.on (l : Lg) (t : Int) : Bool := decide (l.a ≤ t) && decide (t < l.b)
def Pt.on (p : Pt) (t : Int) : B3 := (p.l0.on t, p.l1.on t, p.l2.on t)

/-- A leg lies in the period. -/
def Lg.In (l : Lg) (per : Int) : Prop := 0 ≤ l.a ∧ l.a ≤ l.b ∧ l.b ≤ per
def Pt.In (p : Pt) (per : Int) : Prop := p.l0.In per ∧ p.l1.In per ∧ p.l2.In per
instance (l : Lg) (n : Int) : Decidable (l.In n) := by unfold Lg.In; infer_instance
instance (p : Pt) (n : Int) : Decidable (p.In n) := by unfold Pt.In; infer_instance

structure Prt where
  a : Int
  b : Int
  n : B3

/-- The parts up to e, the last one first. -/
def Segs (f : Int → B3) : Int → List Prt → Prop
  | e, [] => e = 0
  | e, x :: l => x.b = e ∧ 0 ≤ x.a ∧ x.a < x.b ∧ (∀ t, x.a ≤ t → t < x.b → f t = x.n) ∧ (∀ y, l.head? = some y → y.n ≠ x.n) ∧ Segs f x.a l

theorem Segs.nonneg {f : Int → B3} {e : Int} : ∀ {l : List Prt}, Segs f e l → 0 ≤ e
  | [], h => by simp only [Segs] at h; omega
  | x :: l, h => by obtain ⟨h1, h2, h3, _⟩ := h; omega

theorem Segs.last {f : Int → B3} {e : Int} {l : List Prt} (h : Segs f e l) (he : 0 < e) : ∃ x m, l = x :: m ∧ x.b = e ∧ x.n = f (e - 1) := by
  cases l with
  | nil => simp only [Segs] at h; omega
  | cons x m =>
    obtain ⟨h1, h2, h3, h4, _⟩ := h
    exact ⟨x, m, rfl, h1, (h4 (e - 1) (by omega) (by omega)).symm⟩

theorem Segs.unique {f : Int → B3} : ∀ {l m : List Prt} {e : Int}, Segs f e l → Segs f e m → l = m
  | [], [], _, _, _ => rfl
  | [], y :: m, e, h, k => by
    simp only [Segs] at h
    obtain ⟨k1, k2, k3, _⟩ := k
    omega
  | x :: l, [], e, h, k => by
    simp only [Segs] at k
    obtain ⟨k1, k2, k3, _⟩ := h
    omega
  | x :: l, y :: m, e, h, k => by
    obtain ⟨h1, h2, h3, h4, h5, h6⟩ := h
    obtain ⟨k1, k2, k3, k4, k5, k6⟩ := k
    have hn : x.n = y.n := by rw [← h4 (e - 1) (by omega) (by omega), ← k4 (e - 1) (by omega) (by omega)]
    have ha : x.a = y.a := by
      rcases Int.lt_trichotomy x.a y.a with hl | he | hl
      · obtain ⟨z, m', rfl, _, hz⟩ := k6.last (by omega)
        refine absurd ?_ (k5 z rfl)
        rw [hz, h4 (y.a - 1) (by omega) (by omega), hn]
      · exact he
      · obtain ⟨z, m', rfl, _, hz⟩ := h6.last (by omega)
        refine absurd ?_ (h5 z rfl)
        rw [hz, k4 (x.a - 1) (by omega) (by omega), hn]
    have hxy : x = y := by
      cases x; cases y
      simp only [Prt.mk.injEq]
      simp only at ha hn h1 k1
      exact ⟨ha, by omega, hn⟩
    subst hxy
    rw [h6.unique k6]

/-- The list with one piece more, joined to the last part where that is alike. -/
def push (l : List Prt) (c c' : Int) (n : B3) : List Prt :=
  match l with
  | [] => [⟨c, c', n⟩]
  | x :: m => if x.n = n then ⟨x.a, c', x.n⟩ :: m else ⟨c, c', n⟩ :: x :: m

theorem Segs.push {f : Int → B3} {c c' : Int} {l : List Prt} (h : Segs f c l) (hc : c < c') (hf : ∀ t, c ≤ t → t < c' → f t = f c) : Segs f c' (push l c c' (f c)) := by
  cases l with
  | nil =>
    simp only [Segs] at h
    exact ⟨rfl, by show 0 ≤ c; omega, hc, hf, fun y hy => (by cases hy), by show c = 0; exact h⟩
  | cons x m =>
    have h' := h
    obtain ⟨h1, h2, h3, h4, h5, h6⟩ := h
    simp only [PM.push]
    split
    · rename_i e
      refine ⟨rfl, h2, by show x.a < c'; omega, ?_, h5, h6⟩
      intro t ht ht'
      have ht : x.a ≤ t := ht
      have ht' : t < c' := ht'
      show f t = x.n
      by_cases hlt : t < c
      · exact h4 t ht (by omega)
      · rw [e]
        exact hf t (by omega) ht'
    · rename_i e
      refine ⟨rfl, by show 0 ≤ c; omega, hc, hf, ?_, h'⟩
      intro y hy
      cases hy
      exact e

/-- Where nothing of a leg begins or ends a leg is as at the beginning. -/
theorem Lg.on_same {l : Lg} {c c' t : Int} (h : l.a < l.b → (¬ (c < l.a ∧ l.a < c')) ∧ ¬ (c < l.b ∧ l.b < c')) (h1 : c ≤ t) (h2 : t < c') : l.on t = l.on c := by
  unfold Lg.on
  by_cases hl : l.a < l.b
  · obtain ⟨k1, k2⟩ := h hl
    rw [Bool.eq_iff_iff]
    simp only [Bool.and_eq_true, decide_eq_true_eq]
    omega
  · rw [Bool.eq_iff_iff]
    simp only [Bool.and_eq_true, decide_eq_true_eq]
    omega

/-! ### the cuts -/
def cutsOf (p : Pt) (per : Int) : List Int :=
  [0, per] ++ (if p.l0.a < p.l0.b then [p.l0.a, p.l0.b] else []) ++ (if p.l1.a < p.l1.b then [p.l1.a, p.l1.b] else []) ++ (if p.l2.a < p.l2.b then [p.l2.a, p.l2.b] else [])

def sorted (zs : List Int) : List Int := zs.mergeSort fun x y => decide (x ≤ y)
def cuts (p : Pt) (per : Int) : List Int := Lib.compact (sorted (cutsOf p per))

theorem sorted_pairwise (zs : List Int) : (sorted zs).Pairwise (fun x y => x ≤ y) := by
  have := List.pairwise_mergeSort (le := fun (x y : Int) => decide (x ≤ y)) (by intro a b c; simp; omega) (by intro a b; simp; omega) zs
  exact this.imp (by intro a b h; simpa using h)
theorem mem_sorted (zs : List Int) (x : Int) : x ∈ sorted zs ↔ x ∈ zs := by
  unfold sorted
  simp [List.mem_mergeSort]
theorem length_sorted (zs : List Int) : (sorted zs).length = zs.length := by unfold sorted; simp

theorem getBang (zs : List Int) (j : Nat) (h : j < zs.length) : zs.toArray[j]! = zs[j] := by simp [h]

theorem upTo_inv (zs : List Int) (hp : zs.Pairwise (fun x y => x ≤ y)) : ∀ m, m < zs.length →
    (Lib.compactUpTo zs.toArray (m + 1)).Pairwise (fun x y => x < y) ∧ (∀ x ∈ Lib.compactUpTo zs.toArray (m + 1), x ≤ zs.toArray[m]!) ∧ (∀ x, x ∈ Lib.compactUpTo zs.toArray (m + 1) ↔ ∃ j, j ≤ m ∧ zs.toArray[j]! = x)
  | 0, h => by
    rw [Lib.compactUpTo_succ]
    have : Lib.keeps zs.toArray 0 = true := Lib.keeps_lt_one _ 0 (by omega)
    rw [this]
    simp only [Lib.compactUpTo, List.range_zero, List.filter_nil, List.map_nil, List.nil_append, if_true]
    refine ⟨by simp, by simp, fun x => ?_⟩
    constructor
    · intro hx
      simp only [List.mem_singleton] at hx
      exact ⟨0, Nat.le_refl _, hx.symm⟩
    · rintro ⟨j, hj, rfl⟩
      have : j = 0 := by omega
      subst this
      simp
  | m + 1, h => by
    obtain ⟨i1, i2, i3⟩ := upTo_inv zs hp m (by omega)
    rw [Lib.compactUpTo_succ]
    have hle : zs.toArray[m]! ≤ zs.toArray[m + 1]! := by
      rw [getBang zs m (by omega), getBang zs (m + 1) h]
      exact List.pairwise_iff_getElem.1 hp m (m + 1) (by omega) h (by omega)
    by_cases hk : zs.toArray[m + 1]! = zs.toArray[m]!
    · rw [Lib.keeps_neg (by omega) (by simpa using hk)]
      simp only [Bool.false_eq_true, if_false, List.append_nil]
      refine ⟨i1, fun x hx => by rw [hk]; exact i2 x hx, fun x => ?_⟩
      rw [i3]
      constructor
      · rintro ⟨j, hj, e⟩; exact ⟨j, by omega, e⟩
      · rintro ⟨j, hj, e⟩
        by_cases hj' : j = m + 1
        · subst hj'; exact ⟨m, Nat.le_refl _, by rw [← hk]; exact e⟩
        · exact ⟨j, by omega, e⟩
    · rw [Lib.keeps_pos (by simpa using hk)]
      simp only [if_true]
      refine ⟨?_, ?_, fun x => ?_⟩
      · rw [List.pairwise_append]
        refine ⟨i1, by simp, ?_⟩
        intro x hx y hy
        simp only [List.mem_singleton] at hy
        subst hy
        have := i2 x hx
        omega
      · intro x hx
        rcases List.mem_append.1 hx with hx | hx
        · have := i2 x hx; omega
        · simp only [List.mem_singleton] at hx; omega
      · rw [List.mem_append, i3]
        constructor
        · rintro (⟨j, hj, e⟩ | hx)
          · exact ⟨j, by omega, e⟩
          · simp only [List.mem_singleton] at hx
            exact ⟨m + 1, Nat.le_refl _, hx.symm⟩
        · rintro ⟨j, hj, e⟩
          by_cases hj' : j = m + 1
          · subst hj'; right; simp [← e]
          · left; exact ⟨j, by omega, e⟩

theorem compact_inv (zs : List Int) (hp : zs.Pairwise (fun x y => x ≤ y)) (hl : 0 < zs.length) : (Lib.compact zs).Pairwise (fun x y => x < y) ∧ ∀ x, x ∈ Lib.compact zs ↔ x ∈ zs := by
  obtain ⟨m, hm⟩ : ∃ m, zs.length = m + 1 := ⟨zs.length - 1, by omega⟩
  obtain ⟨i1, _, i3⟩ := upTo_inv zs hp m (by omega)
  unfold Lib.compact
  rw [hm]
  refine ⟨i1, fun x => ?_⟩
  rw [i3]
  constructor
  · rintro ⟨j, hj, e⟩
    rw [getBang zs j (by omega)] at e
    rw [← e]
    exact List.getElem_mem _
  · intro hx
    obtain ⟨j, hj, e⟩ := List.getElem_of_mem hx
    exact ⟨j, by omega, by rw [getBang zs j hj]; exact e⟩

theorem length_cutsOf (p : Pt) (per : Int) : 2 ≤ (cutsOf p per).length ∧ (cutsOf p per).length ≤ 8 := by
  unfold cutsOf
  constructor
  · simp
  · split <;> split <;> split <;> simp

theorem cuts_pairwise (p : Pt) (per : Int) : (cuts p per).Pairwise (fun x y => x < y) :=
  (compact_inv _ (sorted_pairwise _) (by rw [length_sorted]; have := length_cutsOf p per; omega)).1
theorem mem_cuts (p : Pt) (per x : Int) : x ∈ cuts p per ↔ x ∈ cutsOf p per := by
  rw [cuts, (compact_inv _ (sorted_pairwise _) (by rw [length_sorted]; have := length_cutsOf p per; omega)).2, mem_sorted]

theorem mem_cutsOf {p : Pt} {per : Int} (h : p.In per) (hper : 0 ≤ per) {x : Int} (hx : x ∈ cutsOf p per) : 0 ≤ x ∧ x ≤ per := by
  obtain ⟨⟨a1, a2, a3⟩, ⟨b1, b2, b3⟩, ⟨c1, c2, c3⟩⟩ := h
  unfold cutsOf at hx
  simp only [List.mem_append] at hx
  rcases hx with ((hx | hx) | hx) | hx
  · simp at hx; omega
  all_goals
    split at hx
    · simp at hx; omega
    · simp at hx

theorem cuts_len_pos (p : Pt) (per : Int) : 0 < (cuts p per).length := by
  have : (0 : Int) ∈ cuts p per := by rw [mem_cuts]; simp [cutsOf]
  exact List.length_pos_of_mem this
theorem pairwise_mono {l : List Int} (h : l.Pairwise (fun x y => x < y)) {i j : Nat} (hi : i < l.length) (hj : j < l.length) (hij : i ≤ j) : l[i] ≤ l[j] := by
  by_cases e : i = j
  · subst e; exact Int.le_refl _
  · have := List.pairwise_iff_getElem.1 h i j hi hj (by omega)
    omega
theorem cuts_first {p : Pt} {per : Int} (h : p.In per) (hper : 0 ≤ per) : (cuts p per)[0]'(cuts_len_pos p per) = 0 := by
  have h0 : (0 : Int) ∈ cuts p per := by rw [mem_cuts]; simp [cutsOf]
  obtain ⟨j, hj, e⟩ := List.getElem_of_mem h0
  have k1 := pairwise_mono (cuts_pairwise p per) (cuts_len_pos p per) hj (Nat.zero_le j)
  have k2 := (mem_cutsOf h hper ((mem_cuts p per _).1 (List.getElem_mem (cuts_len_pos p per)))).1
  omega
theorem cuts_last {p : Pt} {per : Int} (h : p.In per) (hper : 0 ≤ per) : (cuts p per)[(cuts p per).length - 1]'(by have := cuts_len_pos p per; omega) = per := by
  have h0 : per ∈ cuts p per := by rw [mem_cuts]; simp [cutsOf]
  obtain ⟨j, hj, e⟩ := List.getElem_of_mem h0
  have hl := cuts_len_pos p per
  have k1 := pairwise_mono (cuts_pairwise p per) hj (show (cuts p per).length - 1 < (cuts p per).length by omega) (by omega)
  have k2 := (mem_cutsOf h hper ((mem_cuts p per _).1 (List.getElem_mem (show (cuts p per).length - 1 < (cuts p per).length by omega)))).2
  omega
theorem not_between {l : List Int} (h : l.Pairwise (fun x y => x < y)) {i : Nat} (hi : i + 1 < l.length) {x : Int} (hx : x ∈ l) : ¬ (l[i] < x ∧ x < l[i + 1]) := by
  obtain ⟨j, hj, e⟩ := List.getElem_of_mem hx
  intro ⟨k1, k2⟩
  by_cases hji : j ≤ i
  · have := pairwise_mono h hj (show i < l.length by omega) hji
    omega
  · have := pairwise_mono h hi hj (by omega)
    omega
theorem cuts_const (p : Pt) (per : Int) {i : Nat} (hi : i + 1 < (cuts p per).length) {t : Int} (h1 : (cuts p per)[i] ≤ t) (h2 : t < (cuts p per)[i + 1]) : p.on t = p.on (cuts p per)[i] := by
  have key : ∀ x, x ∈ cutsOf p per → ¬ ((cuts p per)[i] < x ∧ x < (cuts p per)[i + 1]) := fun x hx => not_between (cuts_pairwise p per) hi ((mem_cuts p per x).2 hx)
  unfold Pt.on
  rw [Lg.on_same (l := p.l0) (fun hl => ⟨key _ (by simp [cutsOf, hl]), key _ (by simp [cutsOf, hl])⟩) h1 h2,
    Lg.on_same (l := p.l1) (fun hl => ⟨key _ (by simp [cutsOf, hl]), key _ (by simp [cutsOf, hl])⟩) h1 h2,
    Lg.on_same (l := p.l2) (fun hl => ⟨key _ (by simp [cutsOf, hl]), key _ (by simp [cutsOf, hl])⟩) h1 h2]

/-- One round of the loop over the cuts. -/
theorem cuts_push {p : Pt} {per : Int} {i : Nat} {l : List Prt} (hi : i + 1 < (cuts p per).length) (h : Segs p.on (cuts p per)[i] l) :
    Segs p.on (cuts p per)[i + 1] (push l (cuts p per)[i] (cuts p per)[i + 1] (p.on (cuts p per)[i])) :=
  h.push (List.pairwise_iff_getElem.1 (cuts_pairwise p per) i (i + 1) (by omega) hi (by omega)) (fun _ h1 h2 => cuts_const p per hi h1 h2)

theorem cuts_pushD {p : Pt} {per : Int} {D : List Int} (hD : D = cuts p per) {k : Nat} {l : List Prt} (hk : k + 1 < D.length) (h : Segs p.on (D.getD k 0) l) :
    Segs p.on (D.getD (k + 1) 0) (push l (D.getD k 0) (D.getD (k + 1) 0) (p.on (D.getD k 0))) := by
  subst hD
  have e0 : (cuts p per).getD k 0 = (cuts p per)[k] := by simp [List.getD, List.getElem?_eq_getElem (show k < (cuts p per).length by omega)]
  have e1 : (cuts p per).getD (k + 1) 0 = (cuts p per)[k + 1] := by simp [List.getD, List.getElem?_eq_getElem hk]
  rw [e0] at h ⊢
  rw [e1]
  exact cuts_push hk h
theorem cuts_firstD {p : Pt} {per : Int} {D : List Int} (hD : D = cuts p per) (h : p.In per) (hper : 0 ≤ per) : D.getD 0 0 = 0 := by
  subst hD
  have := cuts_first h hper
  simp [List.getD, List.getElem?_eq_getElem (cuts_len_pos p per), this]
theorem cuts_lastD {p : Pt} {per : Int} {D : List Int} (hD : D = cuts p per) (h : p.In per) (hper : 0 ≤ per) {k : Nat} (hk : k + 1 = D.length) : D.getD k 0 = per := by
  subst hD
  have := cuts_last h hper
  obtain rfl : k = (cuts p per).length - 1 := by omega
  simp [List.getD, List.getElem?_eq_getElem (show (cuts p per).length - 1 < (cuts p per).length by have := cuts_len_pos p per; omega), this]
theorem compact_le (zs : List Int) : (Lib.compact zs).length ≤ zs.length := by
  unfold Lib.compact Lib.compactUpTo
  rw [List.length_map]
  exact Nat.le_trans (List.length_filter_le _ _) (by simp)

/-! ### ranges, pulses, checks -/
def okPer (per : Int) : Prop := 64 ≤ per ∧ per ≤ 4096
def okRng (per least : Int) : Prop := (64 ≤ per ∧ per ≤ 4096) ∧ (1 ≤ least ∧ least ≤ per / 4)
instance (per : Int) : Decidable (okPer per) := by unfold okPer; infer_instance
instance (per least : Int) : Decidable (okRng per least) := by unfold okRng; infer_instance

def pulse (d per least : Int) : Lg := if d < least then ⟨0, 0⟩ else if per - 2 * least < d then ⟨0, per⟩ else ⟨(per - d) / 2, (per - d) / 2 + d⟩
def Lg.plain (l : Lg) (per : Int) : Prop := ¬ (l.a = 0 ∧ l.b = 0) ∧ ¬ (l.a = 0 ∧ l.b = per)
instance (l : Lg) (n : Int) : Decidable (l.plain n) := by unfold Lg.plain; infer_instance
def Lg.good (l : Lg) (per least : Int) : Prop := l.plain per → least ≤ l.b - l.a ∧ least ≤ l.a ∧ least ≤ per - l.b
instance (l : Lg) (n m : Int) : Decidable (l.good n m) := by unfold Lg.good; infer_instance
/-- The number of a leg's error. -/
def Lg.code (l : Lg) (per least : Int) : Int := if l.In per then (if l.good per least then 0 else 3) else 11
def Pt.code (p : Pt) (per least : Int) : Int :=
  if okRng per least then (if p.l0.code per least = 0 then (if p.l1.code per least = 0 then p.l2.code per least else p.l1.code per least) else p.l0.code per least) else 3
def mk (d0 d1 d2 per least : Int) : Pt := ⟨pulse d0 per least, pulse d1 per least, pulse d2 per least⟩

theorem pulse_in {d per least : Int} (h : okRng per least) (_h0 : 0 ≤ d) (_h1 : d ≤ per) : (pulse d per least).In per := by
  obtain ⟨⟨a, b⟩, c, e⟩ := h
  unfold pulse
  split
  · refine ⟨?_, ?_, ?_⟩ <;> (simp only; omega)
  · split
    · refine ⟨?_, ?_, ?_⟩ <;> (simp only; omega)
    · refine ⟨?_, ?_, ?_⟩ <;> (simp only; omega)
theorem pulse_good {d per least : Int} (h : okRng per least) (_h0 : 0 ≤ d) (_h1 : d ≤ per) : (pulse d per least).good per least := by
  obtain ⟨⟨a, b⟩, c, e⟩ := h
  unfold pulse Lg.good Lg.plain
  split
  · intro hp
    simp at hp
  · split
    · intro hp
      simp at hp
    · intro _
      refine ⟨?_, ?_, ?_⟩ <;> (simp only; omega)
theorem mk_in {d0 d1 d2 per least : Int} (h : okRng per least) (h0 : 0 ≤ d0 ∧ d0 ≤ per) (h1 : 0 ≤ d1 ∧ d1 ≤ per) (h2 : 0 ≤ d2 ∧ d2 ≤ per) : (mk d0 d1 d2 per least).In per :=
  ⟨pulse_in h h0.1 h0.2, pulse_in h h1.1 h1.2, pulse_in h h2.1 h2.2⟩
theorem mk_code {d0 d1 d2 per least : Int} (h : okRng per least) (h0 : 0 ≤ d0 ∧ d0 ≤ per) (h1 : 0 ≤ d1 ∧ d1 ≤ per) (h2 : 0 ≤ d2 ∧ d2 ≤ per) : (mk d0 d1 d2 per least).code per least = 0 := by
  have e0 : (pulse d0 per least).code per least = 0 := by unfold Lg.code; rw [if_pos (pulse_in h h0.1 h0.2), if_pos (pulse_good h h0.1 h0.2)]
  have e1 : (pulse d1 per least).code per least = 0 := by unfold Lg.code; rw [if_pos (pulse_in h h1.1 h1.2), if_pos (pulse_good h h1.1 h1.2)]
  have e2 : (pulse d2 per least).code per least = 0 := by unfold Lg.code; rw [if_pos (pulse_in h h2.1 h2.2), if_pos (pulse_good h h2.1 h2.2)]
  unfold Pt.code mk
  rw [if_pos h]
  simp only [e0, e1, e2, if_true]
end Go.Proofs.Ytjeomdfcfbfebaa.PM

/- The scripts of the link: what a law over a script is told of it, and what the greatest returned and drawn currents are. No condition. -/
import Derived.Test.YtahhebeceehbeaaRows
import Derived.Test.YtahhebeceehbeaaFlat
import Derived.Test.YtahhebeceehbeaaLinkE
import Derived.Deep.RegionHeld3
import Derived.Test.YtahhebeceehbeaaSlice
namespace Go.Proofs.Ytahhebeceehbeaa
open Go.RowKit LM Flat Go.ChangeShapes

/-- The greatest current that was returned in the first ticks. -/
def backN (dr : Nat → Int) : Nat → Int
  | 0 => 0
  | k + 1 => max (backN dr k) (-(dclip (dr k)))
theorem backN_bd (dr : Nat → Int) : ∀ k, 0 ≤ backN dr k ∧ backN dr k ≤ 4194304
  | 0 => by simp [backN]
  | k + 1 => by
    have h := backN_bd dr k
    have d := dclip_bd (dr k)
    simp only [backN]
    omega
theorem backN_mono (dr : Nat → Int) : ∀ j k, backN dr k ≤ backN dr (k + j)
  | 0, k => Int.le_refl _
  | j + 1, k => by
    have h := backN_mono dr j k
    show _ ≤ max (backN dr (k + j)) _
    omega
theorem backN_ge (dr : Nat → Int) {i n : Nat} (h : i < n) : -(dclip (dr i)) ≤ backN dr n := by
  have h1 := backN_mono dr (n - (i + 1)) (i + 1)
  rw [show i + 1 + (n - (i + 1)) = n by omega] at h1
  have h2 : -(dclip (dr i)) ≤ backN dr (i + 1) := by simp only [backN]; omega
  omega

/-- A script in memory: the cells of its inputs. -/
def Script (w : World) (sb so len : Nat) (dr : Nat → Int) (de br : Nat → Bool) : Prop := ∀ i, i < len →
  w.cell? ⟨sb, so + i * 3, none⟩ = some (.int .i64 (dr i)) ∧ w.cell? ⟨sb, so + i * 3 + 1, none⟩ = some (.bool (de i)) ∧ w.cell? ⟨sb, so + i * 3 + 2, none⟩ = some (.bool (br i))

theorem valid_ok (c : Cfg) (h : c.Ok) (a : Option Addr) (len cap : Nat) (hl : len ≤ 200) (w : World) :
    Calls Try.prog 24 #[.agg #[.int .i64 c.num, .int .i64 c.den, .int .i64 c.supply, .int .i64 c.feed, .int .i64 c.ohm, .int .i64 c.on, .int .i64 c.off, .int .i64 c.bohm], .slice a len cap] w fun e w' => e = .returned (.bool true) ∧ Below w.heap.size w w' := by
  have HK := hide (fun W => check_ok c W h)
  have hl' : (len : Int) ≤ 200 := by omega
  clear h
  go_enter Try.func24, Try.ntmps24
  go_wp2_with (first
    | (go_at_call 16; refine (HK.out _).mono ?_; rintro e w1 ⟨rfl, hb1⟩; have z1 := hb1.size; (try simp at z1); have c1x0 := bstep (b := w.heap.size) hb1 (by first | omega | (simp <;> omega)); have y1x0 : w.heap.size < w1.heap.size := (by omega)))
  go_ret
  have H1 : Below w.heap.size w w1 := ((Below.refl _ _).alloc (Nat.le_refl _) _).trans (hb1.mono (by first | omega | (simp <;> omega)))
  exact ⟨rfl, H1⟩

theorem valid_err (c : Cfg) (h : c.code ≠ 0) (a : Option Addr) (len cap : Nat) (w : World) :
    Calls Try.prog 24 #[.agg #[.int .i64 c.num, .int .i64 c.den, .int .i64 c.supply, .int .i64 c.feed, .int .i64 c.ohm, .int .i64 c.on, .int .i64 c.off, .int .i64 c.bohm], .slice a len cap] w fun e w' => e = .returned (.bool false) ∧ Below w.heap.size w w' := by
  have HK := hide (fun W => check_err c W h)
  clear h
  by_cases hl : len ≤ 200
  · have hl' : (len : Int) ≤ 200 := by omega
    go_enter Try.func24, Try.ntmps24
    go_wp2_with (first
    | (go_at_call 16; refine (HK.out _).mono ?_; rintro e w1 ⟨rfl, hb1⟩; have z1 := hb1.size; (try simp at z1); have c1x0 := bstep (b := w.heap.size) hb1 (by first | omega | (simp <;> omega)); have y1x0 : w.heap.size < w1.heap.size := (by omega)))
    go_ret
    have H1 : Below w.heap.size w w1 := ((Below.refl _ _).alloc (Nat.le_refl _) _).trans (hb1.mono (by first | omega | (simp <;> omega)))
    exact ⟨rfl, H1⟩
  · have hl' : (200 : Int) < (len : Int) := by omega
    go_enter Try.func24, Try.ntmps24
    go_wp2
    go_ret
    exact ⟨rfl, (Below.refl _ _).alloc (Nat.le_refl _) _⟩

theorem valid_long (c : Cfg) (a : Option Addr) (len cap : Nat) (hl : 200 < len) (w : World) :
    Calls Try.prog 24 #[.agg #[.int .i64 c.num, .int .i64 c.den, .int .i64 c.supply, .int .i64 c.feed, .int .i64 c.ohm, .int .i64 c.on, .int .i64 c.off, .int .i64 c.bohm], .slice a len cap] w fun e w' => e = .returned (.bool false) ∧ Below w.heap.size w w' := by
  have hl' : (200 : Int) < (len : Int) := by omega
  go_enter Try.func24, Try.ntmps24
  go_wp2
  go_ret
  exact ⟨rfl, (Below.refl _ _).alloc (Nat.le_refl _) _⟩
open Flat Go.Deep in
/-- A row of at least one input, opened: its block, its offset and its values. -/
theorem script_of {w : World} {a : Addr} {len : Nat} {f : Nat → List Value} (hp : 0 < len)
    (h : ∀ i, i < len → Fits [some .i64, none, none] (f i) ∧ ∀ (j : Nat) (x : Value), (f i)[j]? = some x → w.cell? (a.add (i * 3 + j)) = some x) :
    ∃ sb so dr de br, a = ⟨sb, so, none⟩ ∧ sb < w.heap.size ∧ Script w sb so len dr de br := by
  have key : ∀ i, i < len → ∃ p : Int × Bool × Bool, f i = [.int .i64 p.1, .bool p.2.1, .bool p.2.2] := by
    intro i hi
    obtain ⟨hf, _⟩ := h i hi
    generalize f i = l at hf
    obtain ⟨_, _, rfl, ⟨n, rfl, wn⟩, hf⟩ := hf
    obtain ⟨_, _, rfl, ⟨x, rfl⟩, hf⟩ := hf
    obtain ⟨_, _, rfl, ⟨y, rfl⟩, hf⟩ := hf
    simp only [Fits] at hf
    subst hf
    exact ⟨(n, x, y), rfl⟩
  obtain ⟨p, hp'⟩ := choose_lt key
  have h0 : w.cell? (a.add (0 * 3 + 0)) = some (.int .i64 (p 0).1) := (h 0 hp).2 0 _ (by rw [hp' 0 hp]; rfl)
  simp only [Nat.zero_mul, Nat.add_zero, Addr.add, if_true] at h0
  have hs := World.cell?_spot h0
  obtain ⟨sb, so, spot⟩ := a
  simp only at hs
  subst hs
  refine ⟨sb, so, fun i => (p i).1, fun i => (p i).2.1, fun i => (p i).2.2, rfl, World.block_lt_of_cell? _ _ h0, fun i hi => ?_⟩
  have hc := (h i hi).2
  rw [hp' i hi] at hc
  have e : ∀ k, (⟨sb, so, none⟩ : Addr).add k = ⟨sb, so + k, none⟩ := by
    intro k
    unfold Addr.add
    split
    · rename_i hk
      rw [hk]
      rfl
    · rfl
  refine ⟨?_, ?_, ?_⟩
  · simpa [e, Nat.add_assoc] using hc 0 _ rfl
  · simpa [e, Nat.add_assoc] using hc 1 _ rfl
  · simpa [e, Nat.add_assoc] using hc 2 _ rfl
end Go.Proofs.Ytahhebeceehbeaa

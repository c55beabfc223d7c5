/- Walks of Check, of the program and of the reference: the number of the error of a pattern, for every input. -/
import Derived.Test.YtjeomdfcfbfebaaPatD
namespace Go.Proofs.Ytjeomdfcfbfebaa
open Go.RowKit PM

theorem never_yes (l : Lg) (h1 : l.a = 0) (h2 : l.b = 0) (w : World) :
    Calls Try.prog 64 #[.agg #[.int .i64 l.a, .int .i64 l.b]] w fun e w' => e = .returned (.bool true) ∧ (w.alloc (.cells #[.int .i64 l.a, .int .i64 l.b] 38)) = w' := by
  go_enter Try.func64, Try.ntmps64
  go_wp2
  go_ret
  exact ⟨rfl, by rw [h1, h2]⟩
theorem never_no (l : Lg) (h : ¬ (l.a = 0 ∧ l.b = 0)) (w : World) :
    Calls Try.prog 64 #[.agg #[.int .i64 l.a, .int .i64 l.b]] w fun e w' => e = .returned (.bool false) ∧ (w.alloc (.cells #[.int .i64 l.a, .int .i64 l.b] 38)) = w' := by
  by_cases k : l.a = 0
  · have k2 : ¬ l.b = 0 := fun k2 => h ⟨k, k2⟩
    clear h
    go_enter Try.func64, Try.ntmps64
    go_wp2
    go_ret
    exact ⟨ret_bool (a := (l.b == 0)) (by simpa using k2), by rw [k]⟩
  · clear h
    go_enter Try.func64, Try.ntmps64
    go_wp2
    go_ret
    exact ⟨rfl, rfl⟩
theorem always_yes (l : Lg) (per : Int) (h1 : l.a = 0) (h2 : l.b = per) (w : World) :
    Calls Try.prog 65 #[.agg #[.int .i64 l.a, .int .i64 l.b], .int .i64 per] w fun e w' => e = .returned (.bool true) ∧ (w.alloc (.cells #[.int .i64 l.a, .int .i64 l.b] 38)) = w' := by
  subst h2
  go_enter Try.func65, Try.ntmps65
  go_wp2
  go_ret
  exact ⟨rfl, by rw [h1]⟩
theorem always_no (l : Lg) (per : Int) (h : ¬ (l.a = 0 ∧ l.b = per)) (w : World) :
    Calls Try.prog 65 #[.agg #[.int .i64 l.a, .int .i64 l.b], .int .i64 per] w fun e w' => e = .returned (.bool false) ∧ (w.alloc (.cells #[.int .i64 l.a, .int .i64 l.b] 38)) = w' := by
  by_cases k : l.a = 0
  · have k2 : ¬ l.b = per := fun k2 => h ⟨k, k2⟩
    clear h
    go_enter Try.func65, Try.ntmps65
    go_wp2
    go_ret
    exact ⟨ret_bool (a := (l.b == per)) (by simpa using k2), by rw [k]⟩
  · clear h
    go_enter Try.func65, Try.ntmps65
    go_wp2
    go_ret
    exact ⟨rfl, rfl⟩
theorem plain_any (l : Lg) (per : Int) (w : World) :
    Calls Try.prog 74 #[.agg #[.int .i64 l.a, .int .i64 l.b], .int .i64 per] w fun e w' => e = .returned (.bool (decide (l.plain per))) ∧ Below w.heap.size w w' := by
  by_cases k : l.a = 0
  · by_cases k2 : l.b = 0
    · have he := hide (show decide (l.plain per) = false by simp [Lg.plain, k, k2])
      go_enter Try.func74, Try.ntmps74
      go_wp2
      go_ret
      exact ⟨ret_bool he.out.symm, by exact (by repeat (first | with_reducible assumption | with_reducible refine Below.drew ?_ | with_reducible refine below_drewN ?_ _ | with_reducible refine Below.alloc ?_ (by first | omega | (simp <;> omega)) _ | with_reducible refine Below.setCell ?_ (by first | omega | (simp <;> omega)) _ | with_reducible exact Below.refl _ _))⟩
    · by_cases k3 : l.b = per
      · have he := hide (show decide (l.plain per) = false by simp [Lg.plain, k, k3])
        go_enter Try.func74, Try.ntmps74
        go_wp2
        go_ret
        exact ⟨ret_bool he.out.symm, by exact (by repeat (first | with_reducible assumption | with_reducible refine Below.drew ?_ | with_reducible refine below_drewN ?_ _ | with_reducible refine Below.alloc ?_ (by first | omega | (simp <;> omega)) _ | with_reducible refine Below.setCell ?_ (by first | omega | (simp <;> omega)) _ | with_reducible exact Below.refl _ _))⟩
      · have he := hide (show decide (l.plain per) = true by simp [Lg.plain, k2, k3])
        go_enter Try.func74, Try.ntmps74
        go_wp2
        go_ret
        exact ⟨ret_bool he.out.symm, by exact (by repeat (first | with_reducible assumption | with_reducible refine Below.drew ?_ | with_reducible refine below_drewN ?_ _ | with_reducible refine Below.alloc ?_ (by first | omega | (simp <;> omega)) _ | with_reducible refine Below.setCell ?_ (by first | omega | (simp <;> omega)) _ | with_reducible exact Below.refl _ _))⟩
  · have he := hide (show decide (l.plain per) = true by simp [Lg.plain, k])
    go_enter Try.func74, Try.ntmps74
    go_wp2
    go_ret
    exact ⟨ret_bool he.out.symm, by exact (by repeat (first | with_reducible assumption | with_reducible refine Below.drew ?_ | with_reducible refine below_drewN ?_ _ | with_reducible refine Below.alloc ?_ (by first | omega | (simp <;> omega)) _ | with_reducible refine Below.setCell ?_ (by first | omega | (simp <;> omega)) _ | with_reducible exact Below.refl _ _))⟩
theorem plain_yes (l : Lg) (per : Int) (h : l.plain per) (w : World) :
    Calls Try.prog 74 #[.agg #[.int .i64 l.a, .int .i64 l.b], .int .i64 per] w fun e w' => e = .returned (.bool true) ∧ Below w.heap.size w w' :=
  (plain_any l per w).mono fun _ _ ⟨a, b⟩ => ⟨a.trans (ret_bool (by simpa using h)), b⟩
theorem plain_no (l : Lg) (per : Int) (h : ¬ l.plain per) (w : World) :
    Calls Try.prog 74 #[.agg #[.int .i64 l.a, .int .i64 l.b], .int .i64 per] w fun e w' => e = .returned (.bool false) ∧ Below w.heap.size w w' :=
  (plain_any l per w).mono fun _ _ ⟨a, b⟩ => ⟨a.trans (ret_bool (by simpa using h)), b⟩

/-- An error's value from its number. -/
def errV (c : Int) : Value := if c = 0 then .nilIface else .iface 96 (.int .i64 c)
theorem errV_zero : errV 0 = .nilIface := rfl
theorem num_errV (c : Int) (w : World) : Calls Try.prog 32 #[errV c] w fun e w' => e = .returned (.int .i64 c) ∧ w = w' := by
  unfold errV
  split
  · rename_i h; subst h; exact num_nil w
  · exact num_err c w
theorem code_in {l : Lg} {per least : Int} (h : l.code per least = 0) : l.In per ∧ l.good per least := by
  unfold Lg.code at h
  split at h
  · split at h
    · exact ⟨by assumption, by assumption⟩
    · cases h
  · cases h
theorem code_zero {l : Lg} {per least : Int} (h1 : l.In per) (h2 : l.good per least) : l.code per least = 0 := by unfold Lg.code; rw [if_pos h1, if_pos h2]
theorem code_three {l : Lg} {per least : Int} (h1 : l.In per) (h2 : ¬ l.good per least) : l.code per least = 3 := by unfold Lg.code; rw [if_pos h1, if_neg h2]
theorem code_out {l : Lg} {per least : Int} (h1 : ¬ l.In per) : l.code per least = 11 := by unfold Lg.code; rw [if_neg h1]
theorem bad_cases {l : Lg} {per least : Int} (h : ¬ l.good per least) : l.plain per ∧ (l.b - l.a < least ∨ (least ≤ l.b - l.a ∧ l.a < least) ∨ (least ≤ l.b - l.a ∧ least ≤ l.a ∧ per - l.b < least)) := by
  by_cases hp : l.plain per
  · refine ⟨hp, ?_⟩
    have h' : ¬ (least ≤ l.b - l.a ∧ least ≤ l.a ∧ per - l.b ≥ least) := fun k => h (fun _ => k)
    omega
  · exact absurd (fun k => absurd k hp) h

namespace PM
def Pt.leg (p : Pt) (k : Nat) : Lg := if k = 0 then p.l0 else if k = 1 then p.l1 else p.l2
theorem Pt.code_all {p : Pt} {per least : Int} (hr : okRng per least) (h : ∀ j : Nat, j < 3 → (p.leg j).code per least = 0) : p.code per least = 0 := by
  have h0 : p.l0.code per least = 0 := h 0 (by omega)
  have h1 : p.l1.code per least = 0 := h 1 (by omega)
  have h2 : p.l2.code per least = 0 := h 2 (by omega)
  unfold Pt.code
  rw [if_pos hr, if_pos h0, if_pos h1, h2]
theorem Pt.code_at {p : Pt} {per least : Int} (hr : okRng per least) {k : Nat} (hk : k < 3) (h : ∀ j : Nat, j < k → (p.leg j).code per least = 0) (hn : ¬ (p.leg k).code per least = 0) : p.code per least = (p.leg k).code per least := by
  unfold Pt.code
  rw [if_pos hr]
  obtain rfl | rfl | rfl : k = 0 ∨ k = 1 ∨ k = 2 := by omega
  · have hn' : ¬ p.l0.code per least = 0 := hn
    rw [if_neg hn']; rfl
  · have h0 : p.l0.code per least = 0 := h 0 (by omega)
    have hn' : ¬ p.l1.code per least = 0 := hn
    rw [if_pos h0, if_neg hn']; rfl
  · have h0 : p.l0.code per least = 0 := h 0 (by omega)
    have h1 : p.l1.code per least = 0 := h 1 (by omega)
    rw [if_pos h0, if_pos h1]; rfl
end PM
theorem ixLegN (p : Pt) (k : Nat) (hk : k < 3) (w : World) : (Instr.index 39 (.agg #[.int .i64 p.l0.a, .int .i64 p.l0.b, .int .i64 p.l1.a, .int .i64 p.l1.b, .int .i64 p.l2.a, .int .i64 p.l2.b]) (.int .i64 (k : Int))).run Try.prog w = .ok (.agg #[.int .i64 (p.leg k).a, .int .i64 (p.leg k).b]) w := by
  obtain rfl | rfl | rfl : k = 0 ∨ k = 1 ∨ k = 2 := by omega
  · exact ixLeg0 _ _ _ _ _ _ w
  · exact ixLeg1 _ _ _ _ _ _ w
  · exact ixLeg2 _ _ _ _ _ _ w

set_option maxHeartbeats 8000000 in
set_option maxRecDepth 100000 in
theorem check_any (p : Pt) (per least : Int) (w : World) :
    Calls Try.prog 36 #[.agg #[.int .i64 p.l0.a, .int .i64 p.l0.b, .int .i64 p.l1.a, .int .i64 p.l1.b, .int .i64 p.l2.a, .int .i64 p.l2.b], .int .i64 per, .int .i64 least] w fun e w' => e = .returned (errV (p.code per least)) ∧ Below w.heap.size w w' := by
  by_cases hr : okRng per least
  · have HR := hide (ranges_ok per least hr)
    have hrr := hide hr
    obtain ⟨⟨r1, r2⟩, r3, r4⟩ := hr
    go_enter Try.func36, Try.ntmps36
    go_wp2_with (go_at_call 58; refine (HR.out _).mono ?_; rintro e w8 ⟨rfl, rfl⟩)
    have hB : Below w.heap.size w (w.alloc (.cells #[.int .i64 p.l0.a, .int .i64 p.l0.b, .int .i64 p.l1.a, .int .i64 p.l1.b, .int .i64 p.l2.a, .int .i64 p.l2.b] 39)) := (Below.refl _ _).alloc (Nat.le_refl _) _
    have hW : w.heap.size < (w.alloc (.cells #[.int .i64 p.l0.a, .int .i64 p.l0.b, .int .i64 p.l1.a, .int .i64 p.l1.b, .int .i64 p.l2.a, .int .i64 p.l2.b] 39)).heap.size := by simp
    generalize (w.alloc (.cells #[.int .i64 p.l0.a, .int .i64 p.l0.b, .int .i64 p.l1.a, .int .i64 p.l1.b, .int .i64 p.l2.a, .int .i64 p.l2.b] 39)) = wc at hB hW ⊢
    go_loopw [18] (fun i wr => ∃ k : Nat, k ≤ 3 ∧ i = .int .i64 (k : Int) ∧ (∀ j : Nat, j < k → (p.leg j).code per least = 0) ∧ Below w.heap.size w wr ∧ w.heap.size < wr.heap.size) (fun i _ => 3 - (intOf i).toNat)
    case atStart =>
      exact ⟨0, by omega, rfl, fun j hj => absurd hj (by omega), hB, hW⟩
    case round =>
      obtain ⟨k, hk, rfl, hz, HW, hW1⟩ := hrel
      clear hB hW
      by_cases hlt : k < 3
      · have hix := ixLegN p k hlt
        have hcat := hide (fun hn => Pt.code_at (p := p) hrr.out hlt hz hn)
        have hcode := hide (fun (h0 : (p.leg k).code per least = 0) (j : Nat) (hj : j < k + 1) => show (p.leg j).code per least = 0 from if e : j < k then hz j e else by rw [show j = k by omega]; exact h0)
        generalize p.leg k = l at hix hcat hcode
        clear hz
        by_cases hin : l.In per
        · have HS := hide (shape_ok l per hin)
          by_cases hg : l.good per least
          · replace hcode := hide (hcode.out (code_zero hin hg))
            clear hcat
            obtain ⟨j1, j2, j3⟩ := hin
            by_cases hn : l.a = 0 ∧ l.b = 0
            · clear hg
              obtain ⟨n1, n2⟩ := hn
              replace n1 : l.a ≤ 0 := by omega
              replace n2 : l.b ≤ 0 := by omega
              go_wp2_with (first | (go_at_call 70; refine (HS.out _).mono ?_; rintro e w8 ⟨rfl, rfl⟩) | (go_at_call 64; first | (refine (never_yes l (by omega) (by omega) _).mono ?_; rintro e w8 ⟨rfl, rfl⟩) | (refine (never_no l (by omega) _).mono ?_; rintro e w8 ⟨rfl, rfl⟩)) | (go_at_call 65; first | (refine (always_yes l per (by omega) (by omega) _).mono ?_; rintro e w8 ⟨rfl, rfl⟩) | (refine (always_no l per (by omega) _).mono ?_; rintro e w8 ⟨rfl, rfl⟩)))
              go_roundw
              case rel => exact ⟨k + 1, by omega, by go_num, hcode.out, by exact (by repeat (first | with_reducible assumption | with_reducible refine Below.drew ?_ | with_reducible refine below_drewN ?_ _ | with_reducible refine Below.alloc ?_ (by first | omega | (simp <;> omega)) _ | with_reducible refine Below.setCell ?_ (by first | omega | (simp <;> omega)) _ | with_reducible exact Below.refl _ _)), by first | omega | (simp <;> omega)⟩
              case measure => simp [intOf]; omega
            · by_cases ha : l.a = 0 ∧ l.b = per
              · clear hg
                obtain ⟨n1, n2⟩ := ha
                replace n1 : l.a ≤ 0 := by omega
                replace n2 : per ≤ l.b := by omega
                go_wp2_with (first | (go_at_call 70; refine (HS.out _).mono ?_; rintro e w8 ⟨rfl, rfl⟩) | (go_at_call 64; first | (refine (never_yes l (by omega) (by omega) _).mono ?_; rintro e w8 ⟨rfl, rfl⟩) | (refine (never_no l (by omega) _).mono ?_; rintro e w8 ⟨rfl, rfl⟩)) | (go_at_call 65; first | (refine (always_yes l per (by omega) (by omega) _).mono ?_; rintro e w8 ⟨rfl, rfl⟩) | (refine (always_no l per (by omega) _).mono ?_; rintro e w8 ⟨rfl, rfl⟩)))
                go_roundw
                case rel => exact ⟨k + 1, by omega, by go_num, hcode.out, by exact (by repeat (first | with_reducible assumption | with_reducible refine Below.drew ?_ | with_reducible refine below_drewN ?_ _ | with_reducible refine Below.alloc ?_ (by first | omega | (simp <;> omega)) _ | with_reducible refine Below.setCell ?_ (by first | omega | (simp <;> omega)) _ | with_reducible exact Below.refl _ _)), by first | omega | (simp <;> omega)⟩
                case measure => simp [intOf]; omega
              · obtain ⟨m1, m2, m3⟩ := hg ⟨hn, ha⟩
                clear hg
                go_wp2_with (first | (go_at_call 70; refine (HS.out _).mono ?_; rintro e w8 ⟨rfl, rfl⟩) | (go_at_call 64; first | (refine (never_yes l (by omega) (by omega) _).mono ?_; rintro e w8 ⟨rfl, rfl⟩) | (refine (never_no l (by omega) _).mono ?_; rintro e w8 ⟨rfl, rfl⟩)) | (go_at_call 65; first | (refine (always_yes l per (by omega) (by omega) _).mono ?_; rintro e w8 ⟨rfl, rfl⟩) | (refine (always_no l per (by omega) _).mono ?_; rintro e w8 ⟨rfl, rfl⟩)))
                go_roundw
                case rel => exact ⟨k + 1, by omega, by go_num, hcode.out, by exact (by repeat (first | with_reducible assumption | with_reducible refine Below.drew ?_ | with_reducible refine below_drewN ?_ _ | with_reducible refine Below.alloc ?_ (by first | omega | (simp <;> omega)) _ | with_reducible refine Below.setCell ?_ (by first | omega | (simp <;> omega)) _ | with_reducible exact Below.refl _ _)), by first | omega | (simp <;> omega)⟩
                case measure => simp [intOf]; omega
          · have hpc := hide ((hcat.out (by rw [code_three hin hg]; decide)).trans (code_three hin hg))
            have x3 := bad_cases hg
            clear hcat hcode hg
            obtain ⟨⟨x1, x2⟩, x3⟩ := x3
            obtain ⟨j1, j2, j3⟩ := hin
            rcases x3 with x3 | ⟨x3, x4⟩ | ⟨x3, x4, x5⟩
            all_goals
              go_wp2_with (first | (go_at_call 70; refine (HS.out _).mono ?_; rintro e w8 ⟨rfl, rfl⟩) | (go_at_call 64; first | (refine (never_yes l (by omega) (by omega) _).mono ?_; rintro e w8 ⟨rfl, rfl⟩) | (refine (never_no l (by omega) _).mono ?_; rintro e w8 ⟨rfl, rfl⟩)) | (go_at_call 65; first | (refine (always_yes l per (by omega) (by omega) _).mono ?_; rintro e w8 ⟨rfl, rfl⟩) | (refine (always_no l per (by omega) _).mono ?_; rintro e w8 ⟨rfl, rfl⟩)))
              go_ret
              exact ⟨by rw [hpc.out]; rfl, by exact (by repeat (first | with_reducible assumption | with_reducible refine Below.drew ?_ | with_reducible refine below_drewN ?_ _ | with_reducible refine Below.alloc ?_ (by first | omega | (simp <;> omega)) _ | with_reducible refine Below.setCell ?_ (by first | omega | (simp <;> omega)) _ | with_reducible exact Below.refl _ _))⟩
        · have hpc := hide ((hcat.out (by rw [code_out hin]; decide)).trans (code_out (least := least) hin))
          have HS := hide (shape_err l per hin)
          clear hcat hcode hin
          go_wp2_with (first | (go_at_call 70; refine (HS.out _).mono ?_; rintro e w8 ⟨rfl, rfl⟩) | (go_at_call 64; first | (refine (never_yes l (by omega) (by omega) _).mono ?_; rintro e w8 ⟨rfl, rfl⟩) | (refine (never_no l (by omega) _).mono ?_; rintro e w8 ⟨rfl, rfl⟩)) | (go_at_call 65; first | (refine (always_yes l per (by omega) (by omega) _).mono ?_; rintro e w8 ⟨rfl, rfl⟩) | (refine (always_no l per (by omega) _).mono ?_; rintro e w8 ⟨rfl, rfl⟩)))
          go_ret
          exact ⟨by rw [hpc.out]; rfl, by exact (by repeat (first | with_reducible assumption | with_reducible refine Below.drew ?_ | with_reducible refine below_drewN ?_ _ | with_reducible refine Below.alloc ?_ (by first | omega | (simp <;> omega)) _ | with_reducible refine Below.setCell ?_ (by first | omega | (simp <;> omega)) _ | with_reducible exact Below.refl _ _))⟩
      · have hpc := hide (Pt.code_all (p := p) hrr.out (fun j hj => hz j (by omega)))
        have ek : k = 3 := by omega
        subst ek
        go_wp2
        go_ret
        exact ⟨by rw [hpc.out]; rfl, by exact (by repeat (first | with_reducible assumption | with_reducible refine Below.drew ?_ | with_reducible refine below_drewN ?_ _ | with_reducible refine Below.alloc ?_ (by first | omega | (simp <;> omega)) _ | with_reducible refine Below.setCell ?_ (by first | omega | (simp <;> omega)) _ | with_reducible exact Below.refl _ _))⟩
  · have HR := hide (ranges_err per least hr)
    have hpc := hide (show p.code per least = 3 by unfold Pt.code; rw [if_neg hr])
    clear hr
    go_enter Try.func36, Try.ntmps36
    go_wp2_with (go_at_call 58; refine (HR.out _).mono ?_; rintro e w8 ⟨rfl, rfl⟩)
    go_ret
    exact ⟨by rw [hpc.out]; rfl, by exact (by repeat (first | with_reducible assumption | with_reducible refine Below.drew ?_ | with_reducible refine below_drewN ?_ _ | with_reducible refine Below.alloc ?_ (by first | omega | (simp <;> omega)) _ | with_reducible refine Below.setCell ?_ (by first | omega | (simp <;> omega)) _ | with_reducible exact Below.refl _ _))⟩

set_option maxHeartbeats 8000000 in
set_option maxRecDepth 100000 in
theorem rcheck_any (p : Pt) (per least : Int) (w : World) :
    Calls Try.prog 37 #[.agg #[.int .i64 p.l0.a, .int .i64 p.l0.b, .int .i64 p.l1.a, .int .i64 p.l1.b, .int .i64 p.l2.a, .int .i64 p.l2.b], .int .i64 per, .int .i64 least] w fun e w' => e = .returned (.int .i64 (p.code per least)) ∧ Below w.heap.size w w' := by
  by_cases hr : okRng per least
  · have HR := hide (rranges_ok per least hr)
    have hrr := hide hr
    obtain ⟨⟨r1, r2⟩, r3, r4⟩ := hr
    go_enter Try.func37, Try.ntmps37
    go_wp2_with (go_at_call 68; refine (HR.out _).mono ?_; rintro e w8 ⟨rfl, rfl⟩)
    have hB : Below w.heap.size w (w.alloc (.cells #[.int .i64 p.l0.a, .int .i64 p.l0.b, .int .i64 p.l1.a, .int .i64 p.l1.b, .int .i64 p.l2.a, .int .i64 p.l2.b] 39)) := (Below.refl _ _).alloc (Nat.le_refl _) _
    have hW : w.heap.size < (w.alloc (.cells #[.int .i64 p.l0.a, .int .i64 p.l0.b, .int .i64 p.l1.a, .int .i64 p.l1.b, .int .i64 p.l2.a, .int .i64 p.l2.b] 39)).heap.size := by simp
    generalize (w.alloc (.cells #[.int .i64 p.l0.a, .int .i64 p.l0.b, .int .i64 p.l1.a, .int .i64 p.l1.b, .int .i64 p.l2.a, .int .i64 p.l2.b] 39)) = wc at hB hW ⊢
    go_loopw [18] (fun i wr => ∃ k : Nat, k ≤ 3 ∧ i = .int .i64 (k : Int) ∧ (∀ j : Nat, j < k → (p.leg j).code per least = 0) ∧ Below w.heap.size w wr ∧ w.heap.size < wr.heap.size) (fun i _ => 3 - (intOf i).toNat)
    case atStart =>
      exact ⟨0, by omega, rfl, fun j hj => absurd hj (by omega), hB, hW⟩
    case round =>
      obtain ⟨k, hk, rfl, hz, HW, hW1⟩ := hrel
      clear hB hW
      by_cases hlt : k < 3
      · have hix := ixLegN p k hlt
        have hcat := hide (fun hn => Pt.code_at (p := p) hrr.out hlt hz hn)
        have hcode := hide (fun (h0 : (p.leg k).code per least = 0) (j : Nat) (hj : j < k + 1) => show (p.leg j).code per least = 0 from if e : j < k then hz j e else by rw [show j = k by omega]; exact h0)
        generalize p.leg k = l at hix hcat hcode
        clear hz
        by_cases hin : l.In per
        · have HS := hide (rshape_ok l per hin)
          by_cases hg : l.good per least
          · replace hcode := hide (hcode.out (code_zero hin hg))
            clear hcat
            obtain ⟨j1, j2, j3⟩ := hin
            by_cases hn : l.a = 0 ∧ l.b = 0
            · clear hg
              obtain ⟨n1, n2⟩ := hn
              replace n1 : l.a ≤ 0 := by omega
              replace n2 : l.b ≤ 0 := by omega
              have HPL := hide (plain_no l per (by unfold Lg.plain; omega))
              go_wp2_with (first | (go_at_call 73; refine (HS.out _).mono ?_; rintro e w8 ⟨rfl, rfl⟩) | (go_at_call 74; refine (HPL.out _).mono ?_; rintro e w7 ⟨rfl, hb7⟩; have z7 := hb7.size; (try simp at z7); have c7x0 := bstep (b := wr.heap.size) hb7 (by first | omega | (simp <;> omega)); have y7x0 : wr.heap.size < w7.heap.size := (by omega); have H7 : Below w.heap.size w w7 := Below.trans (by repeat (first | with_reducible assumption | with_reducible refine Below.drew ?_ | with_reducible refine below_drewN ?_ _ | with_reducible refine Below.alloc ?_ (by first | omega | (simp <;> omega)) _ | with_reducible refine Below.setCell ?_ (by first | omega | (simp <;> omega)) _ | with_reducible exact Below.refl _ _)) (hb7.mono (by first | omega | (simp <;> omega)))))
              go_roundw
              case rel => exact ⟨k + 1, by omega, by go_num, hcode.out, by exact (by repeat (first | with_reducible assumption | with_reducible refine Below.drew ?_ | with_reducible refine below_drewN ?_ _ | with_reducible refine Below.alloc ?_ (by first | omega | (simp <;> omega)) _ | with_reducible refine Below.setCell ?_ (by first | omega | (simp <;> omega)) _ | with_reducible exact Below.refl _ _)), by first | omega | (simp <;> omega)⟩
              case measure => simp [intOf]; omega
            · by_cases ha : l.a = 0 ∧ l.b = per
              · clear hg
                obtain ⟨n1, n2⟩ := ha
                replace n1 : l.a ≤ 0 := by omega
                replace n2 : per ≤ l.b := by omega
                have HPL := hide (plain_no l per (by unfold Lg.plain; omega))
                go_wp2_with (first | (go_at_call 73; refine (HS.out _).mono ?_; rintro e w8 ⟨rfl, rfl⟩) | (go_at_call 74; refine (HPL.out _).mono ?_; rintro e w7 ⟨rfl, hb7⟩; have z7 := hb7.size; (try simp at z7); have c7x0 := bstep (b := wr.heap.size) hb7 (by first | omega | (simp <;> omega)); have y7x0 : wr.heap.size < w7.heap.size := (by omega); have H7 : Below w.heap.size w w7 := Below.trans (by repeat (first | with_reducible assumption | with_reducible refine Below.drew ?_ | with_reducible refine below_drewN ?_ _ | with_reducible refine Below.alloc ?_ (by first | omega | (simp <;> omega)) _ | with_reducible refine Below.setCell ?_ (by first | omega | (simp <;> omega)) _ | with_reducible exact Below.refl _ _)) (hb7.mono (by first | omega | (simp <;> omega)))))
                go_roundw
                case rel => exact ⟨k + 1, by omega, by go_num, hcode.out, by exact (by repeat (first | with_reducible assumption | with_reducible refine Below.drew ?_ | with_reducible refine below_drewN ?_ _ | with_reducible refine Below.alloc ?_ (by first | omega | (simp <;> omega)) _ | with_reducible refine Below.setCell ?_ (by first | omega | (simp <;> omega)) _ | with_reducible exact Below.refl _ _)), by first | omega | (simp <;> omega)⟩
                case measure => simp [intOf]; omega
              · obtain ⟨m1, m2, m3⟩ := hg ⟨hn, ha⟩
                clear hg
                have HPL := hide (plain_yes l per (by unfold Lg.plain; omega))
                go_wp2_with (first | (go_at_call 73; refine (HS.out _).mono ?_; rintro e w8 ⟨rfl, rfl⟩) | (go_at_call 74; refine (HPL.out _).mono ?_; rintro e w7 ⟨rfl, hb7⟩; have z7 := hb7.size; (try simp at z7); have c7x0 := bstep (b := wr.heap.size) hb7 (by first | omega | (simp <;> omega)); have y7x0 : wr.heap.size < w7.heap.size := (by omega); have H7 : Below w.heap.size w w7 := Below.trans (by repeat (first | with_reducible assumption | with_reducible refine Below.drew ?_ | with_reducible refine below_drewN ?_ _ | with_reducible refine Below.alloc ?_ (by first | omega | (simp <;> omega)) _ | with_reducible refine Below.setCell ?_ (by first | omega | (simp <;> omega)) _ | with_reducible exact Below.refl _ _)) (hb7.mono (by first | omega | (simp <;> omega)))))
                go_roundw
                case rel => exact ⟨k + 1, by omega, by go_num, hcode.out, by exact (by repeat (first | with_reducible assumption | with_reducible refine Below.drew ?_ | with_reducible refine below_drewN ?_ _ | with_reducible refine Below.alloc ?_ (by first | omega | (simp <;> omega)) _ | with_reducible refine Below.setCell ?_ (by first | omega | (simp <;> omega)) _ | with_reducible exact Below.refl _ _)), by first | omega | (simp <;> omega)⟩
                case measure => simp [intOf]; omega
          · have hpc := hide ((hcat.out (by rw [code_three hin hg]; decide)).trans (code_three hin hg))
            have x3 := bad_cases hg
            clear hcat hcode hg
            obtain ⟨⟨x1, x2⟩, x3⟩ := x3
            obtain ⟨j1, j2, j3⟩ := hin
            rcases x3 with x3 | ⟨x3, x4⟩ | ⟨x3, x4, x5⟩
            all_goals
              have HPL := hide (plain_yes l per (by unfold Lg.plain; omega))
              go_wp2_with (first | (go_at_call 73; refine (HS.out _).mono ?_; rintro e w8 ⟨rfl, rfl⟩) | (go_at_call 74; refine (HPL.out _).mono ?_; rintro e w7 ⟨rfl, hb7⟩; have z7 := hb7.size; (try simp at z7); have c7x0 := bstep (b := wr.heap.size) hb7 (by first | omega | (simp <;> omega)); have y7x0 : wr.heap.size < w7.heap.size := (by omega); have H7 : Below w.heap.size w w7 := Below.trans (by repeat (first | with_reducible assumption | with_reducible refine Below.drew ?_ | with_reducible refine below_drewN ?_ _ | with_reducible refine Below.alloc ?_ (by first | omega | (simp <;> omega)) _ | with_reducible refine Below.setCell ?_ (by first | omega | (simp <;> omega)) _ | with_reducible exact Below.refl _ _)) (hb7.mono (by first | omega | (simp <;> omega)))))
              go_ret
              exact ⟨ret_int hpc.out.symm, by exact (by repeat (first | with_reducible assumption | with_reducible refine Below.drew ?_ | with_reducible refine below_drewN ?_ _ | with_reducible refine Below.alloc ?_ (by first | omega | (simp <;> omega)) _ | with_reducible refine Below.setCell ?_ (by first | omega | (simp <;> omega)) _ | with_reducible exact Below.refl _ _))⟩
        · have hpc := hide ((hcat.out (by rw [code_out hin]; decide)).trans (code_out (least := least) hin))
          have HS := hide (rshape_err l per hin)
          clear hcat hcode hin
          go_wp2_with (first | (go_at_call 73; refine (HS.out _).mono ?_; rintro e w8 ⟨rfl, rfl⟩) | (go_at_call 74; refine (HPL.out _).mono ?_; rintro e w7 ⟨rfl, hb7⟩; have z7 := hb7.size; (try simp at z7); have c7x0 := bstep (b := wr.heap.size) hb7 (by first | omega | (simp <;> omega)); have y7x0 : wr.heap.size < w7.heap.size := (by omega); have H7 : Below w.heap.size w w7 := Below.trans (by repeat (first | with_reducible assumption | with_reducible refine Below.drew ?_ | with_reducible refine below_drewN ?_ _ | with_reducible refine Below.alloc ?_ (by first | omega | (simp <;> omega)) _ | with_reducible refine Below.setCell ?_ (by first | omega | (simp <;> omega)) _ | with_reducible exact Below.refl _ _)) (hb7.mono (by first | omega | (simp <;> omega)))))
          go_ret
          exact ⟨ret_int hpc.out.symm, by exact (by repeat (first | with_reducible assumption | with_reducible refine Below.drew ?_ | with_reducible refine below_drewN ?_ _ | with_reducible refine Below.alloc ?_ (by first | omega | (simp <;> omega)) _ | with_reducible refine Below.setCell ?_ (by first | omega | (simp <;> omega)) _ | with_reducible exact Below.refl _ _))⟩
      · have hpc := hide (Pt.code_all (p := p) hrr.out (fun j hj => hz j (by omega)))
        have ek : k = 3 := by omega
        subst ek
        go_wp2
        go_ret
        exact ⟨ret_int hpc.out.symm, by exact (by repeat (first | with_reducible assumption | with_reducible refine Below.drew ?_ | with_reducible refine below_drewN ?_ _ | with_reducible refine Below.alloc ?_ (by first | omega | (simp <;> omega)) _ | with_reducible refine Below.setCell ?_ (by first | omega | (simp <;> omega)) _ | with_reducible exact Below.refl _ _))⟩
  · have HR := hide (rranges_err per least hr)
    have hpc := hide (show p.code per least = 3 by unfold Pt.code; rw [if_neg hr])
    clear hr
    go_enter Try.func37, Try.ntmps37
    go_wp2_with (go_at_call 68; refine (HR.out _).mono ?_; rintro e w8 ⟨rfl, rfl⟩)
    go_ret
    exact ⟨ret_int hpc.out.symm, by exact (by repeat (first | with_reducible assumption | with_reducible refine Below.drew ?_ | with_reducible refine below_drewN ?_ _ | with_reducible refine Below.alloc ?_ (by first | omega | (simp <;> omega)) _ | with_reducible refine Below.setCell ?_ (by first | omega | (simp <;> omega)) _ | with_reducible exact Below.refl _ _))⟩

end Go.Proofs.Ytjeomdfcfbfebaa

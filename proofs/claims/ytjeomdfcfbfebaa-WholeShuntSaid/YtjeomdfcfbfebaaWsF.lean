/- WholeShunt returns true wherever the fixed fact that it asks first holds. Condition: that fact. -/
import Derived.Test.YtjeomdfcfbfebaaWsE
namespace Go.Proofs.Ytjeomdfcfbfebaa
open Go.RowKit PM
theorem clip_bel (n lo hi : Int) (W : World) : Calls Try.prog 22 #[.int .i64 n, .int .i64 lo, .int .i64 hi] W fun e w' => e = .returned (.int .i64 (clip n lo hi)) ∧ Below W.heap.size W w' :=
  (clip_any n lo hi W).mono fun _ _ ⟨a, b⟩ => ⟨a, by rw [b]; exact Below.refl _ _⟩
set_option maxRecDepth 100000 in
theorem whole_walk (al be link per least dead x0 x1 x2 : Int) (hcen : ∀ W : World, Calls Try.prog 20 #[] W fun e w' => e = .returned (.bool true) ∧ Below W.heap.size W w') (w : World) :
    Calls Try.prog 3 #[.agg #[.int .i64 al, .int .i64 be], .agg #[.int .i64 link, .int .i64 per, .int .i64 least, .int .i64 dead], .agg #[.int .i64 x0, .int .i64 x1, .int .i64 x2]] w fun e w' => e = .returned (.bool true) ∧ Below w.heap.size w w' := by
  by_cases hk : okF link per least dead
  · have hk' := hk
    obtain ⟨k1, k2, k3, k4, k5, k6, k7, k8, k9⟩ := hk'
    have hr : okRng per least := ⟨⟨k3, k4⟩, k5, k6⟩
    have h0 := clip_bel x0 (-268435456) 268435456
    have h1 := clip_bel x1 (-268435456) 268435456
    have h2 := clip_bel x2 1 (per / 2)
    have h3 := clip_bel al (-1048576) 1048576
    have h4 := clip_bel be (-1048576) 1048576
    have ba := clip_in (n := x0) (lo := -268435456) (hi := 268435456) (by decide)
    have bb := clip_in (n := x1) (lo := -268435456) (hi := 268435456) (by decide)
    have bn := clip_in (n := x2) (lo := 1) (hi := per / 2) (by omega)
    have bfa := clip_in (n := al) (lo := -1048576) (hi := 1048576) (by decide)
    have bfb := clip_in (n := be) (lo := -1048576) (hi := 1048576) (by decide)
    generalize clip x0 (-268435456) 268435456 = a at h0 ba
    generalize clip x1 (-268435456) 268435456 = b at h1 bb
    generalize clip x2 1 (per / 2) = need at h2 bn
    generalize clip al (-1048576) 1048576 = fa at h3 bfa
    generalize clip be (-1048576) 1048576 = fb at h4 bfb
    obtain ⟨fu, fv, lim, ⟨bu, bv⟩, hCi⟩ := circle_any fa fb link bfa bfb ⟨k1, k2⟩
    have hD := duty_any fu fv link per bu bv ⟨k1, k2⟩ ⟨k3, k4⟩
    have c0 := dutyC_bd per link (dutyS fu (phB fu fv) (-fu - phB fu fv)) fu (by omega)
    have c1 := dutyC_bd per link (dutyS fu (phB fu fv) (-fu - phB fu fv)) (phB fu fv) (by omega)
    have c2 := dutyC_bd per link (dutyS fu (phB fu fv) (-fu - phB fu fv)) (-fu - phB fu fv) (by omega)
    generalize dutyC per link (dutyS fu (phB fu fv) (-fu - phB fu fv)) fu = d0 at hD c0
    generalize dutyC per link (dutyS fu (phB fu fv) (-fu - phB fu fv)) (phB fu fv) = d1 at hD c1
    generalize dutyC per link (dutyS fu (phB fu fv) (-fu - phB fu fv)) (-fu - phB fu fv) = d2 at hD c2
    have hM := fun W => make_ok d0 d1 d2 per least hr ⟨c0, c1, c2⟩ W
    have hcode := mk_code hr c0 c1 c2
    obtain ⟨p, hp⟩ : ∃ p, p = mk d0 d1 d2 per least := ⟨_, rfl⟩
    have hM' : ∀ W : World, Calls Try.prog 25 #[.agg #[.int .i64 d0, .int .i64 d1, .int .i64 d2], .int .i64 per, .int .i64 least] W fun e w' => e = .returned (.tuple #[.agg #[.int .i64 p.l0.a, .int .i64 p.l0.b, .int .i64 p.l1.a, .int .i64 p.l1.b, .int .i64 p.l2.a, .int .i64 p.l2.b], .nilIface]) ∧ Below W.heap.size W w' := by rw [hp]; exact hM
    rw [← hp] at hcode
    have hSp := fun W => spread_any p per least need W
    obtain ⟨e1, e2, e3⟩ := sp_ok (need := need) hcode ⟨by omega, by omega⟩
    obtain ⟨⟨x, y, z⟩, ho⟩ : ∃ o, ordP p = o := ⟨_, rfl⟩
    rw [ho] at e1 e2
    by_cases hok : spOk p (spOut p need (x, y, z)) per least (x, y, z)
    · rw [if_pos hok] at e1
      rw [decide_eq_true hok] at e2
      rw [e1, e2, e3, errV_zero] at hSp
      obtain ⟨q, hq⟩ : ∃ q, q = spOut p need (x, y, z) := ⟨_, rfl⟩
      rw [← hq] at hSp hok
      have hin := code_In hok.2.1
      obtain ⟨R, hR⟩ := segs_ex (f := q.on) (e := per) (by omega)
      obtain ⟨⟨u, v⟩, hv⟩ := spread_find ho hq hok bn.1 (show need - 1 < need by omega) hR
      obtain ⟨hx, hy, hh⟩ := find_some hv
      obtain ⟨m1, m2, m3, m4, m5⟩ := hit_iff.1 hh
      obtain ⟨⟨xa, xb, xc⟩, xon⟩ := segs_mem hR u (List.mem_reverse.1 hx)
      obtain ⟨⟨ya, yb, yc⟩, yon⟩ := segs_mem hR v (List.mem_reverse.1 hy)
      have ox := xon (u.b - 1) (by omega) (by omega)
      have oy := yon (v.b - 1) (by omega) (by omega)
      have hPl := fun W => plan_ok q per (need - 1) R hr.1 hin ⟨by omega, by omega⟩ hR W
      rw [hv, plC_some hr.1 hin ⟨by omega, by omega⟩ hv, errV_zero] at hPl
      have sm0 : PM.small a := by unfold PM.small; omega
      have sm1 : PM.small b := by unfold PM.small; omega
      have sm2 : PM.small (-a - b) := by unfold PM.small; omega
      have hc1 : smC q per (u.b - 1) a b (-a - b) = 0 := smC_ok hr.1 hin ⟨⟨by omega, by omega⟩, sm0, sm1, sm2⟩
      have hc2 : smC q per (v.b - 1) a b (-a - b) = 0 := smC_ok hr.1 hin ⟨⟨by omega, by omega⟩, sm0, sm1, sm2⟩
      have hv1 := (smV_ok hc1).trans (sum_tot (p := q) ox)
      have hv2 := (smV_ok hc2).trans (sum_tot (p := q) oy)
      have hj := join_tot (n := u.n) (m := v.n) (t0 := u.b - 1) (t1 := v.b - 1) ba bb m1 m2 m5
      have hS1 := fun W => sample_any q per (u.b - 1) a b (-a - b) W
      have hS2 := fun W => sample_any q per (v.b - 1) a b (-a - b) W
      rw [hc1, hv1, errV_zero] at hS1
      rw [hc2, hv2, errV_zero] at hS2
      exact whole_spread_yes al be link per least dead x0 x1 x2 a b (-a - b) need fa fb fu fv d0 d1 d2 (u.b - 1) (v.b - 1) (oddOf u.n) (oddOf v.n) _ _ lim p q hk ba bb rfl ⟨bn.1, by omega⟩ hcen h0 h1 h2 h3 h4 hCi hD hM' hSp (code_In hcode) hin (spread_legs ho hq).2.2 hPl hS1 hS2 hj w
    · rw [if_neg hok] at e1
      rw [decide_eq_false hok] at e2
      rw [e1, e2, e3, errV_zero] at hSp
      exact whole_spread_no al be link per least dead x0 x1 x2 a b (-a - b) need fa fb fu fv d0 d1 d2 lim p p hk ba bb rfl ⟨bn.1, by omega⟩ hcen h0 h1 h2 h3 h4 hCi hD hM' hSp (code_In hcode) (code_In hcode) (fun _ => rfl) w
  · exact whole_no al be link per least dead x0 x1 x2 hk hcen w
end Go.Proofs.Ytjeomdfcfbfebaa

/- PatternChecks holds: Check and Parts are as specified, for any legs. No condition. -/
import Derived.Test.YtjeomdfcfbfebaaRows
import Derived.Test.YtjeomdfcfbfebaaFlat
import Derived.Test.YtjeomdfcfbfebaaPatF
import Derived.Test.YtjeomdfcfbfebaaPatG
import Derived.Test.YtjeomdfcfbfebaaShuntMath
import Derived.Test.YtjeomdfcfbfebaaPatJ
namespace Go.Proofs.Ytjeomdfcfbfebaa
open Go.RowKit PM Flat Go.ChangeShapes

@[go_sem] theorem eqB3in (a b c d e f : Bool) (w : World) : (Op.equalIn 9999 67 (.agg #[.bool a, .bool b, .bool c]) (.agg #[.bool d, .bool e, .bool f])).run Try.prog w = .ok (a == d && b == e && c == f) w := by
  cases a <;> cases b <;> cases c <;> cases d <;> cases e <;> cases f <;> kernel_rfl
set_option maxHeartbeats 4000000 in
set_option maxRecDepth 100000 in
theorem same_parts {p : Pt} {per : Int} {b1 b2 : Nat} {v1 v2 : Value} {R : List Prt} (hs : Segs p.on per R) (hp : per ≤ 4096) (w : World) (h1 : w.ownsRow b1 69 5 v1 R.length (flat R)) (h2 : w.ownsRow b2 69 5 v2 R.length (flat R)) :
    Calls Try.prog 38 #[v1, v2] w fun e w' => e = .returned (.bool true) ∧ Below w.heap.size w w' := by
  have hat := hide (fun k hk => segs_at hs k hk)
  have hlen := segs_len hs
  clear hs
  rcases h1.2 with ⟨rfl, hz⟩ | ⟨g1, cap1, cur1, rfl, _, hc1, _⟩
  · rcases h2.2 with ⟨rfl, _⟩ | ⟨g2, cap2, cur2, rfl, _⟩
    · go_enter Try.func38, Try.ntmps38
      go_wp2
      go_loop [13] (fun i => i = .int .i64 0) (fun _ => 0)
      case atStart => rfl
      case round =>
        subst hrel
        go_wp2
        go_ret
        exact ⟨rfl, Below.refl _ _⟩
    · rw [hz]
      go_enter Try.func38, Try.ntmps38
      go_wp2
      go_loop [13] (fun i => i = .int .i64 0) (fun _ => 0)
      case atStart => rfl
      case round =>
        subst hrel
        go_wp2
        go_ret
        exact ⟨rfl, Below.refl _ _⟩
  · rcases h2.2 with ⟨rfl, hz⟩ | ⟨g2, cap2, cur2, rfl, _, hc2, _⟩
    · rw [hz]
      go_enter Try.func38, Try.ntmps38
      go_wp2
      go_loop [13] (fun i => i = .int .i64 0) (fun _ => 0)
      case atStart => rfl
      case round =>
        subst hrel
        go_wp2
        go_ret
        exact ⟨rfl, Below.refl _ _⟩
    · have yg1 : g1 < w.heap.size := (Array.getElem?_eq_some_iff.1 hc1).1
      have yg2 : g2 < w.heap.size := (Array.getElem?_eq_some_iff.1 hc2).1
      have q1 := fun k x j (hk : k < R.length) (hx : R.reverse[k]? = some x) (hj : j < 5) => (h1.cellAt (k * 5 + j) (by omega)).trans (flat_at R k x j hx hj)
      have q2 := fun k x j (hk : k < R.length) (hx : R.reverse[k]? = some x) (hj : j < 5) => (h2.cellAt (k * 5 + j) (by omega)).trans (flat_at R k x j hx hj)
      replace q1 := hide q1
      replace q2 := hide q2
      clear h1 h2 hc1 hc2
      obtain ⟨n, hn⟩ : ∃ n, n = R.length := ⟨_, rfl⟩
      rw [← hn] at q1 q2 hlen hat ⊢
      replace hn := hide hn
      go_enter Try.func38, Try.ntmps38
      go_wp2
      go_loopw [13] (fun i wr => ∃ k : Nat, k ≤ n ∧ i = .int .i64 (k : Int) ∧ Below w.heap.size w wr) (fun i _ => n - (intOf i).toNat)
      case atStart =>
        exact ⟨0, Nat.zero_le _, rfl, Below.refl _ _⟩
      case round =>
        obtain ⟨k, hk, rfl, HW⟩ := hrel
        by_cases hlt : k < n
        · obtain ⟨x, hx, _⟩ := hat.out k hlt
          have i1 : (0 : Int) ≤ (k : Int) := by omega
          have i2 : (k : Int) < (n : Int) := by omega
          have yr1 : g1 < wr.heap.size := by have := HW.size; omega
          have yr2 : g2 < wr.heap.size := by have := HW.size; omega
          have a10 : wr.cell? ⟨g1, k * 5, none⟩ = some (.int .i64 x.a) := (HW.cell (p := ⟨g1, k * 5, none⟩) yg1).trans (q1.out k x 0 hlt hx (by omega))
          have a11 : wr.cell? ⟨g1, k * 5 + 1, none⟩ = some (.int .i64 x.b) := (HW.cell (p := ⟨g1, k * 5 + 1, none⟩) yg1).trans (q1.out k x 1 hlt hx (by omega))
          have a12 : wr.cell? ⟨g1, k * 5 + 2, none⟩ = some (.bool x.n.1) := (HW.cell (p := ⟨g1, k * 5 + 2, none⟩) yg1).trans (q1.out k x 2 hlt hx (by omega))
          have a13 : wr.cell? ⟨g1, k * 5 + 3, none⟩ = some (.bool x.n.2.1) := (HW.cell (p := ⟨g1, k * 5 + 3, none⟩) yg1).trans (q1.out k x 3 hlt hx (by omega))
          have a14 : wr.cell? ⟨g1, k * 5 + 4, none⟩ = some (.bool x.n.2.2) := (HW.cell (p := ⟨g1, k * 5 + 4, none⟩) yg1).trans (q1.out k x 4 hlt hx (by omega))
          have a15 : wr.cell? ⟨g1, k * 5 + 2 + 1, none⟩ = some (.bool x.n.2.1) := a13
          have a16 : wr.cell? ⟨g1, k * 5 + 2 + 2, none⟩ = some (.bool x.n.2.2) := a14
          have a20 : wr.cell? ⟨g2, k * 5, none⟩ = some (.int .i64 x.a) := (HW.cell (p := ⟨g2, k * 5, none⟩) yg2).trans (q2.out k x 0 hlt hx (by omega))
          have a21 : wr.cell? ⟨g2, k * 5 + 1, none⟩ = some (.int .i64 x.b) := (HW.cell (p := ⟨g2, k * 5 + 1, none⟩) yg2).trans (q2.out k x 1 hlt hx (by omega))
          have a22 : wr.cell? ⟨g2, k * 5 + 2, none⟩ = some (.bool x.n.1) := (HW.cell (p := ⟨g2, k * 5 + 2, none⟩) yg2).trans (q2.out k x 2 hlt hx (by omega))
          have a23 : wr.cell? ⟨g2, k * 5 + 3, none⟩ = some (.bool x.n.2.1) := (HW.cell (p := ⟨g2, k * 5 + 3, none⟩) yg2).trans (q2.out k x 3 hlt hx (by omega))
          have a24 : wr.cell? ⟨g2, k * 5 + 4, none⟩ = some (.bool x.n.2.2) := (HW.cell (p := ⟨g2, k * 5 + 4, none⟩) yg2).trans (q2.out k x 4 hlt hx (by omega))
          have a25 : wr.cell? ⟨g2, k * 5 + 2 + 1, none⟩ = some (.bool x.n.2.1) := a23
          have a26 : wr.cell? ⟨g2, k * 5 + 2 + 2, none⟩ = some (.bool x.n.2.2) := a24
          clear hx
          go_wp2
          go_quiet (fail)
          go_wp2
          go_roundw
          case rel => exact ⟨k + 1, by omega, by go_num, by exact (by repeat (first | with_reducible exact HW | with_reducible refine Below.drew ?_ | with_reducible refine below_drewN ?_ _))⟩
          case measure => simp [intOf]; omega
        · have ek : k = n := by omega
          subst ek
          go_wp2
          go_ret
          exact ⟨rfl, HW⟩

set_option maxHeartbeats 8000000 in
set_option maxRecDepth 100000 in
theorem patternChecks_core (p : Pt) (per least c e0 : Int) (R : List Prt) (hs : Segs p.on e0 R) (he : e0 ≤ 4096)
    (hP : ∀ W : World, Calls Try.prog 34 #[.agg #[.int .i64 p.l0.a, .int .i64 p.l0.b, .int .i64 p.l1.a, .int .i64 p.l1.b, .int .i64 p.l2.a, .int .i64 p.l2.b], .int .i64 per] W fun e w' => ∃ v : Value, e = .returned (.tuple #[v, errV c]) ∧ w'.ownsRow W.heap.size 69 5 v R.length (flat R) ∧ Below W.heap.size W w')
    (hR : ∀ W : World, Calls Try.prog 35 #[.agg #[.int .i64 p.l0.a, .int .i64 p.l0.b, .int .i64 p.l1.a, .int .i64 p.l1.b, .int .i64 p.l2.a, .int .i64 p.l2.b], .int .i64 per] W fun e w' => ∃ v : Value, e = .returned (.tuple #[v, .int .i64 c]) ∧ w'.ownsRow W.heap.size 69 5 v R.length (flat R) ∧ Below W.heap.size W w') (w : World) :
    Calls Try.prog 7 #[.agg #[.int .i64 p.l0.a, .int .i64 p.l0.b, .int .i64 p.l1.a, .int .i64 p.l1.b, .int .i64 p.l2.a, .int .i64 p.l2.b], .agg #[.int .i64 per, .int .i64 least]] w fun e w' => e = .returned (.bool true) ∧ Below w.heap.size w w' := by
  have HP := hide hP
  have HR := hide hR
  have HCP := hide (fun W => check_any p per least W)
  have HCR := hide (fun W => rcheck_any p per least W)
  have HPA := hide (fun W b1 b2 v1 v2 h1 h2 => same_parts (b1 := b1) (b2 := b2) (v1 := v1) (v2 := v2) hs he W h1 h2)
  generalize p.code per least = cd at HCP HCR
  have HNM := hide (num_errV cd)
  have HN2 := hide (num_errV c)
  clear hs he hP hR
  go_enter Try.func7, Try.ntmps7
  go_upto_region 5 with (first
    | (go_at_call 30; refine (awake_any _).mono ?_; rintro e w1 ⟨rfl, hb1⟩; have z1 := hb1.size; (try simp at z1); have c1x0 := bstep (b := w.heap.size) hb1 (by first | omega | (simp <;> omega)); have y1x0 : w.heap.size < w1.heap.size := (by omega); have c1x1 := bstep (b := w.heap.size + 1) hb1 (by first | omega | (simp <;> omega)); have y1x1 : w.heap.size + 1 < w1.heap.size := (by omega))
    | (go_at_call 34; refine (HP.out _).mono ?_; rintro e w2 ⟨v2, rfl, hown2, hb2⟩; replace hown2 := hide hown2; have z2 := hb2.size; (try simp at z2); have c2x0 := bstep (b := w.heap.size) hb2 (by first | omega | (simp <;> omega)); have y2x0 : w.heap.size < w2.heap.size := (by omega); have c2x1 := bstep (b := w.heap.size + 1) hb2 (by first | omega | (simp <;> omega)); have y2x1 : w.heap.size + 1 < w2.heap.size := (by omega))
    | (go_at_call 35; refine (HR.out _).mono ?_; rintro e w3 ⟨v3, rfl, hown3, hb3⟩; replace hown3 := hide hown3; have z3 := hb3.size; (try simp at z3); have c3x0 := bstep (b := w.heap.size) hb3 (by first | omega | (simp <;> omega)); have y3x0 : w.heap.size < w3.heap.size := (by omega); have c3x1 := bstep (b := w.heap.size + 1) hb3 (by first | omega | (simp <;> omega)); have y3x1 : w.heap.size + 1 < w3.heap.size := (by omega)))
  have H1 : Below w.heap.size w w1 := (((Below.refl _ _).alloc (Nat.le_refl _) _).alloc (by first | omega | (simp <;> omega)) _).trans (hb1.mono (by first | omega | (simp <;> omega)))
  have H2 : Below w.heap.size w w2 := H1.trans (hb2.mono (by first | omega | (simp <;> omega)))
  have H3 : Below w.heap.size w w3 := H2.trans (hb3.mono (by first | omega | (simp <;> omega)))
  have q0 : w3.cell? ⟨w.heap.size, 0, none⟩ = some (.int .i64 p.l0.a) := by go_simp
  have q1 : w3.cell? ⟨w.heap.size, 1, none⟩ = some (.int .i64 p.l0.b) := by go_simp
  have q2 : w3.cell? ⟨w.heap.size, 2, none⟩ = some (.int .i64 p.l1.a) := by go_simp
  have q3 : w3.cell? ⟨w.heap.size, 3, none⟩ = some (.int .i64 p.l1.b) := by go_simp
  have q4 : w3.cell? ⟨w.heap.size, 4, none⟩ = some (.int .i64 p.l2.a) := by go_simp
  have q5 : w3.cell? ⟨w.heap.size, 5, none⟩ = some (.int .i64 p.l2.b) := by go_simp
  have q6 : w3.cell? ⟨w.heap.size + 1, 0, none⟩ = some (.int .i64 per) := by go_simp
  have q7 : w3.cell? ⟨w.heap.size + 1, 1, none⟩ = some (.int .i64 least) := by go_simp
  have o2 : w3.ownsRow w1.heap.size 69 5 v2 R.length (flat R) := own_below hown2.out hb3
  have o3 := hown3.out
  have ysz : w.heap.size + 1 < w3.heap.size := by omega
  have hk : ∀ W W' : World, (fun w' => w'.cell? ⟨w.heap.size, 0, none⟩ = some (.int .i64 p.l0.a) ∧ w'.cell? ⟨w.heap.size, 1, none⟩ = some (.int .i64 p.l0.b) ∧ w'.cell? ⟨w.heap.size, 2, none⟩ = some (.int .i64 p.l1.a) ∧ w'.cell? ⟨w.heap.size, 3, none⟩ = some (.int .i64 p.l1.b) ∧ w'.cell? ⟨w.heap.size, 4, none⟩ = some (.int .i64 p.l2.a) ∧ w'.cell? ⟨w.heap.size, 5, none⟩ = some (.int .i64 p.l2.b) ∧ w'.cell? ⟨w.heap.size + 1, 0, none⟩ = some (.int .i64 per) ∧ w'.cell? ⟨w.heap.size + 1, 1, none⟩ = some (.int .i64 least) ∧ w'.ownsRow w1.heap.size 69 5 v2 R.length (flat R) ∧ w'.ownsRow w2.heap.size 69 5 v3 R.length (flat R) ∧ w.heap.size + 1 < w'.heap.size) W → Below W.heap.size W W' → (fun w' => w'.cell? ⟨w.heap.size, 0, none⟩ = some (.int .i64 p.l0.a) ∧ w'.cell? ⟨w.heap.size, 1, none⟩ = some (.int .i64 p.l0.b) ∧ w'.cell? ⟨w.heap.size, 2, none⟩ = some (.int .i64 p.l1.a) ∧ w'.cell? ⟨w.heap.size, 3, none⟩ = some (.int .i64 p.l1.b) ∧ w'.cell? ⟨w.heap.size, 4, none⟩ = some (.int .i64 p.l2.a) ∧ w'.cell? ⟨w.heap.size, 5, none⟩ = some (.int .i64 p.l2.b) ∧ w'.cell? ⟨w.heap.size + 1, 0, none⟩ = some (.int .i64 per) ∧ w'.cell? ⟨w.heap.size + 1, 1, none⟩ = some (.int .i64 least) ∧ w'.ownsRow w1.heap.size 69 5 v2 R.length (flat R) ∧ w'.ownsRow w2.heap.size 69 5 v3 R.length (flat R) ∧ w.heap.size + 1 < w'.heap.size) W' := by
    rintro W W' ⟨h0, h1, h2, h3, h4, h5, h6, h7, k1, k2, k3⟩ hb
    exact ⟨(hb.cell (p := ⟨w.heap.size, 0, none⟩) (by show w.heap.size < W.heap.size; omega)).trans h0, (hb.cell (p := ⟨w.heap.size, 1, none⟩) (by show w.heap.size < W.heap.size; omega)).trans h1, (hb.cell (p := ⟨w.heap.size, 2, none⟩) (by show w.heap.size < W.heap.size; omega)).trans h2, (hb.cell (p := ⟨w.heap.size, 3, none⟩) (by show w.heap.size < W.heap.size; omega)).trans h3, (hb.cell (p := ⟨w.heap.size, 4, none⟩) (by show w.heap.size < W.heap.size; omega)).trans h4, (hb.cell (p := ⟨w.heap.size, 5, none⟩) (by show w.heap.size < W.heap.size; omega)).trans h5, (hb.cell (p := ⟨w.heap.size + 1, 0, none⟩) (by show w.heap.size + 1 < W.heap.size; omega)).trans h6, (hb.cell (p := ⟨w.heap.size + 1, 1, none⟩) (by show w.heap.size + 1 < W.heap.size; omega)).trans h7, own_below k1 hb, own_below k2 hb, by have := hb.size; omega⟩
  have S3 : (fun w' => w'.cell? ⟨w.heap.size, 0, none⟩ = some (.int .i64 p.l0.a) ∧ w'.cell? ⟨w.heap.size, 1, none⟩ = some (.int .i64 p.l0.b) ∧ w'.cell? ⟨w.heap.size, 2, none⟩ = some (.int .i64 p.l1.a) ∧ w'.cell? ⟨w.heap.size, 3, none⟩ = some (.int .i64 p.l1.b) ∧ w'.cell? ⟨w.heap.size, 4, none⟩ = some (.int .i64 p.l2.a) ∧ w'.cell? ⟨w.heap.size, 5, none⟩ = some (.int .i64 p.l2.b) ∧ w'.cell? ⟨w.heap.size + 1, 0, none⟩ = some (.int .i64 per) ∧ w'.cell? ⟨w.heap.size + 1, 1, none⟩ = some (.int .i64 least) ∧ w'.ownsRow w1.heap.size 69 5 v2 R.length (flat R) ∧ w'.ownsRow w2.heap.size 69 5 v3 R.length (flat R) ∧ w.heap.size + 1 < w'.heap.size) w3.drew := ⟨q0, q1, q2, q3, q4, q5, q6, q7, o2, o3, ysz⟩
  clear hown2 hown3 c1x0 c1x1 c2x0 c2x1 c3x0 c3x1
  go_region_held3 (fun w' => w'.cell? ⟨w.heap.size, 0, none⟩ = some (.int .i64 p.l0.a) ∧ w'.cell? ⟨w.heap.size, 1, none⟩ = some (.int .i64 p.l0.b) ∧ w'.cell? ⟨w.heap.size, 2, none⟩ = some (.int .i64 p.l1.a) ∧ w'.cell? ⟨w.heap.size, 3, none⟩ = some (.int .i64 p.l1.b) ∧ w'.cell? ⟨w.heap.size, 4, none⟩ = some (.int .i64 p.l2.a) ∧ w'.cell? ⟨w.heap.size, 5, none⟩ = some (.int .i64 p.l2.b) ∧ w'.cell? ⟨w.heap.size + 1, 0, none⟩ = some (.int .i64 per) ∧ w'.cell? ⟨w.heap.size + 1, 1, none⟩ = some (.int .i64 least) ∧ w'.ownsRow w1.heap.size 69 5 v2 R.length (flat R) ∧ w'.ownsRow w2.heap.size 69 5 v3 R.length (flat R) ∧ w.heap.size + 1 < w'.heap.size) (first | exact S3 | exact hk _ _ S3 hb4 | exact hk _ _ (hk _ _ S3 hb4) hb5 | exact hk _ _ (hk _ _ (hk _ _ S3 hb4) hb5) hb6) (first
    | (go_at_call 36; with_reducible refine (HCP.out _).mono ?_; rintro e w4 ⟨rfl, hb4⟩)
    | (go_at_call 37; with_reducible refine (HCR.out _).mono ?_; rintro e w5 ⟨rfl, hb5⟩)
    | (go_at_call 32; first | (with_reducible refine (HNM.out _).mono ?_; rintro e w9 ⟨rfl, rfl⟩) | (with_reducible refine (HN2.out _).mono ?_; rintro e w9 ⟨rfl, rfl⟩))
    | (go_at_call 38; have ha : w5.ownsRow w1.heap.size 69 5 v2 R.length (flat R) := (by exact (by repeat (first | exact o2 | refine own_below ?_ hb5 | refine own_below ?_ hb4 | refine World.ownsRow.drew ?_ | refine own_drewN ?_ _))); have hb : w5.ownsRow w2.heap.size 69 5 v3 R.length (flat R) := (by exact (by repeat (first | exact o3 | refine own_below ?_ hb5 | refine own_below ?_ hb4 | refine World.ownsRow.drew ?_ | refine own_drewN ?_ _))); refine (HPA.out _ _ _ _ _ ha hb).mono ?_; rintro e w6 ⟨rfl, hb6⟩))
  all_goals go_wp2
  all_goals go_ret
  all_goals
    have z4 : w3.heap.size ≤ w4.heap.size := hb4.size
    have z5 : w4.heap.size ≤ w5.heap.size := hb5.size
    exact ⟨rfl, (((H3.drew).trans (hb4.mono (by show w.heap.size ≤ w3.heap.size; omega))).trans (hb5.mono (by omega))).trans (hb6.mono (by omega))⟩

theorem patternChecks_walk (p : Pt) (per least : Int) (w : World) :
    Calls Try.prog 7 #[.agg #[.int .i64 p.l0.a, .int .i64 p.l0.b, .int .i64 p.l1.a, .int .i64 p.l1.b, .int .i64 p.l2.a, .int .i64 p.l2.b], .agg #[.int .i64 per, .int .i64 least]] w fun e w' => e = .returned (.bool true) ∧ Below w.heap.size w w' := by
  by_cases hper : okPer per
  · by_cases h : p.In per
    · obtain ⟨R, hS⟩ := segs_ex (f := p.on) (e := per) (by have := hper.1; omega)
      refine patternChecks_core p per least 0 per R hS hper.2 (fun W => ?_) (fun W => ?_) w
      · refine (parts_ok p per hper h W).mono ?_
        rintro e w' ⟨v, R', rfl, hS', ho, hb⟩
        obtain rfl : R' = R := hS'.unique hS
        exact ⟨v, rfl, ho, hb⟩
      · refine (rparts_ok p per hper h W).mono ?_
        rintro e w' ⟨v, R', rfl, hS', ho, hb⟩
        obtain rfl : R' = R := hS'.unique hS
        exact ⟨v, rfl, ho, hb⟩
    · refine patternChecks_core p per least 11 0 [] rfl (by decide) (fun W => ?_) (fun W => ?_) w
      · refine (parts_shape p per hper h W).mono ?_
        rintro e w' ⟨rfl, hb⟩
        exact ⟨_, rfl, World.ownsRow_nil _ _ _ _, hb⟩
      · refine (rparts_shape p per hper h W).mono ?_
        rintro e w' ⟨rfl, hb⟩
        exact ⟨_, rfl, World.ownsRow_nil _ _ _ _, hb⟩
  · refine patternChecks_core p per least 3 0 [] rfl (by decide) (fun W => ?_) (fun W => ?_) w
    · refine (parts_per p per hper W).mono ?_
      rintro e w' ⟨rfl, hb⟩
      exact ⟨_, rfl, World.ownsRow_nil _ _ _ _, hb⟩
    · refine (rparts_per p per hper W).mono ?_
      rintro e w' ⟨rfl, hb⟩
      exact ⟨_, rfl, World.ownsRow_nil _ _ _ _, hb⟩

set_option maxRecDepth 100000 in
theorem patternChecks_lifted (os : Os) (started : os.Started) (H : Type) (enc : TypeId × Value → H) :
    ReturnsInHanded {} Try.checked os 7 .any (Rows.patternChecksSpec.pre6 enc Try.prog Try.f7 Rows.patternChecksRow.domain false) (Rows.patternChecksSpec.post enc Try.prog Try.f7 false true false false) := by
  refine lift (C := Try.checked) (s := Rows.patternChecksSpec) 4 Try.own started (by kernel_rfl) Try.func7 Try.laidOut rfl rfl Try.underlying4 (by kernel_rfl)
    (fun ds hds => by
      have hl : ds.length = 2 := hds
      match ds, hl with
      | [_, _], _ => rfl)
    (ChangeSpec.witness6 (enc := enc) (C := Try.checked) false ⟨#[], #[.agg #[.int .i64 0, .int .i64 0, .int .i64 0, .int .i64 0, .int .i64 0, .int .i64 0], .agg #[.int .i64 0, .int .i64 0]], []⟩ 8 (by kernel_rfl) (by kernel_rfl) (by kernel_rfl) (by kernel_rfl)) ?_
  intro W base args ds p hval0 hA0
  have hval : ∀ (j : Nat) t v, Try.f7.params[j]? = some t → args[j]? = some v → Value.okWide Try.prog W .any base t v := hval0
  have hA : DataW.TrodAll enc Try.prog W 0 (fun _ => true) true Try.f7.params.toList args.toList ds p := hA0
  clear hval0 hA0
  rw [Try.params7] at hA hval
  obtain ⟨v0, vs0, d0, ds0, p0, q0, hargs, rfl, rfl, h0, r0⟩ := trodAll_cons hA
  obtain ⟨v1, vs1, d1, ds1, p1, q1, rfl, rfl, rfl, h1, r1⟩ := trodAll_cons r0
  obtain ⟨rfl, rfl, rfl⟩ := trodAll_nil r1
  obtain rfl : args = #[v0, v1] := by cases args; simp_all
  obtain ⟨l0, rfl, g0⟩ := arg_array 4 Try.underlying39 (ks := [some .i64, some .i64, some .i64, some .i64, some .i64, some .i64]) (by kernel_rfl) (hval 0 39 v0 rfl rfl) h0
  obtain ⟨_, _, rfl, ⟨a0, rfl, wa0⟩, g0x0⟩ := g0
  obtain ⟨_, _, rfl, ⟨a1, rfl, wa1⟩, g0x1⟩ := g0x0
  obtain ⟨_, _, rfl, ⟨a2, rfl, wa2⟩, g0x2⟩ := g0x1
  obtain ⟨_, _, rfl, ⟨a3, rfl, wa3⟩, g0x3⟩ := g0x2
  obtain ⟨_, _, rfl, ⟨a4, rfl, wa4⟩, g0x4⟩ := g0x3
  obtain ⟨_, _, rfl, ⟨a5, rfl, wa5⟩, g0x5⟩ := g0x4
  simp only [Fits] at g0x5
  subst g0x5
  obtain ⟨l1, rfl, g1⟩ := arg_struct 4 Try.underlying55 (ks := [some .i64, some .i64]) (by kernel_rfl) (hval 1 55 v1 rfl rfl) h1
  obtain ⟨_, _, rfl, ⟨s0, rfl, ws0⟩, g1x0⟩ := g1
  obtain ⟨_, _, rfl, ⟨s1, rfl, ws1⟩, g1x1⟩ := g1x0
  simp only [Fits] at g1x1
  subst g1x1
  exact patternChecks_walk ⟨⟨a0, a1⟩, ⟨a2, a3⟩, ⟨a4, a5⟩⟩ s0 s1 W

theorem j_lifts' (x : Bool) (h : x = Rows.patternMakesRow.lifted) : (x == Try.prog.liftsFinal) = true := by rw [h]; exact j_lifts
theorem j_make' (x) (h : x = Rows.patternMakesRow.make) : (Try.prog.make == some x) = true := by rw [h]; exact j_make
set_option maxHeartbeats 4000000 in
set_option maxRecDepth 100000 in
theorem patternChecks_joined : joinedFacts Try.prog 7 Try.f7 Rows.patternChecksSpec Rows.patternChecksRow = true := by
  unfold joinedFacts
  repeat' (with_reducible refine and_split ?_ ?_)
  all_goals first | (with_reducible exact j_may) | (with_reducible refine j_lifts' _ ?_; rfl) | (with_reducible refine j_make' _ ?_; rfl) | (as_aux_lemma => kernel_rfl)

theorem patternChecks_over : Rows.patternChecksRow.holds Try.pinned (OpenSpec.ofChange Rows.patternChecksSpec) :=
  OpenClaim.holds_of_wide 7 Try.f7 rfl rfl rfl rfl rfl rfl rfl ⟨rfl, rfl, rfl, rfl, rfl⟩ rfl rfl rfl rfl rfl (by kernel_rfl) Try.func7 patternChecks_joined
    (of_decide_eq_true (by kernel_rfl)) (by unfold Func.isWrapper; first | (rw [if_pos (by decide +kernel)]; kernel_rfl) | (rw [if_neg (by decide +kernel)]; exact ⟨rfl, rfl⟩))
    (fun os started H enc _ => patternChecks_lifted os started H enc)

theorem patternChecks_holds : Rows.PatternChecksSaid := patternChecks_over
#print axioms patternChecks_holds
end Go.Proofs.Ytjeomdfcfbfebaa

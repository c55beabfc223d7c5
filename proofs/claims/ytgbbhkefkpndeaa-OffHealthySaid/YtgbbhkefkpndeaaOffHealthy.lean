/- OffHealthy holds: with healthy channels and equal requests nothing is ever latched; as long as there is no request, the gate stage stays on. No condition. -/
import Derived.Test.YtgbbhkefkpndeaaRows
import Derived.Test.YtgbbhkefkpndeaaFlat
import Derived.Test.YtgbbhkefkpndeaaSlice
import Derived.Test.YtgbbhkefkpndeaaOffH
import Derived.Test.YtgbbhkefkpndeaaRow
namespace Go.Proofs.Ytgbbhkefkpndeaa
open Go.RowKit OM Flat Go.ChangeShapes

set_option maxHeartbeats 8000000 in
set_option maxRecDepth 100000 in
theorem offHealthy_ok (c : Cf) (h : c.Rng) (q : Nat) (hq : q ≤ 255) (sb so len cap : Nat) (hl : len ≤ 300) (hcap : len ≤ cap) (rq : Nat → Bool) (w : World) (hs : Row w sb so len rq) (hsb : sb < w.heap.size) :
    Calls Try.prog 7 #[.agg #[.int .i64 c.every, .int .i64 c.length, .int .i64 c.apart], .slice (some ⟨sb, so, none⟩) len cap, .int .u8 q] w fun e w' => e = .returned (.bool true) ∧ Below w.heap.size w w' := by
  have HK := hide (check_ok c h)
  have HB := hide (begin_ok c h)
  have HH := hide h
  have HS := hide hs
  clear h hs
  go_enter Try.func7, Try.ntmps7
  go_wp2_with (first
    | (go_at_call 11; refine (awake_any _).mono ?_; rintro e w1 ⟨rfl, hb1⟩; have z1 := hb1.size; (try simp at z1); have c1x0 := bstep (b := w.heap.size) hb1 (by first | omega | (simp <;> omega)); have y1x0 : w.heap.size < w1.heap.size := (by omega))
    | (go_at_call 15; refine (HK.out _).mono ?_; rintro e w2 ⟨rfl, hb2⟩; have z2 := hb2.size; (try simp at z2); have c2x0 := bstep (b := w.heap.size) hb2 (by first | omega | (simp <;> omega)); have y2x0 : w.heap.size < w2.heap.size := (by omega))
    | (go_at_call 23; refine (HB.out _).mono ?_; rintro e w3 ⟨pb, rfl, hpb, hP, hb3⟩; have z3 := hb3.size; (try simp at z3)))
  have H1 : Below w.heap.size w w1 := ((Below.refl _ _).alloc (Nat.le_refl _) _).trans (hb1.mono (by first | omega | (simp <;> omega)))
  have H2 : Below w.heap.size w w2 := H1.trans (hb2.mono (by first | omega | (simp <;> omega)))
  have H3 : Below w.heap.size w w3 := H2.trans (hb3.mono (by first | omega | (simp <;> omega)))
  have hp0 : w.heap.size ≤ pb := by omega
  clear c1x0 c2x0 y1x0 y2x0 z1 z2 H1 H2 hb1 hb2 hpb
  go_loopw [8] (fun i wr => ∃ k : Nat, k ≤ q ∧ i = .int .i64 k ∧ ∃ p : Pl, PQuiet c p ∧ PC wr pb c (-1) p ∧ Below w.heap.size w wr) (fun i _ => q - (intOf i).toNat)
  case atStart =>
    exact ⟨0, Nat.zero_le _, rfl, _, pquiet_begin HH.out, hP, H3⟩
  case round =>
    clear hP H3 hb3 z3
    obtain ⟨k, hk, rfl, p, hQ, hP, HW⟩ := hrel
    by_cases hlt : k < q
    · have hT := tick_ok c HH.out (-1) (.inl rfl) p false false pb wr hP
      have hQ' := pquiet_tick HH.out hQ
      have ypr := hP.2.2
      generalize OM.tick c (-1) false false p = P at hT hQ'
      obtain ⟨hl1, ho1⟩ := pquiet_off hQ'
      have HT := hide hT
      have HQ := hide hQ'
      clear hT hQ' hQ hP
      go_wp2_with (go_at_call 24; refine (HT.out).mono ?_; rintro e w4 ⟨rfl, hg4, hP4⟩; have HPX := hide hP4; obtain ⟨⟨p0, p1, p2, p3, p4, p5, p6, p7, p8, p9, p10, p11, p12, p13, p14, p15, p16⟩, pf, yp⟩ := hP4; rw [hl1] at p9; rw [ho1] at p12)
      go_roundw
      case rel => exact ⟨k + 1, by omega, by go_num, P, HQ.out, HPX.out, HW.trans (gb_below' hg4 hp0 ypr)⟩
      case measure => simp [intOf]; omega
    · have e : k = q := by omega
      subst e
      clear hlt hk
      go_wp2
      go_loopw [9] (fun i wr => ∃ j : Nat, j ≤ len ∧ i = .int .i64 j ∧ ∃ p : Pl, PHealthy c p ∧ p.s.latched = false ∧ PC wr pb c (-1) p ∧ Below w.heap.size w wr) (fun i _ => len - (intOf i).toNat)
      case atStart => exact ⟨0, Nat.zero_le _, rfl, p, phealthy_quiet hQ, (pquiet_off hQ).1, hP, HW⟩
      case round =>
        clear hP HW hQ
        obtain ⟨j, hj, rfl, p2, hQ, hL, hP, HW⟩ := hrel
        by_cases hlt : j < len
        · have hx := (HW.cell (p := ⟨sb, so + j, none⟩) hsb).trans (HS.out j hlt)
          have hyw : sb < wr.heap.size := by have := HW.size; omega
          have hyp : ¬ sb = pb := by omega
          have i1 : (0 : Int) ≤ (j : Int) := by omega
          have i2 : (j : Int) < (len : Int) := by omega
          have hT := tick_ok c HH.out (-1) (.inl rfl) p2 (rq j) (rq j) pb wr.drew hP
          have hQ' := phealthy_tick HH.out (rq j) (rq j) (p := p2)
          have hl1 := phealthy_same HH.out hQ (rq j)
          have hd := fun hb : (rq j || rq j) = true => drive_of_req (c := c) (z := -1) (p := p2) hb
          have ypr := hP.2.2
          generalize OM.tick c (-1) (rq j) (rq j) p2 = P at hT hQ' hl1 hd
          rw [hL] at hl1
          have HT := hide hT
          have HQ := hide hQ'
          have HL := hide hl1
          have HPX0 := hide hP
          clear hT hQ' hQ hP
          have hd := hide hd
          generalize rq j = b at hx HT hd
          cases b
          · obtain ⟨⟨p0, p1, p2, p3, p4, p5, p6, p7, p8, p9, p10, p11, p12, p13, p14, p15, p16⟩, pf, yp⟩ := HPX0.out
            go_wp2
            refine region_quiet_tail 10 (by kernel_rfl) (by kernel_rfl) ?_
            simp only [List.take_succ_cons, List.take_zero, List.drop_succ_cons, List.drop_zero]
            repeat (first | go_big_quiet_skip | (go_big_quiet_want; go_big_quiet_op; go_big_quiet_on))
            refine wpQuiet_nil ?_
            clear p0 p1 p2 p3 p4 p5 p6 p7 p8 p9 p10 p11 p12 p13 p14 p15 p16 pf yp
            go_wp2_with (go_at_call 24; refine (HT.out).mono ?_; rintro e w4 ⟨rfl, hg4, hP4⟩; have HPX := hide hP4; obtain ⟨⟨p0, p1, p2, p3, p4, p5, p6, p7, p8, p9, p10, p11, p12, p13, p14, p15, p16⟩, pf, yp⟩ := hP4; have hx4 := (gb_cell hg4 hyw hyp (so + j)).trans hx; rw [hl1] at p9)
            go_roundw
            case rel => exact ⟨j + 1, by omega, by go_num, P, HQ.out, HL.out, HPX.out, HW.drew.trans (gb_below' hg4 hp0 ypr)⟩
            case measure => simp [intOf]; omega
          · obtain ⟨⟨p0, p1, p2, p3, p4, p5, p6, p7, p8, p9, p10, p11, p12, p13, p14, p15, p16⟩, pf, yp⟩ := HPX0.out
            go_wp2
            refine region_quiet_tail 10 (by kernel_rfl) (by kernel_rfl) ?_
            simp only [List.take_succ_cons, List.take_zero, List.drop_succ_cons, List.drop_zero]
            repeat (first | go_big_quiet_skip | (go_big_quiet_want; go_big_quiet_op; go_big_quiet_on))
            refine wpQuiet_nil ?_
            clear p0 p1 p2 p3 p4 p5 p6 p7 p8 p9 p10 p11 p12 p13 p14 p15 p16 pf yp
            go_wp2_with (go_at_call 24; refine (HT.out).mono ?_; rintro e w4 ⟨rfl, hg4, hP4⟩; have HPX := hide hP4; obtain ⟨⟨p0, p1, p2, p3, p4, p5, p6, p7, p8, p9, p10, p11, p12, p13, p14, p15, p16⟩, pf, yp⟩ := hP4; have hx4 := (gb_cell hg4 hyw hyp (so + j)).trans hx; obtain ⟨e0, e1⟩ := hd.out rfl; rw [hl1] at p9; rw [e0] at p7; rw [e1] at p8)
            go_roundw
            case rel => exact ⟨j + 1, by omega, by go_num, P, HQ.out, HL.out, HPX.out, HW.drew.trans (gb_below' hg4 hp0 ypr)⟩
            case measure => simp [intOf]; omega
        · have e : j = len := by omega
          subst e
          go_wp2
          go_ret
          exact ⟨rfl, HW⟩

set_option maxHeartbeats 8000000 in
set_option maxRecDepth 100000 in
theorem offHealthy_nil (c : Cf) (h : c.Rng) (q : Nat) (hq : q ≤ 255) (a : Option Addr) (cap : Nat) (w : World) :
    Calls Try.prog 7 #[.agg #[.int .i64 c.every, .int .i64 c.length, .int .i64 c.apart], .slice a 0 cap, .int .u8 q] w fun e w' => e = .returned (.bool true) ∧ Below w.heap.size w w' := by
  have HK := hide (check_ok c h)
  have HB := hide (begin_ok c h)
  have HH := hide h
  clear h
  go_enter Try.func7, Try.ntmps7
  go_wp2_with (first
    | (go_at_call 11; refine (awake_any _).mono ?_; rintro e w1 ⟨rfl, hb1⟩; have z1 := hb1.size; (try simp at z1); have c1x0 := bstep (b := w.heap.size) hb1 (by first | omega | (simp <;> omega)); have y1x0 : w.heap.size < w1.heap.size := (by omega))
    | (go_at_call 15; refine (HK.out _).mono ?_; rintro e w2 ⟨rfl, hb2⟩; have z2 := hb2.size; (try simp at z2); have c2x0 := bstep (b := w.heap.size) hb2 (by first | omega | (simp <;> omega)); have y2x0 : w.heap.size < w2.heap.size := (by omega))
    | (go_at_call 23; refine (HB.out _).mono ?_; rintro e w3 ⟨pb, rfl, hpb, hP, hb3⟩; have z3 := hb3.size; (try simp at z3)))
  have H1 : Below w.heap.size w w1 := ((Below.refl _ _).alloc (Nat.le_refl _) _).trans (hb1.mono (by first | omega | (simp <;> omega)))
  have H2 : Below w.heap.size w w2 := H1.trans (hb2.mono (by first | omega | (simp <;> omega)))
  have H3 : Below w.heap.size w w3 := H2.trans (hb3.mono (by first | omega | (simp <;> omega)))
  have hp0 : w.heap.size ≤ pb := by omega
  clear c1x0 c2x0 y1x0 y2x0 z1 z2 H1 H2 hb1 hb2 hpb
  go_loopw [8] (fun i wr => ∃ k : Nat, k ≤ q ∧ i = .int .i64 k ∧ ∃ p : Pl, PQuiet c p ∧ PC wr pb c (-1) p ∧ Below w.heap.size w wr) (fun i _ => q - (intOf i).toNat)
  case atStart =>
    exact ⟨0, Nat.zero_le _, rfl, _, pquiet_begin HH.out, hP, H3⟩
  case round =>
    clear hP H3 hb3 z3
    obtain ⟨k, hk, rfl, p, hQ, hP, HW⟩ := hrel
    by_cases hlt : k < q
    · have hT := tick_ok c HH.out (-1) (.inl rfl) p false false pb wr hP
      have hQ' := pquiet_tick HH.out hQ
      have ypr := hP.2.2
      generalize OM.tick c (-1) false false p = P at hT hQ'
      obtain ⟨hl1, ho1⟩ := pquiet_off hQ'
      have HT := hide hT
      have HQ := hide hQ'
      clear hT hQ' hQ hP
      go_wp2_with (go_at_call 24; refine (HT.out).mono ?_; rintro e w4 ⟨rfl, hg4, hP4⟩; have HPX := hide hP4; obtain ⟨⟨p0, p1, p2, p3, p4, p5, p6, p7, p8, p9, p10, p11, p12, p13, p14, p15, p16⟩, pf, yp⟩ := hP4; rw [hl1] at p9; rw [ho1] at p12)
      go_roundw
      case rel => exact ⟨k + 1, by omega, by go_num, P, HQ.out, HPX.out, HW.trans (gb_below' hg4 hp0 ypr)⟩
      case measure => simp [intOf]; omega
    · have e : k = q := by omega
      subst e
      clear hlt hk
      go_wp2
      go_loopw [9] (fun i wr => ∃ j : Nat, j ≤ 0 ∧ i = .int .i64 j ∧ ∃ p : Pl, PHealthy c p ∧ p.s.latched = false ∧ PC wr pb c (-1) p ∧ Below w.heap.size w wr) (fun i _ => 0 - (intOf i).toNat)
      case atStart => exact ⟨0, Nat.zero_le _, rfl, p, phealthy_quiet hQ, (pquiet_off hQ).1, hP, HW⟩
      case round =>
        clear hP HW hQ
        obtain ⟨j, hj, rfl, p2, hQ, hL, hP, HW⟩ := hrel
        · obtain rfl : j = 0 := by omega
          go_wp2
          go_ret
          exact ⟨rfl, HW⟩
set_option maxHeartbeats 2000000 in
set_option maxRecDepth 100000 in
theorem offHealthy_err (c : Cf) (a : Option Addr) (len cap : Nat) (q : Int) (h : ¬ c.Rng) (w : World) :
    Calls Try.prog 7 #[.agg #[.int .i64 c.every, .int .i64 c.length, .int .i64 c.apart], .slice a len cap, .int .u8 q] w fun e w' => e = .returned (.bool true) ∧ Below w.heap.size w w' := by
  have HK := hide (check_err c h)
  clear h
  go_enter Try.func7, Try.ntmps7
  go_wp2_with fail
  refine (awake_any _).mono ?_
  rintro e w1 ⟨rfl, hb1⟩
  have z1 := hb1.size
  try simp at z1
  have c1x0 := bstep (b := w.heap.size) hb1 (by first | omega | (simp <;> omega))
  have y1x0 : w.heap.size < w1.heap.size := (by omega)
  go_wp2_with (go_at_call 15; refine (HK.out _).mono ?_; rintro e w2 ⟨rfl, hb2⟩; have z2 := hb2.size; (try simp at z2); have c2x0 := bstep (b := w.heap.size) hb2 (by first | omega | (simp <;> omega)); have y2x0 : w.heap.size < w2.heap.size := (by omega))
  refine (awake_any _).mono ?_
  rintro e w3 ⟨rfl, hb3⟩
  go_wp2
  go_ret
  have H1 : Below w.heap.size w w1 := ((Below.refl _ _).alloc (Nat.le_refl _) _).trans (hb1.mono (by first | omega | (simp <;> omega)))
  have H2 : Below w.heap.size w w2 := H1.trans (hb2.mono (by first | omega | (simp <;> omega)))
  have H3 : Below w.heap.size w w3 := H2.trans (hb3.mono (by first | omega | (simp <;> omega)))
  exact ⟨rfl, H3⟩

set_option maxHeartbeats 2000000 in
set_option maxRecDepth 100000 in
theorem offHealthy_long (c : Cf) (a : Option Addr) (len cap : Nat) (q : Int) (hr : c.Rng) (h : 300 < len) (w : World) :
    Calls Try.prog 7 #[.agg #[.int .i64 c.every, .int .i64 c.length, .int .i64 c.apart], .slice a len cap, .int .u8 q] w fun e w' => e = .returned (.bool true) ∧ Below w.heap.size w w' := by
  have HK := hide (check_ok c hr)
  have hlen : (300 : Int) < (len : Int) := by omega
  clear h
  go_enter Try.func7, Try.ntmps7
  go_wp2_with fail
  refine (awake_any _).mono ?_
  rintro e w1 ⟨rfl, hb1⟩
  have z1 := hb1.size
  try simp at z1
  have c1x0 := bstep (b := w.heap.size) hb1 (by first | omega | (simp <;> omega))
  have y1x0 : w.heap.size < w1.heap.size := (by omega)
  go_wp2_with (go_at_call 15; refine (HK.out _).mono ?_; rintro e w2 ⟨rfl, hb2⟩; have z2 := hb2.size; (try simp at z2); have c2x0 := bstep (b := w.heap.size) hb2 (by first | omega | (simp <;> omega)); have y2x0 : w.heap.size < w2.heap.size := (by omega))
  refine (awake_any _).mono ?_
  rintro e w3 ⟨rfl, hb3⟩
  go_wp2
  go_ret
  have H1 : Below w.heap.size w w1 := ((Below.refl _ _).alloc (Nat.le_refl _) _).trans (hb1.mono (by first | omega | (simp <;> omega)))
  have H2 : Below w.heap.size w w2 := H1.trans (hb2.mono (by first | omega | (simp <;> omega)))
  have H3 : Below w.heap.size w w3 := H2.trans (hb3.mono (by first | omega | (simp <;> omega)))
  exact ⟨rfl, H3⟩

theorem offHealthy_walk (c : Cf) (a : Option Addr) (len cap : Nat) (x : Int) (hx : 0 ≤ x ∧ x ≤ 255) (w : World) (hs : len = 0 ∨ ∃ sb so rq, a = some ⟨sb, so, none⟩ ∧ len ≤ cap ∧ sb < w.heap.size ∧ Row w sb so len rq) :
    Calls Try.prog 7 #[.agg #[.int .i64 c.every, .int .i64 c.length, .int .i64 c.apart], .slice a len cap, .int .u8 x] w fun e w' => e = .returned (.bool true) ∧ Below w.heap.size w w' := by
  obtain ⟨n, rfl⟩ := Int.eq_ofNat_of_zero_le hx.1
  by_cases h : c.Rng
  · by_cases hl : len ≤ 300
    · rcases hs with rfl | ⟨sb, so, rq, rfl, hcap, hsb, hs⟩
      · exact offHealthy_nil c h n (by omega) a cap w
      · exact offHealthy_ok c h n (by omega) sb so len cap hl hcap rq w hs hsb
    · exact offHealthy_long c a len cap n h (by omega) w
  · exact offHealthy_err c a len cap n h w

set_option maxRecDepth 100000 in
theorem offHealthy_lifted (os : Os) (started : os.Started) (H : Type) (enc : TypeId × Value → H) :
    ReturnsInHanded {} Try.checked os 7 .any (Rows.offHealthySpec.pre6 enc Try.prog Try.f7 Rows.offHealthyRow.domain false) (Rows.offHealthySpec.post enc Try.prog Try.f7 false true false false) := by
  refine lift (C := Try.checked) (s := Rows.offHealthySpec) 4 Try.own started (by kernel_rfl) Try.func7 Try.laidOut rfl rfl Try.underlying4 (by kernel_rfl)
    (fun ds hds => by
      have hl : ds.length = 3 := hds
      match ds, hl with
      | [_, _, _], _ => rfl)
    (ChangeSpec.witness6 (enc := enc) (C := Try.checked) false ⟨#[], #[.agg #[.int .i64 0, .int .i64 0, .int .i64 0], .slice none 0 0, .int .u8 0], []⟩ 8 (by kernel_rfl) (by kernel_rfl) (by kernel_rfl) (by kernel_rfl)) ?_
  intro W base args ds p hval0 hA0
  have hval : ∀ (j : Nat) t v, Try.f7.params[j]? = some t → args[j]? = some v → Value.okWide Try.prog W .any base t v := hval0
  have hA : DataW.TrodAll enc Try.prog W 0 (fun _ => true) true Try.f7.params.toList args.toList ds p := hA0
  clear hval0 hA0
  rw [Try.params7] at hA hval
  obtain ⟨v0, vs0, d0, ds0, p0, q0, hargs, rfl, rfl, h0, r0⟩ := trodAll_cons hA
  obtain ⟨v1, vs1, d1, ds1, p1, q1, rfl, rfl, rfl, h1, r1⟩ := trodAll_cons r0
  obtain ⟨v2, vs2, d2, ds2, p2, q2, rfl, rfl, rfl, h2, r2⟩ := trodAll_cons r1
  obtain ⟨rfl, rfl, rfl⟩ := trodAll_nil r2
  obtain rfl : args = #[v0, v1, v2] := by cases args; simp_all
  obtain ⟨l0, rfl, g0⟩ := arg_struct 4 Try.underlying23 (ks := [some .i64, some .i64, some .i64]) (by kernel_rfl) (hval 0 23 v0 rfl rfl) h0
  obtain ⟨_, _, rfl, ⟨a0, rfl, wa0⟩, g0x0⟩ := g0
  obtain ⟨_, _, rfl, ⟨a1, rfl, wa1⟩, g0x1⟩ := g0x0
  obtain ⟨_, _, rfl, ⟨a2, rfl, wa2⟩, g0x2⟩ := g0x1
  simp only [Fits] at g0x2
  subst g0x2
  have hS : ∃ (sa : Option Addr) (len cap : Nat), v1 = .slice sa len cap ∧ (len = 0 ∨ ∃ sb so rq, sa = some ⟨sb, so, none⟩ ∧ len ≤ cap ∧ sb < W.heap.size ∧ Row W sb so len rq) := by
    rcases arg_slice (ks := [none]) 4 Try.underlying50 (by kernel_rfl) (by kernel_rfl) (hval 1 50 v1 rfl rfl) h1 with rfl | ⟨a, len, cap, f, rfl, hc, hm, hf⟩
    · exact ⟨none, 0, 0, rfl, .inl rfl⟩
    · refine ⟨some a, len, cap, rfl, ?_⟩
      by_cases hp : 0 < len
      · obtain ⟨sb, so, rq, rfl, hsb, hs⟩ := row_of hp hf
        exact .inr ⟨sb, so, rq, rfl, hc, hsb, hs⟩
      · exact .inl (by omega)
  obtain ⟨sa, len, cap, rfl, hS⟩ := hS
  obtain ⟨x, rfl, wx⟩ := arg_int Try.underlying5 (hval 2 5 v2 rfl rfl) h2
  have hx : 0 ≤ x ∧ x ≤ 255 := by simpa [Lit.wf, IntKind.min, IntKind.max, IntKind.signed, IntKind.bits] using wx
  exact offHealthy_walk ⟨a0, a1, a2⟩ sa len cap x hx W hS

theorem offHealthy_over : Rows.offHealthyRow.holds Try.pinned (OpenSpec.ofChange Rows.offHealthySpec) :=
  OpenClaim.holds_of_wide 7 Try.f7 rfl rfl rfl rfl rfl rfl rfl ⟨rfl, rfl, rfl, rfl, rfl⟩ rfl rfl rfl rfl rfl (by kernel_rfl) Try.func7 (by kernel_rfl)
    (of_decide_eq_true (by kernel_rfl)) (by unfold Func.isWrapper; first | (rw [if_pos (by decide +kernel)]; kernel_rfl) | (rw [if_neg (by decide +kernel)]; exact ⟨rfl, rfl⟩))
    (fun os started H enc _ => offHealthy_lifted os started H enc)

theorem offHealthy_holds : Rows.OffHealthySaid := offHealthy_over
#print axioms offHealthy_holds
end Go.Proofs.Ytgbbhkefkpndeaa

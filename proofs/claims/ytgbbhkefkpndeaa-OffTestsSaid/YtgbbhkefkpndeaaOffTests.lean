/- OffTests holds: a channel that conducts all the time is latched at most 2 * Every + 1 ticks later without a request, and the gate stage is off Length ticks after that. No condition. -/
import Derived.Test.YtgbbhkefkpndeaaRows
import Derived.Test.YtgbbhkefkpndeaaFlat
import Derived.Test.YtgbbhkefkpndeaaSlice
import Derived.Test.YtgbbhkefkpndeaaOffH
namespace Go.Proofs.Ytgbbhkefkpndeaa
open Go.RowKit OM Flat Go.ChangeShapes

/-- What holds at each head of the loop. -/
def TestRel (c : Cf) (z : Int) (pb : Nat) (w : World) (k : Nat) (lv : Value) (wr : World) : Prop :=
  ∃ p : Pl, ((lv = .int .i64 (-1) ∧ PWait c z k p) ∨ ∃ l : Nat, lv = .int .i64 l ∧ l < k ∧ (l : Int) ≤ 2 * c.every + 1 ∧ p.s.latched = true ∧ PDown c z ((k : Int) - l) p) ∧ PC wr pb c z p ∧ (wr.cell? ⟨w.heap.size, 0, none⟩ = some (.int .i64 c.every) ∧ wr.cell? ⟨w.heap.size, 1, none⟩ = some (.int .i64 c.length) ∧ wr.cell? ⟨w.heap.size, 2, none⟩ = some (.int .i64 c.apart)) ∧ Below w.heap.size w wr

set_option maxHeartbeats 8000000 in
set_option maxRecDepth 100000 in
theorem offTests_ok (c : Cf) (h : c.Rng) (he : c.every ≤ 300) (s : St) (g : Sg) (k0 k1 : Bool) (st inp : Int) (hst : 0 ≤ st ∧ st ≤ 255) (w : World) :
    Calls Try.prog 9 #[.agg #[.int .i64 c.every, .int .i64 c.length, .int .i64 c.apart], .agg #[.int .i64 s.time, .int .i64 s.apartFor, .int .i64 s.for0, .int .i64 s.for1, .bool s.d0, .bool s.d1, .bool s.latched], .agg #[.int .i64 g.for0, .int .i64 g.for1, .bool g.off, .bool k0, .bool k1, .int .u8 st, .int .u8 inp]] w fun e w' => e = .returned (.bool true) ∧ Below w.heap.size w w' := by
  have HK := hide (check_ok c h)
  have HH := hide h
  have hlr : (1 ≤ c.length ∧ c.length ≤ 8) ∧ 4 * c.length ≤ c.every := ⟨h.1, h.2.1.1⟩
  obtain ⟨⟨hl1, hl2⟩, hl3⟩ := hlr
  obtain ⟨hs1, hs2⟩ := hst
  clear h
  go_enter Try.func9, Try.ntmps9
  go_upto_region 3 with (first
    | (go_at_call 11; refine (awake_any _).mono ?_; rintro e w1 ⟨rfl, hb1⟩; have z1 := hb1.size; (try simp at z1); have c1x0 := bstep (b := w.heap.size) hb1 (by first | omega | (simp <;> omega)); have y1x0 : w.heap.size < w1.heap.size := (by omega); have c1x1 := bstep (b := w.heap.size + 1) hb1 (by first | omega | (simp <;> omega)); have y1x1 : w.heap.size + 1 < w1.heap.size := (by omega); have c1x2 := bstep (b := w.heap.size + 1 + 1) hb1 (by first | omega | (simp <;> omega)); have y1x2 : w.heap.size + 1 + 1 < w1.heap.size := (by omega))
    | (go_at_call 15; refine (HK.out _).mono ?_; rintro e w2 ⟨rfl, hb2⟩; have z2 := hb2.size; (try simp at z2); have c2x0 := bstep (b := w.heap.size) hb2 (by first | omega | (simp <;> omega)); have y2x0 : w.heap.size < w2.heap.size := (by omega); have c2x1 := bstep (b := w.heap.size + 1) hb2 (by first | omega | (simp <;> omega)); have y2x1 : w.heap.size + 1 < w2.heap.size := (by omega); have c2x2 := bstep (b := w.heap.size + 1 + 1) hb2 (by first | omega | (simp <;> omega)); have y2x2 : w.heap.size + 1 + 1 < w2.heap.size := (by omega)))
  have H1 : Below w.heap.size w w1 := ((((Below.refl _ _).alloc (Nat.le_refl _) _).alloc (by first | omega | (simp <;> omega)) _).alloc (by first | omega | (simp <;> omega)) _).trans (hb1.mono (by first | omega | (simp <;> omega)))
  have H2 : Below w.heap.size w w2 := H1.trans (hb2.mono (by first | omega | (simp <;> omega)))
  go_cut [7] (fun s7 wx => ∃ z : Int, (z = 0 ∨ z = 1) ∧ s7 = .pointer (some ⟨w2.heap.size, 0, none⟩) ∧ wx = w2.alloc (.cells #[.int .i64 c.every, .int .i64 c.length, .int .i64 c.apart, .int .i64 s.time, .int .i64 s.apartFor, .int .i64 s.for0, .int .i64 s.for1, .bool s.d0, .bool s.d1, .bool s.latched, .int .i64 g.for0, .int .i64 g.for1, .bool g.off, .bool k0, .bool k1, .int .i64 z, .bool false] 55))
  case first =>
    rcases (show st % 2 = 0 ∨ st % 2 = 1 by omega) with h3 | h3
    · go_wp2
      go_meet
      exact ⟨0, .inl rfl, rfl, by first | rfl | (rw [h3]; rfl)⟩
    · go_wp2
      go_meet
      exact ⟨1, .inr rfl, rfl, by first | rfl | (rw [h3]; rfl)⟩
  case rest =>
  obtain ⟨z, hz, rfl, rfl⟩ := hcut
  have hz := hide hz
  go_wp2
  have hp0 : w.heap.size ≤ w2.heap.size := by omega
  go_loopw [8, 9] (fun lv i wr => ∃ k : Nat, (k : Int) ≤ 2 * c.every + 2 + c.length ∧ i = .int .i64 k ∧ TestRel c z w2.heap.size w k lv wr) (fun _ i _ => (2 * c.every + 2 + c.length).toNat - (intOf i).toNat)
  case atStart =>
    refine ⟨0, by omega, rfl, ⟨s, g, k0, k1⟩, .inl ⟨rfl, pwait_zero c z _⟩, ⟨?_, ?_, ?_⟩, ?_, ?_⟩
    · refine ⟨?_, ?_, ?_, ?_, ?_, ?_, ?_, ?_, ?_, ?_, ?_, ?_, ?_, ?_, ?_, ?_, ?_⟩
      all_goals go_simp
    · intro o
      go_simp
    · simp <;> omega
    · refine ⟨?_, ?_, ?_⟩
      all_goals go_simp
    · exact (by repeat (first | with_reducible assumption | with_reducible refine Below.drew ?_ | with_reducible refine below_drewN ?_ _ | with_reducible refine Below.alloc ?_ (by first | omega | (simp <;> omega)) _ | with_reducible refine Below.setCell ?_ (by first | omega | (simp <;> omega)) _ | with_reducible exact Below.refl _ _))
  case round =>
    obtain ⟨k, hk, rfl, p, hA, hP, ⟨a0, a1, a2⟩, HW⟩ := hrel
    have y0 : w.heap.size < w2.heap.size := by omega
    clear c1x0 c1x1 c1x2 c2x0 c2x1 c2x2 H1 H2 hb1 hb2 z1 z2 y1x0 y1x1 y1x2 y2x0 y2x1 y2x2
    have n1 : ¬ w.heap.size = w2.heap.size := by omega
    have yw : w.heap.size < wr.heap.size := by have := HW.size; have := hP.2.2; omega
    by_cases hlt : (k : Int) < 2 * c.every + 2 + c.length
    · have hT := tick_ok c HH.out z (.inr hz.out) p false false w2.heap.size wr hP
      have ypr := hP.2.2
      rcases hA with ⟨rfl, hA⟩ | ⟨l, rfl, hl, hle, hlat, hA⟩
      · have hend := pwait_end HH.out hz.out hA
        have hno := pwait_tick HH.out hz.out (p := p) hA
        have hyes := pdown_tick HH.out hz.out (p := p) (pdown_zero c HH.out z p)
        generalize OM.tick c z false false p = P at hT hno hyes
        have HT := hide hT
        have hno := hide hno
        have hyes := hide hyes
        clear hT hA hP
        cases hlt2 : P.s.latched
        · go_wp2_with (go_at_call 24; refine (HT.out).mono ?_; rintro e w4 ⟨rfl, hg4, hP4⟩; have HPX := hide hP4; have cx := gb_cell hg4 yw n1; have hsz := hg4.size; obtain ⟨⟨p0, p1, p2, p3, p4, p5, p6, p7, p8, p9, p10, p11, p12, p13, p14, p15, p16⟩, pf, yp⟩ := hP4; rw [hlt2] at p9)
          go_roundw
          case rel => exact ⟨k + 1, by omega, by go_num, P, .inl ⟨rfl, by rw [Int.natCast_succ]; exact hno.out hlt2⟩, HPX.out, ⟨by rw [cx]; exact a0, by rw [cx]; exact a1, by rw [cx]; exact a2⟩, HW.trans (gb_below' hg4 hp0 ypr)⟩
          case measure => simp [intOf]; omega
        · go_wp2_with (go_at_call 24; refine (HT.out).mono ?_; rintro e w4 ⟨rfl, hg4, hP4⟩; have HPX := hide hP4; have cx := gb_cell hg4 yw n1; have hsz := hg4.size; obtain ⟨⟨p0, p1, p2, p3, p4, p5, p6, p7, p8, p9, p10, p11, p12, p13, p14, p15, p16⟩, pf, yp⟩ := hP4; rw [hlt2] at p9)
          go_roundw
          case rel => exact ⟨k + 1, by omega, by go_num, P, .inr ⟨k, rfl, by omega, by omega, hlt2, by (rw [show ((k + 1 : Nat) : Int) - (k : Int) = 0 + 1 by omega]); exact hyes.out hlt2⟩, HPX.out, ⟨by rw [cx]; exact a0, by rw [cx]; exact a1, by rw [cx]; exact a2⟩, HW.trans (gb_below' hg4 hp0 ypr)⟩
          case measure => simp [intOf]; omega
      · have hl2' := latched_keep (c := c) (z := z) (r0 := false) (r1 := false) hlat
        have hyes := fun hh => pdown_tick HH.out hz.out (p := p) hA hh
        generalize OM.tick c z false false p = P at hT hl2' hyes
        have hdn := hyes hl2'
        have hoff := hdn.2.2.2
        have HT := hide hT
        have hdn := hide hdn
        have hoff := hide hoff
        clear hT hA hP hyes hlat
        by_cases hL : (l : Int) + c.length ≤ (k : Int)
        · go_wp2_with (go_at_call 24; refine (HT.out).mono ?_; rintro e w4 ⟨rfl, hg4, hP4⟩; have HPX := hide hP4; have cx := gb_cell hg4 yw n1; have hsz := hg4.size; obtain ⟨⟨p0, p1, p2, p3, p4, p5, p6, p7, p8, p9, p10, p11, p12, p13, p14, p15, p16⟩, pf, yp⟩ := hP4; rw [hl2'] at p9; rw [hoff.out (by omega)] at p12)
          go_roundw
          case rel => exact ⟨k + 1, by omega, by go_num, P, .inr ⟨l, rfl, by omega, hle, hl2', by (rw [show ((k + 1 : Nat) : Int) - (l : Int) = ((k : Int) - l) + 1 by omega]); exact hdn.out⟩, HPX.out, ⟨by rw [cx]; exact a0, by rw [cx]; exact a1, by rw [cx]; exact a2⟩, HW.trans (gb_below' hg4 hp0 ypr)⟩
          case measure => simp [intOf]; omega
        · go_wp2_with (go_at_call 24; refine (HT.out).mono ?_; rintro e w4 ⟨rfl, hg4, hP4⟩; have HPX := hide hP4; have cx := gb_cell hg4 yw n1; have hsz := hg4.size; obtain ⟨⟨p0, p1, p2, p3, p4, p5, p6, p7, p8, p9, p10, p11, p12, p13, p14, p15, p16⟩, pf, yp⟩ := hP4; rw [hl2'] at p9)
          go_roundw
          case rel => exact ⟨k + 1, by omega, by go_num, P, .inr ⟨l, rfl, by omega, hle, hl2', by (rw [show ((k + 1 : Nat) : Int) - (l : Int) = ((k : Int) - l) + 1 by omega]); exact hdn.out⟩, HPX.out, ⟨by rw [cx]; exact a0, by rw [cx]; exact a1, by rw [cx]; exact a2⟩, HW.trans (gb_below' hg4 hp0 ypr)⟩
          case measure => simp [intOf]; omega
    · rcases hA with ⟨rfl, hA⟩ | ⟨l, rfl, hl, hle, hlat, hA⟩
      · have hend := pwait_end HH.out hz.out hA
        exfalso
        omega
      · clear hP hA
        go_wp2
        go_ret
        exact ⟨rfl, HW⟩

set_option maxHeartbeats 2000000 in
set_option maxRecDepth 100000 in
theorem offTests_err (c : Cf) (s : St) (g : Sg) (k0 k1 : Bool) (st inp : Int) (h : ¬ c.Rng) (w : World) :
    Calls Try.prog 9 #[.agg #[.int .i64 c.every, .int .i64 c.length, .int .i64 c.apart], .agg #[.int .i64 s.time, .int .i64 s.apartFor, .int .i64 s.for0, .int .i64 s.for1, .bool s.d0, .bool s.d1, .bool s.latched], .agg #[.int .i64 g.for0, .int .i64 g.for1, .bool g.off, .bool k0, .bool k1, .int .u8 st, .int .u8 inp]] w fun e w' => e = .returned (.bool true) ∧ Below w.heap.size w w' := by
  have HK := hide (check_err c h)
  clear h
  go_enter Try.func9, Try.ntmps9
  go_wp2_with fail
  refine (awake_any _).mono ?_
  rintro e w1 ⟨rfl, hb1⟩
  have z1 := hb1.size
  try simp at z1
  have c1x0 := bstep (b := w.heap.size) hb1 (by first | omega | (simp <;> omega))
  have y1x0 : w.heap.size < w1.heap.size := (by omega)
  have c1x1 := bstep (b := w.heap.size + 1) hb1 (by first | omega | (simp <;> omega))
  have y1x1 : w.heap.size + 1 < w1.heap.size := (by omega)
  have c1x2 := bstep (b := w.heap.size + 1 + 1) hb1 (by first | omega | (simp <;> omega))
  have y1x2 : w.heap.size + 1 + 1 < w1.heap.size := (by omega)
  go_wp2_with (go_at_call 15; refine (HK.out _).mono ?_; rintro e w2 ⟨rfl, hb2⟩; have z2 := hb2.size; (try simp at z2); have c2x0 := bstep (b := w.heap.size) hb2 (by first | omega | (simp <;> omega)); have y2x0 : w.heap.size < w2.heap.size := (by omega); have c2x1 := bstep (b := w.heap.size + 1) hb2 (by first | omega | (simp <;> omega)); have y2x1 : w.heap.size + 1 < w2.heap.size := (by omega); have c2x2 := bstep (b := w.heap.size + 1 + 1) hb2 (by first | omega | (simp <;> omega)); have y2x2 : w.heap.size + 1 + 1 < w2.heap.size := (by omega))
  refine (awake_any _).mono ?_
  rintro e w3 ⟨rfl, hb3⟩
  go_wp2
  go_ret
  have H1 : Below w.heap.size w w1 := ((((Below.refl _ _).alloc (Nat.le_refl _) _).alloc (by first | omega | (simp <;> omega)) _).alloc (by first | omega | (simp <;> omega)) _).trans (hb1.mono (by first | omega | (simp <;> omega)))
  have H2 : Below w.heap.size w w2 := H1.trans (hb2.mono (by first | omega | (simp <;> omega)))
  have H3 : Below w.heap.size w w3 := H2.trans (hb3.mono (by first | omega | (simp <;> omega)))
  exact ⟨rfl, H3⟩

set_option maxHeartbeats 2000000 in
set_option maxRecDepth 100000 in
theorem offTests_long (c : Cf) (s : St) (g : Sg) (k0 k1 : Bool) (st inp : Int) (hr : c.Rng) (h : 300 < c.every) (w : World) :
    Calls Try.prog 9 #[.agg #[.int .i64 c.every, .int .i64 c.length, .int .i64 c.apart], .agg #[.int .i64 s.time, .int .i64 s.apartFor, .int .i64 s.for0, .int .i64 s.for1, .bool s.d0, .bool s.d1, .bool s.latched], .agg #[.int .i64 g.for0, .int .i64 g.for1, .bool g.off, .bool k0, .bool k1, .int .u8 st, .int .u8 inp]] w fun e w' => e = .returned (.bool true) ∧ Below w.heap.size w w' := by
  have HK := hide (check_ok c hr)
  clear hr
  go_enter Try.func9, Try.ntmps9
  go_wp2_with fail
  refine (awake_any _).mono ?_
  rintro e w1 ⟨rfl, hb1⟩
  have z1 := hb1.size
  try simp at z1
  have c1x0 := bstep (b := w.heap.size) hb1 (by first | omega | (simp <;> omega))
  have y1x0 : w.heap.size < w1.heap.size := (by omega)
  have c1x1 := bstep (b := w.heap.size + 1) hb1 (by first | omega | (simp <;> omega))
  have y1x1 : w.heap.size + 1 < w1.heap.size := (by omega)
  have c1x2 := bstep (b := w.heap.size + 1 + 1) hb1 (by first | omega | (simp <;> omega))
  have y1x2 : w.heap.size + 1 + 1 < w1.heap.size := (by omega)
  go_wp2_with (go_at_call 15; refine (HK.out _).mono ?_; rintro e w2 ⟨rfl, hb2⟩; have z2 := hb2.size; (try simp at z2); have c2x0 := bstep (b := w.heap.size) hb2 (by first | omega | (simp <;> omega)); have y2x0 : w.heap.size < w2.heap.size := (by omega); have c2x1 := bstep (b := w.heap.size + 1) hb2 (by first | omega | (simp <;> omega)); have y2x1 : w.heap.size + 1 < w2.heap.size := (by omega); have c2x2 := bstep (b := w.heap.size + 1 + 1) hb2 (by first | omega | (simp <;> omega)); have y2x2 : w.heap.size + 1 + 1 < w2.heap.size := (by omega))
  refine (awake_any _).mono ?_
  rintro e w3 ⟨rfl, hb3⟩
  go_wp2
  go_ret
  have H1 : Below w.heap.size w w1 := ((((Below.refl _ _).alloc (Nat.le_refl _) _).alloc (by first | omega | (simp <;> omega)) _).alloc (by first | omega | (simp <;> omega)) _).trans (hb1.mono (by first | omega | (simp <;> omega)))
  have H2 : Below w.heap.size w w2 := H1.trans (hb2.mono (by first | omega | (simp <;> omega)))
  have H3 : Below w.heap.size w w3 := H2.trans (hb3.mono (by first | omega | (simp <;> omega)))
  exact ⟨rfl, H3⟩

theorem offTests_walk (c : Cf) (s : St) (g : Sg) (k0 k1 : Bool) (st inp : Int) (hst : 0 ≤ st ∧ st ≤ 255) (w : World) :
    Calls Try.prog 9 #[.agg #[.int .i64 c.every, .int .i64 c.length, .int .i64 c.apart], .agg #[.int .i64 s.time, .int .i64 s.apartFor, .int .i64 s.for0, .int .i64 s.for1, .bool s.d0, .bool s.d1, .bool s.latched], .agg #[.int .i64 g.for0, .int .i64 g.for1, .bool g.off, .bool k0, .bool k1, .int .u8 st, .int .u8 inp]] w fun e w' => e = .returned (.bool true) ∧ Below w.heap.size w w' := by
  by_cases h : c.Rng
  · by_cases he : c.every ≤ 300
    · exact offTests_ok c h he s g k0 k1 st inp hst w
    · exact offTests_long c s g k0 k1 st inp h (by omega) w
  · exact offTests_err c s g k0 k1 st inp h w

set_option maxRecDepth 100000 in
theorem offTests_lifted (os : Os) (started : os.Started) (H : Type) (enc : TypeId × Value → H) :
    ReturnsInHanded {} Try.checked os 9 .any (Rows.offTestsSpec.pre6 enc Try.prog Try.f9 Rows.offTestsRow.domain false) (Rows.offTestsSpec.post enc Try.prog Try.f9 false true false false) := by
  refine lift (C := Try.checked) (s := Rows.offTestsSpec) 4 Try.own started (by kernel_rfl) Try.func9 Try.laidOut rfl rfl Try.underlying4 (by kernel_rfl)
    (fun ds hds => by
      have hl : ds.length = 3 := hds
      match ds, hl with
      | [_, _, _], _ => rfl)
    (ChangeSpec.witness6 (enc := enc) (C := Try.checked) false ⟨#[], #[.agg #[.int .i64 0, .int .i64 0, .int .i64 0], .agg #[.int .i64 0, .int .i64 0, .int .i64 0, .int .i64 0, .bool false, .bool false, .bool false], .agg #[.int .i64 0, .int .i64 0, .bool false, .bool false, .bool false, .int .u8 0, .int .u8 0]], []⟩ 8 (by kernel_rfl) (by kernel_rfl) (by kernel_rfl) (by kernel_rfl)) ?_
  intro W base args ds p hval0 hA0
  have hval : ∀ (j : Nat) t v, Try.f9.params[j]? = some t → args[j]? = some v → Value.okWide Try.prog W .any base t v := hval0
  have hA : DataW.TrodAll enc Try.prog W 0 (fun _ => true) true Try.f9.params.toList args.toList ds p := hA0
  clear hval0 hA0
  rw [Try.params9] at hA hval
  obtain ⟨v0, vs0, d0, ds0, p0, q0, hargs, rfl, rfl, h0, r0⟩ := trodAll_cons hA
  obtain ⟨v1, vs1, d1, ds1, p1, q1, rfl, rfl, rfl, h1, r1⟩ := trodAll_cons r0
  obtain ⟨v2, vs2, d2, ds2, p2, q2, rfl, rfl, rfl, h2, r2⟩ := trodAll_cons r1
  obtain ⟨rfl, rfl, rfl⟩ := trodAll_nil r2
  obtain rfl : args = #[v0, v1, v2] := by cases args; simp_all
  obtain ⟨l0, rfl, g0⟩ := arg_struct 4 Try.underlying23 (ks := [some .i64, some .i64, some .i64]) (by kernel_rfl) (hval 0 23 v0 rfl rfl) h0
  obtain ⟨_, _, rfl, ⟨a0, rfl, wa0⟩, g0x0⟩ := g0
  obtain ⟨_, _, rfl, ⟨a1, rfl, wa1⟩, g0x1⟩ := g0x0
  obtain ⟨_, _, rfl, ⟨a2, rfl, wa2⟩, g0x2⟩ := g0x1
  simp only [Fits] at g0x2
  subst g0x2
  obtain ⟨l1, rfl, g1⟩ := arg_struct 4 Try.underlying29 (ks := [some .i64, some .i64, some .i64, some .i64, none, none, none]) (by kernel_rfl) (hval 1 29 v1 rfl rfl) h1
  obtain ⟨_, _, rfl, ⟨s0, rfl, ws0⟩, g1x0⟩ := g1
  obtain ⟨_, _, rfl, ⟨s1, rfl, ws1⟩, g1x1⟩ := g1x0
  obtain ⟨_, _, rfl, ⟨s2, rfl, ws2⟩, g1x2⟩ := g1x1
  obtain ⟨_, _, rfl, ⟨s3, rfl, ws3⟩, g1x3⟩ := g1x2
  obtain ⟨_, _, rfl, ⟨s4, rfl⟩, g1x4⟩ := g1x3
  obtain ⟨_, _, rfl, ⟨s5, rfl⟩, g1x5⟩ := g1x4
  obtain ⟨_, _, rfl, ⟨s6, rfl⟩, g1x6⟩ := g1x5
  simp only [Fits] at g1x6
  subst g1x6
  obtain ⟨l2, rfl, g2⟩ := arg_struct 4 Try.underlying58 (ks := [some .i64, some .i64, none, none, none, some .u8, some .u8]) (by kernel_rfl) (hval 2 58 v2 rfl rfl) h2
  obtain ⟨_, _, rfl, ⟨x0, rfl, wx0⟩, g2x0⟩ := g2
  obtain ⟨_, _, rfl, ⟨x1, rfl, wx1⟩, g2x1⟩ := g2x0
  obtain ⟨_, _, rfl, ⟨x2, rfl⟩, g2x2⟩ := g2x1
  obtain ⟨_, _, rfl, ⟨x3, rfl⟩, g2x3⟩ := g2x2
  obtain ⟨_, _, rfl, ⟨x4, rfl⟩, g2x4⟩ := g2x3
  obtain ⟨_, _, rfl, ⟨x5, rfl, wx5⟩, g2x5⟩ := g2x4
  obtain ⟨_, _, rfl, ⟨x6, rfl, wx6⟩, g2x6⟩ := g2x5
  simp only [Fits] at g2x6
  subst g2x6
  have hx5 : 0 ≤ x5 ∧ x5 ≤ 255 := by simpa [Lit.wf, IntKind.min, IntKind.max, IntKind.signed, IntKind.bits] using wx5
  exact offTests_walk ⟨a0, a1, a2⟩ ⟨s0, s1, s2, s3, s4, s5, s6⟩ ⟨x0, x1, x2⟩ x3 x4 x5 x6 hx5 W

theorem offTests_over : Rows.offTestsRow.holds Try.pinned (OpenSpec.ofChange Rows.offTestsSpec) :=
  OpenClaim.holds_of_wide 9 Try.f9 rfl rfl rfl rfl rfl rfl rfl ⟨rfl, rfl, rfl, rfl, rfl⟩ rfl rfl rfl rfl rfl (by kernel_rfl) Try.func9 (by kernel_rfl)
    (of_decide_eq_true (by kernel_rfl)) (by unfold Func.isWrapper; first | (rw [if_pos (by decide +kernel)]; kernel_rfl) | (rw [if_neg (by decide +kernel)]; exact ⟨rfl, rfl⟩))
    (fun os started H enc _ => offTests_lifted os started H enc)

theorem offTests_holds : Rows.OffTestsSaid := offTests_over
#print axioms offTests_holds
end Go.Proofs.Ytgbbhkefkpndeaa

/- OffApart holds: requests that differ are latched in the tick in which they have differed more than Apart times in a row, and not before, with healthy channels. No condition. -/
import Derived.Test.YtgbbhkefkpndeaaRows
import Derived.Test.YtgbbhkefkpndeaaFlat
import Derived.Test.YtgbbhkefkpndeaaSlice
import Derived.Test.YtgbbhkefkpndeaaOffH
import Derived.Test.YtgbbhkefkpndeaaRow
namespace Go.Proofs.Ytgbbhkefkpndeaa
open Go.RowKit OM Flat Go.ChangeShapes

theorem pc_below {w w' : World} {pb : Nat} {c : Cf} {z : Int} {p : Pl} (h : PC w pb c z p) (hb : Below w.heap.size w w') : PC w' pb c z p := by
  obtain ⟨⟨p0, p1, p2, p3, p4, p5, p6, p7, p8, p9, p10, p11, p12, p13, p14, p15, p16⟩, pf, yp⟩ := h
  have k := bstep (b := pb) hb yp
  have f := bfro (b := pb) hb yp
  have s := hb.size
  exact ⟨⟨by rw [k]; exact p0, by rw [k]; exact p1, by rw [k]; exact p2, by rw [k]; exact p3, by rw [k]; exact p4, by rw [k]; exact p5, by rw [k]; exact p6, by rw [k]; exact p7, by rw [k]; exact p8, by rw [k]; exact p9, by rw [k]; exact p10, by rw [k]; exact p11, by rw [k]; exact p12, by rw [k]; exact p13, by rw [k]; exact p14, by rw [k]; exact p15, by rw [k]; exact p16⟩, fun o => by rw [f]; exact pf o, by omega⟩
set_option maxHeartbeats 8000000 in
set_option maxRecDepth 100000 in
theorem offApart_ok (c : Cf) (h : c.Rng) (f : Int) (hf : 0 ≤ f ∧ f ≤ 255) (sb so len cap : Nat) (hl : len ≤ 1500) (hcap : len ≤ cap) (rq : Nat → Bool) (w : World) (hs : Row w sb so len rq) (hsb : sb < w.heap.size) :
    Calls Try.prog 10 #[.agg #[.int .i64 c.every, .int .i64 c.length, .int .i64 c.apart], .int .u8 f, .slice (some ⟨sb, so, none⟩) len cap] w fun e w' => e = .returned (.bool true) ∧ Below w.heap.size w w' := by
  have HK := hide (check_ok c h)
  have HB := hide (begin_ok c h)
  have HH := hide h
  have hlr : 1 ≤ c.apart ∧ c.apart ≤ 1024 := h.2.2
  obtain ⟨hl1, hl2⟩ := hlr
  obtain ⟨hf1, hf2⟩ := hf
  have HS := hide hs
  clear h hs
  go_enter Try.func10, Try.ntmps10
  go_wp2_with (first
    | (go_at_call 11; refine (awake_any _).mono ?_; rintro e w1 ⟨rfl, hb1⟩; have z1 := hb1.size; (try simp at z1); have c1x0 := bstep (b := w.heap.size) hb1 (by first | omega | (simp <;> omega)); have y1x0 : w.heap.size < w1.heap.size := (by omega))
    | (go_at_call 15; refine (HK.out _).mono ?_; rintro e w2 ⟨rfl, hb2⟩; have z2 := hb2.size; (try simp at z2); have c2x0 := bstep (b := w.heap.size) hb2 (by first | omega | (simp <;> omega)); have y2x0 : w.heap.size < w2.heap.size := (by omega))
    | (go_at_call 23; refine (HB.out _).mono ?_; rintro e w3 ⟨pb, rfl, hpb, hP, hb3⟩; have z3 := hb3.size; (try simp at z3); have c3x0 := bstep (b := w.heap.size) hb3 (by first | omega | (simp <;> omega))))
  have H1 : Below w.heap.size w w1 := ((Below.refl _ _).alloc (Nat.le_refl _) _).trans (hb1.mono (by first | omega | (simp <;> omega)))
  have H2 : Below w.heap.size w w2 := H1.trans (hb2.mono (by first | omega | (simp <;> omega)))
  have H3 : Below w.heap.size w w3 := H2.trans (hb3.mono (by first | omega | (simp <;> omega)))
  have hp0 : w.heap.size ≤ pb := by omega
  have n1 : ¬ w.heap.size = pb := by omega
  go_loopw [8, 9, 10] (fun rv lv i wr => ∃ j : Nat, j ≤ len ∧ i = .int .i64 j ∧ ∃ (row : Int) (latched : Bool) (p : Pl), rv = .int .i64 row ∧ lv = .bool latched ∧ row ≤ j ∧ PApart c row latched p ∧ PC wr pb c (-1) p ∧ (wr.cell? ⟨w.heap.size, 0, none⟩ = some (.int .i64 c.every) ∧ wr.cell? ⟨w.heap.size, 1, none⟩ = some (.int .i64 c.length) ∧ wr.cell? ⟨w.heap.size, 2, none⟩ = some (.int .i64 c.apart)) ∧ Below w.heap.size w wr) (fun _ _ i _ => len - (intOf i).toNat)
  case atStart =>
    refine ⟨0, Nat.zero_le _, rfl, 0, false, _, rfl, rfl, by omega, papart_begin HH.out, hP, ⟨?_, ?_, ?_⟩, H3⟩
    all_goals go_simp
  case round =>
    clear hP H3 hb3 z3 c1x0 c2x0 c3x0 y1x0 y2x0 z1 z2 H1 H2 hb1 hb2
    obtain ⟨j, hj, rfl, row, latched, p, rfl, rfl, hrow, hA, hP, ⟨a0, a1, a2⟩, HW⟩ := hrel
    have yw : w.heap.size < wr.heap.size := by have := HW.size; have := hP.2.2; omega
    have hr0 : 0 ≤ row := hA.2.1
    have ypr : pb < wr.heap.size := hP.2.2
    by_cases hlt : j < len
    · have hx := (HW.cell (p := ⟨sb, so + j, none⟩) hsb).trans (HS.out j hlt)
      have hyw : sb < wr.heap.size := by omega
      have i1 : (0 : Int) ≤ (j : Int) := by omega
      have i2 : (j : Int) < (len : Int) := by omega
      generalize rq j = b at hx
      cases b
      · have hT := tick_ok c HH.out (-1) (.inl rfl) p false false pb (wr.alloc (.cells #[.bool false, .bool false] 27)) (pc_below hP (by exact (Below.refl _ _).alloc (Nat.le_refl _) _))
        have hA' := papart_same HH.out false hA
        have hd := fun hb => drive_of_latched (c := c) (z := -1) (p := p) (r0 := false) (r1 := false) hb
        generalize OM.tick c (-1) false false p = P at hT hA' hd
        have hlat := hA'.2.2.2
        have HT := hide hT
        have HA := hide hA'
        clear hT hA' hA hP
        have hd := hide hd
        cases latched
        · go_wp2_with (go_at_call 24; refine (HT.out).mono ?_; rintro e w4 ⟨rfl, hg4, hP4⟩; have HPX := hide hP4; have cx := fun o => (gb_cell hg4 (b := w.heap.size) (by simp; omega) n1 o).trans (World.cell?_alloc_past _ _ _ yw); have hsz := hg4.size; obtain ⟨⟨p0, p1, p2, p3, p4, p5, p6, p7, p8, p9, p10, p11, p12, p13, p14, p15, p16⟩, pf, yp⟩ := hP4; rw [hlat] at p9)
          go_roundw
          case rel => exact ⟨j + 1, by omega, by go_num, 0, false, P, rfl, rfl, by omega, HA.out, HPX.out, ⟨by rw [cx]; exact a0, by rw [cx]; exact a1, by rw [cx]; exact a2⟩, (HW.alloc (by omega) _).trans (gb_below' hg4 hp0 (by simp; omega))⟩
          case measure => simp [intOf]; omega
        · go_wp2_with (go_at_call 24; refine (HT.out).mono ?_; rintro e w4 ⟨rfl, hg4, hP4⟩; have HPX := hide hP4; have cx := fun o => (gb_cell hg4 (b := w.heap.size) (by simp; omega) n1 o).trans (World.cell?_alloc_past _ _ _ yw); have hsz := hg4.size; obtain ⟨⟨p0, p1, p2, p3, p4, p5, p6, p7, p8, p9, p10, p11, p12, p13, p14, p15, p16⟩, pf, yp⟩ := hP4; obtain ⟨e0, e1⟩ := hd.out hlat; rw [hlat] at p9; rw [e0] at p7; rw [e1] at p8)
          go_roundw
          case rel => exact ⟨j + 1, by omega, by go_num, 0, true, P, rfl, rfl, by omega, HA.out, HPX.out, ⟨by rw [cx]; exact a0, by rw [cx]; exact a1, by rw [cx]; exact a2⟩, (HW.alloc (by omega) _).trans (gb_below' hg4 hp0 (by simp; omega))⟩
          case measure => simp [intOf]; omega
      · rcases (show f % 2 = 0 ∨ f % 2 = 1 by omega) with h2 | h2
        · have hT := tick_ok c HH.out (-1) (.inl rfl) p true false pb (wr.alloc (.cells #[.bool true, .bool false] 27)) (pc_below hP (by exact (Below.refl _ _).alloc (Nat.le_refl _) _))
          have hA' := papart_differ HH.out true hA
          simp only [Bool.not_true, Bool.not_false] at hA'
          have hd := fun hb => drive_of_latched (c := c) (z := -1) (p := p) (r0 := true) (r1 := false) hb
          generalize OM.tick c (-1) true false p = P at hT hA' hd
          have hlat := hA'.2.2.2
          have HT := hide hT
          have HA := hide hA'
          clear hT hA' hA hP
          have hd := hide hd
          cases latched
          · by_cases hov : c.apart < row + 1
            · have e : (false || decide (c.apart < row + 1)) = true := by simp [hov]
              rw [e] at hlat
              have HA := hide (e ▸ HA.out)
              clear e
              go_wp2_with (go_at_call 24; refine (HT.out).mono ?_; rintro e w4 ⟨rfl, hg4, hP4⟩; have HPX := hide hP4; have cx := fun o => (gb_cell hg4 (b := w.heap.size) (by simp; omega) n1 o).trans (World.cell?_alloc_past _ _ _ yw); have hsz := hg4.size; obtain ⟨⟨p0, p1, p2, p3, p4, p5, p6, p7, p8, p9, p10, p11, p12, p13, p14, p15, p16⟩, pf, yp⟩ := hP4; obtain ⟨e0, e1⟩ := hd.out hlat; rw [hlat] at p9; rw [e0] at p7; rw [e1] at p8)
              go_roundw
              case rel => exact ⟨j + 1, by omega, by go_num, row + 1, true, P, rfl, rfl, by omega, HA.out, HPX.out, ⟨by rw [cx]; exact a0, by rw [cx]; exact a1, by rw [cx]; exact a2⟩, (HW.alloc (by omega) _).trans (gb_below' hg4 hp0 (by simp; omega))⟩
              case measure => simp [intOf]; omega
            · have e : (false || decide (c.apart < row + 1)) = false := by simp; omega
              rw [e] at hlat
              have HA := hide (e ▸ HA.out)
              clear e
              go_wp2_with (go_at_call 24; refine (HT.out).mono ?_; rintro e w4 ⟨rfl, hg4, hP4⟩; have HPX := hide hP4; have cx := fun o => (gb_cell hg4 (b := w.heap.size) (by simp; omega) n1 o).trans (World.cell?_alloc_past _ _ _ yw); have hsz := hg4.size; obtain ⟨⟨p0, p1, p2, p3, p4, p5, p6, p7, p8, p9, p10, p11, p12, p13, p14, p15, p16⟩, pf, yp⟩ := hP4; rw [hlat] at p9)
              go_roundw
              case rel => exact ⟨j + 1, by omega, by go_num, row + 1, false, P, rfl, rfl, by omega, HA.out, HPX.out, ⟨by rw [cx]; exact a0, by rw [cx]; exact a1, by rw [cx]; exact a2⟩, (HW.alloc (by omega) _).trans (gb_below' hg4 hp0 (by simp; omega))⟩
              case measure => simp [intOf]; omega
          · rw [Bool.true_or] at hlat
            have HA := hide (Bool.true_or (decide (c.apart < row + 1)) ▸ HA.out)
            go_wp2_with (go_at_call 24; refine (HT.out).mono ?_; rintro e w4 ⟨rfl, hg4, hP4⟩; have HPX := hide hP4; have cx := fun o => (gb_cell hg4 (b := w.heap.size) (by simp; omega) n1 o).trans (World.cell?_alloc_past _ _ _ yw); have hsz := hg4.size; obtain ⟨⟨p0, p1, p2, p3, p4, p5, p6, p7, p8, p9, p10, p11, p12, p13, p14, p15, p16⟩, pf, yp⟩ := hP4; obtain ⟨e0, e1⟩ := hd.out hlat; rw [hlat] at p9; rw [e0] at p7; rw [e1] at p8)
            go_roundw
            case rel => exact ⟨j + 1, by omega, by go_num, row + 1, true, P, rfl, rfl, by omega, HA.out, HPX.out, ⟨by rw [cx]; exact a0, by rw [cx]; exact a1, by rw [cx]; exact a2⟩, (HW.alloc (by omega) _).trans (gb_below' hg4 hp0 (by simp; omega))⟩
            case measure => simp [intOf]; omega
        · have hT := tick_ok c HH.out (-1) (.inl rfl) p false true pb (wr.alloc (.cells #[.bool false, .bool true] 27)) (pc_below hP (by exact (Below.refl _ _).alloc (Nat.le_refl _) _))
          have hA' := papart_differ HH.out false hA
          simp only [Bool.not_true, Bool.not_false] at hA'
          have hd := fun hb => drive_of_latched (c := c) (z := -1) (p := p) (r0 := false) (r1 := true) hb
          generalize OM.tick c (-1) false true p = P at hT hA' hd
          have hlat := hA'.2.2.2
          have HT := hide hT
          have HA := hide hA'
          clear hT hA' hA hP
          have hd := hide hd
          cases latched
          · by_cases hov : c.apart < row + 1
            · have e : (false || decide (c.apart < row + 1)) = true := by simp [hov]
              rw [e] at hlat
              have HA := hide (e ▸ HA.out)
              clear e
              go_wp2_with (go_at_call 24; refine (HT.out).mono ?_; rintro e w4 ⟨rfl, hg4, hP4⟩; have HPX := hide hP4; have cx := fun o => (gb_cell hg4 (b := w.heap.size) (by simp; omega) n1 o).trans (World.cell?_alloc_past _ _ _ yw); have hsz := hg4.size; obtain ⟨⟨p0, p1, p2, p3, p4, p5, p6, p7, p8, p9, p10, p11, p12, p13, p14, p15, p16⟩, pf, yp⟩ := hP4; obtain ⟨e0, e1⟩ := hd.out hlat; rw [hlat] at p9; rw [e0] at p7; rw [e1] at p8)
              go_roundw
              case rel => exact ⟨j + 1, by omega, by go_num, row + 1, true, P, rfl, rfl, by omega, HA.out, HPX.out, ⟨by rw [cx]; exact a0, by rw [cx]; exact a1, by rw [cx]; exact a2⟩, (HW.alloc (by omega) _).trans (gb_below' hg4 hp0 (by simp; omega))⟩
              case measure => simp [intOf]; omega
            · have e : (false || decide (c.apart < row + 1)) = false := by simp; omega
              rw [e] at hlat
              have HA := hide (e ▸ HA.out)
              clear e
              go_wp2_with (go_at_call 24; refine (HT.out).mono ?_; rintro e w4 ⟨rfl, hg4, hP4⟩; have HPX := hide hP4; have cx := fun o => (gb_cell hg4 (b := w.heap.size) (by simp; omega) n1 o).trans (World.cell?_alloc_past _ _ _ yw); have hsz := hg4.size; obtain ⟨⟨p0, p1, p2, p3, p4, p5, p6, p7, p8, p9, p10, p11, p12, p13, p14, p15, p16⟩, pf, yp⟩ := hP4; rw [hlat] at p9)
              go_roundw
              case rel => exact ⟨j + 1, by omega, by go_num, row + 1, false, P, rfl, rfl, by omega, HA.out, HPX.out, ⟨by rw [cx]; exact a0, by rw [cx]; exact a1, by rw [cx]; exact a2⟩, (HW.alloc (by omega) _).trans (gb_below' hg4 hp0 (by simp; omega))⟩
              case measure => simp [intOf]; omega
          · rw [Bool.true_or] at hlat
            have HA := hide (Bool.true_or (decide (c.apart < row + 1)) ▸ HA.out)
            go_wp2_with (go_at_call 24; refine (HT.out).mono ?_; rintro e w4 ⟨rfl, hg4, hP4⟩; have HPX := hide hP4; have cx := fun o => (gb_cell hg4 (b := w.heap.size) (by simp; omega) n1 o).trans (World.cell?_alloc_past _ _ _ yw); have hsz := hg4.size; obtain ⟨⟨p0, p1, p2, p3, p4, p5, p6, p7, p8, p9, p10, p11, p12, p13, p14, p15, p16⟩, pf, yp⟩ := hP4; obtain ⟨e0, e1⟩ := hd.out hlat; rw [hlat] at p9; rw [e0] at p7; rw [e1] at p8)
            go_roundw
            case rel => exact ⟨j + 1, by omega, by go_num, row + 1, true, P, rfl, rfl, by omega, HA.out, HPX.out, ⟨by rw [cx]; exact a0, by rw [cx]; exact a1, by rw [cx]; exact a2⟩, (HW.alloc (by omega) _).trans (gb_below' hg4 hp0 (by simp; omega))⟩
            case measure => simp [intOf]; omega
    · have e : j = len := by omega
      subst e
      clear hA hP
      go_wp2
      go_ret
      exact ⟨rfl, HW⟩

set_option maxHeartbeats 8000000 in
set_option maxRecDepth 100000 in
theorem offApart_nil (c : Cf) (h : c.Rng) (f : Int) (hf : 0 ≤ f ∧ f ≤ 255) (a : Option Addr) (cap : Nat) (w : World) :
    Calls Try.prog 10 #[.agg #[.int .i64 c.every, .int .i64 c.length, .int .i64 c.apart], .int .u8 f, .slice a 0 cap] w fun e w' => e = .returned (.bool true) ∧ Below w.heap.size w w' := by
  have HK := hide (check_ok c h)
  have HB := hide (begin_ok c h)
  have HH := hide h
  have hlr : 1 ≤ c.apart ∧ c.apart ≤ 1024 := h.2.2
  obtain ⟨hl1, hl2⟩ := hlr
  obtain ⟨hf1, hf2⟩ := hf
  clear h
  go_enter Try.func10, Try.ntmps10
  go_wp2_with (first
    | (go_at_call 11; refine (awake_any _).mono ?_; rintro e w1 ⟨rfl, hb1⟩; have z1 := hb1.size; (try simp at z1); have c1x0 := bstep (b := w.heap.size) hb1 (by first | omega | (simp <;> omega)); have y1x0 : w.heap.size < w1.heap.size := (by omega))
    | (go_at_call 15; refine (HK.out _).mono ?_; rintro e w2 ⟨rfl, hb2⟩; have z2 := hb2.size; (try simp at z2); have c2x0 := bstep (b := w.heap.size) hb2 (by first | omega | (simp <;> omega)); have y2x0 : w.heap.size < w2.heap.size := (by omega))
    | (go_at_call 23; refine (HB.out _).mono ?_; rintro e w3 ⟨pb, rfl, hpb, hP, hb3⟩; have z3 := hb3.size; (try simp at z3); have c3x0 := bstep (b := w.heap.size) hb3 (by first | omega | (simp <;> omega))))
  have H1 : Below w.heap.size w w1 := ((Below.refl _ _).alloc (Nat.le_refl _) _).trans (hb1.mono (by first | omega | (simp <;> omega)))
  have H2 : Below w.heap.size w w2 := H1.trans (hb2.mono (by first | omega | (simp <;> omega)))
  have H3 : Below w.heap.size w w3 := H2.trans (hb3.mono (by first | omega | (simp <;> omega)))
  have hp0 : w.heap.size ≤ pb := by omega
  have n1 : ¬ w.heap.size = pb := by omega
  go_loopw [8, 9, 10] (fun rv lv i wr => ∃ j : Nat, j ≤ 0 ∧ i = .int .i64 j ∧ ∃ (row : Int) (latched : Bool) (p : Pl), rv = .int .i64 row ∧ lv = .bool latched ∧ row ≤ j ∧ PApart c row latched p ∧ PC wr pb c (-1) p ∧ (wr.cell? ⟨w.heap.size, 0, none⟩ = some (.int .i64 c.every) ∧ wr.cell? ⟨w.heap.size, 1, none⟩ = some (.int .i64 c.length) ∧ wr.cell? ⟨w.heap.size, 2, none⟩ = some (.int .i64 c.apart)) ∧ Below w.heap.size w wr) (fun _ _ i _ => 0 - (intOf i).toNat)
  case atStart =>
    refine ⟨0, Nat.zero_le _, rfl, 0, false, _, rfl, rfl, by omega, papart_begin HH.out, hP, ⟨?_, ?_, ?_⟩, H3⟩
    all_goals go_simp
  case round =>
    clear hP H3 hb3 z3 c1x0 c2x0 c3x0 y1x0 y2x0 z1 z2 H1 H2 hb1 hb2
    obtain ⟨j, hj, rfl, row, latched, p, rfl, rfl, hrow, hA, hP, ⟨a0, a1, a2⟩, HW⟩ := hrel
    · obtain rfl : j = 0 := by omega
      clear hA hP
      go_wp2
      go_ret
      exact ⟨rfl, HW⟩
set_option maxHeartbeats 2000000 in
set_option maxRecDepth 100000 in
theorem offApart_err (c : Cf) (f : Int) (a : Option Addr) (len cap : Nat) (h : ¬ c.Rng) (w : World) :
    Calls Try.prog 10 #[.agg #[.int .i64 c.every, .int .i64 c.length, .int .i64 c.apart], .int .u8 f, .slice a len cap] w fun e w' => e = .returned (.bool true) ∧ Below w.heap.size w w' := by
  have HK := hide (check_err c h)
  clear h
  go_enter Try.func10, Try.ntmps10
  go_wp2_with fail
  refine (awake_any _).mono ?_
  rintro e w1 ⟨rfl, hb1⟩
  have z1 := hb1.size
  try simp at z1
  have c1x0 := bstep (b := w.heap.size) hb1 (by first | omega | (simp <;> omega))
  have y1x0 : w.heap.size < w1.heap.size := (by omega)
  go_wp2_with (go_at_call 15; refine (HK.out _).mono ?_; rintro e w2 ⟨rfl, hb2⟩; have z2 := hb2.size; (try simp at z2); have c2x0 := bstep (b := w.heap.size) hb2 (by first | omega | (simp <;> omega)); have y2x0 : w.heap.size < w2.heap.size := (by omega))
  refine (awake_any _).mono ?_
  rintro e w3 ⟨rfl, hb3⟩
  go_wp2
  go_ret
  have H1 : Below w.heap.size w w1 := ((Below.refl _ _).alloc (Nat.le_refl _) _).trans (hb1.mono (by first | omega | (simp <;> omega)))
  have H2 : Below w.heap.size w w2 := H1.trans (hb2.mono (by first | omega | (simp <;> omega)))
  have H3 : Below w.heap.size w w3 := H2.trans (hb3.mono (by first | omega | (simp <;> omega)))
  exact ⟨rfl, H3⟩

set_option maxHeartbeats 2000000 in
set_option maxRecDepth 100000 in
theorem offApart_long (c : Cf) (f : Int) (a : Option Addr) (len cap : Nat) (hr : c.Rng) (h : 1500 < len) (w : World) :
    Calls Try.prog 10 #[.agg #[.int .i64 c.every, .int .i64 c.length, .int .i64 c.apart], .int .u8 f, .slice a len cap] w fun e w' => e = .returned (.bool true) ∧ Below w.heap.size w w' := by
  have HK := hide (check_ok c hr)
  have hlen : (1500 : Int) < (len : Int) := by omega
  clear h
  go_enter Try.func10, Try.ntmps10
  go_wp2_with fail
  refine (awake_any _).mono ?_
  rintro e w1 ⟨rfl, hb1⟩
  have z1 := hb1.size
  try simp at z1
  have c1x0 := bstep (b := w.heap.size) hb1 (by first | omega | (simp <;> omega))
  have y1x0 : w.heap.size < w1.heap.size := (by omega)
  go_wp2_with (go_at_call 15; refine (HK.out _).mono ?_; rintro e w2 ⟨rfl, hb2⟩; have z2 := hb2.size; (try simp at z2); have c2x0 := bstep (b := w.heap.size) hb2 (by first | omega | (simp <;> omega)); have y2x0 : w.heap.size < w2.heap.size := (by omega))
  refine (awake_any _).mono ?_
  rintro e w3 ⟨rfl, hb3⟩
  go_wp2
  go_ret
  have H1 : Below w.heap.size w w1 := ((Below.refl _ _).alloc (Nat.le_refl _) _).trans (hb1.mono (by first | omega | (simp <;> omega)))
  have H2 : Below w.heap.size w w2 := H1.trans (hb2.mono (by first | omega | (simp <;> omega)))
  have H3 : Below w.heap.size w w3 := H2.trans (hb3.mono (by first | omega | (simp <;> omega)))
  exact ⟨rfl, H3⟩

theorem offApart_walk (c : Cf) (x : Int) (hx : 0 ≤ x ∧ x ≤ 255) (a : Option Addr) (len cap : Nat) (w : World) (hs : len = 0 ∨ ∃ sb so rq, a = some ⟨sb, so, none⟩ ∧ len ≤ cap ∧ sb < w.heap.size ∧ Row w sb so len rq) :
    Calls Try.prog 10 #[.agg #[.int .i64 c.every, .int .i64 c.length, .int .i64 c.apart], .int .u8 x, .slice a len cap] w fun e w' => e = .returned (.bool true) ∧ Below w.heap.size w w' := by
  by_cases h : c.Rng
  · by_cases hl : len ≤ 1500
    · rcases hs with rfl | ⟨sb, so, rq, rfl, hcap, hsb, hs⟩
      · exact offApart_nil c h x hx a cap w
      · exact offApart_ok c h x hx sb so len cap hl hcap rq w hs hsb
    · exact offApart_long c x a len cap h (by omega) w
  · exact offApart_err c x a len cap h w

set_option maxRecDepth 100000 in
theorem offApart_lifted (os : Os) (started : os.Started) (H : Type) (enc : TypeId × Value → H) :
    ReturnsInHanded {} Try.checked os 10 .any (Rows.offApartSpec.pre6 enc Try.prog Try.f10 Rows.offApartRow.domain false) (Rows.offApartSpec.post enc Try.prog Try.f10 false true false false) := by
  refine lift (C := Try.checked) (s := Rows.offApartSpec) 4 Try.own started (by kernel_rfl) Try.func10 Try.laidOut rfl rfl Try.underlying4 (by kernel_rfl)
    (fun ds hds => by
      have hl : ds.length = 3 := hds
      match ds, hl with
      | [_, _, _], _ => rfl)
    (ChangeSpec.witness6 (enc := enc) (C := Try.checked) false ⟨#[], #[.agg #[.int .i64 0, .int .i64 0, .int .i64 0], .int .u8 0, .slice none 0 0], []⟩ 8 (by kernel_rfl) (by kernel_rfl) (by kernel_rfl) (by kernel_rfl)) ?_
  intro W base args ds p hval0 hA0
  have hval : ∀ (j : Nat) t v, Try.f10.params[j]? = some t → args[j]? = some v → Value.okWide Try.prog W .any base t v := hval0
  have hA : DataW.TrodAll enc Try.prog W 0 (fun _ => true) true Try.f10.params.toList args.toList ds p := hA0
  clear hval0 hA0
  rw [Try.params10] at hA hval
  obtain ⟨v0, vs0, d0, ds0, p0, q0, hargs, rfl, rfl, h0, r0⟩ := trodAll_cons hA
  obtain ⟨v1, vs1, d1, ds1, p1, q1, rfl, rfl, rfl, h1, r1⟩ := trodAll_cons r0
  obtain ⟨v2, vs2, d2, ds2, p2, q2, rfl, rfl, rfl, h2, r2⟩ := trodAll_cons r1
  obtain ⟨rfl, rfl, rfl⟩ := trodAll_nil r2
  obtain rfl : args = #[v0, v1, v2] := by cases args; simp_all
  obtain ⟨l0, rfl, g0⟩ := arg_struct 4 Try.underlying23 (ks := [some .i64, some .i64, some .i64]) (by kernel_rfl) (hval 0 23 v0 rfl rfl) h0
  obtain ⟨_, _, rfl, ⟨a0, rfl, wa0⟩, g0x0⟩ := g0
  obtain ⟨_, _, rfl, ⟨a1, rfl, wa1⟩, g0x1⟩ := g0x0
  obtain ⟨_, _, rfl, ⟨a2, rfl, wa2⟩, g0x2⟩ := g0x1
  simp only [Fits] at g0x2
  subst g0x2
  obtain ⟨x, rfl, wx⟩ := arg_int Try.underlying5 (hval 1 5 v1 rfl rfl) h1
  have hx : 0 ≤ x ∧ x ≤ 255 := by simpa [Lit.wf, IntKind.min, IntKind.max, IntKind.signed, IntKind.bits] using wx
  have hS : ∃ (sa : Option Addr) (len cap : Nat), v2 = .slice sa len cap ∧ (len = 0 ∨ ∃ sb so rq, sa = some ⟨sb, so, none⟩ ∧ len ≤ cap ∧ sb < W.heap.size ∧ Row W sb so len rq) := by
    rcases arg_slice (ks := [none]) 4 Try.underlying50 (by kernel_rfl) (by kernel_rfl) (hval 2 50 v2 rfl rfl) h2 with rfl | ⟨a, len, cap, f, rfl, hc, hm, hf⟩
    · exact ⟨none, 0, 0, rfl, .inl rfl⟩
    · refine ⟨some a, len, cap, rfl, ?_⟩
      by_cases hp : 0 < len
      · obtain ⟨sb, so, rq, rfl, hsb, hs⟩ := row_of hp hf
        exact .inr ⟨sb, so, rq, rfl, hc, hsb, hs⟩
      · exact .inl (by omega)
  obtain ⟨sa, len, cap, rfl, hS⟩ := hS
  exact offApart_walk ⟨a0, a1, a2⟩ x hx sa len cap W hS

theorem offApart_over : Rows.offApartRow.holds Try.pinned (OpenSpec.ofChange Rows.offApartSpec) :=
  OpenClaim.holds_of_wide 10 Try.f10 rfl rfl rfl rfl rfl rfl rfl ⟨rfl, rfl, rfl, rfl, rfl⟩ rfl rfl rfl rfl rfl (by kernel_rfl) Try.func10 (by kernel_rfl)
    (of_decide_eq_true (by kernel_rfl)) (by unfold Func.isWrapper; first | (rw [if_pos (by decide +kernel)]; kernel_rfl) | (rw [if_neg (by decide +kernel)]; exact ⟨rfl, rfl⟩))
    (fun os started H enc _ => offApart_lifted os started H enc)

theorem offApart_holds : Rows.OffApartSaid := offApart_over
#print axioms offApart_holds
end Go.Proofs.Ytgbbhkefkpndeaa

/- slices.SortStableFunc at the three ints 0, 1, 2 with Spread's closure. No condition beyond those that a theorem names. -/
import Derived.Test.YtjeomdfcfbfebaaPatF
import Derived.Test.YtjeomdfcfbfebaaSpMath
import Derived.Lib.QuietBelow
namespace Go.Proofs.Ytjeomdfcfbfebaa
open Go.RowKit PM

set_option maxHeartbeats 4000000 in
theorem cmp_any (f : Nat → Int) (b i j : Nat) (hi : i < 3) (hj : j < 3) (hw : -1000000 ≤ f i - f j ∧ f i - f j ≤ 1000000) (w : World) (hc : (∀ k : Nat, k < 3 → w.cell? ⟨b, k * 2, none⟩ = some (.int .i64 (f k)))) :
    Calls Try.prog 62 #[.int .i64 (i : Int), .int .i64 (j : Int), .pointer (some ⟨b, 0, none⟩)] w fun e w' => e = .returned (.int .i64 (f i - f j)) ∧ Below w.heap.size w w' := by
  have gw : IntKind.i64.wrap (f i - f j) = f i - f j := IntWalk.i64_in _ (by omega)
  have ci := hc i hi
  have cj := hc j hj
  have i1 : (0 : Int) ≤ (i : Int) := by omega
  have i2 : (i : Int) < 3 := by omega
  have j1 : (0 : Int) ≤ (j : Int) := by omega
  have j2 : (j : Int) < 3 := by omega
  clear hc hw hi hj
  go_enter Try.func62, Try.ntmps62
  go_wp2
  go_quiet (fail)
  go_wp2
  go_ret
  exact ⟨rfl, by exact (by repeat (first | with_reducible assumption | with_reducible refine Below.drew ?_ | with_reducible refine below_drewN ?_ _ | with_reducible refine Below.alloc ?_ (by first | omega | (simp <;> omega)) _ | with_reducible refine Below.setCell ?_ (by first | omega | (simp <;> omega)) _ | with_reducible exact Below.refl _ _))⟩

set_option maxHeartbeats 16000000 in
set_option maxRecDepth 100000 in
theorem ins_any (f : Nat → Int) (b g : Nat) (hbg : b < g) (hw : ∀ i j : Nat, i < 3 → j < 3 → -1000000 ≤ f i - f j ∧ f i - f j ≤ 1000000) (w : World) (hg : g < w.heap.size) (hcb : (∀ k : Nat, k < 3 → w.cell? ⟨b, k * 2, none⟩ = some (.int .i64 (f k)))) (hfr : ∀ o, w.frozen? ⟨g, o, none⟩ = false) (hc : (w.cell? ⟨g, 0, none⟩ = some (.int .i64 0) ∧ w.cell? ⟨g, 1, none⟩ = some (.int .i64 1) ∧ w.cell? ⟨g, 2, none⟩ = some (.int .i64 2))) :
    Calls Try.prog 97 #[.slice (some ⟨g, 0, none⟩) 3 3, .int .i64 0, .int .i64 3, .func (.func 62) #[] #[.pointer (some ⟨b, 0, none⟩)]] w fun e w' => e = .returned (.tuple #[]) ∧ (∃ x y z : Nat, (w'.cell? ⟨g, 0, none⟩ = some (.int .i64 (x : Int)) ∧ w'.cell? ⟨g, 1, none⟩ = some (.int .i64 (y : Int)) ∧ w'.cell? ⟨g, 2, none⟩ = some (.int .i64 (z : Int))) ∧ ordOf (f 0) (f 1) (f 2) = (x, y, z)) ∧ Below g w w' := by
  obtain ⟨c0, c1, c2⟩ := hc
  go_enter Try.func97, Try.ntmps97
  go_wp2
  go_loopw [8] (fun i wr => ((i = .int .i64 1 ∧ (wr.cell? ⟨g, 0, none⟩ = some (.int .i64 0) ∧ wr.cell? ⟨g, 1, none⟩ = some (.int .i64 1) ∧ wr.cell? ⟨g, 2, none⟩ = some (.int .i64 2))) ∨ (i = .int .i64 2 ∧ ∃ u v : Nat, (wr.cell? ⟨g, 0, none⟩ = some (.int .i64 (u : Int)) ∧ wr.cell? ⟨g, 1, none⟩ = some (.int .i64 (v : Int)) ∧ wr.cell? ⟨g, 2, none⟩ = some (.int .i64 2)) ∧ ((u = 0 ∧ v = 1 ∧ 0 ≤ f 1 - f 0) ∨ (u = 1 ∧ v = 0 ∧ f 1 - f 0 < 0))) ∨ (i = .int .i64 3 ∧ ∃ x y z : Nat, (wr.cell? ⟨g, 0, none⟩ = some (.int .i64 (x : Int)) ∧ wr.cell? ⟨g, 1, none⟩ = some (.int .i64 (y : Int)) ∧ wr.cell? ⟨g, 2, none⟩ = some (.int .i64 (z : Int))) ∧ ordOf (f 0) (f 1) (f 2) = (x, y, z))) ∧ (∀ o, wr.frozen? ⟨g, o, none⟩ = false) ∧ Below g w wr ∧ g < wr.heap.size) (fun i _ => 3 - (intOf i).toNat)
  case atStart =>
    exact ⟨Or.inl ⟨rfl, c0, c1, c2⟩, hfr, Below.refl _ _, hg⟩
  case round =>
    clear c0 c1 c2 hfr hg
    rename World => wr
    obtain ⟨hst, df, HX, yg⟩ := hrel
    have hB : (∀ k : Nat, k < 3 → wr.cell? ⟨b, k * 2, none⟩ = some (.int .i64 (f k))) := fun k hk => (HX.cell (p := ⟨b, k * 2, none⟩) hbg).trans (hcb k hk)
    rcases hst with ⟨rfl, d0, d1, d2⟩ | ⟨rfl, u, v, ⟨d0, d1, d2⟩, huv⟩ | ⟨rfl, x, y, z, ⟨d0, d1, d2⟩, hxyz⟩
    · go_wp2
      go_loopw [9] (fun j wx => ((j = .int .i64 1 ∧ (wx.cell? ⟨g, 0, none⟩ = some (.int .i64 0) ∧ wx.cell? ⟨g, 1, none⟩ = some (.int .i64 1) ∧ wx.cell? ⟨g, 2, none⟩ = some (.int .i64 2))) ∨ (j = .int .i64 0 ∧ (wx.cell? ⟨g, 0, none⟩ = some (.int .i64 1) ∧ wx.cell? ⟨g, 1, none⟩ = some (.int .i64 0) ∧ wx.cell? ⟨g, 2, none⟩ = some (.int .i64 2)) ∧ f 1 - f 0 < 0)) ∧ (∀ o, wx.frozen? ⟨g, o, none⟩ = false) ∧ Below g w wx ∧ g < wx.heap.size) (fun j _ => (intOf j).toNat)
      case atStart =>
        exact ⟨Or.inl ⟨rfl, d0, d1, d2⟩, df, HX, yg⟩
      case round =>
        clear d0 d1 d2 df HX yg hB
        rename World => wx
        obtain ⟨hst, df, HX, yg⟩ := hrel
        have hB : (∀ k : Nat, k < 3 → wx.cell? ⟨b, k * 2, none⟩ = some (.int .i64 (f k))) := fun k hk => (HX.cell (p := ⟨b, k * 2, none⟩) hbg).trans (hcb k hk)
        rcases hst with ⟨rfl, ⟨d0, d1, d2⟩⟩ | ⟨rfl, ⟨d0, d1, d2⟩, hf⟩
        · by_cases hlt : f 1 - f 0 < 0
          · go_upto_region 4 with fail
            have kd0 := fun d os => cell_regrown d0 d os
            have kd1 := fun d os => cell_regrown d1 d os
            have kd2 := fun d os => cell_regrown d2 d os
            have cM := fun d os => Calls.regrown_of (cmp_any f b 1 0 (by omega) (by omega) (hw _ _ (by omega) (by omega)) (Go.Sort.grow (redrawn wx d) os) (fun k hk => cell_regrown (hB k hk) d os))
            refine wp_region_quiet_below (by kernel_rfl) (by kernel_rfl) ?_
            repeat (go_big_quiet_step (exact cM _ _))
            refine wpQuiet_nil ?_
            rintro wz ⟨⟨dd, os⟩, rfl⟩
            have hz := below_regrown wx dd os
            clear kd0 kd1 kd2 cM
            generalize Go.Sort.grow (redrawn wx dd) os = wz at hz ⊢
            have yz := hz.size
            have e0 := (hz.cell (p := ⟨g, 0, none⟩) yg).trans d0
            have e1 := (hz.cell (p := ⟨g, 1, none⟩) yg).trans d1
            have e2 := (hz.cell (p := ⟨g, 2, none⟩) yg).trans d2
            have ef := fun o => (hz.frozen (p := ⟨g, o, none⟩) yg).trans (df o)
            have HZ : Below g w wz := HX.trans (hz.mono (by omega))
            clear d0 d1 d2 df
            go_wp2
            go_region
            all_goals
              go_wp2
              go_roundw
              case rel => exact ⟨Or.inr (⟨by go_num, ⟨by go_simp, by go_simp, by go_simp⟩, hlt⟩), fun o => by go_simp, by exact (by repeat (first | with_reducible assumption | with_reducible refine Below.drew ?_ | with_reducible refine below_drewN ?_ _ | with_reducible refine Below.alloc ?_ (by first | omega | (simp <;> omega)) _ | with_reducible refine Below.setCell ?_ (by first | omega | (simp <;> omega)) _ | with_reducible exact Below.refl _ _)), by first | omega | (simp <;> omega)⟩
              case measure => simp [intOf]
          · go_upto_region 4 with fail
            have kd0 := fun d os => cell_regrown d0 d os
            have kd1 := fun d os => cell_regrown d1 d os
            have kd2 := fun d os => cell_regrown d2 d os
            have cM := fun d os => Calls.regrown_of (cmp_any f b 1 0 (by omega) (by omega) (hw _ _ (by omega) (by omega)) (Go.Sort.grow (redrawn wx d) os) (fun k hk => cell_regrown (hB k hk) d os))
            refine wp_region_quiet_below (by kernel_rfl) (by kernel_rfl) ?_
            repeat (go_big_quiet_step (exact cM _ _))
            refine wpQuiet_nil ?_
            rintro wz ⟨⟨dd, os⟩, rfl⟩
            have hz := below_regrown wx dd os
            clear kd0 kd1 kd2 cM
            generalize Go.Sort.grow (redrawn wx dd) os = wz at hz ⊢
            have yz := hz.size
            have e0 := (hz.cell (p := ⟨g, 0, none⟩) yg).trans d0
            have e1 := (hz.cell (p := ⟨g, 1, none⟩) yg).trans d1
            have e2 := (hz.cell (p := ⟨g, 2, none⟩) yg).trans d2
            have ef := fun o => (hz.frozen (p := ⟨g, o, none⟩) yg).trans (df o)
            have HZ : Below g w wz := HX.trans (hz.mono (by omega))
            clear d0 d1 d2 df
            go_wp2
            go_roundw
            case rel => exact ⟨Or.inr (Or.inl ⟨by go_num, 0, 1, ⟨e0, e1, e2⟩, Or.inl ⟨rfl, rfl, by omega⟩⟩), ef, HZ, by omega⟩
            case measure => simp [intOf]
        · go_upto_region 4 with fail
          have kd0 := fun d os => cell_regrown d0 d os
          have kd1 := fun d os => cell_regrown d1 d os
          have kd2 := fun d os => cell_regrown d2 d os
          refine wp_region_quiet_below (by kernel_rfl) (by kernel_rfl) ?_
          repeat (go_big_quiet_step (fail))
          refine wpQuiet_nil ?_
          rintro wz ⟨⟨dd, os⟩, rfl⟩
          have hz := below_regrown wx dd os
          clear kd0 kd1 kd2
          generalize Go.Sort.grow (redrawn wx dd) os = wz at hz ⊢
          have yz := hz.size
          have e0 := (hz.cell (p := ⟨g, 0, none⟩) yg).trans d0
          have e1 := (hz.cell (p := ⟨g, 1, none⟩) yg).trans d1
          have e2 := (hz.cell (p := ⟨g, 2, none⟩) yg).trans d2
          have ef := fun o => (hz.frozen (p := ⟨g, o, none⟩) yg).trans (df o)
          have HZ : Below g w wz := HX.trans (hz.mono (by omega))
          clear d0 d1 d2 df
          go_wp2
          go_roundw
          case rel => exact ⟨Or.inr (Or.inl ⟨by go_num, 1, 0, ⟨e0, e1, e2⟩, Or.inr ⟨rfl, rfl, hf⟩⟩), ef, HZ, by omega⟩
          case measure => simp [intOf]
    · have u3 : u < 3 := by omega
      have v3 : v < 3 := by omega
      replace huv := hide huv
      go_wp2
      go_loopw [9] (fun j wx => ((j = .int .i64 2 ∧ (wx.cell? ⟨g, 0, none⟩ = some (.int .i64 (u : Int)) ∧ wx.cell? ⟨g, 1, none⟩ = some (.int .i64 (v : Int)) ∧ wx.cell? ⟨g, 2, none⟩ = some (.int .i64 2))) ∨ (j = .int .i64 1 ∧ (wx.cell? ⟨g, 0, none⟩ = some (.int .i64 (u : Int)) ∧ wx.cell? ⟨g, 1, none⟩ = some (.int .i64 2) ∧ wx.cell? ⟨g, 2, none⟩ = some (.int .i64 (v : Int))) ∧ f 2 - f v < 0) ∨ (j = .int .i64 0 ∧ (wx.cell? ⟨g, 0, none⟩ = some (.int .i64 2) ∧ wx.cell? ⟨g, 1, none⟩ = some (.int .i64 (u : Int)) ∧ wx.cell? ⟨g, 2, none⟩ = some (.int .i64 (v : Int))) ∧ f 2 - f v < 0 ∧ f 2 - f u < 0)) ∧ (∀ o, wx.frozen? ⟨g, o, none⟩ = false) ∧ Below g w wx ∧ g < wx.heap.size) (fun j _ => (intOf j).toNat)
      case atStart =>
        exact ⟨Or.inl ⟨rfl, d0, d1, d2⟩, df, HX, yg⟩
      case round =>
        clear d0 d1 d2 df HX yg hB
        rename World => wx
        obtain ⟨hst, df, HX, yg⟩ := hrel
        have hB : (∀ k : Nat, k < 3 → wx.cell? ⟨b, k * 2, none⟩ = some (.int .i64 (f k))) := fun k hk => (HX.cell (p := ⟨b, k * 2, none⟩) hbg).trans (hcb k hk)
        rcases hst with ⟨rfl, ⟨d0, d1, d2⟩⟩ | ⟨rfl, ⟨d0, d1, d2⟩, hf⟩ | ⟨rfl, ⟨d0, d1, d2⟩, hf⟩
        · by_cases hlt : f 2 - f v < 0
          · go_upto_region 4 with fail
            have kd0 := fun d os => cell_regrown d0 d os
            have kd1 := fun d os => cell_regrown d1 d os
            have kd2 := fun d os => cell_regrown d2 d os
            have cM := fun d os => Calls.regrown_of (cmp_any f b 2 v (by omega) (by omega) (hw _ _ (by omega) (by omega)) (Go.Sort.grow (redrawn wx d) os) (fun k hk => cell_regrown (hB k hk) d os))
            refine wp_region_quiet_below (by kernel_rfl) (by kernel_rfl) ?_
            repeat (go_big_quiet_step (exact cM _ _))
            refine wpQuiet_nil ?_
            rintro wz ⟨⟨dd, os⟩, rfl⟩
            have hz := below_regrown wx dd os
            clear kd0 kd1 kd2 cM
            generalize Go.Sort.grow (redrawn wx dd) os = wz at hz ⊢
            have yz := hz.size
            have e0 := (hz.cell (p := ⟨g, 0, none⟩) yg).trans d0
            have e1 := (hz.cell (p := ⟨g, 1, none⟩) yg).trans d1
            have e2 := (hz.cell (p := ⟨g, 2, none⟩) yg).trans d2
            have ef := fun o => (hz.frozen (p := ⟨g, o, none⟩) yg).trans (df o)
            have HZ : Below g w wz := HX.trans (hz.mono (by omega))
            clear d0 d1 d2 df
            go_wp2
            go_region
            all_goals
              go_wp2
              go_roundw
              case rel => exact ⟨Or.inr (Or.inl ⟨by go_num, ⟨by go_simp, by go_simp, by go_simp⟩, hlt⟩), fun o => by go_simp, by exact (by repeat (first | with_reducible assumption | with_reducible refine Below.drew ?_ | with_reducible refine below_drewN ?_ _ | with_reducible refine Below.alloc ?_ (by first | omega | (simp <;> omega)) _ | with_reducible refine Below.setCell ?_ (by first | omega | (simp <;> omega)) _ | with_reducible exact Below.refl _ _)), by first | omega | (simp <;> omega)⟩
              case measure => simp [intOf]
          · go_upto_region 4 with fail
            have kd0 := fun d os => cell_regrown d0 d os
            have kd1 := fun d os => cell_regrown d1 d os
            have kd2 := fun d os => cell_regrown d2 d os
            have cM := fun d os => Calls.regrown_of (cmp_any f b 2 v (by omega) (by omega) (hw _ _ (by omega) (by omega)) (Go.Sort.grow (redrawn wx d) os) (fun k hk => cell_regrown (hB k hk) d os))
            refine wp_region_quiet_below (by kernel_rfl) (by kernel_rfl) ?_
            repeat (go_big_quiet_step (exact cM _ _))
            refine wpQuiet_nil ?_
            rintro wz ⟨⟨dd, os⟩, rfl⟩
            have hz := below_regrown wx dd os
            clear kd0 kd1 kd2 cM
            generalize Go.Sort.grow (redrawn wx dd) os = wz at hz ⊢
            have yz := hz.size
            have e0 := (hz.cell (p := ⟨g, 0, none⟩) yg).trans d0
            have e1 := (hz.cell (p := ⟨g, 1, none⟩) yg).trans d1
            have e2 := (hz.cell (p := ⟨g, 2, none⟩) yg).trans d2
            have ef := fun o => (hz.frozen (p := ⟨g, o, none⟩) yg).trans (df o)
            have HZ : Below g w wz := HX.trans (hz.mono (by omega))
            clear d0 d1 d2 df
            go_wp2
            go_roundw
            case rel => exact ⟨Or.inr (Or.inr ⟨by go_num, u, v, 2, ⟨e0, e1, e2⟩, ord_c huv.out hlt⟩), ef, HZ, by omega⟩
            case measure => simp [intOf]
        · by_cases hlt : f 2 - f u < 0
          · go_upto_region 4 with fail
            have kd0 := fun d os => cell_regrown d0 d os
            have kd1 := fun d os => cell_regrown d1 d os
            have kd2 := fun d os => cell_regrown d2 d os
            have cM := fun d os => Calls.regrown_of (cmp_any f b 2 u (by omega) (by omega) (hw _ _ (by omega) (by omega)) (Go.Sort.grow (redrawn wx d) os) (fun k hk => cell_regrown (hB k hk) d os))
            refine wp_region_quiet_below (by kernel_rfl) (by kernel_rfl) ?_
            repeat (go_big_quiet_step (exact cM _ _))
            refine wpQuiet_nil ?_
            rintro wz ⟨⟨dd, os⟩, rfl⟩
            have hz := below_regrown wx dd os
            clear kd0 kd1 kd2 cM
            generalize Go.Sort.grow (redrawn wx dd) os = wz at hz ⊢
            have yz := hz.size
            have e0 := (hz.cell (p := ⟨g, 0, none⟩) yg).trans d0
            have e1 := (hz.cell (p := ⟨g, 1, none⟩) yg).trans d1
            have e2 := (hz.cell (p := ⟨g, 2, none⟩) yg).trans d2
            have ef := fun o => (hz.frozen (p := ⟨g, o, none⟩) yg).trans (df o)
            have HZ : Below g w wz := HX.trans (hz.mono (by omega))
            clear d0 d1 d2 df
            go_wp2
            go_region
            all_goals
              go_wp2
              go_roundw
              case rel => exact ⟨Or.inr (Or.inr (⟨by go_num, ⟨by go_simp, by go_simp, by go_simp⟩, ⟨hf, hlt⟩⟩)), fun o => by go_simp, by exact (by repeat (first | with_reducible assumption | with_reducible refine Below.drew ?_ | with_reducible refine below_drewN ?_ _ | with_reducible refine Below.alloc ?_ (by first | omega | (simp <;> omega)) _ | with_reducible refine Below.setCell ?_ (by first | omega | (simp <;> omega)) _ | with_reducible exact Below.refl _ _)), by first | omega | (simp <;> omega)⟩
              case measure => simp [intOf]
          · go_upto_region 4 with fail
            have kd0 := fun d os => cell_regrown d0 d os
            have kd1 := fun d os => cell_regrown d1 d os
            have kd2 := fun d os => cell_regrown d2 d os
            have cM := fun d os => Calls.regrown_of (cmp_any f b 2 u (by omega) (by omega) (hw _ _ (by omega) (by omega)) (Go.Sort.grow (redrawn wx d) os) (fun k hk => cell_regrown (hB k hk) d os))
            refine wp_region_quiet_below (by kernel_rfl) (by kernel_rfl) ?_
            repeat (go_big_quiet_step (exact cM _ _))
            refine wpQuiet_nil ?_
            rintro wz ⟨⟨dd, os⟩, rfl⟩
            have hz := below_regrown wx dd os
            clear kd0 kd1 kd2 cM
            generalize Go.Sort.grow (redrawn wx dd) os = wz at hz ⊢
            have yz := hz.size
            have e0 := (hz.cell (p := ⟨g, 0, none⟩) yg).trans d0
            have e1 := (hz.cell (p := ⟨g, 1, none⟩) yg).trans d1
            have e2 := (hz.cell (p := ⟨g, 2, none⟩) yg).trans d2
            have ef := fun o => (hz.frozen (p := ⟨g, o, none⟩) yg).trans (df o)
            have HZ : Below g w wz := HX.trans (hz.mono (by omega))
            clear d0 d1 d2 df
            go_wp2
            go_roundw
            case rel => exact ⟨Or.inr (Or.inr ⟨by go_num, u, 2, v, ⟨e0, e1, e2⟩, ord_b huv.out hf hlt⟩), ef, HZ, by omega⟩
            case measure => simp [intOf]
        · go_upto_region 4 with fail
          have kd0 := fun d os => cell_regrown d0 d os
          have kd1 := fun d os => cell_regrown d1 d os
          have kd2 := fun d os => cell_regrown d2 d os
          refine wp_region_quiet_below (by kernel_rfl) (by kernel_rfl) ?_
          repeat (go_big_quiet_step (fail))
          refine wpQuiet_nil ?_
          rintro wz ⟨⟨dd, os⟩, rfl⟩
          have hz := below_regrown wx dd os
          clear kd0 kd1 kd2
          generalize Go.Sort.grow (redrawn wx dd) os = wz at hz ⊢
          have yz := hz.size
          have e0 := (hz.cell (p := ⟨g, 0, none⟩) yg).trans d0
          have e1 := (hz.cell (p := ⟨g, 1, none⟩) yg).trans d1
          have e2 := (hz.cell (p := ⟨g, 2, none⟩) yg).trans d2
          have ef := fun o => (hz.frozen (p := ⟨g, o, none⟩) yg).trans (df o)
          have HZ : Below g w wz := HX.trans (hz.mono (by omega))
          clear d0 d1 d2 df
          go_wp2
          go_roundw
          case rel => exact ⟨Or.inr (Or.inr ⟨by go_num, 2, u, v, ⟨e0, e1, e2⟩, ord_a huv.out hf.1 hf.2⟩), ef, HZ, by omega⟩
          case measure => simp [intOf]
    · go_wp2
      go_end0
      exact ⟨rfl, ⟨x, y, z, ⟨d0, d1, d2⟩, hxyz⟩, HX⟩

set_option maxHeartbeats 4000000 in
theorem stb_any (f : Nat → Int) (b g : Nat) (hbg : b < g) (hw : ∀ i j : Nat, i < 3 → j < 3 → -1000000 ≤ f i - f j ∧ f i - f j ≤ 1000000) (w : World) (hg : g < w.heap.size) (hcb : (∀ k : Nat, k < 3 → w.cell? ⟨b, k * 2, none⟩ = some (.int .i64 (f k)))) (hfr : ∀ o, w.frozen? ⟨g, o, none⟩ = false) (hc : (w.cell? ⟨g, 0, none⟩ = some (.int .i64 0) ∧ w.cell? ⟨g, 1, none⟩ = some (.int .i64 1) ∧ w.cell? ⟨g, 2, none⟩ = some (.int .i64 2))) :
    Calls Try.prog 91 #[.slice (some ⟨g, 0, none⟩) 3 3, .int .i64 3, .func (.func 62) #[] #[.pointer (some ⟨b, 0, none⟩)]] w fun e w' => e = .returned (.tuple #[]) ∧ (∃ x y z : Nat, (w'.cell? ⟨g, 0, none⟩ = some (.int .i64 (x : Int)) ∧ w'.cell? ⟨g, 1, none⟩ = some (.int .i64 (y : Int)) ∧ w'.cell? ⟨g, 2, none⟩ = some (.int .i64 (z : Int))) ∧ ordOf (f 0) (f 1) (f 2) = (x, y, z)) ∧ Below g w w' := by
  have HI := hide (ins_any f b g hbg hw w hg hcb hfr hc)
  clear hc hcb hfr hw
  go_enter Try.func91, Try.ntmps91
  go_wp2
  refine wp_loop_rounds 1 ?_
  rw [rounds_succ]
  go_wp2_with (go_at_call 97; refine HI.out.mono ?_; rintro e w2 ⟨rfl, hP, hb2⟩)
  refine wp_loop_rounds 1 ?_
  rw [rounds_succ]
  go_wp2
  go_end0
  exact ⟨rfl, hP, hb2⟩

set_option maxHeartbeats 4000000 in
theorem srt_any (f : Nat → Int) (b g : Nat) (hbg : b < g) (hw : ∀ i j : Nat, i < 3 → j < 3 → -1000000 ≤ f i - f j ∧ f i - f j ≤ 1000000) (w : World) (hg : g < w.heap.size) (hcb : (∀ k : Nat, k < 3 → w.cell? ⟨b, k * 2, none⟩ = some (.int .i64 (f k)))) (hfr : ∀ o, w.frozen? ⟨g, o, none⟩ = false) (hc : (w.cell? ⟨g, 0, none⟩ = some (.int .i64 0) ∧ w.cell? ⟨g, 1, none⟩ = some (.int .i64 1) ∧ w.cell? ⟨g, 2, none⟩ = some (.int .i64 2))) :
    Calls Try.prog 61 #[.slice (some ⟨g, 0, none⟩) 3 3, .func (.func 62) #[] #[.pointer (some ⟨b, 0, none⟩)]] w fun e w' => e = .returned (.tuple #[]) ∧ (∃ x y z : Nat, (w'.cell? ⟨g, 0, none⟩ = some (.int .i64 (x : Int)) ∧ w'.cell? ⟨g, 1, none⟩ = some (.int .i64 (y : Int)) ∧ w'.cell? ⟨g, 2, none⟩ = some (.int .i64 (z : Int))) ∧ ordOf (f 0) (f 1) (f 2) = (x, y, z)) ∧ Below g w w' := by
  have HI := hide (stb_any f b g hbg hw w hg hcb hfr hc)
  clear hc hcb hfr hw
  go_enter Try.func61, Try.ntmps61
  go_wp2_with (go_at_call 91; refine HI.out.mono ?_; rintro e w2 ⟨rfl, hP, hb2⟩)
  go_end0
  exact ⟨rfl, hP, hb2⟩
end Go.Proofs.Ytjeomdfcfbfebaa

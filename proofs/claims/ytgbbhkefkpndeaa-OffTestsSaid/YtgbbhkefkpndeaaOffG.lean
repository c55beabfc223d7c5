/- Walks of the plant of the laws: begin, and a tick of all. Condition: a checked configuration, no failure so far. -/
import Derived.Test.YtgbbhkefkpndeaaOffC
import Derived.Test.YtgbbhkefkpndeaaOffD
import Derived.Test.YtgbbhkefkpndeaaOffPlant
import Derived.Deep.RegionHeld3
namespace Go.Proofs.Ytgbbhkefkpndeaa
open Go.RowKit OM

theorem gb_set {w w' : World} {pb : Nat} (h : w.grownBy w' (some pb)) (o : Nat) (u : Value) : w.grownBy (w'.setCell ⟨pb, o, none⟩ u) (some pb) :=
  ⟨h.os, h.tape, h.output, by simpa using h.size, fun k hk hne => (heap_setCell_other w' ⟨pb, o, none⟩ k u (fun e => hne (by simp [e]))).trans (h.block k hk hne)⟩
theorem gb_drew {w w' : World} {pb : Nat} (h : w.grownBy w' (some pb)) : w.grownBy w'.drew (some pb) := ⟨h.os, h.tape, h.output, h.size, h.block⟩
theorem gb_below {w w' w'' : World} {pb : Nat} (h : w.grownBy w' (some pb)) (h2 : Below w'.heap.size w' w'') : w.grownBy w'' (some pb) :=
  ⟨h2.os.trans h.os, h2.tape.trans h.tape, h2.output.trans h.output, Nat.le_trans h.size h2.size, fun k hk hne => (h2.block k (Nat.lt_of_lt_of_le hk h.size)).trans (h.block k hk hne)⟩
theorem gb_of_below {w w' : World} {pb : Nat} (h : Below w.heap.size w w') : w.grownBy w' (some pb) := ⟨h.os, h.tape, h.output, h.size, fun k hk _ => h.block k hk⟩
theorem gb_trans {w w' w'' : World} {pb : Nat} (h : w.grownBy w' (some pb)) (h2 : w'.grownBy w'' (some pb)) : w.grownBy w'' (some pb) :=
  ⟨h2.os.trans h.os, h2.tape.trans h.tape, h2.output.trans h.output, Nat.le_trans h.size h2.size, fun k hk hne => (h2.block k (Nat.lt_of_lt_of_le hk h.size) hne).trans (h.block k hk hne)⟩
theorem gb_toBelow {w w' : World} {pb : Nat} (h : w.grownBy w' (some pb)) (hp : pb < w.heap.size) : Below pb w w' :=
  ⟨h.os, h.tape, h.output, h.size, fun k hk => h.block k (by omega) (by simp; omega)⟩

/-- The plant's cells. -/
def PC (w : World) (pb : Nat) (c : Cf) (z : Int) (p : Pl) : Prop :=
  (w.cell? ⟨pb, 0, none⟩ = some (.int .i64 c.every) ∧ w.cell? ⟨pb, 1, none⟩ = some (.int .i64 c.length) ∧ w.cell? ⟨pb, 2, none⟩ = some (.int .i64 c.apart) ∧ w.cell? ⟨pb, 3, none⟩ = some (.int .i64 p.s.time) ∧ w.cell? ⟨pb, 4, none⟩ = some (.int .i64 p.s.apartFor) ∧ w.cell? ⟨pb, 5, none⟩ = some (.int .i64 p.s.for0) ∧ w.cell? ⟨pb, 6, none⟩ = some (.int .i64 p.s.for1) ∧ w.cell? ⟨pb, 7, none⟩ = some (.bool p.s.d0) ∧ w.cell? ⟨pb, 8, none⟩ = some (.bool p.s.d1) ∧ w.cell? ⟨pb, 9, none⟩ = some (.bool p.s.latched) ∧ w.cell? ⟨pb, 10, none⟩ = some (.int .i64 p.g.for0) ∧ w.cell? ⟨pb, 11, none⟩ = some (.int .i64 p.g.for1) ∧ w.cell? ⟨pb, 12, none⟩ = some (.bool p.g.off) ∧ w.cell? ⟨pb, 13, none⟩ = some (.bool p.k0) ∧ w.cell? ⟨pb, 14, none⟩ = some (.bool p.k1) ∧ w.cell? ⟨pb, 15, none⟩ = some (.int .i64 z) ∧ w.cell? ⟨pb, 16, none⟩ = some (.bool false)) ∧ (∀ o, w.frozen? ⟨pb, o, none⟩ = false) ∧ pb < w.heap.size

set_option maxRecDepth 100000 in
set_option maxHeartbeats 8000000 in
theorem tick_core (c : Cf) (h : c.Rng) (z : Int) (hz : z = -1 ∨ z = 0 ∨ z = 1) (s : St) (g : Sg) (k0 k1 r0 r1 : Bool) (pb : Nat) (w : World) (S : St) (G : Sg) (j0 j1 : Bool)
    (HS : Hid (S = OM.step c s r0 r1 k0 k1)) (HJ0 : Hid (j0 = (S.d0 || decide (z = 0)))) (HJ1 : Hid (j1 = (S.d1 || decide (z = 1)))) (HG : Hid (G = OM.stage c g j0 j1))
    (hc : PC w pb c z ⟨s, g, k0, k1⟩) :
    Calls Try.prog 24 #[.pointer (some ⟨pb, 0, none⟩), .agg #[.bool r0, .bool r1]] w
      fun e w' => e = .returned (.tuple #[]) ∧ w.grownBy w' (some pb) ∧ PC w' pb c z ⟨S, G, j0, j1⟩ := by
  have HST := hide (step_ok c h s r0 r1 k0 k1)
  have HSG := hide (stage_ok c h g j0 j1)
  rw [← HS.out] at HST
  rw [← HG.out] at HSG
  obtain ⟨⟨p0, p1, p2, p3, p4, p5, p6, p7, p8, p9, p10, p11, p12, p13, p14, p15, p16⟩, pf, yp⟩ := hc
  clear HS HG h
  simp only at p0 p1 p2 p3 p4 p5 p6 p7 p8 p9 p10 p11 p12 p13 p14 p15 p16
  have np1 : ¬ w.heap.size = pb := by omega
  have np2 : ¬ pb = w.heap.size := by omega
  have np3 : ¬ w.heap.size + 1 = pb := by omega
  have np4 : ¬ pb = w.heap.size + 1 := by omega
  go_enter Try.func24, Try.ntmps24
  go_upto_region 1 with fail
  go_cut [4, 5] (fun s4 s5 wx => ∃ tb : Nat, s4 = .pointer (some ⟨tb, 0, none⟩) ∧ s5 = .nilIface ∧ (wx.cell? ⟨tb, 0, none⟩ = some (.int .i64 S.time) ∧ wx.cell? ⟨tb, 1, none⟩ = some (.int .i64 S.apartFor) ∧ wx.cell? ⟨tb, 2, none⟩ = some (.int .i64 S.for0) ∧ wx.cell? ⟨tb, 3, none⟩ = some (.int .i64 S.for1) ∧ wx.cell? ⟨tb, 4, none⟩ = some (.bool S.d0) ∧ wx.cell? ⟨tb, 5, none⟩ = some (.bool S.d1) ∧ wx.cell? ⟨tb, 6, none⟩ = some (.bool S.latched)) ∧ w.heap.size ≤ tb ∧ tb < wx.heap.size ∧ Below w.heap.size w wx)
  case first =>
    go_region_held3 (fun w' => w'.cell? ⟨pb, 0, none⟩ = some (.int .i64 c.every) ∧ w'.cell? ⟨pb, 1, none⟩ = some (.int .i64 c.length) ∧ w'.cell? ⟨pb, 2, none⟩ = some (.int .i64 c.apart) ∧ w'.cell? ⟨pb, 3, none⟩ = some (.int .i64 s.time) ∧ w'.cell? ⟨pb, 4, none⟩ = some (.int .i64 s.apartFor) ∧ w'.cell? ⟨pb, 5, none⟩ = some (.int .i64 s.for0) ∧ w'.cell? ⟨pb, 6, none⟩ = some (.int .i64 s.for1) ∧ w'.cell? ⟨pb, 7, none⟩ = some (.bool s.d0) ∧ w'.cell? ⟨pb, 8, none⟩ = some (.bool s.d1) ∧ w'.cell? ⟨pb, 9, none⟩ = some (.bool s.latched) ∧ w'.cell? ⟨pb, 13, none⟩ = some (.bool k0) ∧ w'.cell? ⟨pb, 14, none⟩ = some (.bool k1) ∧ w'.cell? ⟨w.heap.size, 0, none⟩ = some (.bool r0) ∧ w'.cell? ⟨w.heap.size, 1, none⟩ = some (.bool r1)) (go_keep) (first | (go_at_call 17; refine (HST.out _).mono ?_; rintro e w1 ⟨rfl, hb1⟩; have z1 := hb1.size; (try simp at z1); have c1x0 := bstep (b := pb) hb1 (by first | omega | (simp <;> omega)); have y1x0 : pb < w1.heap.size := (by omega); have n1x0 : ¬ w1.heap.size = pb := (by omega); have m1x0 : ¬ pb = w1.heap.size := (by omega); have H1 : Below w.heap.size w w1 := Below.trans (by repeat (first | with_reducible assumption | with_reducible refine Below.drew ?_ | with_reducible refine below_drewN ?_ _ | with_reducible refine Below.alloc ?_ (by first | omega | (simp <;> omega)) _ | with_reducible refine Below.setCell ?_ (by first | omega | (simp <;> omega)) _ | with_reducible exact Below.refl _ _)) (hb1.mono (by first | omega | (simp <;> omega))); (try (have c1t0 := bstep (b := w.heap.size) hb1 (by first | omega | (simp <;> omega)); have f1t0 := bfro (b := w.heap.size) hb1 (by first | omega | (simp <;> omega)); have y1t0 : w.heap.size < w1.heap.size := (by omega))); (try (have c1t1 := bstep (b := w.heap.size + 1) hb1 (by first | omega | (simp <;> omega)); have f1t1 := bfro (b := w.heap.size + 1) hb1 (by first | omega | (simp <;> omega)); have y1t1 : w.heap.size + 1 < w1.heap.size := (by omega)))))
    all_goals
      go_wp2_with fail
      go_meet
      refine ⟨_, rfl, rfl, ?_, ?_, ?_, ?_⟩
      · refine ⟨?_, ?_, ?_, ?_, ?_, ?_, ?_⟩
        all_goals go_simp
      · first | omega | (simp <;> omega)
      · first | omega | (simp <;> omega)
      · exact (by repeat (first | with_reducible assumption | with_reducible refine Below.drew ?_ | with_reducible refine below_drewN ?_ _ | with_reducible refine Below.alloc ?_ (by first | omega | (simp <;> omega)) _ | with_reducible refine Below.setCell ?_ (by first | omega | (simp <;> omega)) _ | with_reducible exact Below.refl _ _))
  case rest =>
    obtain ⟨tb, rfl, rfl, ⟨t0, t1, t2, t3, t4, t5, t6⟩, tlo, ty, HW⟩ := hcut
    have kp := bstep (b := pb) HW yp
    have kf := bfro (b := pb) HW yp
    have yq : pb < wc.heap.size := by have := HW.size; omega
    have nt1 : ¬ tb = pb := by omega
    have nt2 : ¬ pb = tb := by omega
    go_upto_region 2 with fail
    go_cut [] (fun wx => (wx.cell? ⟨pb, 0, none⟩ = some (.int .i64 c.every) ∧ wx.cell? ⟨pb, 1, none⟩ = some (.int .i64 c.length) ∧ wx.cell? ⟨pb, 2, none⟩ = some (.int .i64 c.apart) ∧ wx.cell? ⟨pb, 3, none⟩ = some (.int .i64 S.time) ∧ wx.cell? ⟨pb, 4, none⟩ = some (.int .i64 S.apartFor) ∧ wx.cell? ⟨pb, 5, none⟩ = some (.int .i64 S.for0) ∧ wx.cell? ⟨pb, 6, none⟩ = some (.int .i64 S.for1) ∧ wx.cell? ⟨pb, 7, none⟩ = some (.bool S.d0) ∧ wx.cell? ⟨pb, 8, none⟩ = some (.bool S.d1) ∧ wx.cell? ⟨pb, 9, none⟩ = some (.bool S.latched) ∧ wx.cell? ⟨pb, 10, none⟩ = some (.int .i64 g.for0) ∧ wx.cell? ⟨pb, 11, none⟩ = some (.int .i64 g.for1) ∧ wx.cell? ⟨pb, 12, none⟩ = some (.bool g.off) ∧ wx.cell? ⟨pb, 13, none⟩ = some (.bool S.d0) ∧ wx.cell? ⟨pb, 14, none⟩ = some (.bool S.d1) ∧ wx.cell? ⟨pb, 15, none⟩ = some (.int .i64 z) ∧ wx.cell? ⟨pb, 16, none⟩ = some (.bool false)) ∧ (∀ o, wx.frozen? ⟨pb, o, none⟩ = false) ∧ w.grownBy wx (some pb) ∧ pb < wx.heap.size)
    case first =>
      go_region
      all_goals
        go_wp2
        go_meet
        refine ⟨?_, ?_, ?_, ?_⟩
        · refine ⟨?_, ?_, ?_, ?_, ?_, ?_, ?_, ?_, ?_, ?_, ?_, ?_, ?_, ?_, ?_, ?_, ?_⟩
          all_goals go_simp
        · intro o
          go_simp
        · have HV : w.grownBy wc (some pb) := gb_of_below HW
          repeat (first | with_reducible assumption | with_reducible refine gb_set ?_ _ _ | with_reducible refine gb_drew ?_)
        · simp <;> omega
    case rest =>
      clear p0 p1 p2 p3 p4 p5 p6 p7 p8 p9 p10 p11 p12 p13 p14 p15 p16 pf kp kf yq HST
      obtain ⟨⟨p0, p1, p2, p3, p4, p5, p6, p7, p8, p9, p10, p11, p12, p13, p14, p15, p16⟩, pf, HW2, yq⟩ := hcut
      clear t0 t1 t2 t3 t4 t5 t6 nt1 nt2 tlo ty HW
      go_upto_region 3 with fail
      go_cut [46] (fun s46 wx => s46 = .bool (decide (z = 0) || decide (z = 1)) ∧ wx = wc)
      case first =>
        rcases hz with rfl | rfl | rfl
        all_goals
          go_wp2
          go_meet
          exact ⟨rfl, rfl⟩
      case rest =>
        obtain ⟨rfl, rfl⟩ := hcut
        go_upto_if 46 with fail
        go_cut [] (fun wx => (wx.cell? ⟨pb, 0, none⟩ = some (.int .i64 c.every) ∧ wx.cell? ⟨pb, 1, none⟩ = some (.int .i64 c.length) ∧ wx.cell? ⟨pb, 2, none⟩ = some (.int .i64 c.apart) ∧ wx.cell? ⟨pb, 3, none⟩ = some (.int .i64 S.time) ∧ wx.cell? ⟨pb, 4, none⟩ = some (.int .i64 S.apartFor) ∧ wx.cell? ⟨pb, 5, none⟩ = some (.int .i64 S.for0) ∧ wx.cell? ⟨pb, 6, none⟩ = some (.int .i64 S.for1) ∧ wx.cell? ⟨pb, 7, none⟩ = some (.bool S.d0) ∧ wx.cell? ⟨pb, 8, none⟩ = some (.bool S.d1) ∧ wx.cell? ⟨pb, 9, none⟩ = some (.bool S.latched) ∧ wx.cell? ⟨pb, 10, none⟩ = some (.int .i64 g.for0) ∧ wx.cell? ⟨pb, 11, none⟩ = some (.int .i64 g.for1) ∧ wx.cell? ⟨pb, 12, none⟩ = some (.bool g.off) ∧ wx.cell? ⟨pb, 13, none⟩ = some (.bool j0) ∧ wx.cell? ⟨pb, 14, none⟩ = some (.bool j1) ∧ wx.cell? ⟨pb, 15, none⟩ = some (.int .i64 z) ∧ wx.cell? ⟨pb, 16, none⟩ = some (.bool false)) ∧ (∀ o, wx.frozen? ⟨pb, o, none⟩ = false) ∧ w.grownBy wx (some pb) ∧ pb < wx.heap.size)
        case first =>
          have f0 : j0 = (S.d0 || decide (z = 0)) := HJ0.out
          have f1 : j1 = (S.d1 || decide (z = 1)) := HJ1.out
          rcases hz with rfl | rfl | rfl
          · simp at f0 f1
            subst f0 f1
            go_wp2
            go_meet
            refine ⟨⟨by assumption, by assumption, by assumption, by assumption, by assumption, by assumption, by assumption, by assumption, by assumption, by assumption, by assumption, by assumption, by assumption, by assumption, by assumption, by assumption, by assumption⟩, pf, HW2, yq⟩
          · simp at f0 f1
            subst f0 f1
            go_wp2
            go_region
            all_goals
              go_wp2
              go_meet
              refine ⟨?_, ?_, ?_, ?_⟩
              · refine ⟨?_, ?_, ?_, ?_, ?_, ?_, ?_, ?_, ?_, ?_, ?_, ?_, ?_, ?_, ?_, ?_, ?_⟩
                all_goals go_simp
              · intro o
                go_simp
              · repeat (first | with_reducible assumption | with_reducible refine gb_set ?_ _ _ | with_reducible refine gb_drew ?_)
              · simp <;> omega
          · simp at f0 f1
            subst f0 f1
            go_wp2
            go_region
            all_goals
              go_wp2
              go_meet
              refine ⟨?_, ?_, ?_, ?_⟩
              · refine ⟨?_, ?_, ?_, ?_, ?_, ?_, ?_, ?_, ?_, ?_, ?_, ?_, ?_, ?_, ?_, ?_, ?_⟩
                all_goals go_simp
              · intro o
                go_simp
              · repeat (first | with_reducible assumption | with_reducible refine gb_set ?_ _ _ | with_reducible refine gb_drew ?_)
              · simp <;> omega
        case rest =>
          clear p0 p1 p2 p3 p4 p5 p6 p7 p8 p9 p10 p11 p12 p13 p14 p15 p16 pf HW2 yq
          obtain ⟨⟨p0, p1, p2, p3, p4, p5, p6, p7, p8, p9, p10, p11, p12, p13, p14, p15, p16⟩, pf, HW2, yq⟩ := hcut
          clear HJ0 HJ1 hz np1 np2 np3 np4
          have np1 : ¬ wc.heap.size = pb := by omega
          have np2 : ¬ pb = wc.heap.size := by omega
          go_upto_region 5 with fail
          go_cut [6, 7] (fun s6 s7 wx => ∃ tb : Nat, s6 = .pointer (some ⟨tb, 0, none⟩) ∧ s7 = .nilIface ∧ (wx.cell? ⟨tb, 0, none⟩ = some (.int .i64 G.for0) ∧ wx.cell? ⟨tb, 1, none⟩ = some (.int .i64 G.for1) ∧ wx.cell? ⟨tb, 2, none⟩ = some (.bool G.off)) ∧ wc.heap.size ≤ tb ∧ tb < wx.heap.size ∧ Below wc.heap.size wc wx)
          case first =>
            go_region_held3 (fun w' => w'.cell? ⟨pb, 0, none⟩ = some (.int .i64 c.every) ∧ w'.cell? ⟨pb, 1, none⟩ = some (.int .i64 c.length) ∧ w'.cell? ⟨pb, 2, none⟩ = some (.int .i64 c.apart) ∧ w'.cell? ⟨pb, 10, none⟩ = some (.int .i64 g.for0) ∧ w'.cell? ⟨pb, 11, none⟩ = some (.int .i64 g.for1) ∧ w'.cell? ⟨pb, 12, none⟩ = some (.bool g.off) ∧ w'.cell? ⟨pb, 13, none⟩ = some (.bool j0) ∧ w'.cell? ⟨pb, 14, none⟩ = some (.bool j1)) (go_keep) (first | (go_at_call 21; refine (HSG.out _).mono ?_; rintro e w1 ⟨rfl, hb1⟩; have z1 := hb1.size; (try simp at z1); have c1x0 := bstep (b := pb) hb1 (by first | omega | (simp <;> omega)); have y1x0 : pb < w1.heap.size := (by omega); have n1x0 : ¬ w1.heap.size = pb := (by omega); have m1x0 : ¬ pb = w1.heap.size := (by omega); have H1 : Below wc.heap.size wc w1 := Below.trans (by repeat (first | with_reducible assumption | with_reducible refine Below.drew ?_ | with_reducible refine below_drewN ?_ _ | with_reducible refine Below.alloc ?_ (by first | omega | (simp <;> omega)) _ | with_reducible refine Below.setCell ?_ (by first | omega | (simp <;> omega)) _ | with_reducible exact Below.refl _ _)) (hb1.mono (by first | omega | (simp <;> omega))); (try (have c1t0 := bstep (b := wc.heap.size) hb1 (by first | omega | (simp <;> omega)); have f1t0 := bfro (b := wc.heap.size) hb1 (by first | omega | (simp <;> omega)); have y1t0 : wc.heap.size < w1.heap.size := (by omega)))))
            all_goals
              go_wp2_with fail
              go_meet
              refine ⟨_, rfl, rfl, ?_, ?_, ?_, ?_⟩
              · refine ⟨?_, ?_, ?_⟩
                all_goals go_simp
              · first | omega | (simp <;> omega)
              · first | omega | (simp <;> omega)
              · exact (by repeat (first | with_reducible assumption | with_reducible refine Below.drew ?_ | with_reducible refine below_drewN ?_ _ | with_reducible refine Below.alloc ?_ (by first | omega | (simp <;> omega)) _ | with_reducible refine Below.setCell ?_ (by first | omega | (simp <;> omega)) _ | with_reducible exact Below.refl _ _))
          case rest =>
            obtain ⟨tb, rfl, rfl, ⟨t0, t1, t2⟩, tlo, ty, HW⟩ := hcut
            have kp := bstep (b := pb) HW yq
            have kf := bfro (b := pb) HW yq
            have yr := HW.size
            have nt1 : ¬ tb = pb := by omega
            have nt2 : ¬ pb = tb := by omega
            have HV := gb_below HW2 HW
            go_wp2
            refine bodyPost_end (results_none rfl _ _ _) rfl ?_
            refine ⟨rfl, ?_, ?_, ?_, ?_⟩
            · repeat (first | with_reducible assumption | with_reducible refine gb_set ?_ _ _ | with_reducible refine gb_drew ?_)
            · refine ⟨?_, ?_, ?_, ?_, ?_, ?_, ?_, ?_, ?_, ?_, ?_, ?_, ?_, ?_, ?_, ?_, ?_⟩
              all_goals go_simp
            · intro o
              go_simp
            · simp <;> omega
end Go.Proofs.Ytgbbhkefkpndeaa

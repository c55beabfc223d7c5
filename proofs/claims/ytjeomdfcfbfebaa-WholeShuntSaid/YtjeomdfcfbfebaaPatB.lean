/- The walk of Parts: the list of parts of a pattern that lies in its period. Condition: the period in its range and each leg in the period. -/
import Derived.Test.YtjeomdfcfbfebaaPatA
import Derived.Test.YtjeomdfcfbfebaaShelf
import Derived.Sort.OwnSortedInts
import Derived.Deep.DeepCutAuto
import Derived.Deep.CutBlock
import Derived.StillTailTactics
import Derived.Deep.DeepMust
import Derived.Deep.DeepFit
namespace Go.Proofs.Ytjeomdfcfbfebaa
open Go.RowKit PM
open Go.Sort (grow putRow)

@[go_sem] theorem ixLeg0 (a b c d e f : Int) (w : World) : (Instr.index 39 (.agg #[.int .i64 a, .int .i64 b, .int .i64 c, .int .i64 d, .int .i64 e, .int .i64 f]) (.int .i64 0)).run Try.prog w = .ok (.agg #[.int .i64 a, .int .i64 b]) w := by kernel_rfl
@[go_sem] theorem ixInt0 (a b c : Int) (w : World) : (Instr.index 26 (.agg #[.int .i64 a, .int .i64 b, .int .i64 c]) (.int .i64 0)).run Try.prog w = .ok (.int .i64 a) w := by kernel_rfl
@[go_sem] theorem ixLeg1 (a b c d e f : Int) (w : World) : (Instr.index 39 (.agg #[.int .i64 a, .int .i64 b, .int .i64 c, .int .i64 d, .int .i64 e, .int .i64 f]) (.int .i64 1)).run Try.prog w = .ok (.agg #[.int .i64 c, .int .i64 d]) w := by kernel_rfl
@[go_sem] theorem ixInt1 (a b c : Int) (w : World) : (Instr.index 26 (.agg #[.int .i64 a, .int .i64 b, .int .i64 c]) (.int .i64 1)).run Try.prog w = .ok (.int .i64 b) w := by kernel_rfl
@[go_sem] theorem ixLeg2 (a b c d e f : Int) (w : World) : (Instr.index 39 (.agg #[.int .i64 a, .int .i64 b, .int .i64 c, .int .i64 d, .int .i64 e, .int .i64 f]) (.int .i64 2)).run Try.prog w = .ok (.agg #[.int .i64 e, .int .i64 f]) w := by kernel_rfl
@[go_sem] theorem ixInt2 (a b c : Int) (w : World) : (Instr.index 26 (.agg #[.int .i64 a, .int .i64 b, .int .i64 c]) (.int .i64 2)).run Try.prog w = .ok (.int .i64 c) w := by kernel_rfl
theorem info_int : (Try.prog.info? 3).map (fun i => (i.zero, i.size, i.bytes)) = some (some (.int .i64 0), 1, 8) := by kernel_rfl
theorem info_part : (Try.prog.info? 69).map (fun i => (i.zero, i.size, i.bytes)) = some (some (.agg #[.int .i64 0, .int .i64 0, .bool false, .bool false, .bool false]), 5, 24) := by kernel_rfl
theorem two_cells (w : World) (a b : Int) (t : TypeId) (n : Nat) (hn : n = w.heap.size) : ∀ j u, [Value.int .i64 a, .int .i64 b][j]? = some u → (w.alloc (.cells #[.int .i64 a, .int .i64 b] t)).cell? ((⟨n, 0, none⟩ : Addr).add j) = some u := by
  subst hn
  intro j u hj
  match j, hj with
  | 0, hj => simp at hj; subst hj; simp [Addr.add]
  | 1, hj => simp at hj; subst hj; simp [Addr.add]
theorem two_one (a b : Int) : ∀ u ∈ [Value.int .i64 a, .int .i64 b], u.oneCell' = true := by
  intro u hu
  simp only [List.mem_cons, List.not_mem_nil, or_false] at hu
  rcases hu with rfl | rfl <;> rfl

@[go_sem] theorem isSome_setCell (w : World) (p q : Addr) (u : Value) : ((w.setCell q u).cell? p).isSome = (w.cell? p).isSome := by
  by_cases h : q.block = p.block
  · unfold World.cell? World.setCell
    simp only [Array.getElem?_modify, h, if_true]
    cases w.heap[p.block]? with
    | none => rfl
    | some o =>
      cases o with
      | cells c e fr =>
        simp only [Option.map_some]
        by_cases hp : p.spot.isSome
        · simp [hp]
        · by_cases hq : q.spot.isSome
          · simp [hp, hq]
          · simp only [hp, hq]
            rw [Bool.eq_iff_iff]
            simp [Array.getElem?_setIfInBounds]
            split <;> simp_all
      | _ => rfl
  · rw [World.cell?_setCell_far _ _ _ _ h]
theorem wpStill_of_quiet {P : Program} {ops : Array Oper} {W : World} {Q : Act → Prop} : ∀ (l : List Oper) (a : Act), wpQuiet P ops (fun w' => w' = W) Q l a → wpStill P ops W Q l a
  | [], _, h => h
  | o :: rest, a, h => by
    unfold wpQuiet at h
    unfold wpStill
    split
    · rename_i hw
      rw [if_pos hw] at h
      obtain ⟨v, h1, h2⟩ := h
      have h3 := h1 W rfl
      unfold Oper.quietAt at h3
      unfold Oper.still
      generalize (execOp a.eval o).run P W = r at h3
      have ih := wpStill_of_quiet rest _ h2
      cases r with
      | ok n w' =>
        cases n <;> simp only [Oper.quietUpon] at h3 <;> simp only [Oper.stillUpon]
        case value u => exact ⟨h3.1, h3.2 ▸ ih⟩
        case skip => exact ⟨h3.1, h3.2 ▸ ih⟩
        case enter f args => exact ⟨h3.1, v, h3.2, ih⟩
      | halt x w' => simp only [Oper.quietUpon] at h3
    · rename_i hw
      rw [if_neg hw] at h
      exact wpStill_of_quiet rest _ h

@[go_sem] theorem eqB3 (a b c d e f : Bool) (w : World) : (Op.equalIn 10000 67 (.agg #[.bool a, .bool b, .bool c]) (.agg #[.bool d, .bool e, .bool f])).run Try.prog w = .ok (a == d && b == e && c == f) w := by
  cases a <;> cases b <;> cases c <;> cases d <;> cases e <;> cases f <;> kernel_rfl
theorem part_cells (w : World) (x : Prt) (t : TypeId) (n : Nat) (hn : n = w.heap.size) : ∀ j u, (pcell x)[j]? = some u → (w.alloc (.cells #[.int .i64 x.a, .int .i64 x.b, .bool x.n.1, .bool x.n.2.1, .bool x.n.2.2] t)).cell? ((⟨n, 0, none⟩ : Addr).add j) = some u := by
  subst hn
  intro j u hj
  match j, hj with
  | 0, hj => simp [pcell] at hj; subst hj; simp [Addr.add]
  | 1, hj => simp [pcell] at hj; subst hj; simp [Addr.add]
  | 2, hj => simp [pcell] at hj; subst hj; simp [Addr.add]
  | 3, hj => simp [pcell] at hj; subst hj; simp [Addr.add]
  | 4, hj => simp [pcell] at hj; subst hj; simp [Addr.add]
theorem part_one (x : Prt) : ∀ u ∈ pcell x, u.oneCell' = true := by
  intro u hu
  simp only [pcell, List.mem_cons, List.not_mem_nil, or_false] at hu
  rcases hu with rfl | rfl | rfl | rfl | rfl <;> rfl
theorem push_nil (c c' : Int) (n : B3) : push [] c c' n = [⟨c, c', n⟩] := rfl
theorem push_same {x : Prt} {l : List Prt} {c c' : Int} {n : B3} (h : x.n = n) : push (x :: l) c c' n = ⟨x.a, c', x.n⟩ :: l := by show (if x.n = n then _ else _) = _; rw [if_pos h]
theorem push_other {x : Prt} {l : List Prt} {c c' : Int} {n : B3} (h : ¬ x.n = n) : push (x :: l) c c' n = ⟨c, c', n⟩ :: x :: l := by show (if x.n = n then _ else _) = _; rw [if_neg h]
theorem n_iff (n : B3) (a b c : Bool) : (n.1 == a && n.2.1 == b && n.2.2 == c) = true ↔ n = (a, b, c) := by
  obtain ⟨x, y, z⟩ := n
  cases x <;> cases y <;> cases z <;> cases a <;> cases b <;> cases c <;> decide

theorem grow_none (w : World) : grow w #[] = w := by unfold grow; simp
theorem own_mono {w : World} {b b' : Nat} {e : TypeId} {size n : Nat} {v : Value} {xs : List Value} (h : w.ownsRow b e size v n xs) (hb : b' ≤ b) : w.ownsRow b' e size v n xs := by
  refine ⟨h.1, ?_⟩
  rcases h.2 with h' | ⟨g, cap, cur, e1, e2, e3⟩
  · exact .inl h'
  · exact .inr ⟨g, cap, cur, e1, Nat.le_trans hb e2, e3⟩

theorem region_quiet_tail {P : Program} {id : Nat} {Q : Exit → Act → World → Prop} {a : Act} {w : World} {l : List Oper} (n : Nat) (hm : P.follows .mixedOrders = true) (hB : Region.lexTailB .any l.toArray n = true)
    (h : wpQuiet P l.toArray (fun w' => w' = w.drew) (fun a' => wpList P l.toArray Q (l.drop n) a' w.drew) (l.take n) a) : (Code.region id l.toArray true).wp P Q a w := wp_region_still_tail n hm hB (wpStill_of_quiet _ _ h)

/-- The cuts that are gathered so far. -/
def Gath (w W0 : World) (wx : World) (v : Value) (cs : List Int) : Prop :=
  wx.ownsRow (w.heap.size + 1) 3 1 v cs.length (cs.map (Value.int .i64)) ∧ Below (w.heap.size + 1) W0 wx ∧ w.heap.size + 1 < wx.heap.size
theorem gath_more {w W0 wx wy w1 : World} {v v' : Value} {cs : List Int} {a b : Int} (h : Gath w W0 wx v cs) (hy : wx.grownBy wy none) (hg : wy.grownBy w1 v.ownBlock)
    (ho : w1.ownsRow (w.heap.size + 1) 3 1 v' (cs.length + 2) (cs.map (Value.int .i64) ++ [.int .i64 a, .int .i64 b])) : Gath w W0 w1 v' (cs ++ [a, b]) := by
  obtain ⟨h1, h2, h3⟩ := h
  refine ⟨by simpa using ho, ?_, by have := hy.size; have := hg.size; omega⟩
  have hB : Below (w.heap.size + 1) W0 wy := h2.grown hy (by omega) (fun k hk => by cases hk)
  exact hB.grown hg (by have := hy.size; omega) (fun k hk => (h1.lt k hk).1)
theorem gath_same {w W0 wx wy : World} {v : Value} {cs : List Int} (h : Gath w W0 wx v cs) (hy : wx.grownBy wy none) : Gath w W0 wy v cs :=
  ⟨h.1.kept hy (by cases h : v.ownBlock <;> simp), h.2.1.grown hy (by have := h.2.2; omega) (fun k hk => by cases hk), by have := hy.size; have := h.2.2; omega⟩
theorem gb_none2 (w : World) (a b : Obj) : w.grownBy ((w.alloc a).alloc b) none := (World.grownBy_alloc w a none).andThen (World.grownBy_alloc _ b none) (fun j hj => by cases hj)
theorem gb_none3 (w : World) (a b c : Obj) : w.grownBy (((w.alloc a).alloc b).alloc c) none := (gb_none2 w a b).andThen (World.grownBy_alloc _ c none) (fun j hj => by cases hj)
def c0 (per : Int) : List Int := [0, per]
def cAdd (cs : List Int) (l : Lg) : List Int := cs ++ (if l.a < l.b then [l.a, l.b] else [])
theorem cAdd_yes {cs : List Int} {l : Lg} (h : l.a < l.b) : cAdd cs l = cs ++ [l.a, l.b] := by unfold cAdd; rw [if_pos h]
theorem cAdd_no {cs : List Int} {l : Lg} (h : ¬ l.a < l.b) : cAdd cs l = cs := by unfold cAdd; rw [if_neg h, List.append_nil]
theorem cAdd_all (p : Pt) (per : Int) : cAdd (cAdd (cAdd (c0 per) p.l0) p.l1) p.l2 = cutsOf p per := rfl
theorem cAdd_len (cs : List Int) (l : Lg) : cs.length ≤ (cAdd cs l).length ∧ (cAdd cs l).length ≤ cs.length + 2 := by
  unfold cAdd
  split <;> simp

set_option maxHeartbeats 8000000 in
set_option maxRecDepth 100000 in
theorem parts_ok (p : Pt) (per : Int) (hper : okPer per) (h : p.In per) (w : World) :
    Calls Try.prog 34 #[.agg #[.int .i64 p.l0.a, .int .i64 p.l0.b, .int .i64 p.l1.a, .int .i64 p.l1.b, .int .i64 p.l2.a, .int .i64 p.l2.b], .int .i64 per] w fun e w' => ∃ (v : Value) (R : List Prt), e = .returned (.tuple #[v, .nilIface]) ∧ Segs p.on per R ∧ w'.ownsRow w.heap.size 69 5 v R.length (flat R) ∧ Below w.heap.size w w' := by
  have HP := hide (isPeriod_yes per hper)
  have HS0 := hide (shape_ok p.l0 per h.1)
  have HS1 := hide (shape_ok p.l1 per h.2.1)
  have HS2 := hide (shape_ok p.l2 per h.2.2)
  have HH := hide h
  have hpp := hide hper
  obtain ⟨i0, hi, hz0, hz1, hz2⟩ := info_parts info_int
  obtain ⟨j0, hj, hy0, hy1, hy2⟩ := info_parts info_part
  have h0 : (c0 per).length = 2 := rfl
  clear h hper
  go_enter Try.func34, Try.ntmps34
  go_upto_region 3 with (go_at_call 69; refine (HP.out _).mono ?_; rintro e w8 ⟨rfl, rfl⟩)
  go_cut [6] (fun s6 wx => Gath w (w.alloc (.cells #[.int .i64 p.l0.a, .int .i64 p.l0.b, .int .i64 p.l1.a, .int .i64 p.l1.b, .int .i64 p.l2.a, .int .i64 p.l2.b] 39)) wx s6 (c0 per))
  case first =>
    go_wp2
    go_meet
    exact ⟨by simpa [c0] using World.ownsRow_lit (base := w.heap.size + 1) (e := 3) (size := 1) (w.alloc (.cells #[.int .i64 p.l0.a, .int .i64 p.l0.b, .int .i64 p.l1.a, .int .i64 p.l1.b, .int .i64 p.l2.a, .int .i64 p.l2.b] 39)) #[.int .i64 0, .int .i64 per] 2 (by simp) (by unfold maxLen; omega) rfl, (Below.refl _ _).alloc (by simp) _, by simp⟩
  case rest =>
  have hG := hcut
  clear hcut
  have hW := hG.2.2
  have cx0 := fun o => hG.2.1.cell (p := ⟨w.heap.size, o, none⟩) (by simp)
  have hyw : w.heap.size < wc.heap.size := by omega
  go_wp2
  refine wp_loop_rounds 4 ?_
  rw [rounds_succ]
  have hO := hG.1
  go_upto_block 1 with fail
  go_cut [6] (fun s6 wx => Gath w (w.alloc (.cells #[.int .i64 p.l0.a, .int .i64 p.l0.b, .int .i64 p.l1.a, .int .i64 p.l1.b, .int .i64 p.l2.a, .int .i64 p.l2.b] 39)) wx s6 (cAdd (c0 per) p.l0))
  case first =>
    by_cases hlt : p.l0.a < p.l0.b
    · have hlt' := hide hlt
      go_wp2_with (first | (go_at_call 70; refine (HS0.out _).mono ?_; rintro e w8 ⟨rfl, rfl⟩) | (at_builtin; refine wpList_append_own _ ?_ (.tmp 37) (.tmp 42) 62 ?_ (w.heap.size + 1) 3 i0 (.int .i64 0) 1 8 Try.underlying62 hi hz0 hz1 hz2 rfl (by decide) u6 ((c0 per)).length (((c0 per)).map (Value.int .i64)) ?_ ?_ ⟨wc.heap.size + 1 + 1, 0, none⟩ 2 2 [.int .i64 p.l0.a, .int .i64 p.l0.b] ?_ ?_ ?_ ?_ ?_ ?_ ?_ ?_; rfl; rfl; rfl; (exact (((hO.alloc _).alloc _).alloc _)); rfl; rfl; (exact two_cells _ _ _ _ _ (by simp)); (exact two_one _ _); (unfold maxLen; omega); omega; (simp; omega); intro v' w9 hown' hgrow hnil'))
      go_wp2
      go_meet
      rw [cAdd_yes (by have := hlt'.out; omega)]
      exact gath_more hG (gb_none3 _ _ _ _) hgrow hown'
    · have hlt' := hide hlt
      go_wp2_with (go_at_call 70; refine (HS0.out _).mono ?_; rintro e w8 ⟨rfl, rfl⟩)
      go_meet
      rw [cAdd_no (by have := hlt'.out; omega)]
      exact gath_same hG (gb_none2 _ _ _)
  case rest =>
  have hln0 := cAdd_len (c0 per) p.l0
  clear hG hO
  have hG := hcut
  clear hcut
  have hW := hG.2.2
  go_wp2
  rw [rounds_succ]
  have hO := hG.1
  go_upto_block 1 with fail
  go_cut [6] (fun s6 wx => Gath w (w.alloc (.cells #[.int .i64 p.l0.a, .int .i64 p.l0.b, .int .i64 p.l1.a, .int .i64 p.l1.b, .int .i64 p.l2.a, .int .i64 p.l2.b] 39)) wx s6 (cAdd (cAdd (c0 per) p.l0) p.l1))
  case first =>
    by_cases hlt : p.l1.a < p.l1.b
    · have hlt' := hide hlt
      go_wp2_with (first | (go_at_call 70; refine (HS1.out _).mono ?_; rintro e w8 ⟨rfl, rfl⟩) | (at_builtin; refine wpList_append_own _ ?_ (.tmp 37) (.tmp 42) 62 ?_ (w.heap.size + 1) 3 i0 (.int .i64 0) 1 8 Try.underlying62 hi hz0 hz1 hz2 rfl (by decide) u6 ((cAdd (c0 per) p.l0)).length (((cAdd (c0 per) p.l0)).map (Value.int .i64)) ?_ ?_ ⟨wc.heap.size + 1 + 1, 0, none⟩ 2 2 [.int .i64 p.l1.a, .int .i64 p.l1.b] ?_ ?_ ?_ ?_ ?_ ?_ ?_ ?_; rfl; rfl; rfl; (exact (((hO.alloc _).alloc _).alloc _)); rfl; rfl; (exact two_cells _ _ _ _ _ (by simp)); (exact two_one _ _); (unfold maxLen; omega); omega; (simp; omega); intro v' w9 hown' hgrow hnil'))
      go_wp2
      go_meet
      rw [cAdd_yes (by have := hlt'.out; omega)]
      exact gath_more hG (gb_none3 _ _ _ _) hgrow hown'
    · have hlt' := hide hlt
      go_wp2_with (go_at_call 70; refine (HS1.out _).mono ?_; rintro e w8 ⟨rfl, rfl⟩)
      go_meet
      rw [cAdd_no (by have := hlt'.out; omega)]
      exact gath_same hG (gb_none2 _ _ _)
  case rest =>
  have hln1 := cAdd_len (cAdd (c0 per) p.l0) p.l1
  clear hG hO
  have hG := hcut
  clear hcut
  have hW := hG.2.2
  go_wp2
  rw [rounds_succ]
  have hO := hG.1
  go_upto_block 1 with fail
  go_cut [6] (fun s6 wx => Gath w (w.alloc (.cells #[.int .i64 p.l0.a, .int .i64 p.l0.b, .int .i64 p.l1.a, .int .i64 p.l1.b, .int .i64 p.l2.a, .int .i64 p.l2.b] 39)) wx s6 (cAdd (cAdd (cAdd (c0 per) p.l0) p.l1) p.l2))
  case first =>
    by_cases hlt : p.l2.a < p.l2.b
    · have hlt' := hide hlt
      go_wp2_with (first | (go_at_call 70; refine (HS2.out _).mono ?_; rintro e w8 ⟨rfl, rfl⟩) | (at_builtin; refine wpList_append_own _ ?_ (.tmp 37) (.tmp 42) 62 ?_ (w.heap.size + 1) 3 i0 (.int .i64 0) 1 8 Try.underlying62 hi hz0 hz1 hz2 rfl (by decide) u6 ((cAdd (cAdd (c0 per) p.l0) p.l1)).length (((cAdd (cAdd (c0 per) p.l0) p.l1)).map (Value.int .i64)) ?_ ?_ ⟨wc.heap.size + 1 + 1, 0, none⟩ 2 2 [.int .i64 p.l2.a, .int .i64 p.l2.b] ?_ ?_ ?_ ?_ ?_ ?_ ?_ ?_; rfl; rfl; rfl; (exact (((hO.alloc _).alloc _).alloc _)); rfl; rfl; (exact two_cells _ _ _ _ _ (by simp)); (exact two_one _ _); (unfold maxLen; omega); omega; (simp; omega); intro v' w9 hown' hgrow hnil'))
      go_wp2
      go_meet
      rw [cAdd_yes (by have := hlt'.out; omega)]
      exact gath_more hG (gb_none3 _ _ _ _) hgrow hown'
    · have hlt' := hide hlt
      go_wp2_with (go_at_call 70; refine (HS2.out _).mono ?_; rintro e w8 ⟨rfl, rfl⟩)
      go_meet
      rw [cAdd_no (by have := hlt'.out; omega)]
      exact gath_same hG (gb_none2 _ _ _)
  case rest =>
  have hln2 := cAdd_len (cAdd (cAdd (c0 per) p.l0) p.l1) p.l2
  clear hG hO
  have hG := hcut
  clear hcut
  have hW := hG.2.2
  go_wp2
  rw [rounds_succ]
  rw [cAdd_all] at hG
  have hlc := length_cutsOf p per
  obtain ⟨hlc1, hlc2⟩ := hlc
  generalize hcs : cutsOf p per = cs at hG hlc1 hlc2
  obtain ⟨hown, hBW, _⟩ := hG
  rcases hown.2 with ⟨_, hn0⟩ | ⟨g, cap, cur, rfl, hbase, hb, k1, k2, k3, k4⟩
  · omega
  have hgl : g < wc.heap.size := (Array.getElem?_eq_some_iff.1 hb).1
  have hc := Try.slices_Sort_int g 0 cap cs wc (holds_of_blockI hb (by simpa using k4)) hgl (by omega)
  clear hln0 hln1 hln2 h0
  go_wp2_with (go_at_call 71; refine hc.mono ?_; rintro e w5 ⟨rfl, nn, os, hw5⟩; replace hw5 := hide hw5)
  have hown5 : w5.ownsRow (w.heap.size + 1) 3 1 (.slice (some ⟨g, 0, none⟩) cs.length cap) cs.length ((PM.sorted cs).map (Value.int .i64)) := by rw [hw5.out]; exact ownsRow_sortedI (PM.length_sorted cs) hbase hb k1 k2 k3
  have hg5 : wc.grownBy w5 (some g) := by rw [hw5.out]; exact grownBy_sortedI _
  have hB5 : Below (w.heap.size + 1) (w.alloc (.cells #[.int .i64 p.l0.a, .int .i64 p.l0.b, .int .i64 p.l1.a, .int .i64 p.l1.b, .int .i64 p.l2.a, .int .i64 p.l2.b] 39)) w5 := hBW.grown hg5 (by omega) (fun k hk => by cases hk; exact hbase)
  have hg5s := hg5.size
  clear hw5 hb hc hown k4 hBW hg5
  rcases hown5.2 with ⟨h', _⟩ | ⟨g', cap', cur', hv, hbase', hb', m1, m2, m3, m4⟩
  · cases h'
  cases hv
  have hc2 := Try.slices_Compact_int g 0 cap (PM.sorted cs) w5 (holds_of_blockI hb' (by simpa [PM.length_sorted] using m4)) (by rw [PM.length_sorted]; omega) (by rw [PM.length_sorted]; omega)
  have hDl := compact_le (PM.sorted cs)
  rw [PM.length_sorted] at hc2 hDl
  have hD : Lib.compact (PM.sorted cs) = cuts p per := by rw [← hcs]; rfl
  have hDp := cuts_len_pos p per
  rw [← hD] at hDp
  generalize Lib.compact (PM.sorted cs) = D at hc2 hDl hD hDp
  clear hown5 m4
  replace hD := hide hD
  go_wp2_with (go_at_call 72; refine hc2.mono ?_; rintro e w6 ⟨rfl, qq, hw6⟩; replace hw6 := hide hw6)
  have hown6 : w6.ownsRow (w.heap.size + 1) 3 1 (.slice (some ⟨g, 0, none⟩) cs.length cap) cs.length ((D ++ List.replicate (cs.length - D.length) 0).map (Value.int .i64)) := by
    rw [hw6.out, ← grow_none (putRow _ _ _ _ _)]
    exact ownsRow_sortedI (by simp; omega) hbase hb' m1 m2 m3
  have hg6 : w5.grownBy w6 (some g) := by rw [hw6.out, ← grow_none (putRow _ _ _ _ _)]; exact grownBy_sortedI _
  have hB6 : Below (w.heap.size + 1) (w.alloc (.cells #[.int .i64 p.l0.a, .int .i64 p.l0.b, .int .i64 p.l1.a, .int .i64 p.l1.b, .int .i64 p.l2.a, .int .i64 p.l2.b] 39)) w6 := hB5.grown hg6 (by omega) (fun k hk => by cases hk; exact hbase)
  have hg6s := hg6.size
  have hgl6 : g < w6.heap.size := by omega
  have hcells : ∀ j, j < D.length → w6.cell? ⟨g, j, none⟩ = some (.int .i64 (D.getD j 0)) := by
    intro j hj
    rw [hown6.cellAt j (by omega)]
    rw [List.getElem?_map, List.getElem?_append_left hj]
    simp [List.getD, List.getElem?_eq_getElem hj]
  replace hcells := hide hcells
  have hlD : D.length ≤ 8 := by omega
  clear hw6 hown6 hc2 hb' m1 m2 m3 hg6 hB5 cur' cur k1 k2 k3 hbase' hcs hlc1 hlc2 hDl
  go_loopw [10, 11] (fun v i wr => ∃ k : Nat, k + 1 ≤ D.length ∧ i = .int .i64 ((k : Int) + 1) ∧ ∃ R : List Prt, Segs p.on (D.getD k 0) R ∧ R.length ≤ k ∧ wr.ownsRow w6.heap.size 69 5 v R.length (flat R) ∧ Below w6.heap.size w6 wr) (fun _ i _ => D.length - (intOf i).toNat)
  case atStart =>
    exact ⟨0, by omega, rfl, [], cuts_firstD hD.out HH.out (by have := hpp.out.1; omega), Nat.le_refl _, World.ownsRow_nil _ _ _ _, Below.refl _ _⟩
  case round =>
    obtain ⟨k, hk, rfl, R, hS, hR, hown, HW⟩ := hrel
    by_cases hlt : k + 1 < D.length
    · have hx0 := (HW.cell (p := ⟨g, k, none⟩) hgl6).trans (hcells.out k (by omega))
      have hx1 := (HW.cell (p := ⟨g, k + 1, none⟩) hgl6).trans (hcells.out (k + 1) hlt)
      have cpx := fun o => (HW.cell (p := ⟨w.heap.size, o, none⟩) (by show w.heap.size < w6.heap.size; omega)).trans (hB6.cell (p := ⟨w.heap.size, o, none⟩) (by simp))
      have hpush := cuts_pushD hD.out hlt hS
      generalize hC0 : D.getD k 0 = C0 at hx0 hpush hS
      generalize hC1 : D.getD (k + 1) 0 = C1 at hx1 hpush
      replace hC1 := hide hC1
      obtain ⟨x0, hX0⟩ : ∃ x : Bool, x = p.l0.on C0 := ⟨_, rfl⟩
      obtain ⟨x1, hX1⟩ : ∃ x : Bool, x = p.l1.on C0 := ⟨_, rfl⟩
      obtain ⟨x2, hX2⟩ : ∃ x : Bool, x = p.l2.on C0 := ⟨_, rfl⟩
      have hon : p.on C0 = (x0, x1, x2) := by rw [hX0, hX1, hX2]; rfl
      rw [hon] at hpush
      replace hpush := hide hpush
      replace hX0 := hide hX0
      replace hX1 := hide hX1
      replace hX2 := hide hX2
      have yg : g < wr.heap.size := by have := HW.size; omega
      have yw : w.heap.size < wr.heap.size := by have := HW.size; omega
      clear hC0 hon hS
      go_upto_region 19 with fail
      go_cut [12] (fun s12 wx => s12 = .pointer (some ⟨wr.heap.size, 0, none⟩) ∧ wx = (wr.alloc (.cells #[.int .i64 C0, .int .i64 C1, .bool false, .bool false, .bool false] 69)).drew)
      case first =>
        go_region
        all_goals
          go_wp2
          go_meet
          exact ⟨rfl, rfl⟩
      case rest =>
      obtain ⟨rfl, rfl⟩ := hcut
      go_wp2
      refine wp_loop_rounds 4 ?_
      rw [rounds_succ]
      go_upto_block 5 with fail
      go_cut [13] (fun _ wx => wx = ((wr.alloc (.cells #[.int .i64 C0, .int .i64 C1, .bool x0, .bool false, .bool false] 69)).alloc (.cells #[.int .i64 p.l0.a, .int .i64 p.l0.b] 38)).drew)
      case first =>
        by_cases hle : p.l0.a ≤ C0
        · have e : x0 = decide (C0 < p.l0.b) := by (rw [hX0.out]; simp [Lg.on, hle])
          clear hX0
          subst e
          go_wp2
          go_meet
          rfl
        · have e : x0 = false := by (rw [hX0.out]; simp [Lg.on, hle])
          clear hX0
          subst e
          go_wp2
          go_meet
          rfl
      case rest =>
      obtain rfl := hcut
      go_wp2
      rw [rounds_succ]
      go_upto_block 5 with fail
      go_cut [13] (fun _ wx => wx = (((wr.alloc (.cells #[.int .i64 C0, .int .i64 C1, .bool x0, .bool x1, .bool false] 69)).alloc (.cells #[.int .i64 p.l0.a, .int .i64 p.l0.b] 38)).alloc (.cells #[.int .i64 p.l1.a, .int .i64 p.l1.b] 38)).drew)
      case first =>
        by_cases hle : p.l1.a ≤ C0
        · have e : x1 = decide (C0 < p.l1.b) := by (rw [hX1.out]; simp [Lg.on, hle])
          clear hX1
          subst e
          go_wp2
          go_meet
          rfl
        · have e : x1 = false := by (rw [hX1.out]; simp [Lg.on, hle])
          clear hX1
          subst e
          go_wp2
          go_meet
          rfl
      case rest =>
      obtain rfl := hcut
      go_wp2
      rw [rounds_succ]
      go_upto_block 5 with fail
      go_cut [13] (fun _ wx => wx = ((((wr.alloc (.cells #[.int .i64 C0, .int .i64 C1, .bool x0, .bool x1, .bool x2] 69)).alloc (.cells #[.int .i64 p.l0.a, .int .i64 p.l0.b] 38)).alloc (.cells #[.int .i64 p.l1.a, .int .i64 p.l1.b] 38)).alloc (.cells #[.int .i64 p.l2.a, .int .i64 p.l2.b] 38)).drew)
      case first =>
        by_cases hle : p.l2.a ≤ C0
        · have e : x2 = decide (C0 < p.l2.b) := by (rw [hX2.out]; simp [Lg.on, hle])
          clear hX2
          subst e
          go_wp2
          go_meet
          rfl
        · have e : x2 = false := by (rw [hX2.out]; simp [Lg.on, hle])
          clear hX2
          subst e
          go_wp2
          go_meet
          rfl
      case rest =>
      obtain rfl := hcut
      go_wp2
      rw [rounds_succ]
      have hl0 := HW.size
      have hR8 : R.length ≤ 8 := by omega
      generalize hnl : R.length = nl at hown hR hR8
      go_upto_region 25 with fail
      go_cut [15] (fun s15 wx => s15 = .int .i64 nl ∧ wx = ((((wr.alloc (.cells #[.int .i64 C0, .int .i64 C1, .bool x0, .bool x1, .bool x2] 69)).alloc (.cells #[.int .i64 p.l0.a, .int .i64 p.l0.b] 38)).alloc (.cells #[.int .i64 p.l1.a, .int .i64 p.l1.b] 38)).alloc (.cells #[.int .i64 p.l2.a, .int .i64 p.l2.b] 38)).drew)
      case first =>
        rcases hown.2 with ⟨rfl, hR0⟩ | ⟨g2, cap2, cur2, rfl, _⟩
        · subst hR0
          go_wp2
          go_meet
          exact ⟨rfl, rfl⟩
        · go_wp2
          go_meet
          exact ⟨rfl, rfl⟩
      case rest =>
      obtain ⟨rfl, rfl⟩ := hcut
      cases R with
      | nil =>
        obtain rfl : nl = 0 := hnl.symm
        clear hnl
        have hpush' := hpush.out
        rw [push_nil] at hpush'
        replace hpush' := hide hpush'
        clear hpush
        go_wp2
        refine region_quiet_tail 12 (by kernel_rfl) (by kernel_rfl) ?_
        simp only [List.take_succ_cons, List.take_zero, List.drop_succ_cons, List.drop_zero]
        repeat (first | go_big_quiet_skip | (go_big_quiet_want; go_big_quiet_op; go_big_quiet_on))
        refine wpQuiet_nil ?_
        go_wp2_with (at_builtin; refine wpList_append_own _ ?_ (.tmp 108) (.tmp 110) 64 ?_ w6.heap.size 69 j0 (.agg #[.int .i64 0, .int .i64 0, .bool false, .bool false, .bool false]) 5 24 Try.underlying64 hj hy0 hy1 hy2 rfl (by decide) u10 0 (flat []) ?_ ?_ ⟨wr.heap.size + 1 + 1 + 1 + 1, 0, none⟩ 1 1 (pcell ⟨C0, C1, (x0, x1, x2)⟩) ?_ ?_ ?_ ?_ ?_ ?_ ?_ ?_; rfl; rfl; rfl; (exact (by repeat (first | exact hown | refine World.ownsRow.drew ?_ | refine World.ownsRow.alloc ?_ _))); rfl; rfl; (exact part_cells _ _ _ _ (by simp)); (exact part_one _); (unfold maxLen; omega); omega; (simp; omega); intro v' w9 hown' hgrow hnil')
        go_wp2
        go_roundw
        case rel =>
          refine ⟨k + 1, by omega, by go_num, _, by rw [hC1.out]; exact hpush'.out, by simp only [List.length_cons, List.length_nil]; omega, by rw [flat_cons]; exact hown', ?_⟩
          exact Below.grown (by exact (by repeat (first | with_reducible exact HW | with_reducible refine Below.drew ?_ | with_reducible refine Below.alloc ?_ (by first | omega | (simp <;> omega)) _ | with_reducible refine Below.setCell ?_ (by first | exact hb2 | omega | (simp <;> omega)) _))) hgrow (by simp; omega) (fun k hk => (hown.lt k hk).1)
        case measure => simp [intOf]; omega
      | cons x l =>
        obtain rfl : nl = l.length + 1 := hnl.symm
        clear hnl
        rcases hown.2 with ⟨_, hR0⟩ | ⟨g2, cap2, cur2, rfl, hb2, hc2, e1, e2, e3, e4⟩
        · omega
        have yg2 : g2 < wr.heap.size := (Array.getElem?_eq_some_iff.1 hc2).1
        clear hc2 e1 e2 e3 e4
        have cN0 : wr.cell? ⟨g2, l.length * 5 + 2, none⟩ = some (.bool x.n.1) := (hown.cellAt (l.length * 5 + 2) (by omega)).trans (flat_top x l 2)
        have cN1 : wr.cell? ⟨g2, l.length * 5 + 2 + 1, none⟩ = some (.bool x.n.2.1) := (hown.cellAt (l.length * 5 + 3) (by omega)).trans (flat_top x l 3)
        have cN2 : wr.cell? ⟨g2, l.length * 5 + 2 + 2, none⟩ = some (.bool x.n.2.2) := (hown.cellAt (l.length * 5 + 4) (by omega)).trans (flat_top x l 4)
        have cN3 : wr.cell? ⟨g2, l.length * 5 + 1, none⟩ = some (.int .i64 x.b) := (hown.cellAt (l.length * 5 + 1) (by omega)).trans (flat_top x l 1)
        have cN4 : wr.cell? ⟨g2, l.length * 5 + 3, none⟩ = some (.bool x.n.2.1) := cN1
        have cN5 : wr.cell? ⟨g2, l.length * 5 + 4, none⟩ = some (.bool x.n.2.2) := cN2
        have fN := fun o => hown.frozenAt o
        have yh1 : g2 < wr.heap.size + 1 := by omega
        have yh2 : g2 < wr.heap.size + 1 + 1 := by omega
        have yh3 : g2 < wr.heap.size + 1 + 1 + 1 := by omega
        have nh1 : ¬ g2 = wr.heap.size + 1 := by omega
        have nh2 : ¬ g2 = wr.heap.size + 1 + 1 := by omega
        have nh3 : ¬ g2 = wr.heap.size + 1 + 1 + 1 := by omega
        have ng1 : ¬ g2 = wr.heap.size := by omega
        have ng2 : ¬ wr.heap.size = g2 := by omega
        have i1 : (0 : Int) ≤ (l.length : Int) := by omega
        have i2 : (l.length : Int) < (l.length : Int) + 1 := by omega
        have i3 : (0 : Int) < (l.length : Int) + 1 := by omega
        obtain ⟨sm, hsm⟩ : ∃ sm : Bool, (x.n.1 == x0 && x.n.2.1 == x1 && x.n.2.2 == x2) = sm := ⟨_, rfl⟩
        have hniff := hide (n_iff x.n x0 x1 x2)
        cases sm
        · have hne : ¬ x.n = (x0, x1, x2) := fun h => by have := hniff.out.2 h; rw [hsm] at this; cases this
          have hpush' := hpush.out
          rw [push_other hne] at hpush'
          replace hpush' := hide hpush'
          clear hpush hne
          go_wp2
          refine region_quiet_tail 12 (by kernel_rfl) (by kernel_rfl) ?_
          simp only [List.take_succ_cons, List.take_zero, List.drop_succ_cons, List.drop_zero]
          repeat (first | go_big_quiet_skip | (go_big_quiet_want; go_big_quiet_op; go_big_quiet_on))
          refine wpQuiet_nil ?_
          go_wp2_with (at_builtin; refine wpList_append_own _ ?_ (.tmp 108) (.tmp 110) 64 ?_ w6.heap.size 69 j0 (.agg #[.int .i64 0, .int .i64 0, .bool false, .bool false, .bool false]) 5 24 Try.underlying64 hj hy0 hy1 hy2 rfl (by decide) (.slice (some ⟨g2, 0, none⟩) (l.length + 1) cap2) (l.length + 1) (flat (x :: l)) ?_ ?_ ⟨wr.heap.size + 1 + 1 + 1 + 1, 0, none⟩ 1 1 (pcell ⟨C0, C1, (x0, x1, x2)⟩) ?_ ?_ ?_ ?_ ?_ ?_ ?_ ?_; rfl; rfl; rfl; (exact (by repeat (first | exact hown | refine World.ownsRow.drew ?_ | refine World.ownsRow.alloc ?_ _))); rfl; rfl; (exact part_cells _ _ _ _ (by simp)); (exact part_one _); (unfold maxLen; omega); omega; (simp; omega); intro v' w9 hown' hgrow hnil')
          go_wp2
          go_roundw
          case rel =>
            refine ⟨k + 1, by omega, by go_num, _, by rw [hC1.out]; exact hpush'.out, by simp only [List.length_cons]; omega, by rw [flat_cons]; exact hown', ?_⟩
            exact Below.grown (by exact (by repeat (first | with_reducible exact HW | with_reducible refine Below.drew ?_ | with_reducible refine Below.alloc ?_ (by first | omega | (simp <;> omega)) _ | with_reducible refine Below.setCell ?_ (by first | exact hb2 | omega | (simp <;> omega)) _))) hgrow (by simp; omega) (fun k hk => (hown.lt k hk).1)
          case measure => simp [intOf]; omega
        · have hne : x.n = (x0, x1, x2) := hniff.out.1 hsm
          have hpush' := hpush.out
          rw [push_same hne] at hpush'
          replace hpush' := hide hpush'
          clear hpush hne
          go_wp2
          refine region_quiet_tail 12 (by kernel_rfl) (by kernel_rfl) ?_
          simp only [List.take_succ_cons, List.take_zero, List.drop_succ_cons, List.drop_zero]
          repeat (first | go_big_quiet_skip | (go_big_quiet_want; go_big_quiet_op; go_big_quiet_on))
          refine wpQuiet_nil ?_
          go_wp2
          go_roundw
          case rel =>
            refine ⟨k + 1, by omega, by go_num, _, by rw [hC1.out]; exact hpush'.out, by simp; omega, ?_, ?_⟩
            · have hst := (hown.stored (l.length * 5 + 1) (.int .i64 C1)).1
              rw [flat_set] at hst
              exact (by repeat (first | exact hst | refine World.ownsRow.drew ?_ | refine World.ownsRow.alloc ?_ _))
            · exact (by repeat (first | with_reducible exact HW | with_reducible refine Below.drew ?_ | with_reducible refine Below.alloc ?_ (by first | omega | (simp <;> omega)) _ | with_reducible refine Below.setCell ?_ (by first | exact hb2 | omega | (simp <;> omega)) _))
          case measure => simp [intOf]; omega
    · have ek : k + 1 = D.length := by omega
      have hfin := cuts_lastD hD.out HH.out (by have := hpp.out.1; omega) ek
      rw [hfin] at hS
      go_wp2
      refine bodyPost_ret (results_tmp2 rfl _ _ _) rfl ?_
      refine ⟨_, R, rfl, hS, own_mono hown (by omega), ?_⟩
      have hBw : Below w.heap.size w (w.alloc (.cells #[.int .i64 p.l0.a, .int .i64 p.l0.b, .int .i64 p.l1.a, .int .i64 p.l1.b, .int .i64 p.l2.a, .int .i64 p.l2.b] 39)) := (Below.refl _ _).alloc (Nat.le_refl _) _
      exact (hBw.trans (hB6.mono (by omega))).trans (HW.mono (by omega))
end Go.Proofs.Ytjeomdfcfbfebaa

/- PatternSpreads holds: Spread is as specified, for any legs and any need. No condition. -/
import Derived.Test.YtjeomdfcfbfebaaRows
import Derived.Test.YtjeomdfcfbfebaaFlat
import Derived.Test.YtjeomdfcfbfebaaSpE
import Derived.Test.YtjeomdfcfbfebaaPatJ
namespace Go.Proofs.Ytjeomdfcfbfebaa
open Go.RowKit PM Flat Go.ChangeShapes

set_option maxHeartbeats 4000000 in
set_option maxRecDepth 100000 in
theorem patternSpreads_walk (p : Pt) (per least need : Int) (w : World) :
    Calls Try.prog 16 #[.agg #[.int .i64 p.l0.a, .int .i64 p.l0.b, .int .i64 p.l1.a, .int .i64 p.l1.b, .int .i64 p.l2.a, .int .i64 p.l2.b], .agg #[.int .i64 per, .int .i64 least], .int .i64 need] w fun e w' => e = .returned (.bool true) ∧ Below w.heap.size w w' := by
  have HS := hide (fun W => spread_any p per least need W)
  have HR := hide (fun W => rspread_any p per least need W)
  generalize spE p per least need = cc at HS HR
  generalize spG p per least need = gg at HS HR
  generalize (spP p per least need).l0.a = o0 at HS HR
  generalize (spP p per least need).l0.b = o1 at HS HR
  generalize (spP p per least need).l1.a = o2 at HS HR
  generalize (spP p per least need).l1.b = o3 at HS HR
  generalize (spP p per least need).l2.a = o4 at HS HR
  generalize (spP p per least need).l2.b = o5 at HS HR
  have HNM := hide (num_errV cc)
  go_enter Try.func16, Try.ntmps16
  go_wp2_with (first
    | (go_at_call 30; refine (awake_any _).mono ?_; rintro e w1 ⟨rfl, hb1⟩; have z1 := hb1.size; (try simp at z1); have c1x0 := bstep (b := w.heap.size) hb1 (by first | omega | (simp <;> omega)); have y1x0 : w.heap.size < w1.heap.size := (by omega); have c1x1 := bstep (b := w.heap.size + 1) hb1 (by first | omega | (simp <;> omega)); have y1x1 : w.heap.size + 1 < w1.heap.size := (by omega))
    | (go_at_call 26; refine (HS.out _).mono ?_; rintro e w2 ⟨rfl, hb2⟩; have z2 := hb2.size; (try simp at z2); have c2x0 := bstep (b := w.heap.size) hb2 (by first | omega | (simp <;> omega)); have y2x0 : w.heap.size < w2.heap.size := (by omega); have c2x1 := bstep (b := w.heap.size + 1) hb2 (by first | omega | (simp <;> omega)); have y2x1 : w.heap.size + 1 < w2.heap.size := (by omega))
    | (go_at_call 46; refine (HR.out _).mono ?_; rintro e w3 ⟨rfl, hb3⟩; have z3 := hb3.size; (try simp at z3); have c3x0 := bstep (b := w.heap.size) hb3 (by first | omega | (simp <;> omega)); have y3x0 : w.heap.size < w3.heap.size := (by omega); have c3x1 := bstep (b := w.heap.size + 1) hb3 (by first | omega | (simp <;> omega)); have y3x1 : w.heap.size + 1 < w3.heap.size := (by omega); have c3x2 := bstep (b := w2.heap.size) hb3 (by first | omega | (simp <;> omega)); have y3x2 : w2.heap.size < w3.heap.size := (by omega))
    | (go_at_call 32; with_reducible refine (HNM.out _).mono ?_; rintro e w9 ⟨rfl, rfl⟩))
  go_ret
  have H1 : Below w.heap.size w w1 := (((Below.refl _ _).alloc (Nat.le_refl _) _).alloc (by first | omega | (simp <;> omega)) _).trans (hb1.mono (by first | omega | (simp <;> omega)))
  have H2 : Below w.heap.size w w2 := H1.trans (hb2.mono (by first | omega | (simp <;> omega)))
  have H3 : Below w.heap.size w w3 := (H2.alloc (by first | omega | (simp <;> omega)) _).trans (hb3.mono (by first | omega | (simp <;> omega)))
  exact ⟨by simp, by exact (by repeat (first | with_reducible assumption | with_reducible refine Below.drew ?_ | with_reducible refine below_drewN ?_ _ | with_reducible refine Below.alloc ?_ (by first | omega | (simp <;> omega)) _ | with_reducible refine Below.setCell ?_ (by first | omega | (simp <;> omega)) _ | with_reducible exact Below.refl _ _))⟩


set_option maxRecDepth 100000 in
theorem patternSpreads_lifted (os : Os) (started : os.Started) (H : Type) (enc : TypeId × Value → H) :
    ReturnsInHanded {} Try.checked os 16 .any (Rows.patternSpreadsSpec.pre6 enc Try.prog Try.f16 Rows.patternSpreadsRow.domain false) (Rows.patternSpreadsSpec.post enc Try.prog Try.f16 false true false false) := by
  refine lift (C := Try.checked) (s := Rows.patternSpreadsSpec) 4 Try.own started (by kernel_rfl) Try.func16 Try.laidOut rfl rfl Try.underlying4 (by kernel_rfl)
    (fun ds hds => by
      have hl : ds.length = 3 := hds
      match ds, hl with
      | [_, _, _], _ => rfl)
    (ChangeSpec.witness6 (enc := enc) (C := Try.checked) false ⟨#[], #[.agg #[.int .i64 0, .int .i64 0, .int .i64 0, .int .i64 0, .int .i64 0, .int .i64 0], .agg #[.int .i64 0, .int .i64 0], .int .i64 0], []⟩ 8 (by kernel_rfl) (by kernel_rfl) (by kernel_rfl) (by kernel_rfl)) ?_
  intro W base args ds p hval0 hA0
  have hval : ∀ (j : Nat) t v, Try.f16.params[j]? = some t → args[j]? = some v → Value.okWide Try.prog W .any base t v := hval0
  have hA : DataW.TrodAll enc Try.prog W 0 (fun _ => true) true Try.f16.params.toList args.toList ds p := hA0
  clear hval0 hA0
  rw [Try.params16] at hA hval
  obtain ⟨v0, vs0, d0, ds0, p0, q0, hargs, rfl, rfl, h0, r0⟩ := trodAll_cons hA
  obtain ⟨v1, vs1, d1, ds1, p1, q1, rfl, rfl, rfl, h1, r1⟩ := trodAll_cons r0
  obtain ⟨v2, vs2, d2, ds2, p2, q2, rfl, rfl, rfl, h2, r2⟩ := trodAll_cons r1
  obtain ⟨rfl, rfl, rfl⟩ := trodAll_nil r2
  obtain rfl : args = #[v0, v1, v2] := by cases args; simp_all
  obtain ⟨l0, rfl, g0⟩ := arg_array 4 Try.underlying39 (ks := [some .i64, some .i64, some .i64, some .i64, some .i64, some .i64]) (by kernel_rfl) (hval 0 39 v0 rfl rfl) h0
  obtain ⟨_, _, rfl, ⟨a0, rfl, wa0⟩, g0x0⟩ := g0
  obtain ⟨_, _, rfl, ⟨a1, rfl, wa1⟩, g0x1⟩ := g0x0
  obtain ⟨_, _, rfl, ⟨a2, rfl, wa2⟩, g0x2⟩ := g0x1
  obtain ⟨_, _, rfl, ⟨a3, rfl, wa3⟩, g0x3⟩ := g0x2
  obtain ⟨_, _, rfl, ⟨a4, rfl, wa4⟩, g0x4⟩ := g0x3
  obtain ⟨_, _, rfl, ⟨a5, rfl, wa5⟩, g0x5⟩ := g0x4
  simp only [Fits] at g0x5
  subst g0x5
  obtain ⟨l1, rfl, g1⟩ := arg_struct 4 Try.underlying55 (ks := [some .i64, some .i64]) (by kernel_rfl) (hval 1 55 v1 rfl rfl) h1
  obtain ⟨_, _, rfl, ⟨f0, rfl, wf0⟩, g1x0⟩ := g1
  obtain ⟨_, _, rfl, ⟨f1, rfl, wf1⟩, g1x1⟩ := g1x0
  simp only [Fits] at g1x1
  subst g1x1
  obtain ⟨x, rfl, wx⟩ := arg_int Try.underlying3 (hval 2 3 v2 rfl rfl) h2
  exact patternSpreads_walk ⟨⟨a0, a1⟩, ⟨a2, a3⟩, ⟨a4, a5⟩⟩ f0 f1 x W

theorem j_lifts' (x : Bool) (h : x = Rows.patternMakesRow.lifted) : (x == Try.prog.liftsFinal) = true := by rw [h]; exact j_lifts
theorem j_make' (x) (h : x = Rows.patternMakesRow.make) : (Try.prog.make == some x) = true := by rw [h]; exact j_make
set_option maxHeartbeats 4000000 in
set_option maxRecDepth 100000 in
theorem patternSpreads_joined : joinedFacts Try.prog 16 Try.f16 Rows.patternSpreadsSpec Rows.patternSpreadsRow = true := by
  unfold joinedFacts
  repeat' (with_reducible refine and_split ?_ ?_)
  all_goals first | (with_reducible exact j_may) | (with_reducible refine j_lifts' _ ?_; rfl) | (with_reducible refine j_make' _ ?_; rfl) | (as_aux_lemma => kernel_rfl)

theorem patternSpreads_over : Rows.patternSpreadsRow.holds Try.pinned (OpenSpec.ofChange Rows.patternSpreadsSpec) :=
  OpenClaim.holds_of_wide 16 Try.f16 rfl rfl rfl rfl rfl rfl rfl ⟨rfl, rfl, rfl, rfl, rfl⟩ rfl rfl rfl rfl rfl (by kernel_rfl) Try.func16 patternSpreads_joined
    (of_decide_eq_true (by kernel_rfl)) (by unfold Func.isWrapper; first | (rw [if_pos (by decide +kernel)]; kernel_rfl) | (rw [if_neg (by decide +kernel)]; exact ⟨rfl, rfl⟩))
    (fun os started H enc _ => patternSpreads_lifted os started H enc)

theorem patternSpreads_holds : Rows.PatternSpreadsSaid := patternSpreads_over
#print axioms patternSpreads_holds
end Go.Proofs.Ytjeomdfcfbfebaa

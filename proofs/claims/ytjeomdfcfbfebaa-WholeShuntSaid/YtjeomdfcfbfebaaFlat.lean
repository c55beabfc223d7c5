/- Arguments that are structs and arrays of integers and bools, opened to their cells whatever their depth, and the row's step for a law that returns true and writes to nothing that was there before. Conditions: none beyond those that each theorem names. -/
import Derived.WalkKit
import Derived.ProofKit
import Derived.OpenShut
import Derived.ChangeOld
import Derived.Below
import Derived.Deep.Slices
namespace Go.Proofs.Ytjeomdfcfbfebaa.Flat
open Go.ChangeShapes Go.WideShapes Go.ChangeAt Go.RowKit Go.Deep

/-- What a cell holds: a bool, or an integer of a kind. -/
abbrev Kd := Option IntKind

def flatF (P : Program) (fl : TypeId → Option (List Kd)) : List Field → Nat → Option (List Kd)
  | [], _ => some []
  | f :: r, off =>
    match fl f.type with
    | some ks => if f.offset = off ∧ P.cellsOf f.type = ks.length then (flatF P fl r (off + ks.length)).map (ks ++ ·) else none
    | none => none

/-- The kinds of a type's cells, in their order. -/
def flat (P : Program) : Nat → TypeId → Option (List Kd)
  | 0, _ => none
  | n + 1, t =>
    match P.underlying t with
    | some .bool => some [none]
    | some (.int k) => some [some k]
    | some (.struct fs) =>
      match flatF P (flat P n) fs.toList 0 with
      | some ks => if P.cellsOf t = ks.length then some ks else none
      | none => none
    | some (.array m e) =>
      match flat P n e with
      | some ks => if P.cellsOf e = ks.length ∧ P.cellsOf t = m * ks.length then some (List.replicate m ks).flatten else none
      | none => none
    | _ => none

def fit : Kd → Value → Prop
  | none, v => ∃ b, v = .bool b
  | some k, v => ∃ n, v = .int k n ∧ (Lit.int k n).wf = true

def Fits : List Kd → List Value → Prop
  | [], vs => vs = []
  | k :: ks, vs => ∃ v r, vs = v :: r ∧ fit k v ∧ Fits ks r

theorem Fits.append : ∀ {a b : List Kd} {x y : List Value}, Fits a x → Fits b y → Fits (a ++ b) (x ++ y)
  | [], _, _, _, h, h' => by
    simp only [Fits] at h
    subst h
    simpa using h'
  | k :: a, b, x, y, h, h' => by
    obtain ⟨v, r, rfl, hv, hr⟩ := h
    exact ⟨v, r ++ y, rfl, hv, Fits.append hr h'⟩

theorem Fits.len : ∀ {a : List Kd} {x : List Value}, Fits a x → x.length = a.length
  | [], x, h => by
    simp only [Fits] at h
    subst h
    rfl
  | k :: a, x, h => by
    obtain ⟨v, r, rfl, _, hr⟩ := h
    simp [Fits.len hr]

section
variable {H : Type} {enc : TypeId × Value → H} {P : Program} {w : World} {base : Nat} {spare : Nat → Bool} {held : Bool}

theorem flatF_fits {fl : TypeId → Option (List Kd)} {cs : List Value} : ∀ (l : List Field) (off : Nat) (ks : List Kd), flatF P fl l off = some ks →
    (∀ f ∈ l, ∀ k', fl f.type = some k' → Fits k' ((cs.drop f.offset).take (P.cellsOf f.type))) → Fits ks ((cs.drop off).take ks.length)
  | [], off, ks, h, _ => by
    simp only [flatF, Option.some.injEq] at h
    subst h
    simp [Fits]
  | f :: r, off, ks, h, hf => by
    rw [flatF] at h
    split at h
    · rename_i k' hk
      split at h
      · rename_i hc
        simp only [Option.map_eq_some_iff] at h
        obtain ⟨k2, h2, rfl⟩ := h
        have h1 := hf f (by simp) k' hk
        rw [hc.1, hc.2] at h1
        have h3 := flatF_fits r (off + k'.length) k2 h2 (fun f' hf' => hf f' (by simp [hf']))
        rw [List.length_append, List.take_add, List.drop_drop]
        exact h1.append h3
      · exact absurd h (by simp)
    · exact absurd h (by simp)

theorem flat_fits : ∀ (n m : Nat) (t : TypeId) (cs : List Value) (x : DataW H × List MemPlace) (ks : List Kd),
    DataW.trod enc P w base spare held m t cs = some x → flat P n t = some ks → Fits ks cs
  | 0, _, _, _, _, _, _, h => by simp [flat] at h
  | n + 1, m, t, cs, x, ks, ht, h => by
    rw [flat] at h
    split at h
    · rename_i hu
      obtain ⟨b, rfl, _⟩ := DataW.trod_bool hu ht
      simp only [Option.some.injEq] at h
      subst h
      exact ⟨_, _, rfl, ⟨b, rfl⟩, rfl⟩
    · rename_i k hu
      obtain ⟨z, rfl, _, hw⟩ := DataW.trod_int hu ht
      simp only [Option.some.injEq] at h
      subst h
      exact ⟨_, _, rfl, ⟨z, rfl, hw⟩, rfl⟩
    · rename_i fs hu
      split at h
      · rename_i k' hk
        split at h
        · rename_i hc
          simp only [Option.some.injEq] at h
          subst h
          obtain ⟨xs, m', rfl, _, hlen, hxs, hi⟩ := DataW.trod_struct hu ht
          have := flatF_fits (P := P) (fl := flat P n) (cs := cs) fs.toList 0 k' hk (fun f hf k2 hk2 => by
            obtain ⟨i, hil, hig⟩ := List.getElem_of_mem hf
            have hil' : i < fs.size := by simpa using hil
            have h1 := hi i f (by rw [← hig]; simp [hil'])
            have h2 : xs[i]? = some xs[i] := List.getElem?_eq_getElem (by omega)
            rw [h2] at h1
            exact flat_fits n m' _ _ _ _ h1 hk2)
          rw [List.drop_zero, ← hc, ← hlen, List.take_length] at this
          exact this
        · exact absurd h (by simp)
      · exact absurd h (by simp)
    · rename_i c e hu
      split at h
      · rename_i k' hk
        split at h
        · rename_i hc
          simp only [Option.some.injEq] at h
          subst h
          obtain ⟨xs, m', rfl, _, hlen, hxs, hi⟩ := DataW.trod_array hu ht
          have key : ∀ j, j ≤ c → Fits (List.replicate j k').flatten (cs.take (j * k'.length)) := by
            intro j
            induction j with
            | zero => intro _; simp [Fits]
            | succ j ih =>
              intro hj
              have h1 := hi j (by omega)
              have h2 : xs[j]? = some xs[j] := List.getElem?_eq_getElem (by omega)
              rw [h2, hc.1] at h1
              have h3 := flat_fits n m' _ _ _ _ h1 hk
              rw [List.replicate_succ', List.flatten_append, Nat.succ_mul, List.take_add]
              simpa using (ih (by omega)).append h3
          have := key c (Nat.le_refl _)
          rw [← hc.2, ← hlen, List.take_length] at this
          exact this
        · exact absurd h (by simp)
      · exact absurd h (by simp)
    · exact absurd h (by simp)

theorem okWide_array {r : Reach} {t e : TypeId} {n : Nat} {v : Value} (ht : P.underlying t = some (.array n e)) (h : Value.okWide P w r base t v) : ∃ cs, v = .agg cs ∧ cs.size = P.cellsOf t := by
  simp only [Value.okWide, ht] at h
  obtain ⟨cs, h1, h2, _⟩ := h
  exact ⟨cs, h1, h2⟩

/-- An argument that is a struct. -/
theorem arg_struct {r : Reach} {b0 : Nat} {t : TypeId} {fs : Array Field} {v : Value} {d : DataW H} {p : List MemPlace} {ks : List Kd} (n : Nat) (hs : P.underlying t = some (.struct fs)) (hk : flat P n t = some ks)
    (hv : Value.okWide P w r b0 t v) (h : DataW.Trod enc P w base spare held t v d p) : ∃ l : List Value, v = .agg l.toArray ∧ Fits ks l := by
  obtain ⟨cs, rfl, hsz⟩ := okWide_struct hs hv
  obtain ⟨fuel, hf⟩ := h
  exact ⟨cs.toList, by simp, flat_fits n fuel t _ _ ks hf hk⟩

/-- An argument that is an array. -/
theorem arg_array {r : Reach} {b0 : Nat} {t e : TypeId} {c : Nat} {v : Value} {d : DataW H} {p : List MemPlace} {ks : List Kd} (n : Nat) (hs : P.underlying t = some (.array c e)) (hk : flat P n t = some ks)
    (hv : Value.okWide P w r b0 t v) (h : DataW.Trod enc P w base spare held t v d p) : ∃ l : List Value, v = .agg l.toArray ∧ Fits ks l := by
  obtain ⟨cs, rfl, hsz⟩ := okWide_array hs hv
  obtain ⟨fuel, hf⟩ := h
  exact ⟨cs.toList, by simp, flat_fits n fuel t _ _ ks hf hk⟩

/-- An argument that is an integer. -/
theorem arg_int {r : Reach} {b0 : Nat} {t : TypeId} {k : IntKind} {v : Value} {d : DataW H} {p : List MemPlace} (hs : P.underlying t = some (.int k))
    (hv : Value.okWide P w r b0 t v) (h : DataW.Trod enc P w base spare held t v d p) : ∃ z, v = .int k z ∧ (Lit.int k z).wf = true := by
  obtain ⟨x, rfl, _, _, wx⟩ := open_int hs hv h
  exact ⟨x, rfl, wx⟩

theorem trodAll_stay {W W' : World} (laid : laidOutB P = true) (hb : Below W.heap.size W W') :
    ∀ (ts : List TypeId) (vs : List Value) (ds : List (DataW H)) (p : List MemPlace), (ts.all fun t => P.readableRec t && decide (t < P.types.size)) = true →
      DataW.TrodAll enc P W 0 (fun _ => true) true ts vs ds p → DataW.TrodAll enc P W' 0 (fun b => decide (b < W.heap.size)) true ts vs ds p
  | [], vs, ds, p, _, h => by
    obtain ⟨rfl, rfl, rfl⟩ := trodAll_nil h
    exact trodAll_mk0
  | t :: ts, vs, ds, p, ha, h => by
    obtain ⟨v, vs', d, ds', p', q, rfl, rfl, rfl, h0, h1⟩ := trodAll_cons h
    simp only [List.all_cons, Bool.and_eq_true, decide_eq_true_eq] at ha
    have lt0 : ∀ x ∈ p', x.block < W.heap.size := by
      obtain ⟨m, hm⟩ := h0
      exact DataW.trod_lt m _ _ _ hm
    exact ⟨p', q, Below.trod laid ha.1.1 ha.1.2 h0 hb lt0, trodAll_stay laid hb ts vs' ds' q (by simpa using ha.2) h1, rfl⟩
end

/-- The row's step of a law: if the walk gives 'true' and leaves all old memory as it was, the row's post holds. -/
theorem lift {C : Checked} {os : Os} {f : FuncId} {fn : Func} {s : ChangeSpec} {H : Type} {enc : TypeId × Value → H} (tb : TypeId)
    (own : ownKnob C.prog.godebug = none) (started : os.Started) (noInit : C.prog.inits.idxOf? f = none) (hfn : C.prog.funcs[f]? = some fn)
    (laid : laidOutB C.prog = true) (hvars : s.vars = []) (hres : fn.resultTypes = #[tb]) (htb : C.prog.underlying tb = some .bool)
    (hall : (fn.params.toList.all fun t => C.prog.readableRec t && decide (t < C.prog.types.size)) = true)
    (hspec : ∀ ds : List (DataW H), ds.length = fn.params.size → s.fn H ds = { results := [.lit (.bool true)], args := ds })
    (witness : ∃ (w : World) (tape : Tape) (i : Input), w.os = os ∧ (w.forCall tape i).Shaped C.prog ∧ i.vars = [] ∧ Input.okWide C.prog (w.forCall tape i) .any w.heap.size f i ∧
      s.pre6 enc C.prog fn [] false (w.forCall tape i).memory i.args ∧ ({} : Assume).holds C.prog (lone (Frame.enter C.prog f i.args .normal) [] (w.forCall tape i)))
    (walk : ∀ (W : World) (base : Nat) (args : Array Value) (ds : List (DataW H)) (p : List MemPlace),
      (∀ (j : Nat) t v, fn.params[j]? = some t → args[j]? = some v → Value.okWide C.prog W .any base t v) →
      DataW.TrodAll enc C.prog W 0 (fun _ => true) true fn.params.toList args.toList ds p →
      Calls C.prog f args W fun e W' => e = .returned (.bool true) ∧ Below W.heap.size W W') :
    ReturnsInHanded {} C os f .any (s.pre6 enc C.prog fn [] false) (s.post enc C.prog fn false true false false) := by
  refine returnsInHanded_of_change own started noInit hfn witness ?_
  intro W base args ds gs before hval hW _ _
  have hW' := hW
  obtain ⟨p, q, hA, hV, rfl, _, _⟩ := hW
  rw [hvars] at hV
  obtain ⟨rfl, rfl⟩ := trodVars_none hV
  refine (walk W base args ds p hval hA).mono fun e W' ⟨he, bel⟩ => ?_
  subst he
  have hlen : ds.length = fn.params.size := by
    have key : ∀ (ts : List TypeId) (vs : List Value) (ds : List (DataW H)) (p : List MemPlace), DataW.TrodAll enc C.prog W 0 (fun _ => true) true ts vs ds p → ds.length = ts.length := by
      intro ts
      induction ts with
      | nil => intro vs ds p h; obtain ⟨_, rfl, _⟩ := trodAll_nil h; rfl
      | cons t ts ih => intro vs ds p h; obtain ⟨v, vs', d, ds', p', q, rfl, rfl, rfl, _, h1⟩ := trodAll_cons h; simp [ih _ _ _ h1]
    simpa using key _ _ _ _ hA
  have hsp : s.fn H (ds ++ []) = { results := [.lit (.bool true)], args := ds } := by rw [List.append_nil]; exact hspec ds hlen
  refine ⟨_, rfl, ds, [], p ++ [], [], p, [], hW', ?_, ?_, ?_, bel.frame _, fun h => by cases h⟩
  · rw [hsp, hres]
    exact trodAll_mk1 (shut_bool htb _)
  · rw [hsp]
    exact trodAll_stay laid bel _ _ _ _ hall hA
  · rw [hsp, hvars]
    rfl
end Go.Proofs.Ytjeomdfcfbfebaa.Flat

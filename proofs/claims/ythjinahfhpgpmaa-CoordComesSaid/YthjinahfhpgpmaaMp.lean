/-
  Maps with keys of an integer kind, owned ('Mp k b ps'): the entries in their order. No program in sight.
-/
import Derived.Test.YthjinahfhpgpmaaSt
import Derived.MapKept
import Derived.Maps.Own
set_option linter.unusedVariables false
set_option linter.unusedSimpArgs false
namespace Go.Proofs.Ythjinahfhpgpmaa
open Go.MapKept
def mpRows (k : IntKind) (ps : List (Int × Value)) : List (Value × Value) := ps.map fun x => (Value.int k x.1, x.2)
def Mp (k : IntKind) (b : Nat) (ps : List (Int × Value)) : HP := fun h => ∃ es clock, h b = some (.map es clock) ∧ es.toList.map (fun e => (e.key, e.val)) = mpRows k ps
def mpGet : List (Int × Value) → Int → Option Value
  | [], _ => none
  | x :: r, a => if x.1 = a then some x.2 else mpGet r a
def mpPut : List (Int × Value) → Int → Value → List (Int × Value)
  | [], a, v => [(a, v)]
  | x :: r, a, v => if x.1 = a then (a, v) :: r else x :: mpPut r a v
theorem find_rows (k : IntKind) (a : Int) (nv : Value) : ∀ (l : List MapEntry) (ps : List (Int × Value)) (i : Nat), l.map (fun e => (e.key, e.val)) = mpRows k ps →
    (Instr.findNow (.int k) (.int k a) l i = some none ∧ mpGet ps a = none ∧ mpPut ps a nv = ps ++ [(a, nv)]) ∨
    ∃ j v e, Instr.findNow (.int k) (.int k a) l i = some (some (i + j, v)) ∧ mpGet ps a = some v ∧ l[j]? = some e ∧ e.key = .int k a ∧ (l.modify j fun e => { e with key := .int k a, val := nv }).map (fun e => (e.key, e.val)) = mpRows k (mpPut ps a nv)
  | [], ps, i, h => by
    have : ps = [] := by cases ps with
      | nil => rfl
      | cons _ _ => simp [mpRows] at h
    subst this
    exact .inl ⟨rfl, rfl, rfl⟩
  | e :: l, ps, i, h => by
    cases ps with
    | nil => simp [mpRows] at h
    | cons x ps =>
      simp only [mpRows, List.map_cons, List.cons.injEq, Prod.mk.injEq] at h
      obtain ⟨⟨h1, h2⟩, h3⟩ := h
      by_cases hx : x.1 = a
      · subst hx
        refine .inr ⟨0, x.2, e, ?_, by simp [mpGet], rfl, h1, ?_⟩
        · simp [Instr.findNow, h1, h2, Instr.sameNow]
        · simp only [List.modify_zero_cons, List.map_cons, mpPut, if_true, mpRows, List.cons.injEq]
          exact ⟨trivial, h3⟩
      · have hx' : (a == x.1) = false := by rw [beq_eq_false_iff_ne]; exact fun e => hx e.symm
        rcases find_rows k a nv l ps (i + 1) h3 with ⟨f1, f2, f3⟩ | ⟨j, v, e', f1, f2, f3, f4, f5⟩
        · refine .inl ⟨?_, by simp [mpGet, hx, f2], by simp [mpPut, hx, f3]⟩
          simp [Instr.findNow, h1, Instr.sameNow, hx', f1]
        · refine .inr ⟨j + 1, v, e', ?_, by simp [mpGet, hx, f2], by simpa using f3, f4, ?_⟩
          · simp [Instr.findNow, h1, Instr.sameNow, hx', f1]; omega
          · simp only [List.modify_succ_cons, List.map_cons, mpPut, if_neg hx, mpRows, List.cons.injEq, Prod.mk.injEq]
            exact ⟨⟨h1, h2⟩, f5⟩
section
variable {P : Program} {w0 w : World} {R : List HP} {k : IntKind} {b : Nat} {ps : List (Int × Value)}
theorem Hs.mp_made (H : Hs w0 w R) (k : IntKind) : Hs w0 (w.alloc (.map #[] 0)) (Mp k w.heap.size [] :: R) :=
  (H.alloc _).mono fun h hh => ⟨#[], 0, hh, rfl⟩
theorem Hs.mp_look (H : Hs w0 w (Mp k b ps :: R)) (T K E : TypeId) (hT : P.underlying T = some (.map K E)) (hK : P.underlying K = some (.int k)) (z : Value) (hz : (zeroValue E).run P w = .ok z w) (a : Int) :
    (Instr.lookup T (.map (some b)) (.int k a) false).run P w = .ok ((mpGet ps a).getD z) w := by
  obtain ⟨h, hs, es, clock, hb, hr⟩ := H.get
  have hw := hs _ _ hb
  have hk : ∀ e, (Instr.checkKey e 10000 K (.int k a)).run P w = .ok () w := fun e => run_checkKey hK (k := .int k a) (show IsKey (.int k) (.int k a) from (rfl : k = k)) e 9999
  rcases find_rows k a z es.toList ps 0 hr with ⟨f1, f2, _⟩ | ⟨j, v, e, f1, f2, _⟩
  · simp [Instr.lookup, run_underlying hT, MapKept.run_getObj_map hw, hk, run_findKey hK f1, hz, Result.andThen, f2]
  · simp [Instr.lookup, run_underlying hT, MapKept.run_getObj_map hw, hk, run_findKey hK f1, Result.andThen, f2]
theorem Hs.mp_look2 (H : Hs w0 w (Mp k b ps :: R)) (T K E : TypeId) (hT : P.underlying T = some (.map K E)) (hK : P.underlying K = some (.int k)) (z : Value) (hz : (zeroValue E).run P w = .ok z w) (a : Int) :
    (Instr.lookup T (.map (some b)) (.int k a) true).run P w = .ok (.tuple #[(mpGet ps a).getD z, .bool (mpGet ps a).isSome]) w := by
  obtain ⟨h, hs, es, clock, hb, hr⟩ := H.get
  have hw := hs _ _ hb
  have hk : ∀ e, (Instr.checkKey e 10000 K (.int k a)).run P w = .ok () w := fun e => run_checkKey hK (k := .int k a) (show IsKey (.int k) (.int k a) from (rfl : k = k)) e 9999
  rcases find_rows k a z es.toList ps 0 hr with ⟨f1, f2, _⟩ | ⟨j, v, e, f1, f2, _⟩
  · simp [Instr.lookup, run_underlying hT, MapKept.run_getObj_map hw, hk, run_findKey hK f1, hz, Result.andThen, f2]
  · simp [Instr.lookup, run_underlying hT, MapKept.run_getObj_map hw, hk, run_findKey hK f1, Result.andThen, f2]
theorem Hs.mp_put (H : Hs w0 w (Mp k b ps :: R)) (T K E : TypeId) (hT : P.underlying T = some (.map K E)) (hK : P.underlying K = some (.int k)) (a : Int) (v : Value) :
    ∃ w', (Instr.mapUpdate T (.map (some b)) (.int k a) v).run P w = .ok () w' ∧ Hs w0 w' (Mp k b (mpPut ps a v) :: R) := by
  obtain ⟨h, hs, es, clock, hb, hr⟩ := H.get
  have hw := hs _ _ hb
  have hk : ∀ e, (Instr.checkKey e 10000 K (.int k a)).run P w = .ok () w := fun e => run_checkKey hK (k := .int k a) (show IsKey (.int k) (.int k a) from (rfl : k = k)) e 9999
  have turn : ∀ es' clock', es'.toList.map (fun e : MapEntry => (e.key, e.val)) = mpRows k (mpPut ps a v) → Hs w0 { w with heap := w.heap.setIfInBounds b (.map es' clock') } (Mp k b (mpPut ps a v) :: R) := by
    intro es' clock' he
    obtain ⟨hs1, hs2⟩ := heap_set (w := w) (o' := .map es' clock') hw
    refine H.turn rfl rfl rfl fun h2 hP hs' => ?_
    obtain ⟨_, _, hb2, _⟩ := hP
    refine ⟨fun j => if j = b then some (.map es' clock') else none, ⟨es', clock', by simp, he⟩, ?_, ?_, ?_⟩
    · intro j o hj
      by_cases e : j = b
      · subst e; simp at hj; subst hj; exact hs1
      · simp [e] at hj
    · intro j hj
      by_cases e : j = b
      · subst e; left; rw [hb2]; simp
      · simp [e] at hj
    · intro j _ hj
      refine hs2 j fun e => ?_
      subst e
      rw [hb2] at hj
      cases hj
  rcases find_rows k a v es.toList ps 0 hr with ⟨f1, f2, f3⟩ | ⟨j, u, e, f1, f2, f3, f4, f5⟩
  · refine ⟨_, ?_, turn (es.push ⟨.int k a, v, clock⟩) (clock + 1) ?_⟩
    · simp [Instr.mapUpdate, run_underlying hT, MapKept.run_getObj_map hw, hk, run_findKey hK f1, MapKept.run_setObj_map _ hw, Result.andThen]
    · rw [f3, Array.toList_push, List.map_append, hr]
      simp [mpRows]
  · refine ⟨_, ?_, turn (es.modify j fun e => { e with key := .int k a, val := v }) clock ?_⟩
    · rw [Nat.zero_add] at f1
      have hj : es[j]? = some e := by rw [← Array.getElem?_toList]; exact f3
      simp [Instr.mapUpdate, run_underlying hT, MapKept.run_getObj_map hw, hk, run_findKey hK f1, MapKept.run_setObj_map _ hw, Result.andThen, hj, f4, Instr.keyThatStays, Instr.sameBits]
    · rw [Array.toList_modify]
      exact f5
theorem wpList_mp_put {ops : Array Oper} {rest : List Oper} {o : Oper} {a : Act} {Q : Exit → Act → World → Prop} (hg : o.guard = none) (m x v : Operand) (T : TypeId) (hop : o.op = Op.mapUpdate T m x v)
    (K E : TypeId) (hT : P.underlying T = some (.map K E)) (hK : P.underlying K = some (.int k)) (hm : a.eval m = .map (some b)) (H : Hs w0 w (Mp k b ps :: R)) (key : Int) (val : Value) (hx : a.eval x = .int k key) (hv : a.eval v = val)
    (h : ∀ w', Hs w0 w' (Mp k b (mpPut ps key val) :: R) → wpList P ops Q rest (a.put o.dst undef) w') : wpList P ops Q (o :: rest) a w := by
  refine wpList_plain hg fun K' hK' => ?_
  obtain ⟨w', hrun, H'⟩ := H.mp_put (P := P) T K E hT hK key val
  unfold Oper.wp
  simp [execOp, hop, hm, hx, hv, hrun, Result.andThen]
  exact hK' _ _ (h w' H')
end
end Go.Proofs.Ythjinahfhpgpmaa

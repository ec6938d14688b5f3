/-
  Maps that read as total functions, owned ('Mf k enc z0 b f': what isn't there reads as z0). No program in sight.
-/
import Derived.Test.YthjinahfhpgpmaaMp
set_option linter.unusedVariables false
set_option linter.unusedSimpArgs false
namespace Go.Proofs.Ythjinahfhpgpmaa
open Go.MapKept
theorem mpGet_put : ∀ (ps : List (Int × Value)) (a : Int) (v : Value) (n : Int), mpGet (mpPut ps a v) n = if n = a then some v else mpGet ps n
  | [], a, v, n => by
    show (if a = n then some v else none) = if n = a then some v else none
    by_cases h : n = a
    · rw [if_pos h, if_pos h.symm]
    · rw [if_neg h, if_neg (fun e => h e.symm)]
  | x :: r, a, v, n => by
    unfold mpPut
    split
    · rename_i hx
      unfold mpGet
      by_cases h : n = a
      · rw [if_pos h, if_pos h.symm]
      · rw [if_neg h, if_neg (fun e => h e.symm), if_neg (fun e => h (by rw [← e, hx]))]
    · rename_i hx
      have ih := mpGet_put r a v n
      unfold mpGet
      by_cases h : n = a
      · rw [if_pos h, if_neg (fun e => hx (by rw [e, h]))]
        rw [ih, if_pos h]
      · rw [if_neg h]
        split
        · rfl
        · rw [ih, if_neg h]
def updf {β : Type} (f : Int → β) (a : Int) (x : β) : Int → β := fun n => if n = a then x else f n
section
variable {P : Program} {β : Type} {enc : β → Value} {z0 : β} {w0 w : World} {R : List HP} {k : IntKind} {b : Nat} {f : Int → β}
def Mf (k : IntKind) (enc : β → Value) (z0 : β) (b : Nat) (f : Int → β) : HP := Ex fun ps => Pu (∀ n, (mpGet ps n).getD (enc z0) = enc (f n)) (Mp k b ps)
theorem Hs.mf_made (H : Hs w0 w R) (k : IntKind) (enc : β → Value) (z0 : β) : Hs w0 (w.alloc (.map #[] 0)) (Mf k enc z0 w.heap.size (fun _ => z0) :: R) :=
  Hs.mk_ex [] (Hs.mk_pu (fun _ => rfl) (H.mp_made k))
theorem Hs.mf_look (H : Hs w0 w (Mf k enc z0 b f :: R)) (T K E : TypeId) (hT : P.underlying T = some (.map K E)) (hK : P.underlying K = some (.int k)) (hz : (zeroValue E).run P w = .ok (enc z0) w) (a : Int) :
    (Instr.lookup T (.map (some b)) (.int k a) false).run P w = .ok (enc (f a)) w := by
  obtain ⟨ps, H⟩ := H.ex
  obtain ⟨hp, H⟩ := H.pu
  rw [← hp a]
  exact H.mp_look T K E hT hK _ hz a
theorem Hs.mf_put (H : Hs w0 w (Mf k enc z0 b f :: R)) (T K E : TypeId) (hT : P.underlying T = some (.map K E)) (hK : P.underlying K = some (.int k)) (a : Int) (x : β) :
    ∃ w', (Instr.mapUpdate T (.map (some b)) (.int k a) (enc x)).run P w = .ok () w' ∧ Hs w0 w' (Mf k enc z0 b (updf f a x) :: R) := by
  obtain ⟨ps, H⟩ := H.ex
  obtain ⟨hp, H⟩ := H.pu
  obtain ⟨w', h1, h2⟩ := H.mp_put (P := P) T K E hT hK a (enc x)
  refine ⟨w', h1, Hs.mk_ex (mpPut ps a (enc x)) (Hs.mk_pu (fun n => ?_) h2)⟩
  rw [mpGet_put]
  unfold updf
  split
  · rfl
  · exact hp n
theorem wpList_mf_put {ops : Array Oper} {rest : List Oper} {o : Oper} {a : Act} {Q : Exit → Act → World → Prop} (hg : o.guard = none) (m x v : Operand) (T : TypeId) (hop : o.op = Op.mapUpdate T m x v)
    (K E : TypeId) (hT : P.underlying T = some (.map K E)) (hK : P.underlying K = some (.int k)) (hm : a.eval m = .map (some b)) (H : Hs w0 w (Mf k enc z0 b f :: R)) (key : Int) (val : β) (hx : a.eval x = .int k key) (hv : a.eval v = enc val)
    (h : ∀ w', Hs w0 w' (Mf k enc z0 b (updf f key val) :: R) → wpList P ops Q rest (a.put o.dst undef) w') : wpList P ops Q (o :: rest) a w := by
  refine wpList_plain hg fun K' hK' => ?_
  obtain ⟨w', hrun, H'⟩ := H.mf_put (P := P) T K E hT hK key val
  unfold Oper.wp
  simp [execOp, hop, hm, hx, hv, hrun, Result.andThen]
  exact hK' _ _ (h w' H')
theorem Hs.mf_clear (H : Hs w0 w (Mf k enc z0 b f :: R)) (T K E ty : TypeId) (hT : P.underlying T = some (.map K E)) :
    ∃ w', (Builtin.clear_ #[T] ty #[.map (some b)]).run P w = .ok (.tuple #[]) w' ∧ Hs w0 w' (Mf k enc z0 b (fun _ => z0) :: R) := by
  obtain ⟨ps, H⟩ := H.ex
  obtain ⟨hp, H⟩ := H.pu
  obtain ⟨h, hs, es, clock, hb, hr⟩ := H.get
  have hw := hs _ _ hb
  refine ⟨_, ?_, Hs.mk_ex [] (Hs.mk_pu (fun n => rfl) (?_ : Hs w0 { w with heap := w.heap.setIfInBounds b (.map #[] clock) } _))⟩
  · simp [Builtin.clear_, run_underlying hT, MapKept.run_getObj_map hw, MapKept.run_setObj_map _ hw, Result.andThen]
  · obtain ⟨hs1, hs2⟩ := heap_set (w := w) (o' := .map #[] clock) hw
    refine H.turn rfl rfl rfl fun h2 hP hs' => ?_
    obtain ⟨_, _, hb2, _⟩ := hP
    refine ⟨fun j => if j = b then some (.map #[] clock) else none, ⟨#[], clock, by simp, rfl⟩, ?_, ?_, ?_⟩
    · intro j o hj
      by_cases e : j = b
      · subst e; simp at hj; subst hj; exact hs1
      · simp [e] at hj
    · intro j hj
      by_cases e : j = b
      · subst e; left; rw [hb2]; simp
      · simp [e] at hj
    · intro j _ hj
      refine hs2 j fun e => ?_
      subst e
      rw [hb2] at hj
      cases hj
end
end Go.Proofs.Ythjinahfhpgpmaa

/-
  Arguments opened: what a law's slices, structs and strings read as ('Opn': each reading of a type's cells is some element's).
-/
import Derived.Test.YtlpcofjmleghdaaLs
import Derived.ProofKit
import Derived.OpenShut
import Derived.Deep.Slices
set_option linter.unusedVariables false
set_option linter.unusedSimpArgs false
namespace Go.Proofs.Ytlpcofjmleghdaa
open Go.RowKit Go.ChangeShapes Go.WideShapes
section
variable {P : Program} {α β : Type}
def Opn (P : Program) (e : TypeId) (E : Enc α) (ok : α → Prop) : Prop :=
  ∀ (H : Type) (enc : TypeId × Value → H) (w : World) (base : Nat) (spare : Nat → Bool) (held : Bool) (fuel : Nat) (cs : List Value) (x : DataW H × List MemPlace), DataW.trod enc P w base spare held fuel e cs = some x → ∃ a, cs = E.enc a ∧ ok a
theorem opn_int {e : TypeId} {k : IntKind} (hu : P.underlying e = some (.int k)) : Opn P e (Enc.num k) (fun n => (Lit.int k n).wf = true) := fun H enc w base spare held fuel cs x h => by
  obtain ⟨n, rfl, _, hw⟩ := DataW.trod_int hu h
  exact ⟨n, rfl, hw⟩
theorem opn_flag {e : TypeId} (hu : P.underlying e = some .bool) : Opn P e Enc.flag (fun _ => True) := fun H enc w base spare held fuel cs x h => by
  obtain ⟨b, rfl, _⟩ := DataW.trod_bool hu h
  exact ⟨b, rfl, trivial⟩
theorem opn_str {e : TypeId} (hu : P.underlying e = some .string) : Opn P e Enc.str (fun s => s.size ≤ maxLen) := fun H enc w base spare held fuel cs x h => by
  obtain ⟨s, rfl, _, hs⟩ := DataW.trod_string hu h
  exact ⟨s, rfl, hs⟩
/-- Fields from cell o on. -/
def OpnFs (P : Program) (fs : List Field) (o : Nat) (E : Enc α) (ok : α → Prop) : Prop :=
  ∀ (H : Type) (enc : TypeId × Value → H) (w : World) (base : Nat) (spare : Nat → Bool) (held : Bool) (fuel : Nat) (cs : List Value),
    (∀ f, f ∈ fs → ∃ y, DataW.trod enc P w base spare held fuel f.type ((cs.drop f.offset).take (P.cellsOf f.type)) = some y) → ∃ a, (cs.drop o).take E.sz = E.enc a ∧ ok a
theorem opnFs_one {f : Field} {E : Enc α} {ok : α → Prop} {o : Nat} (ho : f.offset = o) (hc : P.cellsOf f.type = E.sz) (h : Opn P f.type E ok) : OpnFs P [f] o E ok := fun H enc w base spare held fuel cs hy => by
  obtain ⟨y, hy⟩ := hy f (by simp)
  rw [ho, hc] at hy
  exact h _ _ _ _ _ _ _ _ _ hy
theorem opnFs_cons {f : Field} {fs : List Field} {E : Enc α} {E2 : Enc β} {ok : α → Prop} {ok2 : β → Prop} {o : Nat} (ho : f.offset = o) (hc : P.cellsOf f.type = E.sz) (h : Opn P f.type E ok) (h2 : OpnFs P fs (o + E.sz) E2 ok2) :
    OpnFs P (f :: fs) o (E.pair E2) (fun a => ok a.1 ∧ ok2 a.2) := fun H enc w base spare held fuel cs hy => by
  obtain ⟨y, hy1⟩ := hy f (by simp)
  rw [ho, hc] at hy1
  obtain ⟨a, ha, hok⟩ := h _ _ _ _ _ _ _ _ _ hy1
  obtain ⟨b, hb, hok2⟩ := h2 H enc w base spare held fuel cs (fun f hf => hy f (by simp [hf]))
  refine ⟨(a, b), ?_, hok, hok2⟩
  show (cs.drop o).take (E.sz + E2.sz) = E.enc a ++ E2.enc b
  rw [List.take_add, ha, List.drop_drop, hb]
theorem opn_struct {e : TypeId} {fs : List Field} {E : Enc α} {ok : α → Prop} (hu : P.underlying e = some (.struct fs.toArray)) (hc : P.cellsOf e = E.sz) (h : OpnFs P fs 0 E ok) : Opn P e E ok := fun H enc w base spare held fuel cs x hx => by
  obtain ⟨xs, n, _, _, hl, hxl, hf⟩ := DataW.trod_struct hu hx
  obtain ⟨a, ha, hok⟩ := h H enc w base spare held n cs (fun f hm => by
    obtain ⟨i, hi, rfl⟩ := List.getElem_of_mem hm
    have := hf i fs[i] (by simp [hi])
    rw [this]
    exact ⟨xs[i]'(by rw [hxl]; simpa using hi), List.getElem?_eq_getElem _⟩)
  refine ⟨a, ?_, hok⟩
  rw [← ha, List.drop_zero, List.take_of_length_le (by omega)]
/-- A slice argument. -/
theorem opn_slice {H : Type} {enc : TypeId × Value → H} {W : World} {base : Nat} {spare : Nat → Bool} {held : Bool} {t e : TypeId} {E : Enc α} {ok : α → Prop} {a : Option Addr} {len cap : Nat} {d : DataW H} {ps : List MemPlace}
    (hu : P.underlying t = some (.slice e)) (hc : P.cellsOf e = E.sz) (hE : 0 < E.sz) (ho : Opn P e E ok) (h : DataW.Trod enc P W base spare held t (.slice a len cap) d ps) : ∃ xs, RdL E W (.slice a len cap) xs ∧ ∀ x ∈ xs, ok x := by
  obtain ⟨fuel, hf⟩ := h
  rcases Go.Deep.open_slice hu hf with ⟨hcs, _⟩ | ⟨x, l, c, m, n, D, Pl, hcs, hb, hl, hm, hmm, _, hx⟩
  · simp [Value.cells] at hcs
    obtain ⟨rfl, rfl, rfl⟩ := hcs
    exact ⟨[], RdL.nil W, fun x hx => by cases hx⟩
  · simp [Value.cells] at hcs
    obtain ⟨rfl, rfl, rfl⟩ := hcs
    have hlm : len ≤ m := by rw [hmm]; split <;> omega
    have each : ∀ i, i < len → ∃ q : α, (∀ j u, (E.enc q)[j]? = some u → W.cell? ((x.add (i * E.sz)).add j) = some u) ∧ ok q := by
      intro i hi
      obtain ⟨cs, h1, h2⟩ := hx i (by omega)
      obtain ⟨q, rfl, hok⟩ := ho _ _ _ _ _ _ _ _ _ h2
      rw [hc] at h1
      obtain ⟨_, hlen, hcell⟩ := World.cells?_some h1
      refine ⟨q, fun j u hu => ?_, hok⟩
      have hj := (List.getElem?_eq_some_iff.1 hu).1
      rw [E.len] at hj
      have := hcell j hj
      rw [hu] at this
      exact this
    have all : ∀ k, k ≤ len → ∃ xs : List α, xs.length = k ∧ (∀ i q, xs[i]? = some q → (∀ j u, (E.enc q)[j]? = some u → W.cell? ((x.add (i * E.sz)).add j) = some u) ∧ ok q) := by
      intro k
      induction k with
      | zero => intro _; exact ⟨[], rfl, fun i q h => by simp at h⟩
      | succ k ih =>
        intro hk
        obtain ⟨xs, hxl, hxs⟩ := ih (by omega)
        obtain ⟨q, hq⟩ := each k (by omega)
        refine ⟨xs ++ [q], by simp [hxl], fun i r hr => ?_⟩
        rcases Nat.lt_or_ge i xs.length with hi | hi
        · rw [List.getElem?_append_left hi] at hr
          exact hxs i r hr
        · have hi2 := (List.getElem?_eq_some_iff.1 hr).1
          simp at hi2
          obtain rfl : i = k := by omega
          rw [List.getElem?_append_right hi] at hr
          simp [hxl] at hr
          subst hr
          exact hq
    obtain ⟨xs, hxl, hxs⟩ := all len (Nat.le_refl _)
    subst hxl
    refine ⟨xs, ⟨some x, cap, rfl, Nat.le_trans hl hm, hl, hm, fun h => (by cases h), fun hpos a ha => ?_⟩, fun q hq => ?_⟩
    · injection ha with ha
      subst ha
      have hspot : x.spot = none := by
        obtain ⟨h0, _⟩ := hxs 0 xs[0] (List.getElem?_eq_getElem hpos)
        have hl0 : 0 < (E.enc xs[0]).length := by rw [E.len]; exact hE
        have := h0 0 _ (List.getElem?_eq_getElem hl0)
        cases hsp : x.spot with
        | none => rfl
        | some s =>
          exfalso
          rw [Nat.zero_mul] at this
          have e0 : (x.add 0).add 0 = x := by simp [Addr.add]
          rw [e0] at this
          unfold World.cell? at this
          split at this <;> simp [hsp] at this
      refine ⟨hspot, fun j u hu => ?_⟩
      have hjl := (List.getElem?_eq_some_iff.1 hu).1
      rw [flat_length] at hjl
      have hdiv : j = (j / E.sz) * E.sz + j % E.sz := by rw [Nat.mul_comm]; exact (Nat.div_add_mod j E.sz).symm
      have hi : j / E.sz < xs.length := Nat.div_lt_of_lt_mul (by rw [Nat.mul_comm]; exact hjl)
      have hr : j % E.sz < E.sz := Nat.mod_lt _ hE
      obtain ⟨h0, _⟩ := hxs (j / E.sz) _ (List.getElem?_eq_getElem hi)
      have hg := flat_get (E := E) xs (j / E.sz) (j % E.sz) _ (List.getElem?_eq_getElem hi) hr
      rw [← hdiv, hu] at hg
      have := h0 (j % E.sz) u hg.symm
      rw [add_at x hspot, add_at _ rfl] at this
      rw [show x.off + j = x.off + j / E.sz * E.sz + j % E.sz by omega]
      exact this
    · obtain ⟨i, hi, rfl⟩ := List.getElem_of_mem hq
      exact (hxs i _ (List.getElem?_eq_getElem hi)).2
end
end Go.Proofs.Ytlpcofjmleghdaa

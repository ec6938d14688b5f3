/-
  Arguments opened, with slices inside of elements; each slice's weight is kept ('OpnR'). No program in sight.
-/
import Derived.Test.YtjdkpogkhecijaaOp
import Derived.SizedLaws
set_option linter.unusedVariables false
set_option linter.unusedSimpArgs false
namespace Go.Proofs.Ytjdkpogkhecijaa
open Go.RowKit Go.ChangeShapes Go.WideShapes
/-- A slice's own three words. -/
abbrev Slc := Option Addr × Nat × Nat
def Enc.slc : Enc Slc := ⟨fun x => [.slice x.1 x.2.1 x.2.2], 1, fun _ => rfl, fun _ u hu => by simp at hu; subst hu; rfl⟩
section
variable {P : Program} {W : World} {α β : Type}
def OpnR (P : Program) (W : World) (e : TypeId) (E : Enc α) (ok : α → Prop) : Prop :=
  ∀ (H : Type) (enc : TypeId × Value → H) (base : Nat) (spare : Nat → Bool) (held : Bool) (fuel : Nat) (cs : List Value) (x : DataW H × List MemPlace), DataW.trod enc P W base spare held fuel e cs = some x → (∀ n ∈ x.1.weights P e, n ≤ reachBytes) → ∃ a, cs = E.enc a ∧ ok a
theorem OpnR.of {e : TypeId} {E : Enc α} {ok : α → Prop} (h : Opn P e E ok) : OpnR P W e E ok := fun H enc base spare held fuel cs x hx _ => h H enc W base spare held fuel cs x hx
theorem weightsAll_mem {H : Type} {e : TypeId} : ∀ {l : List (DataW H)} {d : DataW H}, d ∈ l → ∀ n ∈ d.weights P e, n ∈ DataW.weightsAll P e l
  | y :: l, d, hd, n, hn => by
    simp only [DataW.weightsAll, List.mem_append]
    rcases List.mem_cons.1 hd with rfl | hd
    · exact .inl hn
    · exact .inr (weightsAll_mem hd n hn)
def OpnFsR (P : Program) (W : World) (fs : List Field) (o : Nat) (E : Enc α) (ok : α → Prop) : Prop :=
  ∀ (H : Type) (enc : TypeId × Value → H) (base : Nat) (spare : Nat → Bool) (held : Bool) (fuel : Nat) (cs : List Value),
    (∀ f, f ∈ fs → ∃ y, DataW.trod enc P W base spare held fuel f.type ((cs.drop f.offset).take (P.cellsOf f.type)) = some y ∧ ∀ n ∈ y.1.weights P f.type, n ≤ reachBytes) → ∃ a, (cs.drop o).take E.sz = E.enc a ∧ ok a
theorem opnFsR_one {f : Field} {E : Enc α} {ok : α → Prop} {o : Nat} (ho : f.offset = o) (hc : P.cellsOf f.type = E.sz) (h : OpnR P W f.type E ok) : OpnFsR P W [f] o E ok := fun H enc base spare held fuel cs hy => by
  obtain ⟨y, hy, hw⟩ := hy f (by simp)
  rw [ho, hc] at hy
  exact h _ _ _ _ _ _ _ _ hy hw
theorem opnFsR_cons {f : Field} {fs : List Field} {E : Enc α} {E2 : Enc β} {ok : α → Prop} {ok2 : β → Prop} {o : Nat} (ho : f.offset = o) (hc : P.cellsOf f.type = E.sz) (h : OpnR P W f.type E ok) (h2 : OpnFsR P W fs (o + E.sz) E2 ok2) :
    OpnFsR P W (f :: fs) o (E.pair E2) (fun a => ok a.1 ∧ ok2 a.2) := fun H enc base spare held fuel cs hy => by
  obtain ⟨y, hy1, hw⟩ := hy f (by simp)
  rw [ho, hc] at hy1
  obtain ⟨a, ha, hok⟩ := h _ _ _ _ _ _ _ _ hy1 hw
  obtain ⟨b, hb, hok2⟩ := h2 H enc base spare held fuel cs (fun f hf => hy f (by simp [hf]))
  refine ⟨(a, b), ?_, hok, hok2⟩
  show (cs.drop o).take (E.sz + E2.sz) = E.enc a ++ E2.enc b
  rw [List.take_add, ha, List.drop_drop, hb]
theorem opnR_struct {e : TypeId} {fs : List Field} {E : Enc α} {ok : α → Prop} (hu : P.underlying e = some (.struct fs.toArray)) (hc : P.cellsOf e = E.sz) (h : OpnFsR P W fs 0 E ok) : OpnR P W e E ok := fun H enc base spare held fuel cs x hx hw => by
  obtain ⟨xs, n, _, rfl, hl, hxl, hf⟩ := DataW.trod_struct hu hx
  obtain ⟨a, ha, hok⟩ := h H enc base spare held n cs (fun f hm => by
    obtain ⟨i, hi, rfl⟩ := List.getElem_of_mem hm
    have := hf i fs[i] (by simp [hi])
    have hxi : xs[i]? = some (xs[i]'(by rw [hxl]; simpa using hi)) := List.getElem?_eq_getElem _
    rw [this]
    refine ⟨_, hxi, fun k hk => hw k ?_⟩
    simp only [DataW.weights, hu]
    exact DataW.weights_mem_each (j := i) (t := fs[i].type) (by simp [hi]) (by rw [List.getElem?_map, hxi]; rfl) k hk)
  refine ⟨a, ?_, hok⟩
  rw [← ha, List.drop_zero, List.take_of_length_le (by omega)]
/-- A slice, wherever it lies. -/
theorem opnR_rows {H : Type} {enc : TypeId × Value → H} {base : Nat} {spare : Nat → Bool} {held : Bool} {fuel : Nat} {t e : TypeId} {E : Enc α} {ok : α → Prop} {cs : List Value} {x : DataW H × List MemPlace}
    (hu : P.underlying t = some (.slice e)) (hc : P.cellsOf e = E.sz) (hE : 0 < E.sz) (ho : OpnR P W e E ok) (hf : DataW.trod enc P W base spare held fuel t cs = some x) (hw : ∀ n ∈ x.1.weights P t, n ≤ reachBytes) :
    ∃ s : Slc, cs = [.slice s.1 s.2.1 s.2.2] ∧ s.2.1 * P.bytesOf e ≤ reachBytes ∧ ∃ xs, RdL E W (.slice s.1 s.2.1 s.2.2) xs ∧ ∀ x ∈ xs, ok x := by
  rcases Go.Deep.open_slice hu hf with ⟨rfl, _⟩ | ⟨x, len, cap, m, n, D, Pl, rfl, hb, hl, hm, hmm, rfl, hx⟩
  · exact ⟨(none, 0, 0), rfl, by simp, [], RdL.nil W, fun x hx => by cases hx⟩
  · have hlm : len ≤ m := by rw [hmm]; split <;> omega
    have hwt : len * P.bytesOf e ≤ reachBytes := by
      have := hw ((((List.range len).map D).length + ((List.range (m - len)).map fun j => D (len + j)).length) * P.bytesOf e) (by simp [DataW.weights, hu])
      refine Nat.le_trans (Nat.mul_le_mul_right _ ?_) this
      simp
    have each : ∀ i, i < len → ∃ q : α, (∀ j u, (E.enc q)[j]? = some u → W.cell? ((x.add (i * E.sz)).add j) = some u) ∧ ok q := by
      intro i hi
      obtain ⟨cs, h1, h2⟩ := hx i (by omega)
      obtain ⟨q, rfl, hok⟩ := ho _ _ _ _ _ _ _ _ h2 (fun k hk => hw k (by
        simp only [DataW.weights, hu, List.mem_cons, List.mem_append]
        exact .inr (.inl (weightsAll_mem (List.mem_map.2 ⟨i, by simpa using hi, rfl⟩) k hk))))
      rw [hc] at h1
      obtain ⟨_, hlen, hcell⟩ := World.cells?_some h1
      refine ⟨q, fun j u hu => ?_, hok⟩
      have hj := (List.getElem?_eq_some_iff.1 hu).1
      rw [E.len] at hj
      have := hcell j hj
      rw [hu] at this
      exact this
    have all : ∀ k, k ≤ len → ∃ xs : List α, xs.length = k ∧ (∀ i q, xs[i]? = some q → (∀ j u, (E.enc q)[j]? = some u → W.cell? ((x.add (i * E.sz)).add j) = some u) ∧ ok q) := by
      intro k
      induction k with
      | zero => intro _; exact ⟨[], rfl, fun i q h => by simp at h⟩
      | succ k ih =>
        intro hk
        obtain ⟨xs, hxl, hxs⟩ := ih (by omega)
        obtain ⟨q, hq⟩ := each k (by omega)
        refine ⟨xs ++ [q], by simp [hxl], fun i r hr => ?_⟩
        rcases Nat.lt_or_ge i xs.length with hi | hi
        · rw [List.getElem?_append_left hi] at hr
          exact hxs i r hr
        · have hi2 := (List.getElem?_eq_some_iff.1 hr).1
          simp at hi2
          obtain rfl : i = k := by omega
          rw [List.getElem?_append_right hi] at hr
          simp [hxl] at hr
          subst hr
          exact hq
    obtain ⟨xs, hxl, hxs⟩ := all len (Nat.le_refl _)
    subst hxl
    refine ⟨(some x, xs.length, cap), rfl, hwt, xs, ⟨some x, cap, rfl, Nat.le_trans hl hm, hl, hm, fun h => (by cases h), fun hpos a ha => ?_⟩, fun q hq => ?_⟩
    · injection ha with ha
      subst ha
      have hspot : x.spot = none := by
        obtain ⟨h0, _⟩ := hxs 0 xs[0] (List.getElem?_eq_getElem hpos)
        have hl0 : 0 < (E.enc xs[0]).length := by rw [E.len]; exact hE
        have := h0 0 _ (List.getElem?_eq_getElem hl0)
        cases hsp : x.spot with
        | none => rfl
        | some s =>
          exfalso
          rw [Nat.zero_mul] at this
          have e0 : (x.add 0).add 0 = x := by simp [Addr.add]
          rw [e0] at this
          unfold World.cell? at this
          split at this <;> simp [hsp] at this
      refine ⟨hspot, fun j u hu => ?_⟩
      have hjl := (List.getElem?_eq_some_iff.1 hu).1
      rw [flat_length] at hjl
      have hdiv : j = (j / E.sz) * E.sz + j % E.sz := by rw [Nat.mul_comm]; exact (Nat.div_add_mod j E.sz).symm
      have hi : j / E.sz < xs.length := Nat.div_lt_of_lt_mul (by rw [Nat.mul_comm]; exact hjl)
      have hr : j % E.sz < E.sz := Nat.mod_lt _ hE
      obtain ⟨h0, _⟩ := hxs (j / E.sz) _ (List.getElem?_eq_getElem hi)
      have hg := flat_get (E := E) xs (j / E.sz) (j % E.sz) _ (List.getElem?_eq_getElem hi) hr
      rw [← hdiv, hu] at hg
      have := h0 (j % E.sz) u hg.symm
      rw [add_at x hspot, add_at _ rfl] at this
      rw [show x.off + j = x.off + j / E.sz * E.sz + j % E.sz by omega]
      exact this
    · obtain ⟨i, hi, rfl⟩ := List.getElem_of_mem hq
      exact (hxs i _ (List.getElem?_eq_getElem hi)).2
/-- A slice among an element's cells. -/
theorem opnR_slc {t e : TypeId} {E : Enc α} {ok : α → Prop} (hu : P.underlying t = some (.slice e)) (hc : P.cellsOf e = E.sz) (hE : 0 < E.sz) (ho : OpnR P W e E ok) :
    OpnR P W t Enc.slc (fun s => s.2.1 * P.bytesOf e ≤ reachBytes ∧ ∃ xs, RdL E W (.slice s.1 s.2.1 s.2.2) xs ∧ ∀ x ∈ xs, ok x) := fun H enc base spare held fuel cs x hx hw => by
  obtain ⟨s, h1, h2, h3⟩ := opnR_rows hu hc hE ho hx hw
  exact ⟨s, h1, h2, h3⟩
/-- A slice argument. -/
theorem opn_sliceR {H : Type} {enc : TypeId × Value → H} {base : Nat} {spare : Nat → Bool} {held : Bool} {t e : TypeId} {E : Enc α} {ok : α → Prop} {a : Option Addr} {len cap : Nat} {d : DataW H} {ps : List MemPlace}
    (hu : P.underlying t = some (.slice e)) (hc : P.cellsOf e = E.sz) (hE : 0 < E.sz) (ho : OpnR P W e E ok) (h : DataW.Trod enc P W base spare held t (.slice a len cap) d ps) (hw : ∀ n ∈ d.weights P t, n ≤ reachBytes) :
    ∃ xs, RdL E W (.slice a len cap) xs ∧ ∀ x ∈ xs, ok x := by
  obtain ⟨fuel, hf⟩ := h
  obtain ⟨s, h1, _, h3⟩ := opnR_rows hu hc hE ho hf hw
  simp [Value.cells] at h1
  obtain ⟨rfl, rfl, rfl⟩ := h1
  exact h3
end
end Go.Proofs.Ytjdkpogkhecijaa

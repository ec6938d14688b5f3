import Derived.Test.YtbifajiigpalhaaMd
import Derived.Test.YtbifajiigpalhaaOw
import Derived.ChangeArms
import Derived.Test.YtbifajiigpalhaaProg
import Derived.Test.YtbifajiigpalhaaLs
import Derived.Outline
import Derived.StillTailTactics
import Derived.Deep.DeepCutAuto
import Derived.Deep.CutBlock
import Derived.Deep.LoopGhost
import Derived.Deep.QuietTactic
import Derived.BigQuiet
import Derived.Deep.RegionHeld3
import Derived.Deep.RegionLaw
set_option linter.unusedVariables false
set_option linter.unusedSimpArgs false
namespace Go.Proofs.Ytbifajiigpalhaa
open Go.RowKit
/-! ### expressions, as they lie in memory -/
inductive ExpR (w : World) : ERow → Prop
  | mk (op n : Int) (s : Slc) (rows : List ERow) (hr : RdL EEx w (.slice s.1 s.2.1 s.2.2) rows) (hall : ∀ r ∈ rows, ExpR w r) : ExpR w (op, n, s)
/-- All that was there at W is there as it was. -/
def Kept (W w : World) : Prop := ∀ k, k < W.heap.size → w.heap[k]? = W.heap[k]?
theorem Kept.refl (W : World) : Kept W W := fun _ _ => rfl
theorem Kept.below {W w w' : World} (h : Kept W w) (hb : Below w.heap.size w w') (hs : W.heap.size ≤ w.heap.size) : Kept W w' := fun k hk => (hb.block k (by omega)).trans (h k hk)
theorem Kept.size {W w : World} (h : Kept W w) : W.heap.size ≤ w.heap.size := by
  rcases Nat.eq_zero_or_pos W.heap.size with h0 | h0
  · omega
  · have h1 := h (W.heap.size - 1) (by omega)
    rw [Array.getElem?_eq_getElem (show W.heap.size - 1 < W.heap.size by omega)] at h1
    have := (Array.getElem?_eq_some_iff.1 h1).1
    omega
section
variable {P : Program} {W : World} {α : Type}
def OpnN (P : Program) (W : World) (N : Nat) (e : TypeId) (E : Enc α) (ok : α → Prop) : Prop :=
  ∀ (H : Type) (enc : TypeId × Value → H) (base : Nat) (spare : Nat → Bool) (held : Bool) (fuel : Nat), fuel ≤ N → ∀ (cs : List Value) (x : DataW H × List MemPlace), DataW.trod enc P W base spare held fuel e cs = some x → ∃ a, cs = E.enc a ∧ ok a
theorem OpnN.of {N : Nat} {e : TypeId} {E : Enc α} {ok : α → Prop} (h : Opn P e E ok) : OpnN P W N e E ok := fun H enc base spare held fuel _ cs x hx => h H enc W base spare held fuel cs x hx
theorem OpnR.ofN {e : TypeId} {E : Enc α} {ok : α → Prop} (h : ∀ N, OpnN P W N e E ok) : OpnR P W e E ok := fun H enc base spare held fuel cs x hx _ => h fuel H enc base spare held fuel (Nat.le_refl _) cs x hx
theorem opnN_slc {N : Nat} {t e : TypeId} {E : Enc α} {ok : α → Prop} (hu : P.underlying t = some (.slice e)) (hc : P.cellsOf e = E.sz) (hE : 0 < E.sz) (ho : OpnN P W N e E ok) :
    OpnN P W (N + 1) t Enc.slc (fun s => ∃ xs, RdL E W (.slice s.1 s.2.1 s.2.2) xs ∧ ∀ x ∈ xs, ok x) := by
  intro H enc base spare held fuel hN cs x hf
  rcases DataW.trod_slice hu hf with ⟨rfl, _⟩ | ⟨x, len, cap, elems, rest, n, rfl, rfl, rfl, hb, hl, hm, hlen, hel, _, _⟩
  · exact ⟨(none, 0, 0), rfl, [], RdL.nil W, fun x hx => by cases hx⟩
  · have each : ∀ i, i < len → ∃ q : α, (∀ j u, (E.enc q)[j]? = some u → W.cell? ((x.add (i * E.sz)).add j) = some u) ∧ ok q := by
      intro i hi
      have h1 := hel i hi
      rw [List.getElem?_eq_getElem (by omega)] at h1
      obtain ⟨cs, h1, h2⟩ := Option.bind_eq_some_iff.1 h1
      obtain ⟨q, rfl, hok⟩ := ho _ _ _ _ _ _ (by omega) _ _ h2
      rw [hc] at h1
      obtain ⟨_, hlen, hcell⟩ := World.cells?_some h1
      refine ⟨q, fun j u hu => ?_, hok⟩
      have hj := (List.getElem?_eq_some_iff.1 hu).1
      rw [E.len] at hj
      have := hcell j hj
      rw [hu] at this
      exact this
    have all : ∀ k, k ≤ len → ∃ xs : List α, xs.length = k ∧ (∀ i q, xs[i]? = some q → (∀ j u, (E.enc q)[j]? = some u → W.cell? ((x.add (i * E.sz)).add j) = some u) ∧ ok q) := by
      intro k
      induction k with
      | zero => intro _; exact ⟨[], rfl, fun i q h => by simp at h⟩
      | succ k ih =>
        intro hk
        obtain ⟨xs, hxl, hxs⟩ := ih (by omega)
        obtain ⟨q, hq⟩ := each k (by omega)
        refine ⟨xs ++ [q], by simp [hxl], fun i r hr => ?_⟩
        rcases Nat.lt_or_ge i xs.length with hi | hi
        · rw [List.getElem?_append_left hi] at hr
          exact hxs i r hr
        · have hi2 := (List.getElem?_eq_some_iff.1 hr).1
          simp at hi2
          obtain rfl : i = k := by omega
          rw [List.getElem?_append_right hi] at hr
          simp [hxl] at hr
          subst hr
          exact hq
    obtain ⟨xs, hxl, hxs⟩ := all len (Nat.le_refl _)
    subst hxl
    refine ⟨(some x, xs.length, cap), rfl, xs, ⟨some x, cap, rfl, Nat.le_trans hl hm, hl, hm, fun h => (by cases h), fun hpos a ha => ?_⟩, fun q hq => ?_⟩
    · injection ha with ha
      subst ha
      have hspot : x.spot = none := by
        obtain ⟨h0, _⟩ := hxs 0 xs[0] (List.getElem?_eq_getElem hpos)
        have hl0 : 0 < (E.enc xs[0]).length := by rw [E.len]; exact hE
        have := h0 0 _ (List.getElem?_eq_getElem hl0)
        cases hsp : x.spot with
        | none => rfl
        | some s =>
          exfalso
          rw [Nat.zero_mul] at this
          have e0 : (x.add 0).add 0 = x := by simp [Addr.add]
          rw [e0] at this
          unfold World.cell? at this
          split at this <;> simp [hsp] at this
      refine ⟨hspot, fun j u hu => ?_⟩
      have hjl := (List.getElem?_eq_some_iff.1 hu).1
      rw [flat_length] at hjl
      have hdiv : j = (j / E.sz) * E.sz + j % E.sz := by rw [Nat.mul_comm]; exact (Nat.div_add_mod j E.sz).symm
      have hi : j / E.sz < xs.length := Nat.div_lt_of_lt_mul (by rw [Nat.mul_comm]; exact hjl)
      have hr : j % E.sz < E.sz := Nat.mod_lt _ hE
      obtain ⟨h0, _⟩ := hxs (j / E.sz) _ (List.getElem?_eq_getElem hi)
      have hg := flat_get (E := E) xs (j / E.sz) (j % E.sz) _ (List.getElem?_eq_getElem hi) hr
      rw [← hdiv, hu] at hg
      have := h0 (j % E.sz) u hg.symm
      rw [add_at x hspot, add_at _ rfl] at this
      rw [show x.off + j = x.off + j / E.sz * E.sz + j % E.sz by omega]
      exact this
    · obtain ⟨i, hi, rfl⟩ := List.getElem_of_mem hq
      exact (hxs i _ (List.getElem?_eq_getElem hi)).2
theorem opn_expr (e sl ti tn : TypeId) (fo fn fl : Field) (hu : P.underlying e = some (.struct #[fo, fn, fl])) (hc : P.cellsOf e = 3) (h1 : fo.offset = 0 ∧ P.underlying fo.type = some (.int .i64) ∧ P.cellsOf fo.type = 1) (h2 : fn.offset = 1 ∧ P.underlying fn.type = some (.int .i64) ∧ P.cellsOf fn.type = 1)
    (h3 : fl.offset = 2 ∧ P.underlying fl.type = some (.slice e) ∧ P.cellsOf fl.type = 1) : ∀ N, OpnN P W N e EEx (ExpR W) := by
  intro N
  induction N using Nat.strongRecOn with
  | ind N ih =>
    intro H enc base spare held fuel hN cs x hx
    obtain ⟨xs, n, rfl, _, hl, hxl, hf⟩ := DataW.trod_struct hu hx
    have hxl : xs.length = 3 := hxl
    have g0 := hf 0 fo rfl
    have g1 := hf 1 fn rfl
    have g2 := hf 2 fl rfl
    rw [List.getElem?_eq_getElem (by omega)] at g0 g1 g2
    rw [h1.1, h1.2.2] at g0
    rw [h2.1, h2.2.2] at g1
    rw [h3.1, h3.2.2] at g2
    obtain ⟨a0, e0, _⟩ := opn_int h1.2.1 _ _ _ _ _ _ _ _ _ g0
    obtain ⟨a1, e1, _⟩ := opn_int h2.2.1 _ _ _ _ _ _ _ _ _ g1
    have hn : ∃ M, n = M + 1 ∨ n = 0 := ⟨n - 1, by omega⟩
    obtain ⟨M, rfl | rfl⟩ := hn
    · obtain ⟨s, e2, rows, hr, hall⟩ := opnN_slc h3.2.1 hc (by decide) (ih M (by omega)) _ _ _ _ _ _ (Nat.le_refl _) _ _ g2
      refine ⟨(a0, a1, s), ?_, ExpR.mk a0 a1 s rows hr hall⟩
      rw [hc] at hl
      show cs = [.int .i64 a0, .int .i64 a1, .slice s.1 s.2.1 s.2.2]
      obtain ⟨c0, c1, c2, rfl⟩ : ∃ c0 c1 c2, cs = [c0, c1, c2] := by
        match cs, hl with
        | [c0, c1, c2], _ => exact ⟨c0, c1, c2, rfl⟩
      have e0 : [c0] = [Value.int .i64 a0] := e0
      have e1 : [c1] = [Value.int .i64 a1] := e1
      have e2 : [c2] = [Value.slice s.1 s.2.1 s.2.2] := e2
      injection e0 with e0
      injection e1 with e1
      injection e2 with e2
      rw [e0, e1, e2]
    · simp [DataW.trod] at g2
end
end Go.Proofs.Ytbifajiigpalhaa

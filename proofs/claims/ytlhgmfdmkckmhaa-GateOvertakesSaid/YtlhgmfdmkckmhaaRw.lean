/-
  A row of rows: slices each with its own elements, owned. No program in sight.
-/
import Derived.Test.YtlhgmfdmkckmhaaOw
set_option linter.unusedVariables false
set_option linter.unusedSimpArgs false
namespace Go.Proofs.Ytlhgmfdmkckmhaa
section
variable {α : Type} {E : Enc α} {t : TypeId}
abbrev Z (α : Type) := Slc × List α
def zval {α : Type} (z : Z α) : Value := .slice z.1.1 z.1.2.1 z.1.2.2
def RowsS (E : Enc α) (t : TypeId) : List (Z α) → HP
  | [] => fun _ => True
  | z :: r => Star (Ls E t (zval z) z.2) (RowsS E t r)
theorem RowsS.nil {w0 w : World} {R : List HP} (H : Hs w0 w R) : Hs w0 w (RowsS E t [] :: R) := by
  have h := H.mk_nil t 1
  exact h.mono fun _ _ => trivial
theorem RowsS.focus : ∀ (zs : List (Z α)) (k : Nat) (z : Z α), zs[k]? = some z → ∃ Q : HP, (∀ {w0 w : World} {R : List HP}, Hs w0 w (RowsS E t zs :: R) → Hs w0 w (Ls E t (zval z) z.2 :: Q :: R)) ∧
    ∀ (z' : Z α) {w0 w : World} {R : List HP}, Hs w0 w (Ls E t (zval z') z'.2 :: Q :: R) → Hs w0 w (RowsS E t (zs.set k z') :: R)
  | [], _, _, h => by simp at h
  | x :: r, 0, z, h => by
    simp only [List.getElem?_cons_zero, Option.some.injEq] at h
    subst h
    exact ⟨RowsS E t r, fun H => H.part, fun z' w0 w R H => H.join⟩
  | x :: r, k + 1, z, h => by
    simp only [List.getElem?_cons_succ] at h
    obtain ⟨Q, h1, h2⟩ := RowsS.focus r k z h
    refine ⟨Star (Ls E t (zval x) x.2) Q, fun H => ?_, fun z' w0 w R H => ?_⟩
    · exact (h1 (Hs.part (A := Ls E t (zval x) x.2) (B := RowsS E t r) H).at1).at2.at2.at1.join.at1
    · have H := (h2 z' H.at1.part.at1.at2).at1
      exact H.join
theorem RowsS.lens : ∀ (zs : List (Z α)) {w0 w : World} {R : List HP}, Hs w0 w (RowsS E t zs :: R) → ∀ z ∈ zs, z.1.2.1 = z.2.length
  | [], _, _, _, _, _, h => by cases h
  | x :: r, _, _, _, H, z, h => by
    have H' := Hs.part (A := Ls E t (zval x) x.2) (B := RowsS E t r) H
    rcases List.mem_cons.1 h with rfl | h
    · obtain ⟨A, c, e⟩ := H'.ls_form
      unfold zval at e
      injection e
    · exact RowsS.lens r H'.tail z h
/-- make([][]T, n): nil slices. -/
theorem RowsS.nils {w0 w : World} {R : List HP} (H : Hs w0 w R) : ∀ n : Nat, Hs w0 w (RowsS E t (List.replicate n ((none, 0, 0), [])) :: R)
  | 0 => RowsS.nil H
  | n + 1 => Hs.join (A := Ls E t (.slice none 0 0) []) (B := RowsS E t (List.replicate n ((none, 0, 0), []))) ((RowsS.nils H n).ls_nil E t)
end
end Go.Proofs.Ytlhgmfdmkckmhaa

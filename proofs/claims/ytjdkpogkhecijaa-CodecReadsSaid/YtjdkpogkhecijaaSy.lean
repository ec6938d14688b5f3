import Derived.Test.YtjdkpogkhecijaaSx
set_option linter.unusedVariables false
set_option linter.unusedSimpArgs false
namespace Go.Proofs.Ytjdkpogkhecijaa
section
variable {P : Program} {w0 w : World} {α : Type} {E : Enc α} {t : TypeId} {v : Value} {xs : List α} {R : List HP}
theorem flat_set (xs : List α) (i : Nat) (x x' : α) (hx : xs[i]? = some x) (j : Nat) (u : Value) (hj : j < E.sz) (he : E.enc x' = (E.enc x).set j u) : flat E (xs.set i x') = (flat E xs).set (i * E.sz + j) u := by
  induction xs generalizing i with
  | nil => simp at hx
  | cons a l ih =>
    cases i with
    | zero =>
      simp only [List.getElem?_cons_zero, Option.some.injEq] at hx
      subst hx
      rw [List.set_cons_zero, flat_cons, flat_cons, he, Nat.zero_mul, Nat.zero_add, List.set_append_left _ _ (by rw [E.len]; exact hj)]
    | succ i =>
      simp only [List.getElem?_cons_succ] at hx
      rw [List.set_cons_succ, flat_cons, flat_cons, ih i hx, List.set_append_right _ _ (by rw [E.len, Nat.add_mul]; omega), E.len, Nat.add_mul]
      congr 2
      omega
/-- One cell of an element is written. -/
theorem Hs.ls_put {g off n c : Nat} (H : Hs w0 w (Ls E t (.slice (some ⟨g, off, none⟩) n c) xs :: R)) (i : Nat) (x x' : α) (hx : xs[i]? = some x) (j : Nat) (u : Value) (hj : j < E.sz) (he : E.enc x' = (E.enc x).set j u) :
    Hs w0 (w.setCell ⟨g, off + (i * E.sz + j), none⟩ u) (Ls E t (.slice (some ⟨g, off, none⟩) n c) (xs.set i x') :: R) := by
  obtain ⟨rfl, h1, h2⟩ := H.ls_rd.caps
  have hi := (List.getElem?_eq_some_iff.1 hx).1
  have hfl := flat_set (E := E) xs i x x' hx j u hj he
  refine H.turn rfl rfl rfl fun h hP hs => ?_
  obtain ⟨hl, ⟨he', _⟩ | ⟨g', off', cap', cur, he', hg, h3, h4, h5, h6⟩⟩ := hP
  · cases he'
  · injection he' with ha _ hc
    injection ha with ha
    injection ha with hb ho
    subst hb; subst ho; subst hc
    have hw := hs _ _ hg
    have hin : i * E.sz + j < xs.length * E.sz := by
      have := Nat.mul_le_mul_right E.sz (show i + 1 ≤ xs.length from hi)
      rw [Nat.add_mul] at this
      omega
    have hfit : xs.length * E.sz ≤ c * E.sz := Nat.mul_le_mul_right _ h3
    refine ⟨fun k => if k = g then some (.cells (cur.setIfInBounds (off + (i * E.sz + j)) u) t (0, 0)) else none, ⟨by rw [flat_length], .inr ⟨g, off, c, cur.setIfInBounds (off + (i * E.sz + j)) u, by rw [List.length_set], by simp, by rw [List.length_set]; exact h3, h4, by simpa using h5, ?_⟩⟩, ?_, ?_, ?_⟩
    · intro k y hy
      rw [hfl, List.getElem?_set] at hy
      rw [Array.getElem?_setIfInBounds]
      by_cases e : i * E.sz + j = k
      · subst e
        rw [if_pos rfl, if_pos (by rw [flat_length]; exact hin)] at hy
        rw [if_pos rfl, if_pos (by omega)]
        exact hy
      · rw [if_neg e] at hy
        rw [if_neg (by omega)]
        exact h6 k y hy
    · intro k o hk
      by_cases e : k = g
      · subst e
        simp at hk
        subst hk
        simp [World.setCell, Array.getElem?_modify, hw]
      · simp [e] at hk
    · intro k hk
      by_cases e : k = g
      · subst e; left; rw [hg]; simp
      · simp [e] at hk
    · intro k _ hk
      have hne : g ≠ k := fun e => by subst e; rw [hg] at hk; cases hk
      simp [World.setCell, Array.getElem?_modify, hne]
end
end Go.Proofs.Ytjdkpogkhecijaa

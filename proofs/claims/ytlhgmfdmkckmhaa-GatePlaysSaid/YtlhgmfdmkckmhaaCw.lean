/-
  clear(s), s a row of one-cell elements that is owned.
-/
import Derived.Test.YtlhgmfdmkckmhaaSy
set_option linter.unusedVariables false
set_option linter.unusedSimpArgs false
namespace Go.Proofs.Ytlhgmfdmkckmhaa
section
variable {P : Program} {w0 w : World} {α : Type} {E : Enc α} {t : TypeId} {xs : List α} {R : List HP} {A : Option Addr} {n c : Nat}
theorem zeroCells_one (u : Value) (n : Nat) : (Builtin.zeroCells #[u] n).toList = List.replicate n u := by
  apply List.ext_getElem
  · simp [Builtin.zeroCells]
  · intro i h1 h2
    simp [Builtin.zeroCells, Nat.mod_one]
theorem run_clear_own (H : Hs w0 w (Ls E t (.slice A n c) xs :: R)) (T ty : TypeId) (x0 : α) (u : Value) (hu : E.enc x0 = [u]) (hE : E.sz = 1) (ht : P.underlying T = some (.slice t)) (hz : ∀ w, (zeroValue t).run P w = .ok u w) (hc : u.cells = #[u]) (h1 : u.oneCell' = true) :
    ∃ w', (Builtin.clear_ #[T] ty #[.slice A n c]).run P w = .ok (.tuple #[]) w' ∧ Hs w0 w' (Ls E t (.slice A n c) (List.replicate n x0) :: R) := by
  obtain ⟨rfl, _, _⟩ := H.ls_rd.caps
  have hfl : ∀ k, flat E (List.replicate k x0) = List.replicate k u := by
    intro k
    induction k with
    | zero => rfl
    | succ k ih => rw [List.replicate_succ, flat_cons, ih, hu, List.replicate_succ]; rfl
  rcases Nat.eq_zero_or_pos xs.length with h0 | h0
  · refine ⟨w, ?_, ?_⟩
    · rw [h0]
      cases A <;> simp [Builtin.clear_, run_underlying ht]
    · have : xs = [] := List.eq_nil_of_length_eq_zero h0
      subst this
      exact H
  · obtain ⟨h, hs, hxl, ⟨he, hn⟩ | ⟨g, off, cap, cur, he, hg, hnc, hcm, hfit, hcell⟩⟩ := H.get
    · omega
    · injection he with ha _ hcc
      subst ha; subst hcc
      have hwg := hs g _ hg
      have hzl : (Builtin.zeroCells #[u] xs.length).toList.length = xs.length := by rw [zeroCells_one]; simp
      rw [hE, Nat.mul_one] at hfit
      have hstretch : off + (Builtin.zeroCells #[u] xs.length).toList.length ≤ cur.size := by rw [hzl]; omega
      have hone : ∀ v ∈ (Builtin.zeroCells #[u] xs.length).toList, v.oneCell' = true := by
        intro v hv
        rw [zeroCells_one] at hv
        rw [(List.mem_replicate.1 hv).2]
        exact h1
      have hst := run_storeCells_at P g off t (Builtin.zeroCells #[u] xs.length).toList 0 cur w hwg (by simpa using hstretch) hone
      simp only [Nat.add_zero] at hst
      refine ⟨w.setRow g (lay cur.toList off (Builtin.zeroCells #[u] xs.length).toList).toArray, ?_, ?_⟩
      · obtain ⟨m, hm⟩ : ∃ m, xs.length = m + 1 := ⟨xs.length - 1, by omega⟩
        rw [hm] at hst ⊢
        simp [Builtin.clear_, run_underlying ht, hz, hc, hst, lay]
      · refine H.turn rfl rfl rfl fun h2 hP hs2 => ?_
        have hg2 : h2 g ≠ none := by
          obtain ⟨_, ⟨he, _⟩ | ⟨g', off', cap', cur', he, hg', _⟩⟩ := hP
          · cases he
          · injection he with he _; injection he with he; injection he with he; subst he
            rw [hg']; simp
        have hsz : (lay cur.toList off (Builtin.zeroCells #[u] xs.length).toList).length = cur.size := by rw [lay_length _ _ _ (by simpa using hstretch)]; simp
        refine ⟨fun k' => if k' = g then some (.cells (lay cur.toList off (Builtin.zeroCells #[u] xs.length).toList).toArray t (0, 0)) else none, ⟨by rw [flat_length], .inr ⟨g, off, c, (lay cur.toList off (Builtin.zeroCells #[u] xs.length).toList).toArray, by simp, by simp, by simpa using hnc, hcm, ?_, ?_⟩⟩, ?_, ?_, ?_⟩
        · rw [List.size_toArray, hsz, hE, Nat.mul_one]; exact hfit
        · intro j v hv
          rw [hfl] at hv
          have hj := (List.getElem?_eq_some_iff.1 hv).1
          rw [List.length_replicate] at hj
          rw [List.getElem?_toArray, lay_in _ _ _ (by simpa using hstretch) _ (by rw [hzl]; exact hj), zeroCells_one]
          exact hv
        · intro k' o hk'
          by_cases e : k' = g
          · subst e
            simp at hk'
            subst hk'
            exact setRow_heap w k' cur _ t (0, 0) hwg
          · simp [e] at hk'
        · intro k' hk'
          by_cases e : k' = g
          · subst e; exact .inl hg2
          · simp [e] at hk'
        · intro k' _ hk'
          refine setRow_other w g k' _ fun e => ?_
          subst e
          exact hg2 hk'
theorem wpList_clear {ops : Array Oper} {rest : List Oper} {o : Oper} {a : Act} {Q : Exit → Act → World → Prop} (hgd : o.guard = none) (s : Operand) (T : TypeId)
    (ho : o.op = .call { callee := .builtin .clear, args := #[s], argTypes := #[T] }) (t : TypeId) (x0 : α) (u : Value) (hu : E.enc x0 = [u]) (hE : E.sz = 1) (ht : P.underlying T = some (.slice t)) (hz : ∀ w, (zeroValue t).run P w = .ok u w) (hc : u.cells = #[u]) (h1 : u.oneCell' = true)
    (hs : a.eval s = .slice A n c) (H : Hs w0 w (Ls E t (.slice A n c) xs :: R)) (h : ∀ w', Hs w0 w' (Ls E t (.slice A n c) (List.replicate n x0) :: R) → wpList P ops Q rest (a.put o.dst (.tuple #[])) w') : wpList P ops Q (o :: rest) a w := by
  refine wpList_plain hgd fun K' hK' => ?_
  obtain ⟨w', hrun, H'⟩ := run_clear_own (P := P) H T o.type x0 u hu hE ht hz hc h1
  unfold Oper.wp execOp
  simp only [ho, resolve, invoke, builtin, Sem.run_bind, Sem.run_pure, Result.andThen_ok, List.map_toArray, List.map_cons, List.map_nil, hs, hrun]
  exact hK' _ _ (h w' H')
end
end Go.Proofs.Ytlhgmfdmkckmhaa

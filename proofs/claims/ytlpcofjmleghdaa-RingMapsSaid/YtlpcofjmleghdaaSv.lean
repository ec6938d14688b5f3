import Derived.Test.YtlpcofjmleghdaaSt
set_option linter.unusedVariables false
set_option linter.unusedSimpArgs false
namespace Go.Proofs.Ytlpcofjmleghdaa
section
variable {P : Program} {w0 w : World} {α : Type} {E : Enc α} {t : TypeId} {v : Value} {xs : List α} {R : List HP}
theorem wpList_append1N {ops : Array Oper} {rest : List Oper} {o : Oper} {a : Act} {Q : Exit → Act → World → Prop} (n : Nat) (hn : xs.length = n) (hgd : o.guard = none) (s x : Operand) (T : TypeId)
    (ho : o.op = .call { callee := .builtin .append, args := #[s, x], argTypes := #[T, T] })
    (t : TypeId) (z : Value) (sz bytes : Nat) (ht : P.underlying T = some (.slice t)) (hi : (P.info? t).map (fun i => (i.zero, i.size, i.bytes)) = some (some z, sz, bytes)) (hzs : z.cells.size = sz) (hsz : 0 < sz) (hb0 : 0 < bytes) (hE : E.sz = sz)
    (hs : a.eval s = v) {b : Nat} (hx : a.eval x = .slice (some ⟨b, 0, none⟩) 1 1) (hbw : b = w.heap.size) (H : Hs w0 w (Ls E t v xs :: R)) (y : α) (hb : (n + 1) * bytes ≤ 140737488355328)
    (h : ∀ A cap w', Hs w0 w' (Ls E t (.slice A (n + 1) cap) (xs ++ [y]) :: R) → wpList P ops Q rest (a.put o.dst (.slice A (n + 1) cap)) w') : wpList P ops Q (o :: rest) a (w.alloc (.cells (E.enc y).toArray t)) := by
  subst hn
  subst hbw
  exact wpList_append1L hgd s x T ho t z sz bytes ht hi hzs hsz hb0 hE hs hx H y hb h
theorem wp_appendL {o : Oper} {a : Act} {K : Act → World → Prop} {Q : Exit → Act → World → Prop} {ys : List α} (s x : Operand) (T : TypeId)
    (ho : o.op = .call { callee := .builtin .append, args := #[s, x], argTypes := #[T, T] })
    (t : TypeId) (z : Value) (sz bytes : Nat) (ht : P.underlying T = some (.slice t)) (hi : (P.info? t).map (fun i => (i.zero, i.size, i.bytes)) = some (some z, sz, bytes)) (hzs : z.cells.size = sz) (hsz : 0 < sz) (hb0 : 0 < bytes) (hE : E.sz = sz)
    (hs : a.eval s = v) (src : Value) (hx : a.eval x = src) (H : Hs w0 w (Ls E t v xs :: R)) (hr : RdL E w src ys) (hb : (xs.length + ys.length) * bytes ≤ 140737488355328)
    (h : ∀ A cap w', Hs w0 w' (Ls E t (.slice A (xs.length + ys.length) cap) (xs ++ ys) :: R) → K (a.put o.dst (.slice A (xs.length + ys.length) cap)) w') : o.wp P a w K Q := by
  subst hE
  refine wp_append_sl s x T ho t z E.sz bytes ht hi hzs hsz hb0 hs src hx H ys.length (flat E ys) (flat_length ys) hr (flat_oneCell ys) hb fun A cap w' H' _ => h A cap w' ?_
  unfold Ls
  rw [flat_append, List.length_append]
  exact H'
/-- s[:len:k]: less room. -/
theorem Hs.ls_cap {A : Option Addr} {n c : Nat} (H : Hs w0 w (Ls E t (.slice A n c) xs :: R)) (k : Nat) (hk : n ≤ k) (hkc : k ≤ c) : Hs w0 w (Ls E t (.slice A n k) xs :: R) := by
  refine H.mono fun h hh => ?_
  obtain ⟨hl, ⟨he, hn⟩ | ⟨g, off, cap, cur, he, hg, h1, h2, h3, h4⟩⟩ := hh
  · injection he with ha hb hc
    subst ha; subst hc
    obtain rfl : k = 0 := by omega
    exact ⟨hl, .inl ⟨by rw [hb], hn⟩⟩
  · injection he with ha hb hc
    subst ha; subst hc
    refine ⟨hl, .inr ⟨g, off, k, cur, by rw [hb], hg, by omega, by omega, ?_, h4⟩⟩
    have := Nat.mul_le_mul_right E.sz hkc
    omega
end
end Go.Proofs.Ytlpcofjmleghdaa

/-
  Steps of regions that draw their order: append behind a box.
-/
import Derived.Test.YtlpcofjmleghdaaLs
import Derived.Deep.OwnRows
import Derived.Laws.MakeOwn
set_option linter.unusedVariables false
set_option linter.unusedSimpArgs false
namespace Go.Proofs.Ytlpcofjmleghdaa
open Go.RowKit
section
variable {α : Type} {E : Enc α} {w0 w w' : World} {t : TypeId} {v : Value} {xs ys : List α} {R : List HP}
theorem RdL.boxAt {b : Nat} (y : α) (hb : b = w.heap.size) : RdL E (w.alloc (.cells (E.enc y).toArray t)) (.slice (some ⟨b, 0, none⟩) 1 1) [y] := hb ▸ RdL.box w E y
theorem RdL.of_blk' {b b' : Nat} {cs : Array Value} {y : α} {fr : Nat × Nat} (H : Hs w0 w (Blk b' (.cells cs t fr) :: R)) (hb : b = b') (hcs : cs = (E.enc y).toArray) : RdL E w (.slice (some ⟨b, 0, none⟩) 1 1) [y] := by
  subst hb; subst hcs
  exact RdL.of_blk H
theorem Sep.pickc {A : HP} {R L : List HP} {h : Hp} (H : Sep (A :: R) h) (K : ∀ h, Sep R h → Sep L h) : Sep (A :: L) h := Sep.cons K H
variable {P : Program}
theorem step_append_box {ops : Array Oper} {o : Oper} {a : Act} {K : Act → World → Prop} {Q : Exit → Act → World → Prop} {F : Prop} (hgd : o.guard = none) (s x : Operand) (T : TypeId)
    (ho : o.op = .call { callee := .builtin .append, args := #[s, x], argTypes := #[T, T] })
    (t : TypeId) (z : Value) (sz bytes : Nat) (ht : P.underlying T = some (.slice t)) (hi : (P.info? t).map (fun i => (i.zero, i.size, i.bytes)) = some (some z, sz, bytes)) (hzs : z.cells.size = sz) (hsz : 0 < sz) (hb0 : 0 < bytes) (hE : E.sz = sz)
    (hs : a.eval s = v) {b : Nat} (hx : a.eval x = .slice (some ⟨b, 0, none⟩) 1 1) (H : Hs w0 w (Ls E t v xs :: R)) (y : α) (hr : RdL E w (.slice (some ⟨b, 0, none⟩) 1 1) [y]) (hb : (xs.length + 1) * bytes ≤ 140737488355328)
    (h : ∀ A cap w', Hs w0 w' (Ls E t (.slice A (xs.length + 1) cap) (xs ++ [y]) :: R) → K (a.put o.dst (.slice A (xs.length + 1) cap)) w') :
    if Region.wanted o (yielded ops a.tmps) = true then Oper.wp P o a w K Q else F :=
  step_append1L hgd s x T ho t z sz bytes ht hi hzs hsz hb0 hE hs _ hx H y hr hb h
theorem wpList_appendN {ops : Array Oper} {rest : List Oper} {o : Oper} {a : Act} {Q : Exit → Act → World → Prop} (N : Nat) (hgd : o.guard = none) (s x : Operand) (T : TypeId)
    (ho : o.op = .call { callee := .builtin .append, args := #[s, x], argTypes := #[T, T] })
    (t : TypeId) (z : Value) (sz bytes : Nat) (ht : P.underlying T = some (.slice t)) (hi : (P.info? t).map (fun i => (i.zero, i.size, i.bytes)) = some (some z, sz, bytes)) (hzs : z.cells.size = sz) (hsz : 0 < sz) (hb0 : 0 < bytes) (hE : E.sz = sz)
    (hs : a.eval s = v) (src : Value) (hx : a.eval x = src) (H : Hs w0 w (Ls E t v xs :: R)) (hr : RdL E w src ys) (hb : N * bytes ≤ 140737488355328) (hN : xs.length + ys.length = N)
    (h : ∀ A cap w', Hs w0 w' (Ls E t (.slice A N cap) (xs ++ ys) :: R) → wpList P ops Q rest (a.put o.dst (.slice A N cap)) w') : wpList P ops Q (o :: rest) a w := by
  subst hN
  exact wpList_appendL hgd s x T ho t z sz bytes ht hi hzs hsz hb0 hE hs src hx H hr hb h
theorem step_appendN {ops : Array Oper} {o : Oper} {a : Act} {K : Act → World → Prop} {Q : Exit → Act → World → Prop} {F : Prop} (N : Nat) (hgd : o.guard = none) (s x : Operand) (T : TypeId)
    (ho : o.op = .call { callee := .builtin .append, args := #[s, x], argTypes := #[T, T] })
    (t : TypeId) (z : Value) (sz bytes : Nat) (ht : P.underlying T = some (.slice t)) (hi : (P.info? t).map (fun i => (i.zero, i.size, i.bytes)) = some (some z, sz, bytes)) (hzs : z.cells.size = sz) (hsz : 0 < sz) (hb0 : 0 < bytes) (hE : E.sz = sz)
    (hs : a.eval s = v) (src : Value) (hx : a.eval x = src) (H : Hs w0 w (Ls E t v xs :: R)) (hr : RdL E w src ys) (hb : N * bytes ≤ 140737488355328) (hN : xs.length + ys.length = N)
    (h : ∀ A cap w', Hs w0 w' (Ls E t (.slice A N cap) (xs ++ ys) :: R) → K (a.put o.dst (.slice A N cap)) w') :
    if Region.wanted o (yielded ops a.tmps) = true then Oper.wp P o a w K Q else F := by
  subst hN
  exact step_appendL hgd s x T ho t z sz bytes ht hi hzs hsz hb0 hE hs src hx H hr hb h
/-- s[k+1:]. -/
theorem cut_drop1 (P : Program) (T t : TypeId) (sz : Nat) (ht : P.underlying T = some (.slice t)) (hi : (P.info? t).map (·.size) = some sz) (A : Option Addr) (n c k : Nat) (hk : k < n) :
    ∃ A2, Hid (A2 = if c = k + 1 then A else A.map (·.add ((k + 1) * sz))) ∧ ∀ (W : World) (kl : IntKind), (Instr.slice T (.slice A n c) (some (.int kl ((k : Int) + 1))) none none).run P W = .ok (.slice A2 (n - (k + 1)) (c - (k + 1))) W :=
  cut_drop P T t sz ht hi A n c (k + 1) (by omega)
theorem RdL.dropA {A A2 : Option Addr} {n c k sz : Nat} (H : RdL E w (.slice A n c) xs) (hk : k ≤ n) (hsz : E.sz = sz) (h : Hid (A2 = if c = k then A else A.map (·.add (k * sz)))) : RdL E w (.slice A2 (n - k) (c - k)) (xs.drop k) := by
  subst hsz
  have := H.drop k hk
  rw [← h.out] at this
  exact this
/-- make([]T, n), T of one cell. -/
theorem Hs.ls_made {α : Type} {E : Enc α} {w0 w : World} {R : List HP} (H : Hs w0 w R) (t : TypeId) (x : α) (u : Value) (hu : E.enc x = [u]) (m : Nat) (hm : m ≤ 1000000) :
    Hs w0 (w.alloc (.cells (madeCells #[u] m) t)) (Ls E t (.slice (some ⟨w.heap.size, 0, none⟩) m m) (List.replicate m x) :: R) := by
  refine H.ls_lit E t (List.replicate m x) _ ?_ m (by simp) hm
  apply Array.ext'
  have h1 : flat E (List.replicate m x) = List.replicate m u := by
    induction m with
    | zero => rfl
    | succ m ih => rw [List.replicate_succ, flat_cons, ih (by omega), hu, List.replicate_succ]; rfl
  rw [h1]
  apply List.ext_getElem
  · simp [madeCells]
  · intro i h1 h2
    simp [madeCells, Nat.mod_one]
/-- Writing at the head's own offset. -/
theorem Hs.ls_set0 {α : Type} {E : Enc α} {w0 w : World} {t : TypeId} {g n c : Nat} {xs : List α} {R : List HP} (H : Hs w0 w (Ls E t (.slice (some ⟨g, 0, none⟩) n c) xs :: R)) (hE : E.sz = 1) (i : Nat) (hi : i < n) (x : α) (u : Value) (hu : E.enc x = [u]) :
    Hs w0 (w.setCell ⟨g, i, none⟩ u) (Ls E t (.slice (some ⟨g, 0, none⟩) n c) (xs.set i x) :: R) := by
  have := H.ls_set hE i hi x u hu
  rwa [Nat.zero_add] at this
end
end Go.Proofs.Ytlpcofjmleghdaa

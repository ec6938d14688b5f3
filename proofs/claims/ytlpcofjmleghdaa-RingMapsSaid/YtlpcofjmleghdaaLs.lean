/-
  Slices as lists: an element is told by its cells ('Enc'); 'Ls E t v xs': v is a slice of xs, owned; 'RdL E w v xs': v reads as xs.
-/
import Derived.Test.YtlpcofjmleghdaaAp
set_option linter.unusedVariables false
set_option linter.unusedSimpArgs false
namespace Go.Proofs.Ytlpcofjmleghdaa
open Go.RowKit

/-- How an element lies in memory. -/
structure Enc (α : Type) where
  enc : α → List Value
  sz : Nat
  len : ∀ x, (enc x).length = sz
  one : ∀ x, ∀ u ∈ enc x, u.oneCell' = true
def Enc.num (k : IntKind) : Enc Int := ⟨fun x => [.int k x], 1, fun _ => rfl, fun _ u hu => by simp at hu; subst hu; rfl⟩
def Enc.str : Enc ByteArray := ⟨fun x => [.string x], 1, fun _ => rfl, fun _ u hu => by simp at hu; subst hu; rfl⟩
def Enc.flag : Enc Bool := ⟨fun x => [.bool x], 1, fun _ => rfl, fun _ u hu => by simp at hu; subst hu; rfl⟩
def Enc.pair {α β : Type} (a : Enc α) (b : Enc β) : Enc (α × β) := ⟨fun x => a.enc x.1 ++ b.enc x.2, a.sz + b.sz, fun x => by rw [List.length_append, a.len, b.len], fun x u hu => by
  rcases List.mem_append.1 hu with h | h
  · exact a.one _ u h
  · exact b.one _ u h⟩

section
variable {α : Type} {E : Enc α}
def flat (E : Enc α) (xs : List α) : List Value := xs.flatMap E.enc
theorem flat_nil : flat E [] = [] := rfl
theorem flat_cons (x : α) (xs : List α) : flat E (x :: xs) = E.enc x ++ flat E xs := by simp [flat]
theorem flat_append (xs ys : List α) : flat E (xs ++ ys) = flat E xs ++ flat E ys := by simp [flat]
theorem flat_one (x : α) : flat E [x] = E.enc x := by simp [flat]
theorem flat_length (xs : List α) : (flat E xs).length = xs.length * E.sz := by
  induction xs with
  | nil => simp [flat]
  | cons x xs ih => rw [flat_cons, List.length_append, ih, E.len, List.length_cons, Nat.add_mul]; omega
theorem flat_oneCell (xs : List α) : ∀ u ∈ flat E xs, u.oneCell' = true := by
  intro u hu
  obtain ⟨x, _, hx⟩ := List.mem_flatMap.1 hu
  exact E.one x u hx
theorem flat_take (xs : List α) (k : Nat) : (flat E xs).take (k * E.sz) = flat E (xs.take k) := by
  induction xs generalizing k with
  | nil => simp [flat]
  | cons x xs ih =>
    cases k with
    | zero => simp [flat]
    | succ k =>
      rw [flat_cons, List.take_succ_cons, flat_cons, ← ih, Nat.add_mul, Nat.one_mul, List.take_append, E.len, List.take_of_length_le (by rw [E.len]; omega)]
      congr 2
      omega
theorem flat_drop (xs : List α) (k : Nat) : (flat E xs).drop (k * E.sz) = flat E (xs.drop k) := by
  induction xs generalizing k with
  | nil => simp [flat]
  | cons x xs ih =>
    cases k with
    | zero => simp [flat]
    | succ k =>
      rw [flat_cons, List.drop_succ_cons, ← ih, Nat.add_mul, Nat.one_mul, List.drop_append, E.len, List.drop_of_length_le (by rw [E.len]; omega), List.nil_append]
      congr 1
      omega
theorem flat_get (xs : List α) (i j : Nat) (x : α) (hi : xs[i]? = some x) (hj : j < E.sz) : (flat E xs)[i * E.sz + j]? = (E.enc x)[j]? := by
  have h : flat E xs = flat E (xs.take i) ++ (E.enc x ++ flat E (xs.drop (i + 1))) := by
    have hlt := (List.getElem?_eq_some_iff.1 hi).1
    have hx := (List.getElem?_eq_some_iff.1 hi).2
    rw [← hx, ← flat_cons, ← flat_append, ← List.drop_eq_getElem_cons hlt, List.take_append_drop]
  have hlt := (List.getElem?_eq_some_iff.1 hi).1
  have hl : (flat E (xs.take i)).length = i * E.sz := by rw [flat_length, List.length_take, Nat.min_eq_left (by omega)]
  rw [h, List.getElem?_append_right (by omega), hl, Nat.add_sub_cancel_left, List.getElem?_append_left (by rw [E.len]; exact hj)]

/-- v reads as xs. -/
def RdL (E : Enc α) (w : World) (v : Value) (xs : List α) : Prop := Rd w v xs.length (flat E xs)
/-- v, a slice of elements of type t, is xs, and owned. -/
def Ls (E : Enc α) (t : TypeId) (v : Value) (xs : List α) : HP := Sl t E.sz v xs.length (flat E xs)
variable {w0 w w' : World} {t : TypeId} {v : Value} {xs ys : List α} {R : List HP} {A : Option Addr} {n c : Nat}
theorem RdL.form (H : RdL E w v xs) : ∃ A c, v = .slice A xs.length c := let ⟨A, c, h, _⟩ := H; ⟨A, c, h⟩
theorem RdL.caps (H : RdL E w (.slice A n c) xs) : n = xs.length ∧ n ≤ c ∧ c ≤ 9223372036854775807 := by
  obtain ⟨_, _, he, h1, h2, h3, _⟩ := H
  injection he with _ h4 h5
  subst h4; subst h5
  unfold maxLen at h3
  exact ⟨rfl, h2, by omega⟩
theorem RdL.some_ (H : RdL E w (.slice A n c) xs) (h : 0 < xs.length) : ∃ g off, A = some ⟨g, off, none⟩ := by
  obtain ⟨A1, c1, he, h1, h2, h3, h4, h5⟩ := H
  injection he with ha h6 h7
  subst ha
  cases A with
  | none => have := (h4 rfl).1; omega
  | some a =>
    obtain ⟨hs, _⟩ := h5 h a rfl
    obtain ⟨b, o, s⟩ := a
    simp at hs
    subst hs
    exact ⟨b, o, rfl⟩
theorem RdL.cell {g off : Nat} (H : RdL E w (.slice (some ⟨g, off, none⟩) n c) xs) {i : Nat} {x : α} (hi : xs[i]? = some x) (j : Nat) {u : Value} (hu : (E.enc x)[j]? = some u) : w.cell? ⟨g, off + (i * E.sz + j), none⟩ = some u := by
  obtain ⟨A1, c1, he, h1, h2, h3, h4, h5⟩ := H
  injection he with ha h6 h7
  subst ha
  obtain ⟨hs, hc⟩ := h5 (by have := (List.getElem?_eq_some_iff.1 hi).1; omega) _ rfl
  have hj := (List.getElem?_eq_some_iff.1 hu).1
  rw [E.len] at hj
  exact hc _ _ (by rw [flat_get xs i j x hi hj]; exact hu)
theorem RdL.step (H : RdL E w v xs) (hb : ∀ k, k < w.heap.size → w'.heap[k]? = w.heap[k]?) : RdL E w' v xs := by
  obtain ⟨A1, c1, he, h1, h2, h3, h4, h5⟩ := H
  refine ⟨A1, c1, he, h1, h2, h3, h4, fun hp a ha => ⟨(h5 hp a ha).1, fun j u hu => ?_⟩⟩
  have := (h5 hp a ha).2 j u hu
  rw [← this]
  exact World.cell?_of_block (hb _ (World.block_lt_of_cell? w _ this))
theorem RdL.below (H : RdL E w v xs) (hb : Below w.heap.size w w') : RdL E w' v xs := H.step hb.block
theorem RdL.drewN (H : RdL E w v xs) (k : Nat) : RdL E (w.drewN k) v xs := H.step fun _ _ => rfl
theorem RdL.drew (H : RdL E w v xs) : RdL E w.drew v xs := H.step fun _ _ => rfl
theorem RdL.alloc (H : RdL E w v xs) (o : Obj) : RdL E (w.alloc o) v xs := H.step fun k hk => Below.heap_alloc w o k hk
theorem RdL.old {w1 : World} (H : RdL E w1 v xs) (h : Hs w0 w (Old w1 :: R)) : RdL E w v xs := H.step h.old
theorem RdL.nil (w : World) : RdL E w (.slice none 0 0) [] := ⟨none, 0, rfl, Nat.zero_le _, Nat.le_refl _, Nat.zero_le _, fun _ => ⟨rfl, rfl⟩, fun _ a h => by cases h⟩
theorem RdL.drop (H : RdL E w (.slice A n c) xs) (k : Nat) (hk : k ≤ n) : RdL E w (.slice (if c = k then A else A.map (·.add (k * E.sz))) (n - k) (c - k)) (xs.drop k) := by
  obtain ⟨rfl, h1, h2⟩ := H.caps
  unfold RdL
  rw [List.length_drop, ← flat_drop]
  exact Rd.drop H (flat_length xs) k hk
theorem RdL.take (H : RdL E w (.slice A n c) xs) (k : Nat) (hk : k ≤ n) : RdL E w (.slice A k c) (xs.take k) := by
  obtain ⟨rfl, h1, h2⟩ := H.caps
  unfold RdL
  rw [List.length_take, Nat.min_eq_left hk, ← flat_take]
  exact Rd.take H k hk
theorem Hs.ls_rd (H : Hs w0 w (Ls E t v xs :: R)) : RdL E w v xs := H.sl_rd
theorem Hs.ls_form (H : Hs w0 w (Ls E t v xs :: R)) : ∃ A c, v = .slice A xs.length c := H.ls_rd.form
theorem Hs.ls_nil (H : Hs w0 w R) (E : Enc α) (t : TypeId) : Hs w0 w (Ls E t (.slice none 0 0) [] :: R) := H.mk_nil t E.sz
theorem Hs.ls_take (H : Hs w0 w (Ls E t (.slice A n c) xs :: R)) (k : Nat) (hk : k ≤ n) : Hs w0 w (Ls E t (.slice A k c) (xs.take k) :: R) := by
  obtain ⟨rfl, h1, h2⟩ := H.ls_rd.caps
  unfold Ls
  rw [List.length_take, Nat.min_eq_left hk, ← flat_take]
  exact Hs.sl_take H k hk
theorem Hs.ls_drop (H : Hs w0 w (Ls E t (.slice A n c) xs :: R)) (k : Nat) (hk : k ≤ n) : Hs w0 w (Ls E t (.slice (if c = k then A else A.map (·.add (k * E.sz))) (n - k) (c - k)) (xs.drop k) :: R) := by
  obtain ⟨rfl, h1, h2⟩ := H.ls_rd.caps
  unfold Ls
  rw [List.length_drop, ← flat_drop]
  exact Hs.sl_drop H k hk
/-- A literal's row. -/
theorem Hs.ls_lit (H : Hs w0 w R) (E : Enc α) (t : TypeId) (xs : List α) (cs : Array Value) (hcs : cs = (flat E xs).toArray) (n : Nat) (hn : n = xs.length) (hm : n ≤ 1000000) :
    Hs w0 (w.alloc (.cells cs t)) (Ls E t (.slice (some ⟨w.heap.size, 0, none⟩) n n) xs :: R) := by
  subst hcs; subst hn
  refine (H.alloc _).mono fun h hb => ⟨flat_length xs, .inr ⟨w.heap.size, 0, _, _, rfl, hb, Nat.le_refl _, by unfold maxLen; omega, by rw [List.size_toArray, flat_length]; omega, fun j u hu => by rw [Nat.zero_add, List.getElem?_toArray]; exact hu⟩⟩
/-- Two lists that are one. -/
theorem Hs.ls_eq (H : Hs w0 w (Ls E t v xs :: R)) (h : xs = ys) : Hs w0 w (Ls E t v ys :: R) := h ▸ H
section
variable {P : Program}
theorem wpList_append1L {ops : Array Oper} {rest : List Oper} {o : Oper} {a : Act} {Q : Exit → Act → World → Prop} (hgd : o.guard = none) (s x : Operand) (T : TypeId)
    (ho : o.op = .call { callee := .builtin .append, args := #[s, x], argTypes := #[T, T] })
    (t : TypeId) (z : Value) (sz bytes : Nat) (ht : P.underlying T = some (.slice t)) (hi : (P.info? t).map (fun i => (i.zero, i.size, i.bytes)) = some (some z, sz, bytes)) (hzs : z.cells.size = sz) (hsz : 0 < sz) (hb0 : 0 < bytes) (hE : E.sz = sz)
    (hs : a.eval s = v) (hx : a.eval x = .slice (some ⟨w.heap.size, 0, none⟩) 1 1) (H : Hs w0 w (Ls E t v xs :: R)) (y : α) (hb : (xs.length + 1) * bytes ≤ 140737488355328)
    (h : ∀ A cap w', Hs w0 w' (Ls E t (.slice A (xs.length + 1) cap) (xs ++ [y]) :: R) → wpList P ops Q rest (a.put o.dst (.slice A (xs.length + 1) cap)) w') : wpList P ops Q (o :: rest) a (w.alloc (.cells (E.enc y).toArray t)) := by
  subst hE
  refine wpList_append1 hgd s x T ho t z E.sz bytes ht hi hzs hsz hb0 hs hx H (E.enc y) (E.len y) (E.one y) hb fun A cap w' H' => h A cap w' ?_
  unfold Ls
  rw [flat_append, flat_one, List.length_append]
  exact H'
theorem wpList_appendL {ops : Array Oper} {rest : List Oper} {o : Oper} {a : Act} {Q : Exit → Act → World → Prop} (hgd : o.guard = none) (s x : Operand) (T : TypeId)
    (ho : o.op = .call { callee := .builtin .append, args := #[s, x], argTypes := #[T, T] })
    (t : TypeId) (z : Value) (sz bytes : Nat) (ht : P.underlying T = some (.slice t)) (hi : (P.info? t).map (fun i => (i.zero, i.size, i.bytes)) = some (some z, sz, bytes)) (hzs : z.cells.size = sz) (hsz : 0 < sz) (hb0 : 0 < bytes) (hE : E.sz = sz)
    (hs : a.eval s = v) (src : Value) (hx : a.eval x = src) (H : Hs w0 w (Ls E t v xs :: R)) (hr : RdL E w src ys) (hb : (xs.length + ys.length) * bytes ≤ 140737488355328)
    (h : ∀ A cap w', Hs w0 w' (Ls E t (.slice A (xs.length + ys.length) cap) (xs ++ ys) :: R) → wpList P ops Q rest (a.put o.dst (.slice A (xs.length + ys.length) cap)) w') : wpList P ops Q (o :: rest) a w := by
  subst hE
  refine wpList_append_sl hgd s x T ho t z E.sz bytes ht hi hzs hsz hb0 hs src hx H ys.length (flat E ys) (flat_length ys) hr (flat_oneCell ys) hb fun A cap w' H' _ => h A cap w' ?_
  unfold Ls
  rw [flat_append, List.length_append]
  exact H'
theorem step_append1L {ops : Array Oper} {o : Oper} {a : Act} {K : Act → World → Prop} {Q : Exit → Act → World → Prop} {F : Prop} (hgd : o.guard = none) (s x : Operand) (T : TypeId)
    (ho : o.op = .call { callee := .builtin .append, args := #[s, x], argTypes := #[T, T] })
    (t : TypeId) (z : Value) (sz bytes : Nat) (ht : P.underlying T = some (.slice t)) (hi : (P.info? t).map (fun i => (i.zero, i.size, i.bytes)) = some (some z, sz, bytes)) (hzs : z.cells.size = sz) (hsz : 0 < sz) (hb0 : 0 < bytes) (hE : E.sz = sz)
    (hs : a.eval s = v) (src : Value) (hx : a.eval x = src) (H : Hs w0 w (Ls E t v xs :: R)) (y : α) (hr : RdL E w src [y]) (hb : (xs.length + 1) * bytes ≤ 140737488355328)
    (h : ∀ A cap w', Hs w0 w' (Ls E t (.slice A (xs.length + 1) cap) (xs ++ [y]) :: R) → K (a.put o.dst (.slice A (xs.length + 1) cap)) w') :
    if Region.wanted o (yielded ops a.tmps) = true then Oper.wp P o a w K Q else F := by
  subst hE
  refine step_append_sl hgd s x T ho t z E.sz bytes ht hi hzs hsz hb0 hs src hx H 1 (flat E [y]) (flat_length [y]) hr (flat_oneCell [y]) hb fun A cap w' H' _ => h A cap w' ?_
  unfold Ls
  rw [flat_append, List.length_append]
  exact H'
theorem step_appendL {ops : Array Oper} {o : Oper} {a : Act} {K : Act → World → Prop} {Q : Exit → Act → World → Prop} {F : Prop} (hgd : o.guard = none) (s x : Operand) (T : TypeId)
    (ho : o.op = .call { callee := .builtin .append, args := #[s, x], argTypes := #[T, T] })
    (t : TypeId) (z : Value) (sz bytes : Nat) (ht : P.underlying T = some (.slice t)) (hi : (P.info? t).map (fun i => (i.zero, i.size, i.bytes)) = some (some z, sz, bytes)) (hzs : z.cells.size = sz) (hsz : 0 < sz) (hb0 : 0 < bytes) (hE : E.sz = sz)
    (hs : a.eval s = v) (src : Value) (hx : a.eval x = src) (H : Hs w0 w (Ls E t v xs :: R)) (hr : RdL E w src ys) (hb : (xs.length + ys.length) * bytes ≤ 140737488355328)
    (h : ∀ A cap w', Hs w0 w' (Ls E t (.slice A (xs.length + ys.length) cap) (xs ++ ys) :: R) → K (a.put o.dst (.slice A (xs.length + ys.length) cap)) w') :
    if Region.wanted o (yielded ops a.tmps) = true then Oper.wp P o a w K Q else F := by
  subst hE
  refine step_append_sl hgd s x T ho t z E.sz bytes ht hi hzs hsz hb0 hs src hx H ys.length (flat E ys) (flat_length ys) hr (flat_oneCell ys) hb fun A cap w' H' _ => h A cap w' ?_
  unfold Ls
  rw [flat_append, List.length_append]
  exact H'
end
theorem RdL.box (w : World) (E : Enc α) (x : α) : RdL E (w.alloc (.cells (E.enc x).toArray t)) (.slice (some ⟨w.heap.size, 0, none⟩) 1 1) [x] := by
  unfold RdL
  rw [flat_one]
  exact Rd.box w (E.enc x) 1 (by omega)
/-- A cell of a one-cell element is written. -/
theorem Hs.ls_set {g off : Nat} (H : Hs w0 w (Ls E t (.slice (some ⟨g, off, none⟩) n c) xs :: R)) (hE : E.sz = 1) (i : Nat) (hi : i < n) (x : α) (u : Value) (hu : E.enc x = [u]) :
    Hs w0 (w.setCell ⟨g, off + i, none⟩ u) (Ls E t (.slice (some ⟨g, off, none⟩) n c) (xs.set i x) :: R) := by
  obtain ⟨rfl, h1, h2⟩ := H.ls_rd.caps
  have hfl : flat E (xs.set i x) = (flat E xs).set i u := by
    apply List.ext_getElem?
    intro j
    have hfj : ∀ (zs : List α), j < zs.length → (flat E zs)[j]? = (E.enc (zs[j]?.getD x))[0]? := fun zs hj => by
      have := flat_get (E := E) zs j 0 zs[j] (List.getElem?_eq_getElem hj) (by omega)
      rw [hE, Nat.mul_one, Nat.add_zero] at this
      rw [this, List.getElem?_eq_getElem hj]; rfl
    have hlen : ∀ (zs : List α), (flat E zs).length = zs.length := fun zs => by rw [flat_length, hE, Nat.mul_one]
    rcases Nat.lt_or_ge j xs.length with hj | hj
    · rw [hfj _ (by simpa using hj), List.getElem?_set, List.getElem?_set]
      by_cases e : i = j
      · subst e; simp [hi, hlen, hu]
      · rw [if_neg e, if_neg e, ← hfj _ hj]
    · rw [List.getElem?_eq_none (by rw [hlen]; simpa using hj), List.getElem?_eq_none (by rw [List.length_set, hlen]; exact hj)]
  refine H.turn rfl rfl rfl fun h hP hs => ?_
  obtain ⟨hl, ⟨he, _⟩ | ⟨g', off', cap', cur, he, hg, h3, h4, h5, h6⟩⟩ := hP
  · cases he
  · injection he with ha _ hc
    injection ha with ha
    injection ha with hb ho
    subst hb; subst ho; subst hc
    rw [hE] at hl h5
    rw [Nat.mul_one] at hl h5
    have hw := hs _ _ hg
    refine ⟨fun k => if k = g then some (.cells (cur.setIfInBounds (off + i) u) t (0, 0)) else none, ⟨by rw [flat_length], .inr ⟨g, off, c, cur.setIfInBounds (off + i) u, by rw [List.length_set], by simp, by rw [List.length_set]; exact h3, h4, by rw [hE, Nat.mul_one]; simpa using h5, ?_⟩⟩, ?_, ?_, ?_⟩
    · intro j y hy
      rw [hfl, List.getElem?_set] at hy
      rw [Array.getElem?_setIfInBounds]
      by_cases e : i = j
      · subst e
        rw [if_pos rfl, if_pos (by omega)] at hy
        rw [if_pos rfl, if_pos (by omega)]
        exact hy
      · rw [if_neg e] at hy
        rw [if_neg (by omega)]
        exact h6 j y hy
    · intro k o hk
      by_cases e : k = g
      · subst e
        simp at hk
        subst hk
        simp [World.setCell, Array.getElem?_modify, hw]
      · simp [e] at hk
    · intro k hk
      by_cases e : k = g
      · subst e; left; rw [hg]; simp
      · simp [e] at hk
    · intro k hk hn
      have e : k ≠ g := fun e => by subst e; rw [hg] at hn; cases hn
      simp [World.setCell, Array.getElem?_modify, Ne.symm e]
theorem Hs.ls_frozen {g off : Nat} (H : Hs w0 w (Ls E t (.slice (some ⟨g, off, none⟩) n c) xs :: R)) (j : Nat) : w.frozen? ⟨g, j, none⟩ = false := by
  obtain ⟨h, hs, hl, ⟨he, _⟩ | ⟨g', off', cap', cur, he, hg, _⟩⟩ := H.get
  · cases he
  · injection he with ha _ hc
    injection ha with ha
    injection ha with hb ho
    subst hb
    simp [World.frozen?, hs _ _ hg]
theorem Hs.cellOf {b : Nat} {cs : Array Value} {t : TypeId} {fr : Nat × Nat} {w0 w : World} {R : List HP} (H : Hs w0 w (Blk b (.cells cs t fr) :: R)) (i : Nat) {v : Value} (h : cs[i]? = some v) : w.cell? ⟨b, i, none⟩ = some v := by
  rw [cell_of_row _ _ _ _ _ _ H.blk]; exact h
theorem Hs.frozenOf {b : Nat} {cs : Array Value} {t : TypeId} {w0 w : World} {R : List HP} (H : Hs w0 w (Blk b (.cells cs t (0, 0)) :: R)) (i : Nat) : w.frozen? ⟨b, i, none⟩ = false := by
  simp [World.frozen?, H.blk]
end
theorem Hs.alloc_under {w0 w : World} {A : HP} {R : List HP} {o : Obj} (H : Hs w0 w (A :: R)) : Hs w0 (w.alloc o) (A :: Blk w.heap.size o :: R) := (H.alloc o).at1
theorem RdL.of_blk {α : Type} {E : Enc α} {w0 w : World} {b : Nat} {y : α} {t : TypeId} {fr : Nat × Nat} {R : List HP} (H : Hs w0 w (Blk b (.cells (E.enc y).toArray t fr) :: R)) : RdL E w (.slice (some ⟨b, 0, none⟩) 1 1) [y] := by
  unfold RdL
  rw [flat_one]
  refine ⟨_, _, rfl, by simp [maxLen], Nat.le_refl _, by unfold maxLen; omega, fun h => (by cases h), fun _ a ha => ?_⟩
  injection ha with ha
  subst ha
  refine ⟨rfl, fun j u hu => ?_⟩
  rw [cell_of_row _ _ _ _ _ _ H.blk]
  simpa using hu
/-- s[1:]. -/
theorem cut_tail (P : Program) (T t : TypeId) (sz : Nat) (ht : P.underlying T = some (.slice t)) (hi : (P.info? t).map (·.size) = some sz) (A : Option Addr) (m c : Nat) :
    ∃ A2, Hid (A2 = if c = 1 then A else A.map (·.add (1 * sz))) ∧ ∀ (W : World) (kl : IntKind), (Instr.slice T (.slice A (m + 1) c) (some (.int kl 1)) none none).run P W = .ok (.slice A2 m (c - 1)) W := by
  obtain ⟨A2, h, hc⟩ := cut_drop P T t sz ht hi A (m + 1) c 1 (by omega)
  exact ⟨A2, h, fun W kl => by have := hc W kl; rwa [Nat.add_sub_cancel] at this⟩
theorem Hs.ls_tail {α : Type} {E : Enc α} {w0 w : World} {t : TypeId} {x : α} {xs : List α} {R : List HP} {A A2 : Option Addr} {n m c sz : Nat} (H : Hs w0 w (Ls E t (.slice A n c) (x :: xs) :: R)) (hn : n = m + 1) (hsz : E.sz = sz) (h : Hid (A2 = if c = 1 then A else A.map (·.add (1 * sz)))) : Hs w0 w (Ls E t (.slice A2 m (c - 1)) xs :: R) := by
  subst hn; subst hsz
  have H' := H.ls_drop 1 (by omega)
  rw [← h.out, Nat.add_sub_cancel] at H'
  exact H'
theorem tmod_up (i n : Int) (hn : 0 < n) (h : i.tmod n < 0) : i.tmod n + n = i % n := by
  have e := Int.tmod_add_mul_tdiv i n
  have lo := Int.lt_tmod_of_pos i hn
  have : i % n = (i.tmod n + n) % n := by
    rw [Int.add_emod_right]
    conv => lhs; rw [← e]
    rw [Int.add_mul_emod_self_left]
  rw [this, Int.emod_eq_of_lt (by omega) (by omega)]
theorem tmod_in (i n : Int) (hn : 0 < n) (h : 0 ≤ i.tmod n) : i.tmod n = i % n := by
  have e := Int.tmod_add_mul_tdiv i n
  have hi := Int.tmod_lt_of_pos i hn
  have : i % n = (i.tmod n) % n := by
    conv => lhs; rw [← e]
    rw [Int.add_mul_emod_self_left]
  rw [this, Int.emod_eq_of_lt (by omega) (by omega)]
theorem lt_of_cell {w : World} {a : Addr} {v : Value} (h : w.cell? a = some v) : a.block < w.heap.size := by
  by_cases hn : a.block < w.heap.size
  · exact hn
  · have h0 : w.heap[a.block]? = none := Array.getElem?_eq_none (by omega)
    simp [World.cell?, h0] at h
end Go.Proofs.Ytlpcofjmleghdaa

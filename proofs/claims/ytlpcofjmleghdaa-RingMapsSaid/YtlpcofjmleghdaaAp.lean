/-
  What append, clear and a slice's cuts do to rows that are owned ('Sl').
-/
import Derived.Test.YtlpcofjmleghdaaSl
import Derived.Laws.MakeOwn
import Derived.Lib.SliceRun
import Derived.Deep.RegionLaw
set_option linter.unusedVariables false
set_option linter.unusedSimpArgs false
namespace Go.Proofs.Ytlpcofjmleghdaa
open Go.RowKit
section
variable {w0 w w' : World} {t : TypeId} {sz n : Nat} {v : Value} {xs : List Value} {R : List HP}

theorem add_at (a : Addr) (hs : a.spot = none) (j : Nat) : a.add j = ⟨a.block, a.off + j, none⟩ := by
  obtain ⟨b, o, s⟩ := a
  simp only at hs
  subst hs
  unfold Addr.add
  split <;> simp_all

/-- A stretch of cells is written over. -/
def lay (l : List Value) (o : Nat) (news : List Value) : List Value := l.take o ++ news ++ l.drop (o + news.length)
theorem lay_length (l : List Value) (o : Nat) (news : List Value) (h : o + news.length ≤ l.length) : (lay l o news).length = l.length := by
  simp [lay]; omega
theorem lay_in (l : List Value) (o : Nat) (news : List Value) (h : o + news.length ≤ l.length) (j : Nat) (hj : j < news.length) : (lay l o news)[o + j]? = news[j]? := by
  unfold lay
  rw [List.append_assoc, List.getElem?_append_right (by simp; omega)]
  have : o + j - (l.take o).length = j := by simp; omega
  rw [this, List.getElem?_append_left hj]
theorem lay_out (l : List Value) (o : Nat) (news : List Value) (h : o + news.length ≤ l.length) (j : Nat) (hj : j < o ∨ o + news.length ≤ j) : (lay l o news)[j]? = l[j]? := by
  unfold lay
  rcases hj with hj | hj
  · rw [List.append_assoc, List.getElem?_append_left (by simp; omega), List.getElem?_take, if_pos hj]
  · rw [List.getElem?_append_right (by simp; omega), List.getElem?_drop]
    congr 1
    simp
    omega

section
variable {P : Program}
/-- append(v, src...): v a row that is owned, src whatever is read. -/
theorem run_append_sl (H : Hs w0 w (Sl t sz v n xs :: R)) (T ty : TypeId) (i : TypeInfo) (z : Value) (bytes : Nat) (ht : P.underlying T = some (.slice t)) (hi : P.info? t = some i) (hz : i.zero = some z)
    (hsize : i.size = sz) (hby : i.bytes = bytes) (hzs : z.cells.size = sz) (hsz : 0 < sz)
    (src : Value) (m : Nat) (news : List Value) (hl : news.length = m * sz) (hr : Rd w src m news) (h1 : ∀ u ∈ news, u.oneCell' = true) (hb : (n + m) * bytes ≤ 140737488355328) (hb0 : 0 < bytes) :
    ∃ A cap w', (Builtin.append_ #[T, T] ty #[v, src]).run P w = .ok (.slice A (n + m) cap) w' ∧ Hs w0 w' (Sl t sz (.slice A (n + m) cap) (n + m) (xs ++ news) :: R) ∧ (∀ A0 c0, v = .slice A0 n c0 → n + m ≤ c0 → A = A0 ∧ cap = c0) := by
  subst hsize
  subst hby
  obtain ⟨As, cs, rfl, hm1, hm2, hm3, hnone, hsome⟩ := hr
  have hsmall : n + m ≤ 140737488355328 := Nat.le_trans (Nat.le_mul_of_pos_right _ hb0) hb
  have h63 : n + m ≤ maxLen := by unfold maxLen; omega
  have hlen : (xs ++ news).length = (n + m) * i.size := by rw [List.length_append, H.sl_len, hl, Nat.add_mul]
  -- nothing is appended
  rcases Nat.eq_zero_or_pos m with h0 | h0
  · subst h0
    have hnn : news = [] := List.eq_nil_of_length_eq_zero (by simpa using hl)
    subst hnn
    obtain ⟨A, c, rfl⟩ := H.sl_form
    refine ⟨A, c, w, ?_, by simpa using H, fun A0 c0 he _ => by injection he with h1 _ h3; exact ⟨h1, h3⟩⟩
    obtain ⟨h, hs, _, ⟨he, rfl⟩ | ⟨g, off, cap, cur, he, hg, hnc, hcm, hfit, hcell⟩⟩ := H.get
    · injection he with h1 h2 h3; subst h1; subst h3
      cases As <;> simp [Builtin.append_, run_underlying ht, sizeOf, typeInfo, hi, Builtin.lenOf, Builtin.firstCells, loadCells, loadCellsFrom]
    · injection he with h1 h2 h3; subst h1; subst h3
      cases As <;> simp [Builtin.append_, run_underlying ht, sizeOf, typeInfo, hi, Builtin.lenOf, Builtin.firstCells, loadCells, loadCellsFrom, hnc, storeCells]
  · have hA : ∃ a, As = some a := by
      cases As with
      | none => have := (hnone rfl).1; omega
      | some a => exact ⟨a, rfl⟩
    obtain ⟨a, rfl⟩ := hA
    obtain ⟨hspot, hcells⟩ := hsome h0 a rfl
    have hnews : ∀ j u, news[j]? = some u → w.cell? (a.add j) = some u := fun j u hu => by rw [add_at a hspot]; exact hcells j u hu
    -- a new block
    have grown : ∀ (old : Nat), old < n + m →
        Hs w0 (w.drew.alloc (.cells (xs.toArray ++ news.toArray ++ Builtin.zeroCells z.cells (grownCap w (n + m) old t - (n + m))) t))
          (Sl t i.size (.slice (some ⟨w.heap.size, 0, none⟩) (n + m) (grownCap w (n + m) old t)) (n + m) (xs ++ news) :: R) := by
      intro old ho
      have hge := grownCap_ge w (n + m) old t
      have hcm : grownCap w (n + m) old t ≤ maxLen := grownCap_le_maxLen w (n + m) old t h63
      refine ((H.tail.drew).alloc _).mono fun h hb => ?_
      refine ⟨hlen, .inr ⟨w.heap.size, 0, _, _, rfl, hb, hge, hcm, ?_, ?_⟩⟩
      · simp only [Array.size_append, List.size_toArray, size_zeroCells, hzs, H.sl_len, hl, ← Nat.add_mul]
        rw [Nat.zero_add]
        exact Nat.mul_le_mul_right _ (by omega)
      · intro j u hu
        have hj := (List.getElem?_eq_some_iff.1 hu).1
        have : (xs.toArray ++ news.toArray)[j]? = some u := by
          rw [List.append_toArray]
          simpa using hu
        rw [Nat.zero_add, Array.getElem?_append_left (by simp at hj ⊢; omega)]
        exact this
    obtain ⟨h, hs, hxl, ⟨rfl, rfl⟩ | ⟨g, off, cap, cur, rfl, hg, hnc, hcm, hfit, hcell⟩⟩ := H.get
    · have hx : xs = [] := List.eq_nil_of_length_eq_zero (by simpa using hxl)
      subst hx
      have hr := run_append_nil (P := P) w T ty t i z ht hi hz a m cs news hl hnews h0 (by omega) (by have := hb; simp only [Nat.zero_add] at this; omega)
      have hgr := grown 0 (by omega)
      simp only [Nat.zero_add, List.nil_append, Array.empty_append] at hgr ⊢
      exact ⟨_, _, _, hr, by simpa using hgr, fun A0 c0 he hle => by injection he with _ _ h3; omega⟩
    · by_cases hroom : n + m ≤ cap
      · have hwg := hs g _ hg
        have hf := run_firstCells_some (P := P) w i.size m a m cs news hl hnews
        have hstretch : off + n * i.size + news.length ≤ cur.size := by
          rw [hl, Nat.add_assoc, ← Nat.add_mul]
          exact Nat.le_trans (Nat.add_le_add_left (Nat.mul_le_mul_right _ hroom) _) hfit
        have hst := run_storeCells_at P g (off + n * i.size) t news 0 cur w hwg (by simpa using hstretch) h1
        simp only [Nat.add_zero] at hst
        refine ⟨some ⟨g, off, none⟩, cap, w.setRow g (lay cur.toList (off + n * i.size) news).toArray, ?_, ?_, fun A0 c0 he _ => by injection he with h1 _ h3; exact ⟨h1, h3⟩⟩
        · have ha : (⟨g, off, none⟩ : Addr).add (n * i.size) = ⟨g, off + n * i.size, none⟩ := add_at _ rfl _
          simp [Builtin.append_, run_underlying ht, sizeOf, typeInfo, hi, Builtin.lenOf, hroom, hf, ha, hst, lay]
        · have hlt : g < w.heap.size := (Array.getElem?_eq_some_iff.1 hwg).1
          refine H.turn rfl rfl rfl fun h2 hP hs2 => ?_
          have hg2 : h2 g ≠ none := by
            obtain ⟨_, ⟨he, _⟩ | ⟨g', off', cap', cur', he, hg', _⟩⟩ := hP
            · cases he
            · injection he with he _; injection he with he; injection he with he; subst he
              rw [hg']; simp
          have hsz : (lay cur.toList (off + n * i.size) news).length = cur.size := by rw [lay_length _ _ _ (by simpa using hstretch)]; simp
          refine ⟨fun k => if k = g then some (.cells (lay cur.toList (off + n * i.size) news).toArray t (0, 0)) else none, ⟨hlen, .inr ⟨g, off, cap, (lay cur.toList (off + n * i.size) news).toArray, rfl, by simp, hroom, hcm, ?_, ?_⟩⟩, ?_, ?_, ?_⟩
          · rw [List.size_toArray, hsz]; exact hfit
          · intro j u hu
            rw [List.getElem?_toArray]
            rcases Nat.lt_or_ge j xs.length with hj | hj
            · rw [List.getElem?_append_left hj] at hu
              rw [lay_out _ _ _ (by simpa using hstretch) _ (.inl (by omega)), Array.getElem?_toList]
              exact hcell j u hu
            · rw [List.getElem?_append_right hj] at hu
              have hj2 := (List.getElem?_eq_some_iff.1 hu).1
              have he : off + j = off + n * i.size + (j - xs.length) := by omega
              rw [he, lay_in _ _ _ (by simpa using hstretch) _ hj2]
              exact hu
          · intro k o hk
            by_cases e : k = g
            · subst e
              simp at hk
              subst hk
              exact setRow_heap w k cur _ t (0, 0) hwg
            · simp [e] at hk
          · intro k hk
            by_cases e : k = g
            · subst e; exact .inl hg2
            · simp [e] at hk
          · intro k _ hk
            refine setRow_other w g k _ fun e => ?_
            subst e
            exact hg2 hk
      · have hcells0 : ∀ j u, xs[j]? = some u → w.cell? ((⟨g, off, none⟩ : Addr).add j) = some u := fun j u hu => by
          rw [add_at _ rfl, cell_of_row w g (off + j) cur t (0, 0) (hs _ _ hg)]
          exact hcell j u hu
        have hr := run_append_grow (P := P) w T ty t i z ht hi hz ⟨g, off, none⟩ n cap xs hxl hcells0 a m cs news hl hnews (by omega) (by omega) (growslice_fits (by omega) hb)
        exact ⟨_, _, _, hr, grown cap (by omega), fun A0 c0 he hle => by injection he with _ _ h3; omega⟩
theorem Rd.box (w : World) (ys : List Value) (m : Nat) (hm : m ≤ 9) : Rd (w.alloc (.cells ys.toArray t)) (.slice (some ⟨w.heap.size, 0, none⟩) m m) m ys := by
  refine ⟨_, _, rfl, by unfold maxLen; omega, Nat.le_refl _, by unfold maxLen; omega, fun h => (by cases h), fun _ a ha => ?_⟩
  injection ha with ha
  subst ha
  refine ⟨rfl, fun j u hu => ?_⟩
  rw [cell_of_row _ _ _ _ _ _ (heap_alloc_new w _)]
  simpa using hu
theorem wp_append_sl {o : Oper} {a : Act} {K : Act → World → Prop} {Q : Exit → Act → World → Prop} (s x : Operand) (T : TypeId)
    (ho : o.op = .call { callee := .builtin .append, args := #[s, x], argTypes := #[T, T] })
    (t : TypeId) (z : Value) (sz bytes : Nat) (ht : P.underlying T = some (.slice t)) (hi : (P.info? t).map (fun i => (i.zero, i.size, i.bytes)) = some (some z, sz, bytes)) (hzs : z.cells.size = sz) (hsz : 0 < sz) (hb0 : 0 < bytes)
    (hs : a.eval s = v) (src : Value) (hx : a.eval x = src) (H : Hs w0 w (Sl t sz v n xs :: R)) (m : Nat) (news : List Value) (hl : news.length = m * sz) (hr : Rd w src m news) (h1 : ∀ u ∈ news, u.oneCell' = true) (hb : (n + m) * bytes ≤ 140737488355328)
    (h : ∀ A cap w', Hs w0 w' (Sl t sz (.slice A (n + m) cap) (n + m) (xs ++ news) :: R) → (∀ A0 c0, v = .slice A0 n c0 → n + m ≤ c0 → A = A0 ∧ cap = c0) → K (a.put o.dst (.slice A (n + m) cap)) w') : o.wp P a w K Q := by
  obtain ⟨i, hi0, hh⟩ := Option.map_eq_some_iff.1 hi
  simp only [Prod.mk.injEq] at hh
  obtain ⟨hz, hz1, hz2⟩ := hh
  obtain ⟨A, cap, w', hrun, H', hin⟩ := run_append_sl (P := P) H T o.type i z bytes ht hi0 hz hz1 hz2 hzs hsz src m news hl hr h1 hb hb0
  unfold Oper.wp execOp
  simp only [ho, resolve, invoke, builtin, Sem.run_bind, Sem.run_pure, Result.andThen_ok, List.map_toArray, List.map_cons, List.map_nil, hs, hx, hrun]
  exact h _ _ _ H' hin
theorem wpList_append_sl {ops : Array Oper} {rest : List Oper} {o : Oper} {a : Act} {Q : Exit → Act → World → Prop} (hgd : o.guard = none) (s x : Operand) (T : TypeId)
    (ho : o.op = .call { callee := .builtin .append, args := #[s, x], argTypes := #[T, T] })
    (t : TypeId) (z : Value) (sz bytes : Nat) (ht : P.underlying T = some (.slice t)) (hi : (P.info? t).map (fun i => (i.zero, i.size, i.bytes)) = some (some z, sz, bytes)) (hzs : z.cells.size = sz) (hsz : 0 < sz) (hb0 : 0 < bytes)
    (hs : a.eval s = v) (src : Value) (hx : a.eval x = src) (H : Hs w0 w (Sl t sz v n xs :: R)) (m : Nat) (news : List Value) (hl : news.length = m * sz) (hr : Rd w src m news) (h1 : ∀ u ∈ news, u.oneCell' = true) (hb : (n + m) * bytes ≤ 140737488355328)
    (h : ∀ A cap w', Hs w0 w' (Sl t sz (.slice A (n + m) cap) (n + m) (xs ++ news) :: R) → (∀ A0 c0, v = .slice A0 n c0 → n + m ≤ c0 → A = A0 ∧ cap = c0) → wpList P ops Q rest (a.put o.dst (.slice A (n + m) cap)) w') : wpList P ops Q (o :: rest) a w :=
  wpList_plain hgd fun _ hK => wp_append_sl s x T ho t z sz bytes ht hi hzs hsz hb0 hs src hx H m news hl hr h1 hb fun A cap w' H' hin => hK _ _ (h A cap w' H' hin)
/-- append(v, y): behind the box of y. -/
theorem wpList_append1 {ops : Array Oper} {rest : List Oper} {o : Oper} {a : Act} {Q : Exit → Act → World → Prop} (hgd : o.guard = none) (s x : Operand) (T : TypeId)
    (ho : o.op = .call { callee := .builtin .append, args := #[s, x], argTypes := #[T, T] })
    (t : TypeId) (z : Value) (sz bytes : Nat) (ht : P.underlying T = some (.slice t)) (hi : (P.info? t).map (fun i => (i.zero, i.size, i.bytes)) = some (some z, sz, bytes)) (hzs : z.cells.size = sz) (hsz : 0 < sz) (hb0 : 0 < bytes)
    (hs : a.eval s = v) (hx : a.eval x = .slice (some ⟨w.heap.size, 0, none⟩) 1 1) (H : Hs w0 w (Sl t sz v n xs :: R)) (ys : List Value) (hl : ys.length = sz) (h1 : ∀ u ∈ ys, u.oneCell' = true) (hb : (n + 1) * bytes ≤ 140737488355328)
    (h : ∀ A cap w', Hs w0 w' (Sl t sz (.slice A (n + 1) cap) (n + 1) (xs ++ ys) :: R) → wpList P ops Q rest (a.put o.dst (.slice A (n + 1) cap)) w') : wpList P ops Q (o :: rest) a (w.alloc (.cells ys.toArray t)) :=
  wpList_append_sl hgd s x T ho t z sz bytes ht hi hzs hsz hb0 hs _ hx (H.alloc_ _) 1 ys (by omega) (Rd.box w ys 1 (by omega)) h1 hb fun A cap w' H' _ => h A cap w' H'
theorem step_append_sl {ops : Array Oper} {o : Oper} {a : Act} {K : Act → World → Prop} {Q : Exit → Act → World → Prop} {E : Prop} (hgd : o.guard = none) (s x : Operand) (T : TypeId)
    (ho : o.op = .call { callee := .builtin .append, args := #[s, x], argTypes := #[T, T] })
    (t : TypeId) (z : Value) (sz bytes : Nat) (ht : P.underlying T = some (.slice t)) (hi : (P.info? t).map (fun i => (i.zero, i.size, i.bytes)) = some (some z, sz, bytes)) (hzs : z.cells.size = sz) (hsz : 0 < sz) (hb0 : 0 < bytes)
    (hs : a.eval s = v) (src : Value) (hx : a.eval x = src) (H : Hs w0 w (Sl t sz v n xs :: R)) (m : Nat) (news : List Value) (hl : news.length = m * sz) (hr : Rd w src m news) (h1 : ∀ u ∈ news, u.oneCell' = true) (hb : (n + m) * bytes ≤ 140737488355328)
    (h : ∀ A cap w', Hs w0 w' (Sl t sz (.slice A (n + m) cap) (n + m) (xs ++ news) :: R) → (∀ A0 c0, v = .slice A0 n c0 → n + m ≤ c0 → A = A0 ∧ cap = c0) → K (a.put o.dst (.slice A (n + m) cap)) w') :
    if Region.wanted o (yielded ops a.tmps) = true then Oper.wp P o a w K Q else E := by
  rw [if_pos (by simp [Region.wanted, hgd])]
  exact wp_append_sl s x T ho t z sz bytes ht hi hzs hsz hb0 hs src hx H m news hl hr h1 hb h

/-! ### Cuts -/
/-- s[:k]. -/
theorem Hs.sl_take {A : Option Addr} {c : Nat} (H : Hs w0 w (Sl t sz (.slice A n c) n xs :: R)) (k : Nat) (hk : k ≤ n) : Hs w0 w (Sl t sz (.slice A k c) k (xs.take (k * sz)) :: R) := by
  refine H.mono fun h hh => ?_
  obtain ⟨hl, ⟨he, hn⟩ | ⟨g, off, cap, cur, he, hg, h1, h2, h3, h4⟩⟩ := hh
  · injection he with ha _ hc
    subst ha; subst hc
    obtain rfl : k = 0 := by omega
    exact ⟨by simp, .inl ⟨rfl, rfl⟩⟩
  · injection he with ha _ hc
    subst ha; subst hc
    refine ⟨?_, .inr ⟨g, off, c, cur, rfl, hg, by omega, h2, h3, fun j u hu => ?_⟩⟩
    · rw [List.length_take, hl]
      exact Nat.min_eq_left (Nat.mul_le_mul_right _ hk)
    · rw [List.getElem?_take] at hu
      split at hu
      · exact h4 j u hu
      · cases hu
/-- s[k:]. -/
theorem Hs.sl_drop {A : Option Addr} {c : Nat} (H : Hs w0 w (Sl t sz (.slice A n c) n xs :: R)) (k : Nat) (hk : k ≤ n) :
    Hs w0 w (Sl t sz (.slice (if c = k then A else A.map (·.add (k * sz))) (n - k) (c - k)) (n - k) (xs.drop (k * sz)) :: R) := by
  refine H.mono fun h hh => ?_
  obtain ⟨hl, ⟨he, hn⟩ | ⟨g, off, cap, cur, he, hg, h1, h2, h3, h4⟩⟩ := hh
  · injection he with ha _ hc
    subst ha; subst hc
    obtain rfl : k = 0 := by omega
    exact ⟨by simp; exact hl, .inl ⟨by simp [hn], by omega⟩⟩
  · injection he with ha _ hc
    subst ha; subst hc
    refine ⟨by rw [List.length_drop, hl, Nat.sub_mul], .inr ⟨g, if c = k then off else off + k * sz, c - k, cur, ?_, hg, by omega, by omega, ?_, fun j u hu => ?_⟩⟩
    · split
      · rfl
      · simp [add_at]
    · split
      · subst c
        rw [Nat.sub_self, Nat.zero_mul]
        omega
      · rw [Nat.add_assoc, ← Nat.add_mul]
        rw [show k + (c - k) = c by omega]
        exact h3
    · rw [List.getElem?_drop] at hu
      have hj := (List.getElem?_eq_some_iff.1 hu).1
      split
      · rename_i hck
        exfalso
        have : n = k := by omega
        subst this
        omega
      · rw [Nat.add_assoc]
        exact h4 _ u hu
theorem Rd.drop {A : Option Addr} {c : Nat} (H : Rd w (.slice A n c) n xs) (hl : xs.length = n * sz) (k : Nat) (hk : k ≤ n) :
    Rd w (.slice (if c = k then A else A.map (·.add (k * sz))) (n - k) (c - k)) (n - k) (xs.drop (k * sz)) := by
  obtain ⟨A1, c1, he, h1, h2, h3, h4, h5⟩ := H
  injection he with ha _ hc
  subst ha; subst hc
  refine ⟨_, _, rfl, by omega, by omega, by omega, fun h => ?_, fun hpos a ha => ?_⟩
  · split at h
    · have := h4 h; omega
    · cases A with
      | none => have := h4 rfl; omega
      | some a => simp at h
  · split at ha
    · obtain ⟨hs, hcell⟩ := h5 (by omega) a ha
      refine ⟨hs, fun j u hu => ?_⟩
      rw [List.getElem?_drop] at hu
      have hj := (List.getElem?_eq_some_iff.1 hu).1
      have : n = k := by omega
      subst this
      omega
    · cases A with
      | none => simp at ha
      | some a0 =>
        simp at ha
        subst ha
        obtain ⟨hs, hcell⟩ := h5 (by omega) a0 rfl
        rw [add_at a0 hs]
        refine ⟨rfl, fun j u hu => ?_⟩
        rw [List.getElem?_drop] at hu
        rw [Nat.add_assoc]
        exact hcell _ u hu
theorem Rd.take {A : Option Addr} {c : Nat} (H : Rd w (.slice A n c) n xs) (k : Nat) (hk : k ≤ n) : Rd w (.slice A k c) k (xs.take (k * sz)) := by
  obtain ⟨A1, c1, he, h1, h2, h3, h4, h5⟩ := H
  injection he with ha _ hc
  subst ha; subst hc
  refine ⟨_, _, rfl, by omega, by omega, by omega, fun h => (by have := h4 h; omega), fun hpos a ha => ?_⟩
  obtain ⟨hs, hcell⟩ := h5 (by omega) a ha
  refine ⟨hs, fun j u hu => ?_⟩
  rw [List.getElem?_take] at hu
  split at hu
  · exact hcell j u hu
  · cases hu
/-- clear(s[n:n+k]), n + k within s's room: nothing of s turns. -/
theorem run_clear_spare {A : Option Addr} {c : Nat} (H : Hs w0 w (Sl t sz (.slice A n c) n xs :: R)) (T ty : TypeId) (z : Value) (ht : P.underlying T = some (.slice t)) (hz : ∀ w, (zeroValue t).run P w = .ok z w) (hzs : z.cells.size = sz) (h1 : ∀ u ∈ z.cells.toList, u.oneCell' = true)
    (k : Nat) (hk : n + k ≤ c) : ∃ w', (Builtin.clear_ #[T] ty #[.slice (if c = n then A else A.map (·.add (n * sz))) k (c - n)]).run P w = .ok (.tuple #[]) w' ∧ Hs w0 w' (Sl t sz (.slice A n c) n xs :: R) := by
  rcases Nat.eq_zero_or_pos k with h0 | h0
  · subst h0
    refine ⟨w, ?_, H⟩
    cases (if c = n then A else A.map (·.add (n * sz))) <;> simp [Builtin.clear_, run_underlying ht]
  · obtain ⟨h, hs, hxl, ⟨he, hn⟩ | ⟨g, off, cap, cur, he, hg, hnc, hcm, hfit, hcell⟩⟩ := H.get
    · injection he with ha _ hc
      omega
    · injection he with ha _ hc
      subst ha; subst hc
      have hwg := hs g _ hg
      have hlt : g < w.heap.size := (Array.getElem?_eq_some_iff.1 hwg).1
      have hne : ¬ c = n := by omega
      have hzl : (Builtin.zeroCells z.cells k).toList.length = k * sz := by rw [Array.length_toList, size_zeroCells, hzs]
      have hstretch : off + n * sz + (Builtin.zeroCells z.cells k).toList.length ≤ cur.size := by
        rw [hzl, Nat.add_assoc, ← Nat.add_mul]
        exact Nat.le_trans (Nat.add_le_add_left (Nat.mul_le_mul_right _ hk) _) hfit
      have hone : ∀ v ∈ (Builtin.zeroCells z.cells k).toList, v.oneCell' = true := by
        intro v hv
        simp only [Builtin.zeroCells, Array.toList_map, List.mem_map, Array.toList_range, List.mem_range] at hv
        obtain ⟨q, hq, rfl⟩ := hv
        have hpos : 0 < z.cells.size := by
          rcases Nat.eq_zero_or_pos z.cells.size with e | e
          · rw [e, Nat.mul_zero] at hq; omega
          · exact e
        rw [getElem!_pos z.cells _ (Nat.mod_lt _ hpos)]
        exact h1 _ (by simp)
      have hst := run_storeCells_at P g (off + n * sz) t (Builtin.zeroCells z.cells k).toList 0 cur w hwg (by simpa using hstretch) hone
      simp only [Nat.add_zero] at hst
      refine ⟨w.setRow g (lay cur.toList (off + n * sz) (Builtin.zeroCells z.cells k).toList).toArray, ?_, ?_⟩
      · rw [if_neg hne]
        have ha : (⟨g, off, none⟩ : Addr).add (n * sz) = ⟨g, off + n * sz, none⟩ := add_at _ rfl _
        obtain ⟨m, rfl⟩ : ∃ m, k = m + 1 := ⟨k - 1, by omega⟩
        simp only [Option.map_some, ha]
        simp [Builtin.clear_, run_underlying ht, hz, hst, lay]
      · refine H.turn rfl rfl rfl fun h2 hP hs2 => ?_
        have hg2 : h2 g ≠ none := by
          obtain ⟨_, ⟨he, _⟩ | ⟨g', off', cap', cur', he, hg', _⟩⟩ := hP
          · cases he
          · injection he with he _; injection he with he; injection he with he; subst he
            rw [hg']; simp
        have hsz : (lay cur.toList (off + n * sz) (Builtin.zeroCells z.cells k).toList).length = cur.size := by rw [lay_length _ _ _ (by simpa using hstretch)]; simp
        refine ⟨fun k' => if k' = g then some (.cells (lay cur.toList (off + n * sz) (Builtin.zeroCells z.cells k).toList).toArray t (0, 0)) else none, ⟨hxl, .inr ⟨g, off, c, (lay cur.toList (off + n * sz) (Builtin.zeroCells z.cells k).toList).toArray, rfl, by simp, hnc, hcm, ?_, ?_⟩⟩, ?_, ?_, ?_⟩
        · rw [List.size_toArray, hsz]; exact hfit
        · intro j u hu
          have hj := (List.getElem?_eq_some_iff.1 hu).1
          rw [List.getElem?_toArray, lay_out _ _ _ (by simpa using hstretch) _ (.inl (by omega)), Array.getElem?_toList]
          exact hcell j u hu
        · intro k' o hk'
          by_cases e : k' = g
          · subst e
            simp at hk'
            subst hk'
            exact setRow_heap w k' cur _ t (0, 0) hwg
          · simp [e] at hk'
        · intro k' hk'
          by_cases e : k' = g
          · subst e; exact .inl hg2
          · simp [e] at hk'
        · intro k' _ hk'
          refine setRow_other w g k' _ fun e => ?_
          subst e
          exact hg2 hk'
/-- s[k:], the address behind a letter. -/
theorem cut_drop (P : Program) (T t : TypeId) (sz : Nat) (ht : P.underlying T = some (.slice t)) (hi : (P.info? t).map (·.size) = some sz) (A : Option Addr) (n c k : Nat) (hk : k ≤ n) :
    ∃ A2, Hid (A2 = if c = k then A else A.map (·.add (k * sz))) ∧ ∀ (W : World) (kl : IntKind), (Instr.slice T (.slice A n c) (some (.int kl (k : Int))) none none).run P W = .ok (.slice A2 (n - k) (c - k)) W := by
  refine ⟨_, rfl, fun W kl => ?_⟩
  obtain ⟨i, hi0, hs⟩ := Option.map_eq_some_iff.1 hi
  have hel : P.elem T = t := by simp [Program.elem, ht]
  have hu : P.underlying T = some (.slice (P.elem T)) := by rw [hel]; exact ht
  rw [run_slice_l W T A n c hu kl (k : Int) (Int.natCast_nonneg _) (by omega), hel]
  simp [sizeOf, typeInfo, hi0, hs, sliced, Result.andThen]
/-- s[n:m], n its length, m within its room. -/
theorem cut_spare (P : Program) (T t : TypeId) (sz : Nat) (ht : P.underlying T = some (.slice t)) (hi : (P.info? t).map (·.size) = some sz) (A : Option Addr) (n c m : Nat) (hm : n ≤ m) (hc : m ≤ c) :
    ∃ A2, Hid (A2 = if c = n then A else A.map (·.add (n * sz))) ∧ ∀ (W : World) (kl kh : IntKind), (Instr.slice T (.slice A n c) (some (.int kl (n : Int))) (some (.int kh (m : Int))) none).run P W = .ok (.slice A2 (m - n) (c - n)) W := by
  refine ⟨_, rfl, fun W kl kh => ?_⟩
  obtain ⟨i, hi0, hs⟩ := Option.map_eq_some_iff.1 hi
  have hel : P.elem T = t := by simp [Program.elem, ht]
  have hu : P.underlying T = some (.slice (P.elem T)) := by rw [hel]; exact ht
  simp [Instr.slice, run_underlying hu, Instr.sliceBounds, run_sliceBound, sizeOf, typeInfo, hel, hi0, hs, show (n : Int) ≤ (m : Int) by omega, show (m : Int) ≤ (c : Int) by omega]
end
end
end Go.Proofs.Ytlpcofjmleghdaa

/-
  append(b, s...): a string's bytes behind bytes that are owned (after Ap's law).
-/
import Derived.Test.YtjdkpogkhecijaaSv
import Derived.Lib.AppendStr
set_option linter.unusedVariables false
set_option linter.unusedSimpArgs false
namespace Go.Proofs.Ytjdkpogkhecijaa
open Go.Lib (strCells strCells_length strCells_oneCell run_firstCells_string)
section
variable {P : Program} {w0 w : World} {t : TypeId} {n : Nat} {v : Value} {xs : List Value} {R : List HP}
/-- append(v, s...): v bytes that are owned, s a string. -/
theorem run_append_str (H : Hs w0 w (Sl t 1 v n xs :: R)) (T U ty : TypeId) (i : TypeInfo) (z : Value) (ht : P.underlying T = some (.slice t)) (hu : P.underlying U = some .string) (hi : P.info? t = some i) (hz : i.zero = some z)
    (hsize : i.size = 1) (hby : i.bytes = 1) (hzs : z.cells.size = 1) (s : ByteArray) (hb : n + s.size ≤ 140737488355328) :
    ∃ A cap w', (Builtin.append_ #[T, U] ty #[v, .string s]).run P w = .ok (.slice A (n + s.size) cap) w' ∧ Hs w0 w' (Sl t 1 (.slice A (n + s.size) cap) (n + s.size) (xs ++ strCells s) :: R) := by
  have h63 : n + s.size ≤ maxLen := by unfold maxLen; omega
  obtain ⟨m, hm⟩ : ∃ m, s.size = m := ⟨_, rfl⟩
  have hl : (strCells s).length = m * 1 := by rw [strCells_length, hm]; omega
  have hlen : (xs ++ strCells s).length = (n + m) * 1 := by rw [List.length_append, H.sl_len, hl, Nat.add_mul]
  have hf := run_firstCells_string (P := P) w 1 s
  rcases Nat.eq_zero_or_pos m with h0 | h0
  · subst h0
    have hnn : strCells s = [] := List.eq_nil_of_length_eq_zero (by simpa using hl)
    obtain ⟨A, c, rfl⟩ := H.sl_form
    rw [hm] at hf ⊢
    rw [hnn] at hf ⊢
    refine ⟨A, c, w, ?_, by simpa using H⟩
    obtain ⟨h, hs, _, ⟨he, rfl⟩ | ⟨g, off, cap, cur, he, hg, hnc, hcm, hfit, hcell⟩⟩ := H.get
    · injection he with h1 h2 h3; subst h1; subst h3
      simp [Builtin.append_, run_underlying ht, run_underlying hu, sizeOf, typeInfo, hi, hsize, Builtin.lenOf, hm, hf]
    · injection he with h1 h2 h3; subst h1; subst h3
      simp [Builtin.append_, run_underlying ht, run_underlying hu, sizeOf, typeInfo, hi, hsize, Builtin.lenOf, hm, hf, hnc, storeCells]
  · have grown : ∀ (old : Nat), old < n + m →
        Hs w0 (w.drew.alloc (.cells (xs.toArray ++ (strCells s).toArray ++ Builtin.zeroCells z.cells (grownCap w (n + m) old t - (n + m))) t))
          (Sl t 1 (.slice (some ⟨w.heap.size, 0, none⟩) (n + m) (grownCap w (n + m) old t)) (n + m) (xs ++ strCells s) :: R) := by
      intro old ho
      have hge := grownCap_ge w (n + m) old t
      have hcm : grownCap w (n + m) old t ≤ maxLen := grownCap_le_maxLen w (n + m) old t (by omega)
      refine ((H.tail.drew).alloc _).mono fun h hb => ?_
      refine ⟨hlen, .inr ⟨w.heap.size, 0, _, _, rfl, hb, hge, hcm, ?_, ?_⟩⟩
      · simp only [Array.size_append, List.size_toArray, size_zeroCells, hzs, H.sl_len, hl, ← Nat.add_mul]
        omega
      · intro j u hu
        have hj := (List.getElem?_eq_some_iff.1 hu).1
        have : (xs.toArray ++ (strCells s).toArray)[j]? = some u := by
          rw [List.append_toArray]
          simpa using hu
        rw [Nat.zero_add, Array.getElem?_append_left (by simp at hj ⊢; omega)]
        exact this
    obtain ⟨h, hs, hxl, ⟨rfl, rfl⟩ | ⟨g, off, cap, cur, rfl, hg, hnc, hcm, hfit, hcell⟩⟩ := H.get
    · have hx : xs = [] := List.eq_nil_of_length_eq_zero (by simpa using hxl)
      subst hx
      have hr := run_append_nil_string (P := P) w T U ty t i z ht hu hi hz s (by omega) (by omega) (by rw [hby]; omega)
      have hgr := grown 0 (by omega)
      have hcs : (strCells s).toArray = s.data.map (fun b => Value.int .u8 b.toNat) := by apply Array.ext'; unfold strCells; simp
      rw [hcs] at hgr
      rw [hm] at hr ⊢
      simp only [Nat.zero_add, List.nil_append, Array.empty_append] at hgr ⊢
      exact ⟨_, _, _, hr, by simpa using hgr⟩
    · by_cases hroom : n + m ≤ cap
      · have hwg := hs g _ hg
        have hstretch : off + n + (strCells s).length ≤ cur.size := by rw [hl]; omega
        have hst := run_storeCells_at P g (off + n) t (strCells s) 0 cur w hwg (by simpa using hstretch) (strCells_oneCell s)
        simp only [Nat.add_zero] at hst
        rw [hm]
        refine ⟨some ⟨g, off, none⟩, cap, w.setRow g (lay cur.toList (off + n) (strCells s)).toArray, ?_, ?_⟩
        · have ha : (⟨g, off, none⟩ : Addr).add n = ⟨g, off + n, none⟩ := add_at _ rfl _
          rw [hm] at hf
          simp [Builtin.append_, run_underlying ht, run_underlying hu, sizeOf, typeInfo, hi, hsize, Builtin.lenOf, hm, hroom, hf, ha, hst, lay]
        · have hlt : g < w.heap.size := (Array.getElem?_eq_some_iff.1 hwg).1
          refine H.turn rfl rfl rfl fun h2 hP hs2 => ?_
          have hg2 : h2 g ≠ none := by
            obtain ⟨_, ⟨he, _⟩ | ⟨g', off', cap', cur', he, hg', _⟩⟩ := hP
            · cases he
            · injection he with he _; injection he with he; injection he with he; subst he
              rw [hg']; simp
          have hsz : (lay cur.toList (off + n) (strCells s)).length = cur.size := by rw [lay_length _ _ _ (by simpa using hstretch)]; simp
          refine ⟨fun k => if k = g then some (.cells (lay cur.toList (off + n) (strCells s)).toArray t (0, 0)) else none, ⟨hlen, .inr ⟨g, off, cap, (lay cur.toList (off + n) (strCells s)).toArray, rfl, by simp, hroom, hcm, ?_, ?_⟩⟩, ?_, ?_, ?_⟩
          · rw [List.size_toArray, hsz]; exact hfit
          · intro j u hu
            rw [List.getElem?_toArray]
            rcases Nat.lt_or_ge j xs.length with hj | hj
            · rw [List.getElem?_append_left hj] at hu
              rw [lay_out _ _ _ (by simpa using hstretch) _ (.inl (by omega)), Array.getElem?_toList]
              exact hcell j u hu
            · rw [List.getElem?_append_right hj] at hu
              have hj2 := (List.getElem?_eq_some_iff.1 hu).1
              have he : off + j = off + n + (j - xs.length) := by omega
              rw [he, lay_in _ _ _ (by simpa using hstretch) _ hj2]
              exact hu
          · intro k o hk
            by_cases e : k = g
            · subst e
              simp at hk
              subst hk
              exact setRow_heap w k cur _ t (0, 0) hwg
            · simp [e] at hk
          · intro k hk
            by_cases e : k = g
            · subst e; exact .inl hg2
            · simp [e] at hk
          · intro k _ hk
            refine setRow_other w g k _ fun e => ?_
            subst e
            exact hg2 hk
      · have hcells0 : ∀ j u, xs[j]? = some u → w.cell? ((⟨g, off, none⟩ : Addr).add j) = some u := fun j u hu => by
          rw [add_at _ rfl, cell_of_row w g (off + j) cur t (0, 0) (hs _ _ hg)]
          exact hcell j u hu
        have hr := Go.Lib.run_append_grow_string (P := P) w T U ty t i z ht hu hi hz ⟨g, off, none⟩ n cap xs (by rw [hsize]; exact hxl) hcells0 s (by omega) (by omega) (growslice_fits (by omega) (by rw [hby]; omega))
        rw [hm] at hr ⊢
        exact ⟨_, _, _, hr, grown cap (by omega)⟩
theorem wpList_append_str {ops : Array Oper} {rest : List Oper} {o : Oper} {a : Act} {Q : Exit → Act → World → Prop} (N : Nat) (hgd : o.guard = none) (sl x : Operand) (T U : TypeId)
    (ho : o.op = .call { callee := .builtin .append, args := #[sl, x], argTypes := #[T, U] })
    (t : TypeId) (z : Value) (ht : P.underlying T = some (.slice t)) (hu : P.underlying U = some .string) (hi : (P.info? t).map (fun i => (i.zero, i.size, i.bytes)) = some (some z, 1, 1)) (hzs : z.cells.size = 1)
    (hs : a.eval sl = v) (s : ByteArray) (hx : a.eval x = .string s) {bs : List Int} (H : Hs w0 w (Ls (Enc.num .u8) t v bs :: R)) (hb : N ≤ 140737488355328) (hN : bs.length + s.size = N)
    (h : ∀ A cap w', Hs w0 w' (Ls (Enc.num .u8) t (.slice A N cap) (bs ++ s.data.toList.map fun c => (c.toNat : Int)) :: R) → wpList P ops Q rest (a.put o.dst (.slice A N cap)) w') : wpList P ops Q (o :: rest) a w := by
  subst hN
  refine wpList_plain hgd fun _ hK => ?_
  obtain ⟨i, hi0, hh⟩ := Option.map_eq_some_iff.1 hi
  simp only [Prod.mk.injEq] at hh
  obtain ⟨hz, hz1, hz2⟩ := hh
  obtain ⟨A, cap, w', hrun, H'⟩ := run_append_str (P := P) H T U o.type i z ht hu hi0 hz hz1 hz2 hzs s hb
  unfold Oper.wp execOp
  simp only [ho, resolve, invoke, builtin, Sem.run_bind, Sem.run_pure, Result.andThen_ok, List.map_toArray, List.map_cons, List.map_nil, hs, hx, hrun]
  refine hK _ _ (h A cap w' ?_)
  unfold Ls
  have e : flat (Enc.num .u8) bs ++ strCells s = flat (Enc.num .u8) (bs ++ s.data.toList.map fun c => (c.toNat : Int)) := by
    rw [flat_append]
    congr 1
    unfold strCells flat
    generalize s.data.toList = l
    induction l with
    | nil => rfl
    | cons c r ih => rw [List.map_cons, List.map_cons, List.flatMap_cons, ih]; rfl
  rw [e] at H'
  have el : (bs ++ s.data.toList.map fun c => (c.toNat : Int)).length = bs.length + s.size := by rw [List.length_append, List.length_map, Array.length_toList]; rfl
  rw [el]
  exact H'
theorem step_append_str {ops : Array Oper} {o : Oper} {a : Act} {K : Act → World → Prop} {Q : Exit → Act → World → Prop} {F : Prop} (N : Nat) (hgd : o.guard = none) (sl x : Operand) (T U : TypeId)
    (ho : o.op = .call { callee := .builtin .append, args := #[sl, x], argTypes := #[T, U] })
    (t : TypeId) (z : Value) (ht : P.underlying T = some (.slice t)) (hu : P.underlying U = some .string) (hi : (P.info? t).map (fun i => (i.zero, i.size, i.bytes)) = some (some z, 1, 1)) (hzs : z.cells.size = 1)
    (hs : a.eval sl = v) (s : ByteArray) (hx : a.eval x = .string s) {bs : List Int} (H : Hs w0 w (Ls (Enc.num .u8) t v bs :: R)) (hb : N ≤ 140737488355328) (hN : bs.length + s.size = N)
    (h : ∀ A cap w', Hs w0 w' (Ls (Enc.num .u8) t (.slice A N cap) (bs ++ s.data.toList.map fun c => (c.toNat : Int)) :: R) → K (a.put o.dst (.slice A N cap)) w') :
    if Region.wanted o (yielded ops a.tmps) = true then Oper.wp P o a w K Q else F := by
  subst hN
  rw [if_pos (by simp [Region.wanted, hgd])]
  obtain ⟨i, hi0, hh⟩ := Option.map_eq_some_iff.1 hi
  simp only [Prod.mk.injEq] at hh
  obtain ⟨hz, hz1, hz2⟩ := hh
  obtain ⟨A, cap, w', hrun, H'⟩ := run_append_str (P := P) H T U o.type i z ht hu hi0 hz hz1 hz2 hzs s hb
  unfold Oper.wp execOp
  simp only [ho, resolve, invoke, builtin, Sem.run_bind, Sem.run_pure, Result.andThen_ok, List.map_toArray, List.map_cons, List.map_nil, hs, hx, hrun]
  refine h A cap w' ?_
  unfold Ls
  have e : flat (Enc.num .u8) bs ++ strCells s = flat (Enc.num .u8) (bs ++ s.data.toList.map fun c => (c.toNat : Int)) := by
    rw [flat_append]
    congr 1
    unfold strCells flat
    generalize s.data.toList = l
    induction l with
    | nil => rfl
    | cons c r ih => rw [List.map_cons, List.map_cons, List.flatMap_cons, ih]; rfl
  rw [e] at H'
  have el : (bs ++ s.data.toList.map fun c => (c.toNat : Int)).length = bs.length + s.size := by rw [List.length_append, List.length_map, Array.length_toList]; rfl
  rw [el]
  exact H'
end
end Go.Proofs.Ytjdkpogkhecijaa

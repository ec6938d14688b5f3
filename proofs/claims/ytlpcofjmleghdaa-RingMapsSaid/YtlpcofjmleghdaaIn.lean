import Derived.Test.YtlpcofjmleghdaaSv
import Derived.IntWalk
import Derived.Shelf.Spec.SlicesInsert
import Derived.Shelf.Spec.SlicesInsertGrow
import Derived.Test.YtlpcofjmleghdaaProg
import Derived.Test.YtlpcofjmleghdaaLs
import Derived.Outline
import Derived.StillTailTactics
import Derived.Deep.DeepCutAuto
import Derived.Deep.CutBlock
import Derived.Deep.LoopGhost
import Derived.Deep.QuietTactic
import Derived.BigQuiet
import Derived.Deep.RegionHeld3
import Derived.Deep.RegionLaw
set_option linter.unusedVariables false
set_option linter.unusedSimpArgs false
namespace Go.Proofs.Ytlpcofjmleghdaa
open Go.RowKit
/-! ### cells that are written one behind the other -/
def wr : Array Value → Nat → List Value → Array Value
  | cs, _, [] => cs
  | cs, o, v :: r => wr (cs.setIfInBounds o v) (o + 1) r
theorem wr_size : ∀ (vs : List Value) (cs : Array Value) (o : Nat), (wr cs o vs).size = cs.size
  | [], _, _ => rfl
  | v :: r, cs, o => by
    show (wr (cs.setIfInBounds o v) (o + 1) r).size = _
    rw [wr_size r, Array.size_setIfInBounds]
theorem wr_out : ∀ (vs : List Value) (cs : Array Value) (o k : Nat), (k < o ∨ o + vs.length ≤ k) → (wr cs o vs)[k]? = cs[k]?
  | [], _, _, _, _ => rfl
  | v :: r, cs, o, k, h => by
    show (wr (cs.setIfInBounds o v) (o + 1) r)[k]? = _
    rw [List.length_cons] at h
    rw [wr_out r _ _ _ (by omega), Array.getElem?_setIfInBounds_ne (by omega)]
theorem wr_in : ∀ (vs : List Value) (cs : Array Value) (o j : Nat), j < vs.length → o + vs.length ≤ cs.size → (wr cs o vs)[o + j]? = vs[j]?
  | v :: r, cs, o, 0, _, hs => by
    show (wr (cs.setIfInBounds o v) (o + 1) r)[o]? = _
    rw [List.length_cons] at hs
    rw [wr_out r _ _ _ (by omega), Array.getElem?_setIfInBounds_self_of_lt (by omega)]
    rfl
  | v :: r, cs, o, j + 1, hj, hs => by
    show (wr (cs.setIfInBounds o v) (o + 1) r)[o + (j + 1)]? = _
    rw [List.length_cons] at hs hj
    have := wr_in r (cs.setIfInBounds o v) (o + 1) j (by omega) (by rw [Array.size_setIfInBounds]; omega)
    rw [show o + (j + 1) = o + 1 + j by omega, this]
    rfl
section
variable {w0 w : World} {R : List HP} {α : Type} {E : Enc α} {t : TypeId}
theorem Hs.setCells {b : Nat} : ∀ (vs : List Value) (o : Nat) (w : World) (cs : Array Value), Hs w0 w (Blk b (.cells cs t (0, 0)) :: R) → Hs w0 (w.setCells b o vs) (Blk b (.cells (wr cs o vs) t (0, 0)) :: R)
  | [], _, _, _, H => H
  | v :: r, o, w, cs, H => Hs.setCells r (o + 1) _ _ (H.setCell (i := o) v)
/-- A slice's own block, and back. -/
theorem Hs.ls_open {g off n c : Nat} {xs : List α} (H : Hs w0 w (Ls E t (.slice (some ⟨g, off, none⟩) n c) xs :: R)) : ∃ cur, Hs w0 w (Blk g (.cells cur t (0, 0)) :: R) ∧ n ≤ c ∧ c ≤ maxLen ∧ off + c * E.sz ≤ cur.size ∧ ∀ j u, (flat E xs)[j]? = some u → cur[off + j]? = some u := by
  have H2 : Hs w0 w (Ex (fun cur => Pu (n ≤ c ∧ c ≤ maxLen ∧ off + c * E.sz ≤ cur.size ∧ ∀ j u, (flat E xs)[j]? = some u → cur[off + j]? = some u) (Blk g (.cells cur t (0, 0)))) :: R) := H.mono fun h hP => by
    obtain ⟨hl, ⟨he, _⟩ | ⟨g', off', cap', cur, he, hg, h3, h4, h5, h6⟩⟩ := hP
    · cases he
    · injection he with ha hn hc
      injection ha with ha
      injection ha with hb ho
      subst hb; subst ho; subst hc
      exact ⟨cur, ⟨by omega, h4, h5, h6⟩, hg⟩
  obtain ⟨cur, H3⟩ := H2.ex
  obtain ⟨hf, H4⟩ := H3.pu
  exact ⟨cur, H4, hf⟩
theorem Hs.ls_shut {g off n c : Nat} {xs : List α} {cur : Array Value} (H : Hs w0 w (Blk g (.cells cur t (0, 0)) :: R)) (hn : n = xs.length) (h1 : n ≤ c) (h2 : c ≤ maxLen) (h3 : off + c * E.sz ≤ cur.size) (h4 : ∀ j u, (flat E xs)[j]? = some u → cur[off + j]? = some u) :
    Hs w0 w (Ls E t (.slice (some ⟨g, off, none⟩) n c) xs :: R) := by
  subst hn
  exact H.mono fun h hb => ⟨by rw [flat_length], .inr ⟨g, off, c, cur, rfl, hb, h1, h2, h3, h4⟩⟩
end
open Go.Shelf in
def ren40 : Ren := ⟨fun k => if k = 21 then 40 else if k = 27 then 48 else if k = 28 then 49 else if k = 35 then 51 else if k = 39 then 53 else k, fun k => if k = 22 then 27 else k, fun k => k⟩
theorem lays40 : Go.Proofs.Lays2.n21 Try.prog ren40 where
  mixed := by kernel_rfl
  f21 := by kernel_rfl
  f27 := by kernel_rfl
  f28 := by kernel_rfl
  f35 := by kernel_rfl
  f39 := by kernel_rfl
  t0 := by kernel_rfl
  a0 := fun w => by kernel_rfl
  z0 := fun w => by kernel_rfl
  v0 := fun w => by kernel_rfl
  t3 := by kernel_rfl
  a3 := fun w => by kernel_rfl
  z3 := fun w => by kernel_rfl
  v3 := fun w => by kernel_rfl
  t4 := by kernel_rfl
  a4 := fun w => by kernel_rfl
  z4 := fun w => by kernel_rfl
  v4 := fun w => by kernel_rfl
  t22 := by kernel_rfl
  a22 := fun w => by kernel_rfl
  z22 := fun w => by kernel_rfl
  v22 := fun w => by kernel_rfl
  i3 := by kernel_rfl
set_option maxRecDepth 100000 in
/-- slices.Insert(v, 0, x). -/
theorem insert40 (v : Value) (xs : List Int) (b : Nat) (x : Int) (w w0 : World) (R : List HP) (H : Hs w0 w (Ls (Enc.num .i64) 3 v xs :: Blk b (.cells #[Value.int .i64 x] 3 (0, 0)) :: R)) (hb : (xs.length + 1) * 8 ≤ 140737488355328) :
    Calls Try.prog 40 #[v, .int .i64 0, .slice (some ⟨b, 0, none⟩) 1 1] w fun e w' => ∃ A c, e = .returned (.slice A (xs.length + 1) c) ∧ Hs w0 w' (Ls (Enc.num .i64) 3 (.slice A (xs.length + 1) c) (x :: xs) :: R) := by
  have hx0 : w.cell? ⟨b, 0, none⟩ = some (Value.int .i64 x) := H.at1.cellOf 0 rfl
  have hxf : ∀ j, w.frozen? ⟨b, j, none⟩ = false := fun j => H.at1.frozenOf j
  have hxs : w.shape? b = some (3, 1) := by unfold World.shape?; rw [H.at1.blk]; rfl
  have hvs : ∀ j (u : Value), [Value.int .i64 x][j]? = some u → w.cell? ⟨b, 0 + j, none⟩ = some u := fun j u hj => by
    match j, hj with
    | 0, hj => simp at hj; subst hj; exact hx0
    | j + 1, hj => simp at hj
  have h1v : ∀ u ∈ [Value.int .i64 x], u.oneCell' = true := fun u hu => by rw [List.mem_singleton] at hu; subst hu; rfl
  have hfl : flat (Enc.num .i64) (x :: xs) = Value.int .i64 x :: flat (Enc.num .i64) xs := by rw [flat_cons]; rfl
  have hsz : (Enc.num .i64).sz = 1 := rfl
  have hlen : (flat (Enc.num .i64) xs).length = xs.length := by rw [flat_length, hsz, Nat.mul_one]
  have h1c : ∀ u ∈ flat (Enc.num .i64) xs, u.oneCell' = true := flat_oneCell xs
  have hzc : (Value.cells (Value.int .i64 0)).size = 1 := rfl
  obtain ⟨A, c, rfl⟩ := H.ls_form
  obtain ⟨_, hnc, hc63⟩ := H.ls_rd.caps
  obtain ⟨N, hN⟩ : ∃ N, xs.length = N := ⟨_, rfl⟩
  rw [hN] at H hnc hb hlen ⊢
  have hml : N + 1 ≤ maxLen := by unfold maxLen; omega
  by_cases h0 : N = 0
  · subst h0
    obtain rfl : xs = [] := List.eq_nil_of_length_eq_zero hN
    by_cases hc : c = 0
    · subst hc
      refine (Any2.slices_Insert_int_end_grow lays40 A 0 0 b 0 1 1 [] [Value.int .i64 x] w (by omega) (by omega) (by omega) (by omega) rfl rfl (fun _ => rfl) (fun a _ j u hj => by simp at hj) hvs h1v).mono ?_
      rintro e w' ⟨rfl, rfl⟩
      refine ⟨_, _, rfl, ?_⟩
      have hge := grownCap_ge w (0 + 1) 0 3
      refine Hs.ls_shut ((H.tail.tail.drew).alloc _) rfl hge (grownCap_le_maxLen w (0 + 1) 0 3 hml) ?_ ?_
      · simp only [Array.size_append, List.size_toArray, size_zeroCells, hzc, hsz, List.nil_append, List.length_cons, List.length_nil]
        show 0 + grownCap w (0 + 1) 0 3 * 1 ≤ 0 + 1 + (grownCap w (0 + 1) 0 3 - (0 + 1)) * 1
        omega
      · intro j u hu
        rw [hfl] at hu
        match j, hu with
        | 0, hu =>
          simp [flat] at hu ⊢
          rw [Array.getElem?_append_left (by simp)]
          simp
          exact hu
        | j + 1, hu => simp [flat] at hu
    · have hA : ∃ g off, A = some ⟨g, off, none⟩ := by
        obtain ⟨h, hs, hl, ⟨he, _⟩ | ⟨g', off', cap', cur, he, _⟩⟩ := H.get
        · injection he with _ _ h3; exact absurd h3 hc
        · injection he with h1 _ _; exact ⟨_, _, h1⟩
      obtain ⟨g, off, rfl⟩ := hA
      obtain ⟨cur, K, _, hcm, hfit, _⟩ := H.ls_open
      rw [hsz, Nat.mul_one] at hfit
      refine (Any2.slices_Insert_int_end_room lays40 g off 0 c b 0 1 1 [Value.int .i64 x] w (by omega) (by omega) hc63 rfl (fun j hj => ?_) (fun j _ => K.frozenOf _) hvs h1v).mono ?_
      · rw [cell_of_row _ _ _ _ _ _ K.blk, Array.getElem?_eq_getElem (by omega)]; rfl
      rintro e w' ⟨rfl, rfl⟩
      refine ⟨_, _, rfl, ?_⟩
      refine Hs.ls_shut (Hs.setCells [Value.int .i64 x] (off + 0) w cur ((K.at1).tail)) rfl (by omega) hcm ?_ ?_
      · rw [wr_size, hsz]; omega
      · intro j u hu
        rw [hfl] at hu
        match j, hu with
        | 0, hu => rw [wr_in _ _ _ 0 (by simp) (by simp; omega)]; exact hu
        | j + 1, hu => simp [flat] at hu
  · obtain ⟨g, off, rfl⟩ := H.ls_rd.some_ (by omega)
    obtain ⟨cur, K, _, hcm, hfit, hcell⟩ := H.ls_open
    rw [hsz, Nat.mul_one] at hfit
    have hcs : ∀ j (u : Value), (flat (Enc.num .i64) xs)[j]? = some u → w.cell? ⟨g, off + j, none⟩ = some u := fun j u hj => by
      rw [cell_of_row _ _ _ _ _ _ K.blk]; exact hcell j u hj
    have hne : b ≠ g := fun e => K.ne (e.symm)
    by_cases hroom : N + 1 ≤ c
    · refine (Any2.slices_Insert_int_shift lays40 g off N c 0 b 0 1 1 (flat (Enc.num .i64) xs) [Value.int .i64 x] w (by omega) (by omega) hroom hc63 hne hlen rfl hcs (fun j hj => ?_) (fun j _ => K.frozenOf _) hvs h1c h1v 3 3 1 cur.size hxs (by unfold World.shape?; rw [K.blk]) (by omega) (hxf 0) (hxf 1)).mono ?_
      · rw [cell_of_row _ _ _ _ _ _ K.blk, Array.getElem?_eq_getElem (by omega)]; rfl
      rintro e w' ⟨rfl, rfl⟩
      refine ⟨_, _, rfl, ?_⟩
      have K2 := Hs.setCells [Value.int .i64 x] (off + 0) _ _ (Hs.setCells ((flat (Enc.num .i64) xs).drop 0) (off + (0 + 1)) w.drew cur K.drew)
      refine Hs.ls_shut (K2.at1.tail) (by rw [List.length_cons, hN]) hroom hcm ?_ ?_
      · rw [wr_size, wr_size, hsz]; omega
      · intro j u hu
        rw [hfl] at hu
        match j, hu with
        | 0, hu => rw [wr_in _ _ _ 0 (by simp) (by rw [wr_size]; simp; omega)]; exact hu
        | j + 1, hu =>
          have hj := (List.getElem?_eq_some_iff.1 hu).1
          rw [List.length_cons, hlen] at hj
          rw [wr_out _ _ _ _ (by simp), show off + (j + 1) = off + (0 + 1) + j by omega, wr_in _ _ _ j (by rw [List.drop_zero, hlen]; omega) (by rw [List.drop_zero, hlen]; omega), List.drop_zero]
          exact hu
    · refine (Any2.slices_Insert_int_grow lays40 g off N c 0 b 0 1 1 (flat (Enc.num .i64) xs) [Value.int .i64 x] w (by omega) (by omega) (by omega) (by omega) (by omega) hlen rfl hcs hvs h1c h1v).mono ?_
      rintro e w' ⟨rfl, rfl⟩
      refine ⟨_, _, rfl, ?_⟩
      obtain ⟨G, hG⟩ : ∃ G, grownCap w (N + 1) c 3 = G := ⟨_, rfl⟩
      have hge := grownCap_ge w (N + 1) c 3
      have hgm := grownCap_le_maxLen w (N + 1) c 3 hml
      rw [hG] at hge hgm
      have e3 : grownCap w (N + 1) c (ren40.t 3) = G := hG
      rw [e3]
      have K2 := Hs.setCells ((flat (Enc.num .i64) xs).drop 0) (0 + 1) _ _ (Hs.drew (Hs.setCells [Value.int .i64 x] 0 _ _ (Hs.drew ((H.tail.tail).alloc (.cells (((flat (Enc.num .i64) xs).take 0).toArray ++ Builtin.zeroCells ((Value.int .i64 0)).cells (N + 1 - 0) ++ Builtin.zeroCells ((Value.int .i64 0)).cells (G - (N + 1))) 3)))))
      have hsize : (((flat (Enc.num .i64) xs).take 0).toArray ++ Builtin.zeroCells ((Value.int .i64 0)).cells (N + 1 - 0) ++ Builtin.zeroCells ((Value.int .i64 0)).cells (G - (N + 1))).size = G := by
        simp only [Array.size_append, List.size_toArray, size_zeroCells, hzc, List.take_zero, List.length_nil]
        omega
      refine Hs.ls_shut (off := 0) K2 (by rw [List.length_cons, hN]) hge hgm ?_ ?_
      · rw [wr_size, wr_size, hsize, hsz]; omega
      · intro j u hu
        rw [hfl] at hu
        match j, hu with
        | 0, hu =>
          rw [wr_out _ _ _ _ (by simp), wr_in _ _ _ 0 (by simp) (by rw [hsize]; simp; omega)]
          exact hu
        | j + 1, hu =>
          have hj := (List.getElem?_eq_some_iff.1 hu).1
          rw [List.length_cons, hlen] at hj
          rw [show 0 + (j + 1) = 0 + 1 + j by omega, wr_in _ _ _ j (by rw [List.drop_zero, hlen]; omega) (by rw [wr_size, hsize, List.drop_zero, hlen]; omega), List.drop_zero]
          exact hu
open Go.Shelf in
def ren38 : Ren := ⟨fun k => if k = 22 then 38 else if k = 29 then 46 else if k = 30 then 47 else if k = 36 then 50 else if k = 17 then 52 else k, fun k => if k = 24 then 36 else k, fun k => k⟩
theorem lays38 : Go.Proofs.Lays2.n22 Try.prog ren38 where
  mixed := by kernel_rfl
  f17 := by kernel_rfl
  f22 := by kernel_rfl
  f29 := by kernel_rfl
  f30 := by kernel_rfl
  f36 := by kernel_rfl
  t0 := by kernel_rfl
  a0 := fun w => by kernel_rfl
  z0 := fun w => by kernel_rfl
  v0 := fun w => by kernel_rfl
  t3 := by kernel_rfl
  a3 := fun w => by kernel_rfl
  z3 := fun w => by kernel_rfl
  v3 := fun w => by kernel_rfl
  t4 := by kernel_rfl
  a4 := fun w => by kernel_rfl
  z4 := fun w => by kernel_rfl
  v4 := fun w => by kernel_rfl
  t9 := by kernel_rfl
  a9 := fun w => by kernel_rfl
  z9 := fun w => by kernel_rfl
  v9 := fun w => by kernel_rfl
  t24 := by kernel_rfl
  a24 := fun w => by kernel_rfl
  z24 := fun w => by kernel_rfl
  v24 := fun w => by kernel_rfl
  i9 := by kernel_rfl
set_option maxRecDepth 100000 in
/-- slices.Insert(v, 0, x). -/
theorem insert38 (v : Value) (xs : List ByteArray) (b : Nat) (x : ByteArray) (w w0 : World) (R : List HP) (H : Hs w0 w (Ls (Enc.str) 9 v xs :: Blk b (.cells #[Value.string x] 9 (0, 0)) :: R)) (hb : (xs.length + 1) * 16 ≤ 140737488355328) :
    Calls Try.prog 38 #[v, .int .i64 0, .slice (some ⟨b, 0, none⟩) 1 1] w fun e w' => ∃ A c, e = .returned (.slice A (xs.length + 1) c) ∧ Hs w0 w' (Ls (Enc.str) 9 (.slice A (xs.length + 1) c) (x :: xs) :: R) := by
  have hx0 : w.cell? ⟨b, 0, none⟩ = some (Value.string x) := H.at1.cellOf 0 rfl
  have hxf : ∀ j, w.frozen? ⟨b, j, none⟩ = false := fun j => H.at1.frozenOf j
  have hxs : w.shape? b = some (9, 1) := by unfold World.shape?; rw [H.at1.blk]; rfl
  have hvs : ∀ j (u : Value), [Value.string x][j]? = some u → w.cell? ⟨b, 0 + j, none⟩ = some u := fun j u hj => by
    match j, hj with
    | 0, hj => simp at hj; subst hj; exact hx0
    | j + 1, hj => simp at hj
  have h1v : ∀ u ∈ [Value.string x], u.oneCell' = true := fun u hu => by rw [List.mem_singleton] at hu; subst hu; rfl
  have hfl : flat (Enc.str) (x :: xs) = Value.string x :: flat (Enc.str) xs := by rw [flat_cons]; rfl
  have hsz : (Enc.str).sz = 1 := rfl
  have hlen : (flat (Enc.str) xs).length = xs.length := by rw [flat_length, hsz, Nat.mul_one]
  have h1c : ∀ u ∈ flat (Enc.str) xs, u.oneCell' = true := flat_oneCell xs
  have hzc : (Value.cells (Value.string ⟨#[]⟩)).size = 1 := rfl
  obtain ⟨A, c, rfl⟩ := H.ls_form
  obtain ⟨_, hnc, hc63⟩ := H.ls_rd.caps
  obtain ⟨N, hN⟩ : ∃ N, xs.length = N := ⟨_, rfl⟩
  rw [hN] at H hnc hb hlen ⊢
  have hml : N + 1 ≤ maxLen := by unfold maxLen; omega
  by_cases h0 : N = 0
  · subst h0
    obtain rfl : xs = [] := List.eq_nil_of_length_eq_zero hN
    by_cases hc : c = 0
    · subst hc
      refine (Any2.slices_Insert_string_end_grow lays38 A 0 0 b 0 1 1 [] [Value.string x] w (by omega) (by omega) (by omega) (by omega) rfl rfl (fun _ => rfl) (fun a _ j u hj => by simp at hj) hvs h1v).mono ?_
      rintro e w' ⟨rfl, rfl⟩
      refine ⟨_, _, rfl, ?_⟩
      have hge := grownCap_ge w (0 + 1) 0 9
      refine Hs.ls_shut ((H.tail.tail.drew).alloc _) rfl hge (grownCap_le_maxLen w (0 + 1) 0 9 hml) ?_ ?_
      · simp only [Array.size_append, List.size_toArray, size_zeroCells, hzc, hsz, List.nil_append, List.length_cons, List.length_nil]
        show 0 + grownCap w (0 + 1) 0 9 * 1 ≤ 0 + 1 + (grownCap w (0 + 1) 0 9 - (0 + 1)) * 1
        omega
      · intro j u hu
        rw [hfl] at hu
        match j, hu with
        | 0, hu =>
          simp [flat] at hu ⊢
          rw [Array.getElem?_append_left (by simp)]
          simp
          exact hu
        | j + 1, hu => simp [flat] at hu
    · have hA : ∃ g off, A = some ⟨g, off, none⟩ := by
        obtain ⟨h, hs, hl, ⟨he, _⟩ | ⟨g', off', cap', cur, he, _⟩⟩ := H.get
        · injection he with _ _ h3; exact absurd h3 hc
        · injection he with h1 _ _; exact ⟨_, _, h1⟩
      obtain ⟨g, off, rfl⟩ := hA
      obtain ⟨cur, K, _, hcm, hfit, _⟩ := H.ls_open
      rw [hsz, Nat.mul_one] at hfit
      refine (Any2.slices_Insert_string_end_room lays38 g off 0 c b 0 1 1 [Value.string x] w (by omega) (by omega) hc63 rfl (fun j hj => ?_) (fun j _ => K.frozenOf _) hvs h1v).mono ?_
      · rw [cell_of_row _ _ _ _ _ _ K.blk, Array.getElem?_eq_getElem (by omega)]; rfl
      rintro e w' ⟨rfl, rfl⟩
      refine ⟨_, _, rfl, ?_⟩
      refine Hs.ls_shut (Hs.setCells [Value.string x] (off + 0) w cur ((K.at1).tail)) rfl (by omega) hcm ?_ ?_
      · rw [wr_size, hsz]; omega
      · intro j u hu
        rw [hfl] at hu
        match j, hu with
        | 0, hu => rw [wr_in _ _ _ 0 (by simp) (by simp; omega)]; exact hu
        | j + 1, hu => simp [flat] at hu
  · obtain ⟨g, off, rfl⟩ := H.ls_rd.some_ (by omega)
    obtain ⟨cur, K, _, hcm, hfit, hcell⟩ := H.ls_open
    rw [hsz, Nat.mul_one] at hfit
    have hcs : ∀ j (u : Value), (flat (Enc.str) xs)[j]? = some u → w.cell? ⟨g, off + j, none⟩ = some u := fun j u hj => by
      rw [cell_of_row _ _ _ _ _ _ K.blk]; exact hcell j u hj
    have hne : b ≠ g := fun e => K.ne (e.symm)
    by_cases hroom : N + 1 ≤ c
    · refine (Any2.slices_Insert_string_shift lays38 g off N c 0 b 0 1 1 (flat (Enc.str) xs) [Value.string x] w (by omega) (by omega) hroom hc63 hne hlen rfl hcs (fun j hj => ?_) (fun j _ => K.frozenOf _) hvs h1c h1v 9 9 1 cur.size hxs (by unfold World.shape?; rw [K.blk]) (by omega) (hxf 0) (hxf 1)).mono ?_
      · rw [cell_of_row _ _ _ _ _ _ K.blk, Array.getElem?_eq_getElem (by omega)]; rfl
      rintro e w' ⟨rfl, rfl⟩
      refine ⟨_, _, rfl, ?_⟩
      have K2 := Hs.setCells [Value.string x] (off + 0) _ _ (Hs.setCells ((flat (Enc.str) xs).drop 0) (off + (0 + 1)) w.drew cur K.drew)
      refine Hs.ls_shut (K2.at1.tail) (by rw [List.length_cons, hN]) hroom hcm ?_ ?_
      · rw [wr_size, wr_size, hsz]; omega
      · intro j u hu
        rw [hfl] at hu
        match j, hu with
        | 0, hu => rw [wr_in _ _ _ 0 (by simp) (by rw [wr_size]; simp; omega)]; exact hu
        | j + 1, hu =>
          have hj := (List.getElem?_eq_some_iff.1 hu).1
          rw [List.length_cons, hlen] at hj
          rw [wr_out _ _ _ _ (by simp), show off + (j + 1) = off + (0 + 1) + j by omega, wr_in _ _ _ j (by rw [List.drop_zero, hlen]; omega) (by rw [List.drop_zero, hlen]; omega), List.drop_zero]
          exact hu
    · refine (Any2.slices_Insert_string_grow lays38 g off N c 0 b 0 1 1 (flat (Enc.str) xs) [Value.string x] w (by omega) (by omega) (by omega) (by omega) (by omega) hlen rfl hcs hvs h1c h1v).mono ?_
      rintro e w' ⟨rfl, rfl⟩
      refine ⟨_, _, rfl, ?_⟩
      obtain ⟨G, hG⟩ : ∃ G, grownCap w (N + 1) c 9 = G := ⟨_, rfl⟩
      have hge := grownCap_ge w (N + 1) c 9
      have hgm := grownCap_le_maxLen w (N + 1) c 9 hml
      rw [hG] at hge hgm
      have e3 : grownCap w (N + 1) c (ren38.t 9) = G := hG
      rw [e3]
      have K2 := Hs.setCells ((flat (Enc.str) xs).drop 0) (0 + 1) _ _ (Hs.drew (Hs.setCells [Value.string x] 0 _ _ (Hs.drew ((H.tail.tail).alloc (.cells (((flat (Enc.str) xs).take 0).toArray ++ Builtin.zeroCells ((Value.string ⟨#[]⟩)).cells (N + 1 - 0) ++ Builtin.zeroCells ((Value.string ⟨#[]⟩)).cells (G - (N + 1))) 9)))))
      have hsize : (((flat (Enc.str) xs).take 0).toArray ++ Builtin.zeroCells ((Value.string ⟨#[]⟩)).cells (N + 1 - 0) ++ Builtin.zeroCells ((Value.string ⟨#[]⟩)).cells (G - (N + 1))).size = G := by
        simp only [Array.size_append, List.size_toArray, size_zeroCells, hzc, List.take_zero, List.length_nil]
        omega
      refine Hs.ls_shut (off := 0) K2 (by rw [List.length_cons, hN]) hge hgm ?_ ?_
      · rw [wr_size, wr_size, hsize, hsz]; omega
      · intro j u hu
        rw [hfl] at hu
        match j, hu with
        | 0, hu =>
          rw [wr_out _ _ _ _ (by simp), wr_in _ _ _ 0 (by simp) (by rw [hsize]; simp; omega)]
          exact hu
        | j + 1, hu =>
          have hj := (List.getElem?_eq_some_iff.1 hu).1
          rw [List.length_cons, hlen] at hj
          rw [show 0 + (j + 1) = 0 + 1 + j by omega, wr_in _ _ _ j (by rw [List.drop_zero, hlen]; omega) (by rw [wr_size, hsize, List.drop_zero, hlen]; omega), List.drop_zero]
          exact hu
end Go.Proofs.Ytlpcofjmleghdaa

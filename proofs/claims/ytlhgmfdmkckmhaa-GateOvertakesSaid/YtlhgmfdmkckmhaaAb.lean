import Derived.Test.YtlhgmfdmkckmhaaAa
import Derived.Test.YtlhgmfdmkckmhaaProg
import Derived.Test.YtlhgmfdmkckmhaaLs
import Derived.Outline
import Derived.StillTailTactics
import Derived.Deep.DeepCutAuto
import Derived.Deep.CutBlock
import Derived.Deep.LoopGhost
import Derived.Deep.QuietTactic
import Derived.BigQuiet
import Derived.Deep.RegionHeld3
import Derived.Deep.RegionLaw
set_option linter.unusedVariables false
set_option linter.unusedSimpArgs false
namespace Go.Proofs.Ytlhgmfdmkckmhaa
open Go.RowKit
/-! ### laying the queues -/
def lay1 (d : Chn) : List Fr := List.replicate d.1 (recF 1)
def blank (n : Nat) : List Chn := List.replicate n (0, false, 0)
theorem sumX_blank (n : Nat) : sumX (blank n) = 0 := by
  induction n with
  | zero => rfl
  | succ n ih => show 0 + sumX (blank n) = 0; omega
theorem sumY_blank (n : Nat) : sumY (blank n) = 0 := by
  induction n with
  | zero => rfl
  | succ n ih => show 0 + sumY (blank n) = 0; omega
/-- What is laid so far: the first loop. -/
structure Lay1 (N j : Nat) (D : List Chn) : Prop where
  len : D.length = N
  off : ∀ d ∈ D, d.2 = (false, 0)
  sum : sumX D = j
theorem Lay1.zero (N : Nat) : Lay1 N 0 (blank N) := ⟨by simp [blank], fun d hd => by have := List.eq_of_mem_replicate hd; rw [this], sumX_blank N⟩
theorem Lay1.step {N j : Nat} {D : List Chn} (h : Lay1 N j D) (c : Nat) (x : Nat) (hx : D[c]? = some (x, false, 0)) : Lay1 N (j + 1) (D.set c (x + 1, false, 0)) ∧ lay1 (x, false, 0) ++ [recF 1] = lay1 (x + 1, false, 0) := by
  refine ⟨⟨by rw [List.length_set]; exact h.len, fun d hd => ?_, ?_⟩, ?_⟩
  · rcases List.mem_or_eq_of_mem_set hd with h1 | rfl
    · exact h.off d h1
    · rfl
  · have := sumX_set D c _ (x + 1, false, 0) hx
    have h2 := h.sum
    simp only at this
    omega
  · show List.replicate x _ ++ _ = List.replicate (x + 1) _
    rw [List.replicate_succ']
/-- The third loop. -/
structure Lay3 (N NA j : Nat) (D : List Chn) : Prop where
  len : D.length = N
  off : ∀ d ∈ D, d.2.1 = false
  sumx : sumX D = NA
  sum : sumY D = j
theorem Lay1.lay3 {N j : Nat} {D : List Chn} (h : Lay1 N j D) : Lay3 N j 0 D := ⟨h.len, fun d hd => by rw [h.off d hd], h.sum, by
  have : ∀ (D : List Chn), (∀ d ∈ D, d.2 = (false, 0)) → sumY D = 0 := by
    intro D
    induction D with
    | nil => intro _; rfl
    | cons d r ih => intro h; simp only [sumY]; rw [ih fun d hd => h d (by simp [hd]), h d (by simp)]
  exact this D h.off⟩
theorem Lay3.step {N NA j : Nat} {D : List Chn} (h : Lay3 N NA j D) (c : Nat) (x y : Nat) (hx : D[c]? = some (x, false, y)) : Lay3 N NA (j + 1) (D.set c (x, false, y + 1)) ∧ layd (x, false, y) ++ [recF 2] = layd (x, false, y + 1) := by
  refine ⟨⟨by rw [List.length_set]; exact h.len, fun d hd => ?_, ?_, ?_⟩, ?_⟩
  · rcases List.mem_or_eq_of_mem_set hd with h1 | rfl
    · exact h.off d h1
    · rfl
  · have := sumX_set D c _ (x, false, y + 1) hx
    have h2 := h.sumx
    simp only at this
    omega
  · have := sumY_set D c _ (x, false, y + 1) hx
    have h2 := h.sum
    simp only at this
    omega
  · unfold layd
    simp only [Bool.false_eq_true, if_false]
    rw [List.replicate_succ', List.append_assoc, List.cons_append]
/-- The second loop: the barriers. -/
def lay2 (d : Chn) : List Fr := if d.2.1 then List.replicate d.1 (recF 1) ++ [barF 9 false] else List.replicate d.1 (recF 1)
structure Lay2 (N NA j : Nat) (D : List Chn) : Prop where
  len : D.length = N
  off : ∀ i d, D[i]? = some d → d.2 = (decide (i < j), 0)
  sum : sumX D = NA
theorem Lay1.lay2 {N j : Nat} {D : List Chn} (h : Lay1 N j D) : Lay2 N j 0 D ∧ D.map lay1 = D.map lay2 := ⟨⟨h.len, fun i d hd => by rw [h.off d (List.mem_of_getElem? hd)]; simp, h.sum⟩, by
  apply List.map_congr_left
  intro d hd
  unfold lay1 Go.Proofs.Ytlhgmfdmkckmhaa.lay2
  rw [h.off d hd]
  rfl⟩
theorem Lay2.step {N NA j : Nat} {D : List Chn} (h : Lay2 N NA j D) (d : Chn) (hd : D[j]? = some d) : Lay2 N NA (j + 1) (D.set j (d.1, true, 0)) ∧ lay2 d ++ [barF 9 false] = lay2 (d.1, true, 0) := by
  have hj : j < D.length := (List.getElem?_eq_some_iff.1 hd).1
  have he := h.off j d hd
  obtain ⟨x, b, y⟩ := d
  simp only [Prod.mk.injEq] at he
  obtain ⟨rfl, rfl⟩ := he
  refine ⟨⟨by rw [List.length_set]; exact h.len, fun i e hi => ?_, ?_⟩, ?_⟩
  · rw [List.getElem?_set] at hi
    by_cases e1 : j = i
    · subst e1
      rw [if_pos rfl, if_pos hj] at hi
      injection hi with hi
      subst hi
      simp
    · rw [if_neg e1] at hi
      rw [h.off i e hi]
      congr 1
      exact decide_eq_decide.2 (by omega)
  · have := sumX_set D j _ (x, true, 0) hd
    have h2 := h.sum
    simp only at this ⊢
    omega
  · unfold Go.Proofs.Ytlhgmfdmkckmhaa.lay2
    simp
def unflag (d : Chn) : Chn := (d.1, false, 0)
theorem Lay2.lay3 {N NA : Nat} {D : List Chn} (h : Lay2 N NA N D) : Lay3 N NA 0 (D.map unflag) ∧ D.map lay2 = (D.map unflag).map layd := by
  have hx : ∀ (D : List Chn), sumX (D.map unflag) = sumX D := by
    intro D
    induction D with
    | nil => rfl
    | cons d r ih => simp only [List.map_cons, sumX, ih]; rfl
  have hy : ∀ (D : List Chn), sumY (D.map unflag) = 0 := by
    intro D
    induction D with
    | nil => rfl
    | cons d r ih => simp only [List.map_cons, sumY, ih]; rfl
  refine ⟨⟨by rw [List.length_map]; exact h.len, fun d hd => ?_, by rw [hx]; exact h.sum, hy D⟩, ?_⟩
  · obtain ⟨e, _, rfl⟩ := List.mem_map.1 hd
    rfl
  · rw [List.map_map]
    apply List.map_congr_left
    intro d hd
    obtain ⟨i, hi⟩ := List.mem_iff_getElem?.1 hd
    have h1 := h.off i d hi
    have h2 : i < N := by rw [← h.len]; exact (List.getElem?_eq_some_iff.1 hi).1
    rw [decide_eq_true h2] at h1
    show lay2 d = layd (unflag d)
    unfold Go.Proofs.Ytlhgmfdmkckmhaa.lay2 layd unflag
    rw [h1]
    simp
theorem comes_false (D : List Chn) (h : ∀ d ∈ D, d.2.1 = false) : comes D = List.replicate D.length false := by
  unfold comes
  induction D with
  | nil => rfl
  | cons d r ih => rw [List.map_cons, ih fun d hd => h d (by simp [hd]), h d (by simp)]; rfl
theorem Lay3.al {N NA NB : Nat} {D : List Chn} (h : Lay3 N NA NB D) (hN : 1 ≤ N) : Al N NA NB 0 D ∧ gateOf D = Gt.fresh N ∧ leftOf D = NA + NB + N ∧ kept D = false := by
  have hc := comes_false D h.off
  have hl := h.len
  have hk : kept D = false := by
    unfold kept
    rw [hc, Bool.not_eq_false', List.contains_iff_mem]
    exact List.mem_replicate.2 ⟨by omega, rfl⟩
  have hw : ∀ (D : List Chn), (∀ d ∈ D, d.2.1 = false) → wait D = D.length := by
    intro D
    induction D with
    | nil => intro _; rfl
    | cons d r ih => intro h; simp only [wait]; rw [ih fun d hd => h d (by simp [hd]), h d (by simp)]; simp; omega
  have hnt : (comes D).contains true = false := by
    rw [hc]
    cases e : (List.replicate D.length false).contains true with
    | false => rfl
    | true => rw [List.contains_iff_mem] at e; have := List.eq_of_mem_replicate e; cases this
  refine ⟨⟨hl, by have := h.sumx; have := h.sum; omega, fun _ => h.sum, fun d hd h2 => by rw [h.off d hd] at h2; cases h2⟩, ?_, ?_, hk⟩
  · unfold gateOf
    rw [hk, hnt]
    simp only [Bool.false_eq_true, if_false]
    rw [hc, hl]
    unfold Gt.fresh
    congr 1
    unfold loaded
    apply List.ext_getElem
    · simp
    · intro i h1 h2; simp [List.getD]
  · unfold leftOf
    rw [hw D h.off, h.sumx, h.sum, hl]
/-! ### the law's loop comes to its end -/
def Stuck (D : List Chn) (c : Nat) : Prop := ∀ d, D[c]? = some d → layd d = [] ∨ (gateOf D).blocked (c : Int) = true
def Pr (L N T i : Nat) (D : List Chn) : Prop := i ≤ L ∨ ∃ i0, L ≤ i0 ∧ i0 ≤ i ∧ i0 ≤ L + N * (T - leftOf D) ∧ ∀ t, i0 ≤ t → t < i → Stuck D (t % N)
theorem mod_hit (i0 N c : Nat) (hN : c < N) : ∃ t, i0 ≤ t ∧ t < i0 + N ∧ t % N = c := by
  have h1 := Nat.mod_lt i0 (show 0 < N by omega)
  have h2 := Nat.div_add_mod i0 N
  rcases Nat.lt_or_ge c (i0 % N) with h | h
  · refine ⟨N * (i0 / N) + (N + c), by omega, by omega, ?_⟩
    rw [Nat.mul_add_mod, Nat.add_mod_left, Nat.mod_eq_of_lt hN]
  · refine ⟨N * (i0 / N) + c, by omega, by omega, ?_⟩
    rw [Nat.mul_add_mod, Nat.mod_eq_of_lt hN]
theorem Pr.bound {L N T i NA NB told : Nat} {D : List Chn} (h : Pr L N T i D) (ha : Al N NA NB told D) (hl : 0 < leftOf D) : i ≤ L ∨ ∃ i0, i0 ≤ L + N * (T - leftOf D) ∧ i < i0 + N := by
  rcases h with h | ⟨i0, h1, h2, h3, h4⟩
  · exact .inl h
  · right
    refine ⟨i0, h3, ?_⟩
    refine Nat.lt_of_not_le fun hge => ?_
    obtain ⟨c, d, e1, e2, e3⟩ := al_live N NA NB told D ha hl
    have hc : c < N := by have := (List.getElem?_eq_some_iff.1 e1).1; have := ha.len; omega
    obtain ⟨t, t1, t2, t3⟩ := mod_hit i0 N c hc
    rcases h4 t t1 (by omega) d (by rw [t3]; exact e1) with h5 | h5
    · exact e2 h5
    · rw [t3, e3] at h5; cases h5
theorem Pr.small {L N T i NA NB told : Nat} {D : List Chn} (h : Pr L N T i D) (ha : Al N NA NB told D) (hl : 0 < leftOf D) (hL : L ≤ 200) (hN : N ≤ 6) (hT : T ≤ 66) : i ≤ 1000 := by
  rcases h.bound ha hl with h | ⟨i0, h1, h2⟩
  · omega
  · have : N * (T - leftOf D) ≤ 6 * 66 := Nat.mul_le_mul hN (by omega)
    omega
theorem Pr.skip {L N T i : Nat} {D : List Chn} (h : Pr L N T i D) (hs : L ≤ i → Stuck D (i % N)) : Pr L N T (i + 1) D := by
  rcases Nat.lt_or_ge i L with hi | hi
  · exact .inl hi
  · right
    rcases h with h | ⟨i0, h1, h2, h3, h4⟩
    · refine ⟨i, hi, Nat.le_succ _, by have : i = L := by omega
                                       omega, fun t t1 t2 => ?_⟩
      rw [show t = i by omega]
      exact hs hi
    · refine ⟨i0, h1, by omega, h3, fun t t1 t2 => ?_⟩
      rcases Nat.lt_or_ge t i with ht | ht
      · exact h4 t t1 ht
      · rw [show t = i by omega]; exact hs hi
theorem Pr.pop {L N T i NA NB told : Nat} {D D' : List Chn} (h : Pr L N T i D) (ha : Al N NA NB told D) (hN : 1 ≤ N) (hl : leftOf D' + 1 = leftOf D) (hT : leftOf D ≤ T) : Pr L N T (i + 1) D' := by
  rcases Nat.lt_or_ge i L with hi | hi
  · exact .inl hi
  · right
    have e : N * (T - leftOf D') = N * (T - leftOf D) + N := by rw [show T - leftOf D' = (T - leftOf D) + 1 by omega, Nat.mul_add, Nat.mul_one]
    refine ⟨i + 1, by omega, Nat.le_refl _, ?_, fun t t1 t2 => by omega⟩
    rcases h.bound ha (by omega) with h | ⟨i0, h1, h2⟩
    · omega
    · omega
theorem u8_in {x : Int} (h : (Lit.int .u8 x).wf = true) : 0 ≤ x ∧ x ≤ 255 := by
  simp [Lit.wf] at h
  exact h
theorem rem_nat {x : Int} (N : Nat) (hN : 1 ≤ N) (h0 : 0 ≤ x) : ∃ c : Nat, x.tmod (N : Int) = (c : Int) ∧ c < N ∧ c = x.toNat % N := by
  obtain ⟨k, rfl⟩ := Int.eq_ofNat_of_zero_le h0
  exact ⟨k % N, (Int.ofNat_tmod k N).symm, Nat.mod_lt _ hN, by rw [Int.toNat_natCast]⟩
end Go.Proofs.Ytlhgmfdmkckmhaa

import Derived.Test.YtjlonfldcmcchaaRa
import Derived.Test.YtjlonfldcmcchaaSx
import Derived.Test.YtjlonfldcmcchaaProg
import Derived.Test.YtjlonfldcmcchaaLs
import Derived.Outline
import Derived.StillTailTactics
import Derived.Deep.DeepCutAuto
import Derived.Deep.CutBlock
import Derived.Deep.LoopGhost
import Derived.Deep.QuietTactic
import Derived.BigQuiet
import Derived.Deep.RegionHeld3
import Derived.Deep.RegionLaw
set_option linter.unusedVariables false
set_option linter.unusedSimpArgs false
namespace Go.Proofs.Ytjlonfldcmcchaa
open Go.RowKit
/-- What is staged: each record twice, in a transaction of its own. -/
def txs (L : List Rec) : List (Int × List Rec) := (List.range L.length).map fun (i : Nat) => ((i : Int) + 1, [L.getD i (0, 0, 0), L.getD i (0, 0, 0)])
theorem txs.length (L : List Rec) : (txs L).length = L.length := by simp [txs]
theorem txs.get (L : List Rec) (i : Nat) (h : i < L.length) : (txs L)[i]? = some ((i : Int) + 1, [L[i], L[i]]) := by
  simp [txs, List.getElem?_range h, List.getD, h]
theorem txs.snoc (L : List Rec) (r : Rec) : txs (L ++ [r]) = txs L ++ [((L.length : Int) + 1, [r, r])] := by
  unfold txs
  rw [List.length_append, List.length_singleton, List.range_succ, List.map_append]
  congr 1
  · refine List.map_congr_left fun i hi => ?_
    have := List.mem_range.1 hi
    simp [List.getD, List.getElem?_append_left this]
  · simp [List.getD]
theorem txs.top (L : List Rec) (d : Nat) : (⟨txs L, d⟩ : Pt).top = L.length := by
  cases h : L.length with
  | zero => rw [List.length_eq_zero_iff] at h; subst h; rfl
  | succ k =>
    have := top_of (s := ⟨txs L, d⟩) (k := k) (by rw [show (⟨txs L, d⟩ : Pt).l = txs L from rfl, txs.length, h]) (txs.get L k (by omega))
    rw [this]
    simp
theorem txs.last (L : List Rec) (d : Nat) (h : d ≤ L.length) : (⟨txs L, d⟩ : Pt).last = d := by
  unfold Pt.last
  cases d with
  | zero => rfl
  | succ d => simp [txs.get L d (by omega)]
theorem txs.mem {L : List Rec} {x : Int × List Rec} (h : x ∈ txs L) : ∃ i, i < L.length ∧ x.1 = (i : Int) + 1 ∧ x.2.length = 2 := by
  unfold txs at h
  obtain ⟨i, hi, rfl⟩ := List.mem_map.1 h
  exact ⟨i, List.mem_range.1 hi, rfl, rfl⟩
theorem txs.fresh (L : List Rec) (d n : Nat) (h1 : d ≤ n) (h2 : n ≤ L.length) : (⟨txs L, d⟩ : Pt).fresh n = ((txs L).drop d).take (n - d) := by
  unfold Pt.fresh
  simp only
  refine takeWhile_eq _ _ (n - d) (fun x hx => ?_) ?_
  · obtain ⟨i, hi, hx⟩ := List.getElem_of_mem hx
    rw [List.length_take, List.length_drop, txs.length] at hi
    have : x = ((txs L).drop d |>.take (n - d))[i] := hx.symm
    rw [List.getElem_take, List.getElem_drop] at this
    have h3 := txs.get L (d + i) (by omega)
    rw [List.getElem?_eq_getElem (by rw [txs.length]; omega)] at h3
    injection h3 with h3
    rw [this, h3]
    simp
    omega
  · rcases Nat.lt_or_ge n L.length with h | h
    · right
      exact ⟨_, by rw [List.getElem?_drop, show d + (n - d) = n by omega]; exact txs.get L n h, by simp; omega⟩
    · left
      rw [List.length_drop, txs.length]
      omega
theorem txs.any (L : List Rec) (n : Nat) (h1 : 0 < n) (h2 : n ≤ L.length) : (txs L).any (fun x => x.1 == (n : Int)) = true := by
  rw [List.any_eq_true]
  exact ⟨_, List.mem_of_getElem? (txs.get L (n - 1) (by omega)), by simp; omega⟩
def seg (L : List Rec) (d n : Nat) : List Rec := (((txs L).drop d).take (n - d)).flatMap (·.2)
theorem seg.self (L : List Rec) (d : Nat) : seg L d d = [] := by simp [seg]
theorem seg.succ (L : List Rec) (d k : Nat) (h : d ≤ k) (hk : k < L.length) : seg L d (k + 1) = seg L d k ++ [L[k], L[k]] := by
  unfold seg
  rw [(seg_bound h (txs.get L k hk)).1, List.flatMap_append]
  simp
theorem txs.flat (L : List Rec) : ((txs L).flatMap (·.2)).length = 2 * L.length := by
  have h : ∀ l : List (Int × List Rec), (∀ x ∈ l, x.2.length = 2) → (l.flatMap (·.2)).length = 2 * l.length := by
    intro l
    induction l with
    | nil => simp
    | cons a l ih =>
      intro hl
      rw [List.flatMap_cons, List.length_append, ih (fun x hx => hl x (by simp [hx])), hl a (by simp), List.length_cons]
      omega
  rw [h _ (fun x hx => (txs.mem hx).choose_spec.2.2), txs.length]
theorem txs.upto (L : List Rec) (d n : Nat) (hn : n ≤ L.length) : ((⟨txs L, d⟩ : Pt).upto n).length = 2 * n := by
  have h1 : (txs L).filter (fun x => decide (x.1 ≤ (n : Int))) = (txs L).take n := by
    have hu : Up (txs L) := by
      unfold Up
      rw [List.pairwise_iff_getElem]
      intro i j hi hj hij
      rw [txs.length] at hi hj
      have e1 := txs.get L i hi
      have e2 := txs.get L j hj
      rw [List.getElem?_eq_getElem (by rw [txs.length]; omega)] at e1 e2
      injection e1 with e1
      injection e2 with e2
      rw [e1, e2]
      show (i : Int) + 1 < (j : Int) + 1
      omega
    rw [hu.filter]
    have := txs.fresh L 0 n (by omega) hn
    unfold Pt.fresh at this
    simpa using this
  unfold Pt.upto
  simp only
  rw [h1]
  have h2 : ∀ l : List (Int × List Rec), (∀ x ∈ l, x.2.length = 2) → (l.flatMap (·.2)).length = 2 * l.length := by
    intro l
    induction l with
    | nil => simp
    | cons a l ih =>
      intro hl
      rw [List.flatMap_cons, List.length_append, ih (fun x hx => hl x (by simp [hx])), hl a (by simp), List.length_cons]
      omega
  rw [h2 _ (fun x hx => (txs.mem (List.mem_of_mem_take hx)).choose_spec.2.2), List.length_take, txs.length]
  omega
/-- Three parts. -/
def set3 {α : Type} (f : Nat → α) (p : Nat) (x : α) : Nat → α := fun k => if k = p then x else f k
theorem set3_same {α : Type} (f : Nat → α) (p : Nat) (x : α) : set3 f p x p = x := by simp [set3]
theorem set3_ne {α : Type} (f : Nat → α) (p k : Nat) (x : α) (h : k ≠ p) : set3 f p x k = f k := by simp [set3, h]
def OL (S : Nat → List Rec) (D : Nat → Nat) (W : List Rec) : Lg := ⟨fun m => if m = 0 then ⟨txs (S 0), D 0⟩ else if m = 1 then ⟨txs (S 1), D 1⟩ else if m = 2 then ⟨txs (S 2), D 2⟩ else ⟨[], 0⟩, W⟩
theorem OL.pt (S : Nat → List Rec) (D : Nat → Nat) (W : List Rec) (p : Nat) (hp : p < 3) : (OL S D W).pt (p : Int) = ⟨txs (S p), D p⟩ := by
  rcases (show p = 0 ∨ p = 1 ∨ p = 2 by omega) with rfl | rfl | rfl <;> rfl
theorem OL.upd (S S' : Nat → List Rec) (D D' : Nat → Nat) (W W' : List Rec) (p : Nat) (hp : p < 3) (hS : ∀ k, k ≠ p → S' k = S k) (hD : ∀ k, k ≠ p → D' k = D k) : (⟨upd (OL S D W).pt p ⟨txs (S' p), D' p⟩, W'⟩ : Lg) = OL S' D' W' := by
  unfold OL
  congr 1
  funext m
  unfold Go.Proofs.Ytjlonfldcmcchaa.upd
  simp only
  rcases (show p = 0 ∨ p = 1 ∨ p = 2 by omega) with rfl | rfl | rfl
  · rw [hS 1 (by omega), hS 2 (by omega), hD 1 (by omega), hD 2 (by omega)]
    simp only [Int.natCast_zero]
    split <;> simp_all
  · rw [hS 0 (by omega), hS 2 (by omega), hD 0 (by omega), hD 2 (by omega)]
    simp only [Int.natCast_one]
    split <;> simp_all
  · rw [hS 1 (by omega), hS 0 (by omega), hD 1 (by omega), hD 0 (by omega)]
    show (if m = 2 then _ else _) = _
    split <;> simp_all
theorem OL.put (S : Nat → List Rec) (D : Nat → Nat) (W : List Rec) (p : Nat) (hp : p < 3) (r : Rec) : (OL S D W).put p (((S p).length : Int) + 1) [r, r] = OL (set3 S p (S p ++ [r])) D W := by
  unfold Lg.put
  rw [OL.pt S D W p hp]
  have := OL.upd S (set3 S p (S p ++ [r])) D D W W p hp (fun k hk => set3_ne _ _ _ _ hk) (fun k _ => rfl)
  rw [set3_same, txs.snoc] at this
  exact this
theorem OL.cm (S : Nat → List Rec) (D : Nat → Nat) (W : List Rec) (p n : Nat) (hp : p < 3) (hn : 0 < n) (h1 : D p ≤ n) (h2 : n ≤ (S p).length) : (OL S D W).cm p n = OL S (set3 D p n) (W ++ seg (S p) (D p) n) ∧ (OL S D W).cmE p n = 0 := by
  unfold Lg.cm Lg.cmE
  rw [OL.pt S D W p hp, txs.last _ _ (by omega)]
  rcases (show n = D p ∨ D p < n by omega) with h | h
  · have hle : (n : Int) ≤ (D p : Int) := by omega
    rw [if_pos hle, if_pos hle]
    subst h
    rw [seg.self, List.append_nil]
    refine ⟨?_, rfl⟩
    congr 1
    funext k
    unfold set3
    split
    · rename_i e; rw [e]
    · rfl
  · have hle : ¬ (n : Int) ≤ (D p : Int) := by omega
    have ha := txs.any (S p) n hn h2
    rw [if_neg hle, if_neg hle, ha]
    refine ⟨?_, rfl⟩
    simp only [if_true]
    unfold Lg.commit
    rw [OL.pt S D W p hp, txs.fresh _ _ _ h1 h2]
    simp only
    have e : D p + (((txs (S p)).drop (D p)).take (n - D p)).length = n := by rw [List.length_take, List.length_drop, txs.length]; omega
    rw [e]
    have := OL.upd S S D (set3 D p n) W (W ++ seg (S p) (D p) n) p hp (fun k _ => rfl) (fun k hk => set3_ne _ _ _ _ hk)
    rw [set3_same] at this
    exact this
theorem OL.new : (⟨fun _ => ⟨[], 0⟩, []⟩ : Lg) = OL (fun _ => []) (fun _ => 0) [] := by
  unfold OL
  congr 1
  funext m
  split
  · rfl
  · split
    · rfl
    · split <;> rfl
structure O3 (S : Nat → List Rec) (D : Nat → Nat) (W : List Rec) (i : Nat) : Prop where
  len : ∀ p, (S p).length ≤ i
  dn : ∀ p, D p ≤ (S p).length
  wl : W.length ≤ 200 * i
theorem O3.ok {S : Nat → List Rec} {D : Nat → Nat} {W : List Rec} {i : Nat} (h : O3 S D W i) : (OL S D W).Ok (2 * i) (200 * i) := by
  have key : ∀ n, ∃ p, (OL S D W).pt n = ⟨txs (S p), D p⟩ ∨ (OL S D W).pt n = ⟨[], 0⟩ := by
    intro n
    unfold OL
    simp only
    split
    · exact ⟨0, .inl rfl⟩
    · split
      · exact ⟨1, .inl rfl⟩
      · split
        · exact ⟨2, .inl rfl⟩
        · exact ⟨0, .inr rfl⟩
  refine ⟨fun n => ?_, fun n => ?_, fun n => ?_, fun n => ?_, h.wl⟩
  all_goals
    obtain ⟨p, hp | hp⟩ := key n
    all_goals rw [hp]
  · intro x hx
    obtain ⟨k, _, h1, _⟩ := txs.mem hx
    omega
  · simp
  · simp only [txs.length]; exact h.dn p
  · simp
  · simp only [txs.length]; have := h.len p; omega
  · simp
  · simp only [txs.flat]; have := h.len p; omega
  · simp
theorem OL.stage (S : Nat → List Rec) (D : Nat → Nat) (W : List Rec) (p T : Nat) (hp : p < 3) (hT : T = (S p).length + 1) (r : Rec) : (OL S D W).stE p T = 0 ∧ (OL S D W).stage p T [r, r] = OL (set3 S p (S p ++ [r])) D W := by
  unfold Lg.stE Lg.stage
  rw [OL.pt S D W p hp, txs.top]
  have : ¬ (T : Int) ≤ ((S p).length : Int) := by omega
  rw [if_neg this, if_neg this, ← OL.put S D W p hp r, hT]
  exact ⟨rfl, by rw [Int.natCast_add, Int.natCast_one]⟩
theorem O3.stage {S : Nat → List Rec} {D : Nat → Nat} {W : List Rec} {i : Nat} (h : O3 S D W i) (p : Nat) (r : Rec) : O3 (set3 S p (S p ++ [r])) D W (i + 1) := by
  have hw := h.wl
  refine ⟨fun k => ?_, fun k => ?_, by omega⟩
  · have h1 := h.len k
    have h2 := h.len p
    unfold set3
    split
    · simp; omega
    · omega
  · have h1 := h.dn k
    unfold set3
    split
    · rename_i e; subst e; simp; omega
    · exact h1
theorem O3.commit {S : Nat → List Rec} {D : Nat → Nat} {W : List Rec} {i : Nat} (h : O3 S D W i) (h0 : W.length + 2 * i ≤ 200 * i) (q n : Nat) (hn : n ≤ (S q).length) : O3 S (set3 D q n) (W ++ seg (S q) (D q) n) i := by
  refine ⟨h.len, fun k => ?_, ?_⟩
  · unfold set3
    split
    · rename_i e; subst e; exact hn
    · exact h.dn k
  · have h1 := txs.flat (S q)
    have h2 := h.len q
    have h3 : (seg (S q) (D q) n).length ≤ ((txs (S q)).flatMap (·.2)).length := by
      unfold seg
      have e1 := congrArg (fun l => (l.flatMap (·.2)).length) (List.take_append_drop (D q) (txs (S q)))
      have e2 := congrArg (fun l => (l.flatMap (·.2)).length) (List.take_append_drop (n - D q) ((txs (S q)).drop (D q)))
      simp only [List.flatMap_append, List.length_append] at e1 e2
      omega
    rw [List.length_append]
    omega
theorem set3_set3 {α : Type} (f : Nat → α) (p : Nat) (x y : α) : set3 (set3 f p x) p y = set3 f p y := by
  funext k
  unfold set3
  split <;> rfl
theorem set3_id {α : Type} (f : Nat → α) (p : Nat) : set3 f p (f p) = f := by
  funext k
  unfold set3
  split
  · rename_i e; rw [e]
  · rfl
theorem seg.few (L : List Rec) (d n : Nat) : (seg L d n).length ≤ 2 * L.length := by
  have h1 := txs.flat L
  unfold seg
  have e1 := congrArg (fun l => (l.flatMap (·.2)).length) (List.take_append_drop d (txs L))
  have e2 := congrArg (fun l => (l.flatMap (·.2)).length) (List.take_append_drop (n - d) ((txs L).drop d))
  simp only [List.flatMap_append, List.length_append] at e1 e2
  omega
end Go.Proofs.Ytjlonfldcmcchaa

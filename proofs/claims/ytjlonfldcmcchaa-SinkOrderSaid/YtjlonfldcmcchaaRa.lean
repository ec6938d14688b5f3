import Derived.Test.YtjlonfldcmcchaaGw
import Derived.Test.YtjlonfldcmcchaaProg
import Derived.Test.YtjlonfldcmcchaaLs
import Derived.Outline
import Derived.StillTailTactics
import Derived.Deep.DeepCutAuto
import Derived.Deep.CutBlock
import Derived.Deep.LoopGhost
import Derived.Deep.QuietTactic
import Derived.BigQuiet
import Derived.Deep.RegionHeld3
import Derived.Deep.RegionLaw
set_option linter.unusedVariables false
set_option linter.unusedSimpArgs false
namespace Go.Proofs.Ytjlonfldcmcchaa
open Go.RowKit
/-! ### The document's log -/
abbrev RT := Int × Int × List Rec × Bool
structure Rf where (l : List RT) (out : List Rec)
def Rf.last (r : Rf) (p : Int) : Int := (r.l.filter fun x => x.1 == p && x.2.2.2).foldl (fun m x => max m x.2.1) 0
def Rf.staged (r : Rf) (p : Int) : List Int := (r.l.filter fun x => x.1 == p && !x.2.2.2).map (·.2.1)
def Rf.upto (r : Rf) (p t : Int) : List Rec := (r.l.filter fun x => x.1 == p && decide (x.2.1 ≤ t)).flatMap (·.2.2.1)
def Rf.stE (r : Rf) (p t : Int) : Int := if r.l.any (fun x => x.1 == p && decide (x.2.1 ≥ t)) || t == 0 then 170 else 0
def Rf.stage (r : Rf) (p t : Int) (recs : List Rec) : Rf := if r.l.any (fun x => x.1 == p && decide (x.2.1 ≥ t)) || t == 0 then r else ⟨r.l ++ [(p, t, recs, false)], r.out⟩
def Rf.hits (p t : Int) (x : RT) : Bool := x.1 == p && !x.2.2.2 && decide (x.2.1 ≤ t)
def Rf.cmE (r : Rf) (p t : Int) : Int := if t ≤ r.last p then 0 else if r.l.any (fun x => x.1 == p && x.2.1 == t) then 0 else 171
def Rf.commit (r : Rf) (p t : Int) : Rf := ⟨r.l.map (fun x => if Rf.hits p t x then (x.1, x.2.1, x.2.2.1, true) else x), r.out ++ (r.l.filter (Rf.hits p t)).flatMap (·.2.2.1)⟩
def Rf.cm (r : Rf) (p t : Int) : Rf := if t ≤ r.last p then r else if r.l.any (fun x => x.1 == p && x.2.1 == t) then r.commit p t else r
def Rf.abort (r : Rf) (p t : Int) : Rf := ⟨r.l.filter (fun x => x.1 != p || x.2.2.2 || decide (x.2.1 ≤ t)), r.out⟩
/-- One part, seen. -/
abbrev VT := Int × List Rec × Bool
def Rf.view (r : Rf) (p : Int) : List VT := (r.l.filter fun x => x.1 == p).map (·.2)
def Pt.view (s : Pt) : List VT := (s.l.take s.dn).map (fun x => (x.1, x.2, true)) ++ (s.l.drop s.dn).map (fun x => (x.1, x.2, false))
def Up (l : List (Int × List Rec)) : Prop := l.Pairwise (fun a b => a.1 < b.1)
structure Same (s : Lg) (r : Rf) : Prop where
  out : r.out = s.all
  view : ∀ p, r.view p = (s.pt p).view
  up : ∀ p, Up (s.pt p).l
theorem filter_view (r : Rf) (p : Int) (f : VT → Bool) : (r.l.filter fun x => x.1 == p && f x.2) = (r.l.filter fun x => x.1 == p).filter (fun x => f x.2) := by
  rw [List.filter_filter]
  congr 1
  funext x
  exact Bool.and_comm ..
theorem view_filter {β : Type} (r : Rf) (p : Int) (f : VT → Bool) (g : VT → β) : (r.l.filter fun x => x.1 == p && f x.2).map (fun x => g x.2) = ((r.view p).filter f).map g := by
  rw [filter_view, Rf.view, List.filter_map, List.map_map]
  rfl
theorem view_flat (r : Rf) (p : Int) (f : VT → Bool) : (r.l.filter fun x => x.1 == p && f x.2).flatMap (fun x => x.2.2.1) = ((r.view p).filter f).flatMap (fun x => x.2.1) := by
  rw [filter_view, Rf.view, List.filter_map, List.flatMap_map]
  rfl
theorem view_any (r : Rf) (p : Int) (f : VT → Bool) : r.l.any (fun x => x.1 == p && f x.2) = (r.view p).any f := by
  unfold Rf.view
  generalize r.l = l
  induction l with
  | nil => rfl
  | cons x l ih =>
    rw [List.any_cons, ih]
    rw [List.filter_cons]
    by_cases h : x.1 = p
    · simp [h]
    · simp [h]
theorem fold_view (r : Rf) (p : Int) (f : VT → Bool) : (r.l.filter fun x => x.1 == p && f x.2).foldl (fun m x => max m x.2.1) (0 : Int) = ((r.view p).filter f).foldl (fun m x => max m x.1) 0 := by
  rw [filter_view, Rf.view, List.filter_map, List.foldl_map]
  rfl
theorem filter_all {α : Type} (f : α → Bool) (l : List α) (h : ∀ x ∈ l, f x = true) : l.filter f = l := List.filter_eq_self.2 h
theorem Pt.view_done (s : Pt) (f : VT → Bool) (hf : ∀ x, f x = x.2.2) : s.view.filter f = (s.l.take s.dn).map (fun x => (x.1, x.2, true)) := by
  unfold Pt.view
  rw [List.filter_append, filter_all _ _ (fun x hx => by obtain ⟨y, _, rfl⟩ := List.mem_map.1 hx; rw [hf]), List.filter_eq_nil_iff.2 (fun x hx => by obtain ⟨y, _, rfl⟩ := List.mem_map.1 hx; rw [hf]; simp), List.append_nil]
theorem Pt.view_open (s : Pt) (f : VT → Bool) (hf : ∀ x, f x = !x.2.2) : s.view.filter f = (s.l.drop s.dn).map (fun x => (x.1, x.2, false)) := by
  unfold Pt.view
  rw [List.filter_append, List.filter_eq_nil_iff.2 (fun x hx => by obtain ⟨y, _, rfl⟩ := List.mem_map.1 hx; rw [hf]; simp), filter_all _ _ (fun x hx => by obtain ⟨y, _, rfl⟩ := List.mem_map.1 hx; rw [hf]; rfl), List.nil_append]
theorem Pt.view_fst (s : Pt) (f : Int → Bool) : s.view.any (fun x => f x.1) = s.l.any (fun x => f x.1) := by
  have : s.l = s.l.take s.dn ++ s.l.drop s.dn := (List.take_append_drop ..).symm
  unfold Pt.view
  conv => rhs; rw [this]
  rw [List.any_append, List.any_append, List.any_map, List.any_map]
  rfl
theorem Up.last_max {l : List (Int × List Rec)} (h : Up l) (h0 : ∀ x ∈ l, 0 < x.1) : l.foldl (fun m x => max m x.1) (0 : Int) = (l.getLast?.map (·.1)).getD 0 := by
  have key : ∀ (l : List (Int × List Rec)) (m : Int), Up l → (∀ x ∈ l, m < x.1) → l.foldl (fun m x => max m x.1) m = (l.getLast?.map (·.1)).getD m := by
    intro l
    induction l with
    | nil => intro m _ _; rfl
    | cons a l ih =>
      intro m hu hm
      rw [List.foldl_cons]
      have ha := hm a (by simp)
      rw [show max m a.1 = a.1 by omega]
      obtain ⟨h1, h2⟩ := List.pairwise_cons.1 hu
      rw [ih a.1 h2 h1]
      cases l with
      | nil => rfl
      | cons b l => rw [List.getLast?_cons_cons]; simp [List.getLast?_cons]
  exact key l 0 h h0
theorem Same.last {s : Lg} {r : Rf} {B C : Nat} (h : Same s r) (ho : s.Ok B C) (p : Int) : r.last p = (s.pt p).last := by
  unfold Rf.last
  have h1 := fold_view r p (fun x => x.2.2)
  rw [h1, h.view, Pt.view_done _ _ (fun _ => rfl), List.foldl_map]
  simp only
  rw [Up.last_max (List.Pairwise.sublist (List.take_sublist ..) (h.up p)) (fun x hx => ho.pos p x (List.mem_of_mem_take hx))]
  have hd := ho.dn p
  unfold Pt.last
  rw [List.getLast?_eq_getElem?, List.length_take, Nat.min_eq_left hd]
  split
  · rename_i h0
    rw [h0]
    simp
  · rw [List.getElem?_take, if_pos (by omega)]
theorem Same.staged {s : Lg} {r : Rf} (h : Same s r) (p : Int) : r.staged p = (s.pt p).staged := by
  unfold Rf.staged Pt.staged
  have h1 := view_filter r p (fun x => !x.2.2) (fun x => x.1)
  rw [h1, h.view, Pt.view_open _ _ (fun _ => rfl), List.map_map]
  rfl
theorem Same.upto {s : Lg} {r : Rf} (h : Same s r) (p t : Int) : r.upto p t = (s.pt p).upto t := by
  unfold Rf.upto Pt.upto
  have h1 := view_flat r p (fun x => decide (x.1 ≤ t))
  rw [h1, h.view]
  have h2 : (s.pt p).l = (s.pt p).l.take (s.pt p).dn ++ (s.pt p).l.drop (s.pt p).dn := (List.take_append_drop ..).symm
  unfold Pt.view
  conv => rhs; rw [h2]
  rw [List.filter_append, List.filter_append, List.flatMap_append, List.flatMap_append, List.filter_map, List.filter_map, List.flatMap_map, List.flatMap_map]
  rfl
theorem Up.le_top {s : Pt} (h : Up s.l) (x : Int × List Rec) (hx : x ∈ s.l) : x.1 ≤ s.top := by
  obtain ⟨i, hi, rfl⟩ := List.getElem_of_mem hx
  unfold Pt.top
  rw [List.getLast?_eq_getElem?, List.getElem?_eq_getElem (by omega)]
  simp only [Option.map_some, Option.getD_some]
  rcases Nat.lt_or_ge i (s.l.length - 1) with h' | h'
  · exact Int.le_of_lt (List.pairwise_iff_getElem.1 h i (s.l.length - 1) _ _ h')
  · have : i = s.l.length - 1 := by omega
    subst this
    exact Int.le_refl _
theorem top_mem {s : Pt} (h : s.top ≠ 0) : ∃ x ∈ s.l, x.1 = s.top := by
  unfold Pt.top at h ⊢
  cases hl : s.l.getLast? with
  | none => rw [hl] at h; simp at h
  | some x => exact ⟨x, List.mem_of_getLast? hl, rfl⟩
theorem Same.stage_cond {s : Lg} {r : Rf} {B C : Nat} (h : Same s r) (ho : s.Ok B C) (p t : Int) (ht : 0 ≤ t) : (r.l.any (fun x => x.1 == p && decide (x.2.1 ≥ t)) || t == 0) = decide (t ≤ (s.pt p).top) := by
  have h1 := view_any r p (fun x => decide (x.1 ≥ t))
  rw [h1, h.view, Pt.view_fst _ (fun n => decide (n ≥ t))]
  have h0 := ho.top p
  rw [Bool.eq_iff_iff]
  simp only [Bool.or_eq_true, List.any_eq_true, decide_eq_true_eq, beq_iff_eq]
  constructor
  · rintro (⟨x, hx, hxt⟩ | rfl)
    · have := Up.le_top (h.up p) x hx; omega
    · exact h0
  · intro hle
    rcases (show t = 0 ∨ 0 < t by omega) with h' | h'
    · exact .inr h'
    · obtain ⟨x, hx, hxe⟩ := top_mem (s := s.pt p) (by omega)
      exact .inl ⟨x, hx, by omega⟩
theorem Same.stE {s : Lg} {r : Rf} {B C : Nat} (h : Same s r) (ho : s.Ok B C) (p t : Int) (ht : 0 ≤ t) : r.stE p t = s.stE p t := by
  unfold Rf.stE Lg.stE
  rw [h.stage_cond ho p t ht]
  simp only [decide_eq_true_eq]
theorem view_ne (r : Rf) (x : RT) (p : Int) : Rf.view ⟨r.l ++ [x], r.out⟩ p = r.view p ++ if x.1 == p then [x.2] else [] := by
  unfold Rf.view
  simp only
  rw [List.filter_append, List.map_append]
  congr 1
  by_cases h : x.1 == p
  · simp [h]
  · simp [h]
theorem Same.stage {s : Lg} {r : Rf} {B C : Nat} (h : Same s r) (ho : s.Ok B C) (p t : Int) (recs : List Rec) (ht : 0 ≤ t) : Same (s.stage p t recs) (r.stage p t recs) := by
  unfold Rf.stage Lg.stage
  rw [h.stage_cond ho p t ht]
  simp only [decide_eq_true_eq]
  split
  · exact h
  · rename_i hle
    refine ⟨h.out, fun q => ?_, fun q => ?_⟩
    · rw [view_ne, h.view]
      by_cases hq : q = p
      · subst hq
        have hd := ho.dn q
        simp only [BEq.rfl, if_true, Lg.put, upd, Pt.view]
        rw [List.take_append_of_le_length hd, List.drop_append_of_le_length hd, List.map_append, List.append_assoc]
        rfl
      · have : (p == q) = false := by rw [beq_eq_false_iff_ne]; exact fun e => hq e.symm
        simp [this, Lg.put, upd, hq]
    · by_cases hq : q = p
      · subst hq
        simp only [Lg.put, upd, if_true]
        unfold Up
        rw [List.pairwise_append]
        refine ⟨h.up q, by simp, fun a ha b hb => ?_⟩
        rw [List.mem_singleton.1 hb]
        have := Up.le_top (h.up q) a ha
        show a.1 < t
        omega
      · simp [Lg.put, upd, hq, h.up q]
theorem mem_tw {α : Type} (p : α → Bool) : ∀ (l : List α) (x : α), x ∈ l.takeWhile p → p x = true
  | [], x, h => by simp at h
  | a :: l, x, h => by
    rw [List.takeWhile_cons] at h
    split at h
    · rename_i ha
      rcases List.mem_cons.1 h with rfl | h
      · exact ha
      · exact mem_tw p l x h
    · simp at h
theorem Up.drop {l : List (Int × List Rec)} (h : Up l) (k : Nat) : Up (l.drop k) := List.Pairwise.sublist (List.drop_sublist ..) h
theorem Up.dw {l : List (Int × List Rec)} (h : Up l) (t : Int) : ∀ x ∈ l.dropWhile (fun x => decide (x.1 ≤ t)), t < x.1 := by
  induction l with
  | nil => simp
  | cons a l ih =>
    obtain ⟨h1, h2⟩ := List.pairwise_cons.1 h
    by_cases ha : a.1 ≤ t
    · rw [List.dropWhile_cons_of_pos (by simpa using ha)]
      exact ih h2
    · rw [List.dropWhile_cons_of_neg (by simpa using ha)]
      intro x hx
      rcases List.mem_cons.1 hx with rfl | hx
      · omega
      · have := h1 x hx; omega
theorem Up.filter {l : List (Int × List Rec)} (h : Up l) (t : Int) : l.filter (fun x => decide (x.1 ≤ t)) = l.takeWhile (fun x => decide (x.1 ≤ t)) := by
  have h1 := List.takeWhile_append_dropWhile (p := fun x : Int × List Rec => decide (x.1 ≤ t)) (l := l)
  conv => lhs; rw [← h1]
  rw [List.filter_append, filter_all _ _ (fun x hx => mem_tw (fun x : Int × List Rec => decide (x.1 ≤ t)) _ _ hx), List.filter_eq_nil_iff.2 (fun x hx => by have := h.dw t x hx; simp; omega), List.append_nil]
theorem take_fresh (s : Pt) (t : Int) : s.l.take (s.dn + (s.fresh t).length) = s.l.take s.dn ++ s.fresh t ∧ s.l.drop (s.dn + (s.fresh t).length) = (s.l.drop s.dn).dropWhile (fun x => decide (x.1 ≤ t)) := by
  have h1 := List.takeWhile_append_dropWhile (p := fun x : Int × List Rec => decide (x.1 ≤ t)) (l := s.l.drop s.dn)
  have h2 : (s.l.drop s.dn).take (s.fresh t).length = s.fresh t := by
    unfold Pt.fresh
    conv => lhs; arg 2; rw [← h1]
    rw [List.take_left']
    rfl
  have h3 : (s.l.drop s.dn).drop (s.fresh t).length = (s.l.drop s.dn).dropWhile (fun x => decide (x.1 ≤ t)) := by
    unfold Pt.fresh
    conv => lhs; arg 2; rw [← h1]
    rw [List.drop_left']
    rfl
  refine ⟨?_, by rw [← List.drop_drop]; exact h3⟩
  rw [List.take_add, h2]
theorem Same.any {s : Lg} {r : Rf} (h : Same s r) (p t : Int) : r.l.any (fun x => x.1 == p && x.2.1 == t) = (s.pt p).l.any (fun x => x.1 == t) := by
  have h1 := view_any r p (fun x => x.1 == t)
  rw [h1, h.view, Pt.view_fst _ (fun n => n == t)]
theorem Same.cmE {s : Lg} {r : Rf} {B C : Nat} (h : Same s r) (ho : s.Ok B C) (p t : Int) : r.cmE p t = s.cmE p t := by
  unfold Rf.cmE Lg.cmE
  rw [h.last ho, h.any]
def gv (t : Int) (v : VT) : VT := if !v.2.2 && decide (v.1 ≤ t) then (v.1, v.2.1, true) else v
theorem view_commit (r : Rf) (p t q : Int) : (r.commit p t).view q = if q = p then (r.view p).map (gv t) else r.view q := by
  unfold Rf.view Rf.commit
  simp only
  generalize r.l = l
  have hg : ∀ x : RT, (if Rf.hits p t x then (x.1, x.2.1, x.2.2.1, true) else x : RT).1 = x.1 := fun x => by split <;> rfl
  induction l with
  | nil => simp
  | cons x l ih =>
    rw [List.map_cons, List.filter_cons, hg]
    by_cases hq : q = p
    · subst hq
      simp only [if_true] at ih ⊢
      rw [List.filter_cons]
      by_cases hx : x.1 = q
      · simp only [hx, BEq.rfl, if_true, List.map_cons]
        rw [ih]
        congr 1
        unfold gv Rf.hits
        simp only [hx, BEq.rfl, Bool.true_and]
        split <;> rfl
      · have : (x.1 == q) = false := by rw [beq_eq_false_iff_ne]; exact hx
        simp only [this, Bool.false_eq_true, if_false]
        exact ih
    · simp only [if_neg hq] at ih ⊢
      rw [List.filter_cons]
      by_cases hx : x.1 = q
      · have h2 : Rf.hits p t x = false := by
          unfold Rf.hits
          have : (x.1 == p) = false := by rw [beq_eq_false_iff_ne, hx]; exact hq
          rw [this]
          rfl
        simp only [hx, BEq.rfl, if_true, List.map_cons, h2, Bool.false_eq_true, if_false]
        rw [ih]
      · have : (x.1 == q) = false := by rw [beq_eq_false_iff_ne]; exact hx
        simp only [this, Bool.false_eq_true, if_false]
        exact ih
theorem Pt.view_gv (s : Pt) (t : Int) (h : Up s.l) : s.view.map (gv t) = (⟨s.l, s.dn + (s.fresh t).length⟩ : Pt).view := by
  unfold Pt.view
  simp only
  obtain ⟨h1, h2⟩ := take_fresh s t
  rw [h1, h2, List.map_append, List.map_append, List.append_assoc, List.map_map, List.map_map]
  congr 1
  have h3 := List.takeWhile_append_dropWhile (p := fun x : Int × List Rec => decide (x.1 ≤ t)) (l := s.l.drop s.dn)
  conv => lhs; arg 2; rw [← h3]
  rw [List.map_append]
  unfold Pt.fresh
  congr 1
  · refine List.map_congr_left fun x hx => ?_
    have := mem_tw (fun x : Int × List Rec => decide (x.1 ≤ t)) _ _ hx
    simp only [decide_eq_true_eq] at this
    simp [gv, this]
  · refine List.map_congr_left fun x hx => ?_
    have := (h.drop s.dn).dw t x hx
    have h4 : ¬ x.1 ≤ t := by omega
    simp [gv, h4]
theorem Same.cm {s : Lg} {r : Rf} {B C : Nat} (h : Same s r) (ho : s.Ok B C) (p t : Int) : Same (s.cm p t) (r.cm p t) := by
  unfold Rf.cm Lg.cm
  rw [h.last ho, h.any]
  split
  · exact h
  · split
    · refine ⟨?_, fun q => ?_, fun q => ?_⟩
      · show r.out ++ _ = s.all ++ _
        rw [h.out]
        congr 1
        have h1 := view_flat r p (fun x => !x.2.2 && decide (x.1 ≤ t))
        have h2 : (fun x : RT => x.1 == p && (!x.2.2.2 && decide (x.2.1 ≤ t))) = Rf.hits p t := by
          funext x
          unfold Rf.hits
          rw [Bool.and_assoc]
        rw [h2] at h1
        rw [h1, h.view]
        unfold Pt.view
        rw [List.filter_append, List.filter_eq_nil_iff.2 (fun x hx => by obtain ⟨y, _, rfl⟩ := List.mem_map.1 hx; simp), List.nil_append, List.filter_map, List.flatMap_map]
        have h3 : ((fun x : VT => !x.2.2 && decide (x.1 ≤ t)) ∘ fun x : Int × List Rec => (x.1, x.2, false)) = fun x => decide (x.1 ≤ t) := by
          funext x
          simp
        rw [h3, ((h.up p).drop _).filter]
        rfl
      · rw [view_commit]
        by_cases hq : q = p
        · subst hq
          simp only [if_true]
          rw [h.view, Pt.view_gv _ _ (h.up q)]
          simp [Lg.commit, upd]
        · simp only [if_neg hq]
          rw [h.view]
          simp [Lg.commit, upd, hq]
      · by_cases hq : q = p
        · subst hq
          simp only [Lg.commit, upd, if_true]
          exact h.up q
        · simp [Lg.commit, upd, hq, h.up q]
    · exact h
theorem view_abort (r : Rf) (p t q : Int) : (r.abort p t).view q = if q = p then (r.view p).filter (fun v => v.2.2 || decide (v.1 ≤ t)) else r.view q := by
  unfold Rf.view Rf.abort
  simp only
  rw [List.filter_filter]
  by_cases hq : q = p
  · subst hq
    simp only [if_true]
    rw [List.filter_map, List.filter_filter]
    congr 2
    funext x
    by_cases hx : x.1 = q
    · simp [hx]
    · have h1 : (x.1 == q) = false := by rw [beq_eq_false_iff_ne]; exact hx
      simp [h1]
  · simp only [if_neg hq]
    congr 2
    funext x
    by_cases hx : x.1 = q
    · have h1 : (x.1 != p) = true := by rw [bne_iff_ne, hx]; exact hq
      simp [h1]
    · have h1 : (x.1 == q) = false := by rw [beq_eq_false_iff_ne]; exact hx
      simp [h1]
theorem Up.cut {s : Pt} (h : Up s.l) (hd : s.dn ≤ s.l.length) (t : Int) : ∀ k, s.dn + (s.fresh t).length ≤ k → k ≤ s.l.length → cutAt s.l s.dn t k = s.dn + (s.fresh t).length
  | 0, h1, _ => by rw [cutAt]; omega
  | k + 1, h1, h2 => by
    obtain ⟨e1, e2⟩ := take_fresh s t
    have hk : s.l[k]? = some s.l[k] := List.getElem?_eq_getElem (by omega)
    rw [cutAt, hk]
    simp only [Option.map_some, Option.getD_some]
    rcases (show s.dn + (s.fresh t).length = k + 1 ∨ s.dn + (s.fresh t).length ≤ k by omega) with h3 | h3
    · rw [if_neg, h3]
      rintro ⟨h4, h5⟩
      have h6 : (s.fresh t)[k - s.dn]? = some s.l[k] := by
        have : (s.l.take (s.dn + (s.fresh t).length))[k]? = some s.l[k] := by rw [List.getElem?_take, if_pos (by omega), hk]
        rw [e1, List.getElem?_append_right (by rw [List.length_take]; omega), List.length_take, Nat.min_eq_left hd] at this
        exact this
      have h7 := mem_tw (fun x : Int × List Rec => decide (x.1 ≤ t)) _ _ (List.mem_of_getElem? h6)
      simp only [decide_eq_true_eq] at h7
      omega
    · have h6 : s.l[k] ∈ (s.l.drop s.dn).dropWhile (fun x => decide (x.1 ≤ t)) := by
        rw [← e2]
        refine List.mem_of_getElem? (i := k - (s.dn + (s.fresh t).length)) ?_
        rw [List.getElem?_drop, show s.dn + (s.fresh t).length + (k - (s.dn + (s.fresh t).length)) = k by omega, hk]
      have h7 := (h.drop s.dn).dw t _ h6
      rw [if_pos ⟨by omega, h7⟩]
      exact Up.cut h hd t k h3 (by omega)
theorem Same.abort {s : Lg} {r : Rf} {B C : Nat} (h : Same s r) (ho : s.Ok B C) (p t : Int) : Same (s.abort p t) (r.abort p t) := by
  refine ⟨h.out, fun q => ?_, fun q => ?_⟩
  · rw [view_abort]
    by_cases hq : q = p
    · subst hq
      simp only [if_true]
      have hd := ho.dn q
      have hc := Up.cut (h.up q) hd t _ (fresh_len _ t hd) (Nat.le_refl _)
      rw [h.view]
      simp only [Lg.abort, upd, if_true, hc]
      unfold Pt.view
      simp only
      rw [List.filter_append, filter_all _ _ (fun x hx => by obtain ⟨y, _, rfl⟩ := List.mem_map.1 hx; rfl), List.filter_map]
      have h3 : ((fun x : VT => x.2.2 || decide (x.1 ≤ t)) ∘ fun x : Int × List Rec => (x.1, x.2, false)) = fun x => decide (x.1 ≤ t) := by
        funext x
        simp
      rw [h3, ((h.up q).drop _).filter]
      obtain ⟨e1, _⟩ := take_fresh (s.pt q) t
      have e3 : List.drop (s.pt q).dn ((s.pt q).l.take (s.pt q).dn ++ (s.pt q).fresh t) = (s.pt q).fresh t := List.drop_left' (by rw [List.length_take]; omega)
      rw [e1, e3, List.take_append_of_le_length (by rw [List.length_take]; omega), List.take_take, Nat.min_self]
      rfl
    · simp only [if_neg hq]
      rw [h.view]
      simp [Lg.abort, upd, hq]
  · by_cases hq : q = p
    · subst hq
      simp only [Lg.abort, upd, if_true]
      exact List.Pairwise.sublist (List.take_sublist ..) (h.up q)
    · simp [Lg.abort, upd, hq, h.up q]
end Go.Proofs.Ytjlonfldcmcchaa

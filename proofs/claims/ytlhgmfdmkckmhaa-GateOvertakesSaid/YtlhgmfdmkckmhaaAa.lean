import Derived.Test.YtlhgmfdmkckmhaaKn
import Derived.Test.YtlhgmfdmkckmhaaProg
import Derived.Test.YtlhgmfdmkckmhaaLs
import Derived.Outline
import Derived.StillTailTactics
import Derived.Deep.DeepCutAuto
import Derived.Deep.CutBlock
import Derived.Deep.LoopGhost
import Derived.Deep.QuietTactic
import Derived.BigQuiet
import Derived.Deep.RegionHeld3
import Derived.Deep.RegionLaw
set_option linter.unusedVariables false
set_option linter.unusedSimpArgs false
namespace Go.Proofs.Ytlhgmfdmkckmhaa
open Go.RowKit
/-! ### GateAligns's plain law -/
/-- A channel: how many stand ahead, whether its barrier has come, how many stand behind. -/
abbrev Chn := Nat × Bool × Nat
def layd (d : Chn) : List Fr := if d.2.1 then List.replicate d.2.2 (recF 2) else List.replicate d.1 (recF 1) ++ barF 9 false :: List.replicate d.2.2 (recF 2)
def comes (D : List Chn) : List Bool := D.map (·.2.1)
def sumX : List Chn → Nat
  | [] => 0
  | d :: r => d.1 + sumX r
def sumY : List Chn → Nat
  | [] => 0
  | d :: r => d.2.2 + sumY r
def wait : List Chn → Nat
  | [] => 0
  | d :: r => (if d.2.1 then 0 else 1) + wait r
def kept (D : List Chn) : Bool := !(comes D).contains false
def gateOf (D : List Chn) : Gt :=
  if kept D then ⟨List.replicate D.length minMark, List.replicate D.length true, List.replicate D.length false, 0, 9, false, []⟩
  else ⟨List.replicate D.length minMark, comes D, comes D, if (comes D).contains true then 9 else 0, if (comes D).contains true then 9 else 0, false, []⟩
theorem sumX_set : ∀ (D : List Chn) (c : Nat) (d d' : Chn), D[c]? = some d → sumX (D.set c d') + d.1 = sumX D + d'.1
  | [], _, _, _, h => by simp at h
  | x :: r, 0, d, d', h => by simp at h; subst h; simp only [List.set_cons_zero, sumX]; omega
  | x :: r, c + 1, d, d', h => by have := sumX_set r c d d' (by simpa using h); simp only [List.set_cons_succ, sumX]; omega
theorem sumY_set : ∀ (D : List Chn) (c : Nat) (d d' : Chn), D[c]? = some d → sumY (D.set c d') + d.2.2 = sumY D + d'.2.2
  | [], _, _, _, h => by simp at h
  | x :: r, 0, d, d', h => by simp at h; subst h; simp only [List.set_cons_zero, sumY]; omega
  | x :: r, c + 1, d, d', h => by have := sumY_set r c d d' (by simpa using h); simp only [List.set_cons_succ, sumY]; omega
theorem wait_set : ∀ (D : List Chn) (c : Nat) (d d' : Chn), D[c]? = some d → wait (D.set c d') + (if d.2.1 then 0 else 1) = wait D + (if d'.2.1 then 0 else 1)
  | [], _, _, _, h => by simp at h
  | x :: r, 0, d, d', h => by simp at h; subst h; simp only [List.set_cons_zero, wait]; omega
  | x :: r, c + 1, d, d', h => by have := wait_set r c d d' (by simpa using h); simp only [List.set_cons_succ, wait]; omega
theorem comes_set (D : List Chn) (c : Nat) (d : Chn) : comes (D.set c d) = (comes D).set c d.2.1 := by unfold comes; rw [List.map_set]
theorem wait_zero : ∀ (D : List Chn), wait D = 0 ↔ kept D = true
  | [] => by simp [wait, kept, comes]
  | d :: r => by
    have := wait_zero r
    obtain ⟨x, b, y⟩ := d
    cases b <;> simp [wait, kept, comes] at this ⊢
    · exact this
theorem sumX_zero : ∀ (D : List Chn), (∀ d ∈ D, d.2.1 = true → d.1 = 0) → kept D = true → sumX D = 0
  | [], _, _ => rfl
  | d :: r, h, hk => by
    obtain ⟨x, b, y⟩ := d
    cases b
    · simp [kept, comes] at hk
    · have := h (x, true, y) (by simp) rfl
      have h2 := sumX_zero r (fun d hd => h d (by simp [hd])) (by simpa [kept, comes] using hk)
      simp only [sumX]
      simp only at this
      omega
/-- What holds of the law's loop. -/
structure Al (n NA NB told : Nat) (D : List Chn) : Prop where
  len : D.length = n
  sum : told + sumX D + sumY D = NA + NB
  ahd : kept D = false → sumY D = NB
  zer : ∀ d ∈ D, d.2.1 = true → d.1 = 0
def leftOf (D : List Chn) : Nat := sumX D + sumY D + wait D
theorem has_set_true (l : List Bool) (c : Nat) (hc : c < l.length) : (l.set c true).contains true = true := by
  rw [List.contains_iff_mem]
  exact List.mem_iff_getElem?.2 ⟨c, by rw [List.getElem?_set_self hc]⟩
theorem not_all_rep (n : Nat) : (List.replicate n true).contains false = false := by
  cases h : (List.replicate n true).contains false with
  | false => rfl
  | true => rw [List.contains_iff_mem] at h; have := List.eq_of_mem_replicate h; cases this
theorem all_true (l : List Bool) (h : l.contains false = false) : l = List.replicate l.length true := by
  apply List.ext_getElem
  · simp
  · intro i h1 h2
    rw [List.getElem_replicate]
    cases e : l[i] with
    | true => rfl
    | false =>
      have : l.contains false = true := List.contains_iff_mem.2 (e ▸ List.getElem_mem h1)
      rw [h] at this; cases this
theorem all_false (l : List Bool) (h : l.contains true = false) : l = List.replicate l.length false := by
  apply List.ext_getElem
  · simp
  · intro i h1 h2
    rw [List.getElem_replicate]
    cases e : l[i] with
    | false => rfl
    | true =>
      have : l.contains true = true := List.contains_iff_mem.2 (e ▸ List.getElem_mem h1)
      rw [h] at this; cases this
theorem gateOf_ok (D : List Chn) : (gateOf D).Ok D.length := by
  unfold gateOf Gt.Ok
  split
  · simp
  · simp [comes]
theorem gateOf_blocked (D : List Chn) (c : Nat) (d : Chn) (hd : D[c]? = some d) : (gateOf D).blocked (c : Int) = (!kept D && d.2.1) := by
  have hc : c < D.length := (List.getElem?_eq_some_iff.1 hd).1
  unfold gateOf Gt.blocked
  rw [decide_eq_true (show (0 : Int) ≤ (c : Int) by omega), Int.toNat_natCast]
  cases hk : kept D with
  | true => simp [List.getElem?_replicate, hc]
  | false => simp [comes, hd]
/-- A frame is taken: a channel that isn't blocked and has one. -/
theorem al_step (n NA NB told : Nat) (D : List Chn) (h : Al n NA NB told D) (c : Nat) (d : Chn) (hd : D[c]? = some d) (hb : (gateOf D).blocked (c : Int) = false) (f : Fr) (q : List Fr) (hq : layd d = f :: q) :
    ∃ d' x, (gateOf D).take (c : Int) f = (gateOf (D.set c d'), x, 0) ∧ layd d' = q ∧ leftOf (D.set c d') + 1 = leftOf D ∧
      ((x.1 = 3 ∧ kept D = false ∧ kept (D.set c d') = true ∧ told = NA ∧ Al n NA NB told (D.set c d')) ∨
       (x.1 = 0 ∧ kept (D.set c d') = kept D ∧ Al n NA NB told (D.set c d')) ∨
       (x.1 = 1 ∧ (x.2.1.2.2 = 2 ↔ kept D = true) ∧ kept (D.set c d') = kept D ∧ Al n NA NB (told + 1) (D.set c d'))) := by
  have hc : c < D.length := (List.getElem?_eq_some_iff.1 hd).1
  have hbl := gateOf_blocked D c d hd
  rw [hb] at hbl
  have hok := gateOf_ok D
  have hmem : d ∈ D := List.mem_of_getElem? hd
  have hlen : ∀ d', (D.set c d').length = D.length := fun d' => List.length_set ..
  have hzer : ∀ d' : Chn, (d'.2.1 = true → d'.1 = 0) → ∀ e ∈ D.set c d', e.2.1 = true → e.1 = 0 := fun d' hd' e he => by
    rcases List.mem_or_eq_of_mem_set he with h1 | rfl
    · exact h.zer e h1
    · exact hd'
  have hb' : (gateOf D).blk.getD c false = false := by
    unfold Gt.blocked at hb
    rw [decide_eq_true (show (0 : Int) ≤ (c : Int) by omega), Int.toNat_natCast] at hb
    simpa [List.getD] using hb
  have ht : (gateOf D).take (c : Int) f = (((gateOf D).takeIn c f).1, ((gateOf D).takeIn c f).2, 0) := by
    unfold Gt.take
    rw [if_pos ⟨by omega, by have := hok.1; omega, by rw [Int.toNat_natCast]; exact hb'⟩, Int.toNat_natCast]
  have hcap : ∀ f, (gateOf D).capture c f = gateOf D := fun f => by
    unfold Gt.capture
    rw [if_neg]
    unfold gateOf
    split <;> simp
  have hg : ∀ d' : Chn, d'.2.1 = d.2.1 → gateOf (D.set c d') = gateOf D ∧ kept (D.set c d') = kept D := fun d' e => by
    have hcs : comes (D.set c d') = comes D := by
      rw [comes_set, e]
      apply List.ext_getElem?
      intro j
      rw [List.getElem?_set]
      split
      · rename_i hj; subst hj; rw [if_pos (by simpa [comes] using hc)]; simp [comes, hd]
      · rfl
    have hkk : kept (D.set c d') = kept D := by unfold kept; rw [hcs]
    refine ⟨?_, hkk⟩
    unfold gateOf
    rw [hkk, hcs, hlen]
  obtain ⟨x, b, y⟩ := d
  unfold layd at hq
  cases b with
  | true =>
    -- behind the barrier: kept
    have hk : kept D = true := by simpa using hbl
    have hx0 : x = 0 := h.zer _ hmem rfl
    subst hx0
    simp only [if_true] at hq
    cases y with
    | zero => simp at hq
    | succ y =>
      rw [List.replicate_succ] at hq
      injection hq with e1 e2
      subst e1 e2
      obtain ⟨g1, g2⟩ := hg (0, true, y) rfl
      have s1 := sumX_set D c _ (0, true, y) hd
      have s2 := sumY_set D c _ (0, true, y) hd
      have s3 := wait_set D c _ (0, true, y) hd
      have hs := h.sum
      simp only [if_true] at s1 s2 s3
      refine ⟨(0, true, y), (1, (0, 0, 2), 0, 0, 0), ?_, by simp [layd], by unfold leftOf; omega, .inr (.inr ⟨rfl, by simp [hk], g2, ⟨by rw [hlen]; exact h.len, by omega, fun h2 => (by rw [g2, hk] at h2; cases h2), hzer _ (fun _ => rfl)⟩⟩)⟩
      rw [ht, g1]
      show ((gateOf D).capture c (recF 2), _, _) = _
      rw [hcap]
      rfl
  | false =>
    have hk : kept D = false := by
      cases hk : kept D with
      | false => rfl
      | true =>
        have : wait D = 0 := (wait_zero D).2 hk
        have s3 := wait_set D c _ (x, true, y) hd
        simp at s3
        omega
    have hy := h.ahd hk
    have hs := h.sum
    simp only [Bool.false_eq_true, if_false] at hq
    cases x with
    | succ x =>
      rw [List.replicate_succ, List.cons_append] at hq
      injection hq with e1 e2
      subst e1 e2
      obtain ⟨g1, g2⟩ := hg (x, false, y) rfl
      have s1 := sumX_set D c _ (x, false, y) hd
      have s2 := sumY_set D c _ (x, false, y) hd
      have s3 := wait_set D c _ (x, false, y) hd
      simp only [Bool.false_eq_true, if_false] at s1 s2 s3
      refine ⟨(x, false, y), (1, (0, 0, 1), 0, 0, 0), ?_, by simp [layd], by unfold leftOf; omega, .inr (.inr ⟨rfl, by simp [hk], g2, ⟨by rw [hlen]; exact h.len, by omega, fun h2 => by omega, hzer _ (fun h => by cases h)⟩⟩)⟩
      rw [ht, g1]
      show ((gateOf D).capture c (recF 1), _, _) = _
      rw [hcap]
      rfl
    | zero =>
      simp only [List.replicate_zero, List.nil_append] at hq
      injection hq with e1 e2
      subst e1 e2
      have s1 := sumX_set D c _ (0, true, y) hd
      have s2 := sumY_set D c _ (0, true, y) hd
      have s3 := wait_set D c _ (0, true, y) hd
      simp only [if_true, Bool.false_eq_true, if_false] at s1 s2 s3
      have hcm : (comes D).getD c false = false := by simp [comes, List.getD, hd]
      have hcl : c < (comes D).length := by simpa [comes] using hc
      have hcs : comes (D.set c (0, true, y)) = (comes D).set c true := comes_set ..
      have hany := has_set_true (comes D) c hcl
      -- the gate behind 'newer'
      have key : ∃ s : Gt, s = ⟨List.replicate D.length minMark, comes D, comes D, 9, 9, false, []⟩ ∧ (gateOf D).barrier c 9 false = s.tell c 9 := by
        refine ⟨_, rfl, ?_⟩
        unfold gateOf
        rw [hk]
        simp only [Bool.false_eq_true, if_false]
        unfold Gt.barrier Gt.bad Gt.newer
        cases ha : (comes D).contains true with
        | true => rfl
        | false =>
          have e := all_false _ ha
          have e' : List.replicate (comes D).length false = comes D := e.symm
          simp [e']
      obtain ⟨s, hs', hbar⟩ := key
      have htk : (gateOf D).take (c : Int) (barF 9 false) = ((s.tell c 9).1, (s.tell c 9).2, 0) := by
        rw [ht]
        show (((gateOf D).barrier c 9 false).1, ((gateOf D).barrier c 9 false).2, (0 : Int)) = _
        rw [hbar]
      have htell := Gt.tell_eq s c 9 false (!has s.came true) (!has (s.came1 c).came false) (by rw [hs']; exact hcm) (by simp) (by rw [hs']) rfl
      have hal : (!has (s.came1 c).came false) = kept (D.set c (0, true, y)) := by
        unfold kept
        rw [hcs, hs']
        rfl
      rw [hal] at htell
      have hAl : Al n NA NB told (D.set c (0, true, y)) := ⟨by rw [hlen]; exact h.len, by omega, fun _ => by omega, hzer _ (fun _ => rfl)⟩
      cases hkk : kept (D.set c (0, true, y)) with
      | true =>
        rw [hkk] at htell
        have hsx := sumX_zero _ hAl.zer hkk
        refine ⟨(0, true, y), (3, (0, 0, 0), 0, 9, 9), ?_, by simp [layd], by unfold leftOf; omega, .inl ⟨rfl, hk, hkk, by omega, hAl⟩⟩
        rw [htk, htell]
        have hr : (comes D).set c true = List.replicate (comes D).length true := by
          have := all_true (comes (D.set c (0, true, y))) (by simpa [kept] using hkk)
          rw [hcs, List.length_set] at this
          exact this
        have hl2 : (comes D).length = D.length := by simp [comes]
        have : gateOf (D.set c (0, true, y)) = (s.came1 c).whole := by
          unfold gateOf
          rw [hkk, hs']
          simp only [if_true, hlen]
          unfold Gt.whole Gt.came1
          simp only [hr, hl2]
        rw [this]
        simp [Gt.tellx]
      | false =>
        rw [hkk] at htell
        refine ⟨(0, true, y), noStep, ?_, by simp [layd], by unfold leftOf; omega, .inr (.inl ⟨rfl, hkk.trans hk.symm, hAl⟩)⟩
        rw [htk, htell]
        have : gateOf (D.set c (0, true, y)) = (s.came1 c).block c := by
          unfold gateOf
          rw [hkk, hs', hcs]
          simp only [Bool.false_eq_true, if_false, hlen]
          unfold Gt.block Gt.came1
          rw [hany]
          rfl
        rw [this]
        simp [Gt.tellx]
/-- Something can be taken as long as something is left. -/
theorem al_live (n NA NB told : Nat) (D : List Chn) (h : Al n NA NB told D) (hl : 0 < leftOf D) : ∃ c : Nat, ∃ d, D[c]? = some d ∧ layd d ≠ [] ∧ (gateOf D).blocked (c : Int) = false := by
  cases hk : kept D with
  | false =>
    have : ∃ d ∈ D, d.2.1 = false := by
      have hk' : (comes D).contains false = true := by simpa [kept] using hk
      rw [List.contains_iff_mem] at hk'
      obtain ⟨d, h1, h2⟩ := List.mem_map.1 hk'
      exact ⟨d, h1, h2⟩
    obtain ⟨d, h1, h2⟩ := this
    obtain ⟨c, hc⟩ := List.mem_iff_getElem?.1 h1
    refine ⟨c, d, hc, by simp [layd, h2], ?_⟩
    rw [gateOf_blocked D c d hc, h2]
    simp
  | true =>
    have hw := (wait_zero D).2 hk
    have hx := sumX_zero D h.zer hk
    have hy : 0 < sumY D := by unfold leftOf at hl; omega
    have : ∀ (D : List Chn), 0 < sumY D → ∃ d ∈ D, 0 < d.2.2 := by
      intro D
      induction D with
      | nil => intro h; simp [sumY] at h
      | cons e r ih =>
        intro h
        simp only [sumY] at h
        by_cases he : 0 < e.2.2
        · exact ⟨e, by simp, he⟩
        · obtain ⟨d, h1, h2⟩ := ih (by omega)
          exact ⟨d, by simp [h1], h2⟩
    obtain ⟨d, h1, h2⟩ := this D hy
    obtain ⟨c, hc⟩ := List.mem_iff_getElem?.1 h1
    refine ⟨c, d, hc, ?_, ?_⟩
    · unfold layd
      split
      · intro e; have := congrArg List.length e; simp at this; omega
      · simp
    · rw [gateOf_blocked D c d hc, hk]
      rfl
theorem al_end (n NA NB told : Nat) (D : List Chn) (h : Al n NA NB told D) (hl : leftOf D = 0) : kept D = true ∧ told = NA + NB := by
  unfold leftOf at hl
  have := h.sum
  exact ⟨(wait_zero D).1 (by omega), by omega⟩
end Go.Proofs.Ytlhgmfdmkckmhaa

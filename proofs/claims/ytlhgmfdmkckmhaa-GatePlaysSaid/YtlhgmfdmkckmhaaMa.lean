import Derived.Test.YtlhgmfdmkckmhaaKn
import Derived.Test.YtlhgmfdmkckmhaaProg
import Derived.Test.YtlhgmfdmkckmhaaLs
import Derived.Outline
import Derived.StillTailTactics
import Derived.Deep.DeepCutAuto
import Derived.Deep.CutBlock
import Derived.Deep.LoopGhost
import Derived.Deep.QuietTactic
import Derived.BigQuiet
import Derived.Deep.RegionHeld3
import Derived.Deep.RegionLaw
set_option linter.unusedVariables false
set_option linter.unusedSimpArgs false
namespace Go.Proofs.Ytlhgmfdmkckmhaa
open Go.RowKit
/-! ### What Take does to marks -/
theorem foldl_min_le : ∀ (l : List Int) (a : Int), l.foldl min a ≤ a ∧ ∀ x ∈ l, l.foldl min a ≤ x
  | [], a => ⟨Int.le_refl _, fun _ h => by cases h⟩
  | y :: r, a => by
    obtain ⟨h1, h2⟩ := foldl_min_le r (min a y)
    refine ⟨Int.le_trans h1 (Int.min_le_left ..), fun x hx => ?_⟩
    rcases List.mem_cons.1 hx with rfl | hx
    · exact Int.le_trans h1 (Int.min_le_right ..)
    · exact h2 x hx
theorem foldl_min_ge : ∀ (l : List Int) (a b : Int), b ≤ a → (∀ x ∈ l, b ≤ x) → b ≤ l.foldl min a
  | [], a, b, h, _ => h
  | y :: r, a, b, h, h' => foldl_min_ge r (min a y) b (by have := h' y (by simp); omega) fun x hx => h' x (by simp [hx])
theorem lmin_le (l : List Int) (x : Int) (hx : x ∈ l) : lmin l ≤ x := by
  cases l with
  | nil => cases hx
  | cons a r =>
    rcases List.mem_cons.1 hx with rfl | hx
    · exact (foldl_min_le r x).1
    · exact (foldl_min_le r a).2 x hx
theorem le_lmin (l : List Int) (b : Int) (h : l ≠ []) (h' : ∀ x ∈ l, b ≤ x) : b ≤ lmin l := by
  cases l with
  | nil => exact absurd rfl h
  | cons a r => exact foldl_min_ge r a b (h' a (by simp)) fun x hx => h' x (by simp [hx])
theorem lmin_raise (l : List Int) (c : Nat) (m : Int) (hc : c < l.length) : lmin l ≤ lmin (l.set c (max (l.getD c 0) m)) := by
  refine le_lmin _ _ (fun h => ?_) fun x hx => ?_
  · have := congrArg List.length h
    rw [List.length_set, List.length_nil] at this
    omega
  · rcases List.mem_or_eq_of_mem_set hx with h | rfl
    · exact lmin_le l x h
    · have h1 : l.getD c 0 ∈ l := by rw [List.getD_eq_getElem?_getD, List.getElem?_eq_getElem hc]; exact List.getElem_mem hc
      have := lmin_le l _ h1
      omega
theorem tell_marks (s : Gt) (ch : Nat) (n : Int) : (s.tell ch n).1.marks = s.marks ∧ (s.tell ch n).1.came.length = s.came.length ∧ (s.tell ch n).1.blk.length = s.blk.length ∧ (s.tell ch n).1.cap = s.cap ∧ (s.tell ch n).2.1 ≠ 2 := by
  unfold Gt.tell
  cases s.came.getD ch false with
  | true => exact ⟨rfl, rfl, rfl, rfl, fun h => by simp [noStep] at h⟩
  | false =>
    simp only [Bool.false_eq_true, if_false]
    have e : (s.came1 ch).came.length = s.came.length := List.length_set ..
    have e1 : (s.came1 ch).blk.length = s.blk.length := rfl
    have e2 : (s.came1 ch).whole.blk.length = s.blk.length := List.length_replicate ..
    have e3 : ((s.came1 ch).block ch).blk.length = s.blk.length := List.length_set ..
    split
    · split
      · exact ⟨rfl, e, e2, rfl, fun h => by simp [noStep] at h⟩
      · exact ⟨rfl, e, e1, rfl, fun h => by simp [noStep] at h⟩
    · split
      · split
        · exact ⟨rfl, e, e2, rfl, fun h => by simp [noStep] at h⟩
        · exact ⟨rfl, e, e1, rfl, fun h => by simp [noStep] at h⟩
      · exact ⟨rfl, e, e3, rfl, fun h => by simp [noStep] at h⟩
theorem newer_marks (s : Gt) (n : Int) (o : Bool) : (s.newer n o).marks = s.marks ∧ (s.newer n o).came.length = s.came.length ∧ (s.newer n o).blk.length = s.blk.length ∧ (s.newer n o).cap.length ≤ s.cap.length := by
  unfold Gt.newer
  split
  · exact ⟨rfl, List.length_replicate .., List.length_replicate .., Nat.zero_le _⟩
  · exact ⟨rfl, rfl, rfl, Nat.le_refl _⟩
theorem barrier_marks (s : Gt) (ch : Nat) (n : Int) (o : Bool) : (s.barrier ch n o).1.marks = s.marks ∧ (s.barrier ch n o).1.came.length = s.came.length ∧ (s.barrier ch n o).1.blk.length = s.blk.length ∧ (s.barrier ch n o).1.cap.length ≤ s.cap.length ∧ (s.barrier ch n o).2.1 ≠ 2 := by
  unfold Gt.barrier
  split
  · exact ⟨rfl, rfl, rfl, Nat.le_refl _, fun h => by simp [noStep] at h⟩
  · obtain ⟨a1, a2, a3, a4⟩ := newer_marks s n o
    obtain ⟨b1, b2, b3, b4, b5⟩ := tell_marks (s.newer n o) ch n
    exact ⟨b1.trans a1, b2.trans a2, b3.trans a3, by rw [b4]; exact a4, b5⟩
theorem capture_marks (s : Gt) (ch : Nat) (f : Fr) : (s.capture ch f).marks = s.marks ∧ (s.capture ch f).came = s.came ∧ (s.capture ch f).blk = s.blk ∧ (s.capture ch f).cap.length ≤ s.cap.length + 1 := by
  unfold Gt.capture
  split
  · exact ⟨rfl, rfl, rfl, by simp⟩
  · exact ⟨rfl, rfl, rfl, Nat.le_succ _⟩
def marksOf (l : List Int) (c : Nat) (f : Fr) : List Int := if f.1 = 2 then l.set c (max (l.getD c 0) f.2.2.1) else l
theorem take_marks (s : Gt) (N c : Nat) (f : Fr) (hok : s.Ok N) (hc : c < N) (hb : s.blocked (c : Int) = false) :
    ∃ s' x, s.take (c : Int) f = (s', x, 0) ∧ s'.Ok N ∧ s'.marks = marksOf s.marks c f ∧ (x.1 = 2 ↔ lmin s.marks < lmin s'.marks) ∧ (x.1 = 2 → x.2.2.1 = lmin s'.marks) ∧ s'.cap.length ≤ s.cap.length + 1 ∧ lmin s.marks ≤ lmin s'.marks := by
  obtain ⟨h1, h2, h3⟩ := hok
  have hb' : s.blk.getD c false = false := by
    unfold Gt.blocked at hb
    rw [decide_eq_true (by omega), Int.toNat_natCast] at hb
    simpa [List.getD] using hb
  have ht : s.take (c : Int) f = ((s.takeIn c f).1, (s.takeIn c f).2, 0) := by
    unfold Gt.take
    rw [if_pos ⟨by omega, by omega, by rw [Int.toNat_natCast]; exact hb'⟩, Int.toNat_natCast]
  refine ⟨_, _, ht, ?_⟩
  unfold Gt.takeIn marksOf
  obtain ⟨c1, c2, c3, c4⟩ := capture_marks s c f
  by_cases k1 : f.1 = 1
  · rw [if_pos k1, if_neg (by omega)]
    refine ⟨⟨by rw [c1]; exact h1, by rw [c2]; exact h2, by rw [c3]; exact h3⟩, c1, ?_, ?_, c4, ?_⟩
    · rw [c1]; simp
    · intro h; simp at h
    · rw [c1]; exact Int.le_refl _
  rw [if_neg k1]
  by_cases k2 : f.1 = 2
  · rw [if_pos k2, if_pos k2]
    have hm : ((s.capture c f).rise c f.2.2.1).marks = s.marks.set c (max (s.marks.getD c 0) f.2.2.1) := by
      show (s.capture c f).marks.set c (max ((s.capture c f).marks.getD c 0) f.2.2.1) = _
      rw [c1]
    have hr : (s.capture c f).riseS c f.2.2.1 = if lmin s.marks < lmin (s.marks.set c (max (s.marks.getD c 0) f.2.2.1)) then (2, (0, 0, 0), lmin (s.marks.set c (max (s.marks.getD c 0) f.2.2.1)), 0, 0) else noStep := by
      unfold Gt.riseS Gt.raised
      rw [c1]
    refine ⟨⟨by rw [hm, List.length_set]; exact h1, ?_, ?_⟩, hm, ?_, ?_, c4, ?_⟩
    · show (s.capture c f).came.length = N
      rw [c2]; exact h2
    · show (s.capture c f).blk.length = N
      rw [c3]; exact h3
    · rw [hm]
      show ((s.capture c f).riseS c f.2.2.1).1 = 2 ↔ _
      rw [hr]
      split
      · rename_i h; exact ⟨fun _ => h, fun _ => rfl⟩
      · rename_i h; exact ⟨fun e => absurd e (by decide), fun e => absurd e h⟩
    · rw [hm]
      show ((s.capture c f).riseS c f.2.2.1).1 = 2 → ((s.capture c f).riseS c f.2.2.1).2.2.1 = _
      rw [hr]
      split
      · intro _; rfl
      · intro e; exact absurd e (by decide)
    · rw [hm]
      exact lmin_raise _ _ _ (by omega)
  rw [if_neg k2, if_neg k2]
  by_cases k3 : f.1 = 3
  · rw [if_pos k3]
    obtain ⟨b1, b2, b3, b4, b5⟩ := barrier_marks s c f.2.2.2.1 f.2.2.2.2
    refine ⟨⟨by rw [b1]; exact h1, b2.trans h2, b3.trans h3⟩, b1, ⟨fun e => absurd e b5, fun e => by rw [b1] at e; omega⟩, fun e => absurd e b5, by omega, by rw [b1]; exact Int.le_refl _⟩
  · rw [if_neg k3]
    exact ⟨⟨h1, h2, h3⟩, rfl, ⟨fun e => by simp [noStep] at e, fun e => by simp at e⟩, fun e => by simp [noStep] at e, Nat.le_succ _, Int.le_refl _⟩
end Go.Proofs.Ytlhgmfdmkckmhaa

import Derived.Test.YthjinahfhpgpmaaBd
import Derived.IntWalk
import Derived.Test.YthjinahfhpgpmaaProg
import Derived.Test.YthjinahfhpgpmaaLs
import Derived.Outline
import Derived.StillTailTactics
import Derived.Deep.DeepCutAuto
import Derived.Deep.CutBlock
import Derived.Deep.LoopGhost
import Derived.Deep.QuietTactic
import Derived.BigQuiet
import Derived.Deep.RegionHeld3
import Derived.Deep.RegionLaw
set_option linter.unusedVariables false
set_option linter.unusedSimpArgs false
namespace Go.Proofs.Ythjinahfhpgpmaa
open Go.RowKit
/-! ### CoordWaits: plain -/
def upto (k : Nat) : Int → Bool := fun x => decide (0 ≤ x ∧ x < (k : Int))
def Wt (n : Nat) (i T L : Int) (ack : Int → Bool) (U lm t b s : Int) (st : Bool) : Co := ⟨iota n, [0], i, T, 1, 0, L, upto n, ack, fun _ => 0, U, 0, st, lm, t, b, s⟩
section
variable {n : Nat} {i T L : Int} {ack : Int → Bool} {U lm t b s : Int}
theorem upto_all (n : Nat) : (iota n).all (upto n) = true := (iota_all n _).2 fun x h1 h2 => by unfold upto; rw [decide_eq_true_iff]; exact ⟨h1, h2⟩
theorem wt_go : (Wt n i T L ack U lm t b s false).tick = (Wt n i T L ack U lm t b s false).mid.go [] := by
  unfold Co.tick
  rw [if_neg (by show ¬ (1 : Int) = 0; decide), if_neg (by show ¬ (iota n).all (upto n) = false; rw [upto_all]; decide)]
  rfl
theorem wt_mid0 (h : U = 0) : (Wt n i T L ack U lm t b s false).mid = Wt n i T L ack U lm (t + 1) b s false := by
  subst h
  unfold Co.mid
  rw [if_neg (by show ¬ ((0 : Int) != 0 && _ && _) = true; simp)]
  rfl
theorem wt_mid1 (h : t + 1 - b < lm) : (Wt n i T L ack U lm t b s false).mid = Wt n i T L ack U lm (t + 1) b s false := by
  unfold Co.mid
  rw [if_neg (by show ¬ (_ && _ && decide (lm ≤ t + 1 - b)) = true; rw [decide_eq_false (by omega)]; simp)]
  rfl
theorem wt_mid2 (hU : U ≠ 0) (h : lm ≤ t + 1 - b) : (Wt n i T L ack U lm t b s false).mid = Wt n i T L ack 0 (min (2 * lm) 1048576) (t + 1) b s false := by
  unfold Co.mid
  rw [if_pos (by show (U != 0 && !false && decide (lm ≤ t + 1 - b)) = true; rw [decide_eq_true h]; simp [hU])]
  rfl
theorem wt_go0 (h : t - s < i) : ((Wt n i T L ack 0 lm t b s false).go []).1 = Wt n i T L ack 0 lm t b s false := by
  unfold Co.go
  rw [if_neg (by show ¬ ((0 : Int) == 0 && decide (i ≤ t - s)) = true; rw [decide_eq_false (by omega)]; simp), if_neg (by show ¬ ((0 : Int) != 0 && !false) = true; decide)]
theorem wt_go1 (h : i ≤ t - s) : ((Wt n i T L ack 0 lm t b s false).go []).1 = Wt n i T (L + 1) nobody (L + 1) lm t t t false := by
  unfold Co.go
  rw [if_pos (by show ((0 : Int) == 0 && decide (i ≤ t - s)) = true; rw [decide_eq_true h]; rfl)]
  rfl
theorem wt_go2 (h : U ≠ 0) : ((Wt n i T L ack U lm t b s false).go []).1 = Wt n i T L ack U lm t b s false := by
  unfold Co.go
  rw [if_neg (by show ¬ (U == 0 && _) = true; rw [beq_false_of_ne h]; simp)]
  split <;> rfl
theorem wt_ack (k : Nat) (hk : k < n) (hL : L ≠ 0) (hn : 2 ≤ n) : (Wt n i T L (upto k) L lm t b s false).take (2, 1, L, (k : Int)) = (Wt n i T L (upto (k + 1)) L lm t b s (decide (k + 1 = n)), if k + 1 = n then L else 0) := by
  have h1 : (iota n).contains (k : Int) = true := by rw [iota_mem, decide_eq_true_iff]; omega
  unfold Co.take
  rw [if_neg (by
    rintro (h | h | h)
    · exact h rfl
    · exact absurd h (by show (1 : Int) ≠ 0; decide)
    · have : (iota n).contains (k : Int) = false := h
      rw [h1] at this; cases this), if_neg (fun h => absurd h.1 (by show (2 : Int) ≠ 6; decide)), if_pos ⟨rfl, hL, rfl, rfl⟩]
  have hf : updf (upto k) (k : Int) true = upto (k + 1) := by
    funext x
    unfold updf upto
    split
    · rw [eq_comm, decide_eq_true_iff]; omega
    · exact decide_eq_decide.2 (by omega)
  unfold Co.ack
  show (if (iota n).all (updf (upto k) (k : Int) true) then (({ Wt n i T L (upto k) L lm t b s false with acked := updf (upto k) (k : Int) true, stored := true }, L) : Co × Int) else ({ Wt n i T L (upto k) L lm t b s false with acked := updf (upto k) (k : Int) true }, 0)) = _
  rw [hf]
  by_cases hkn : k + 1 = n
  · rw [if_pos (by rw [hkn]; exact upto_all n), if_pos hkn, decide_eq_true hkn]
    rfl
  · rw [if_neg (by
      intro h
      have := (iota_all n _).1 h ((k + 1 : Nat) : Int) (by omega) (by omega)
      unfold upto at this
      rw [decide_eq_true_iff] at this
      omega), if_neg hkn, decide_eq_false hkn]
    rfl
theorem wt_late (x N : Int) (hx : N ≠ U) : (Wt n i T L ack U lm t b s false).take (2, 1, N, x) = (Wt n i T L ack U lm t b s false, 0) := by
  unfold Co.take
  split
  · rfl
  rw [if_neg (fun h => absurd h.1 (by show (2 : Int) ≠ 6; decide)), if_neg (fun h => hx h.2.2.1), if_neg (fun h => absurd h.1 (by show (2 : Int) ≠ 4; decide))]
theorem wt_bd {A B : Int} (h1 : 0 ≤ t ∧ t ≤ A) (h2 : 0 ≤ b ∧ b ≤ A) (h3 : 0 ≤ s ∧ s ≤ A) (h4 : 0 ≤ lm ∧ lm ≤ 1048576) (h5 : 0 ≤ L ∧ L ≤ B) (h6 : 0 ≤ T ∧ T ≤ 1048576) (st : Bool) : Bd (Wt n i T L ack U lm t b s st) A B := ⟨h1, h2, h3, h4, h5, h6⟩
end
/-- Between two checkpoints. -/
def Idle (N : Nat) (I T : Int) (j W q : Nat) (c : Co) : Prop := ∃ L ack t b s, c = Wt N I T L ack 0 W t b s false ∧ 0 ≤ s ∧ s ≤ t ∧ 0 ≤ b ∧ b ≤ t ∧ t ≤ 500 * j + q ∧ 0 ≤ L ∧ L ≤ 2 * j ∧ q ≤ t - s ∧ q < I
/-- One began at this tick. -/
def Begun (N : Nat) (I T : Int) (j W : Nat) (c : Co) : Prop := ∃ L t, c = Wt N I T L nobody L W t t t false ∧ 0 ≤ t ∧ t ≤ 500 * j + 10 ∧ 1 ≤ L ∧ L ≤ 2 * j + 1
theorem idle_tick {N : Nat} {I T : Int} {j W q : Nat} {c : Co} (hI : I ≤ 5) (h : Idle N I T j W q c) : Idle N I T j W (q + 1) c.tick.1 ∨ Begun N I T j W c.tick.1 := by
  obtain ⟨L, ack, t, b, s, rfl, h1, h2, h3, h4, h5, h6, h7, h8, h9⟩ := h
  rw [wt_go, wt_mid0 rfl]
  rcases Int.lt_or_le (t + 1 - s) I with hd | hd
  · rw [wt_go0 hd]
    exact .inl ⟨L, ack, t + 1, b, s, rfl, h1, by omega, h3, by omega, by omega, h6, h7, by omega, by omega⟩
  · rw [wt_go1 hd]
    exact .inr ⟨L + 1, t + 1, rfl, by omega, by omega, by omega, by omega⟩
theorem idle_facts {N : Nat} {I T : Int} {j W q : Nat} {c : Co} (hI : I ≤ 5) (hj : j ≤ 5) (hT : 0 ≤ T ∧ T ≤ 9) (hW : W ≤ 300) (h : Idle N I T j W q c) : c.under = 0 ∧ Bd c 5000 100 ∧ c.tasks = iota N ∧ c.sinks = [0] ∧ (q : Int) < I := by
  obtain ⟨L, ack, t, b, s, rfl, h1, h2, h3, h4, h5, h6, h7, h8, h9⟩ := h
  exact ⟨rfl, wt_bd (by omega) (by omega) (by omega) (by omega) (by omega) (by omega) _, rfl, rfl, h9⟩
/-- Given up. -/
def Gone (N : Nat) (I T : Int) (W : Nat) (L t : Int) (ack : Int → Bool) (c : Co) : Prop := c = Wt N I T (L + 1) nobody (L + 1) ((2 * W : Nat) : Int) (t + W) (t + W) (t + W) false ∨ c = Wt N I T L ack 0 ((2 * W : Nat) : Int) (t + W) t t false
def Down (N : Nat) (I T : Int) (W : Nat) (L t : Int) (ack : Int → Bool) (q : Nat) (c : Co) : Prop := (q < W ∧ c = Wt N I T L ack L W (t + q) t t false) ∨ (q = W ∧ Gone N I T W L t ack c)
theorem down_tick {N : Nat} {I T : Int} {W : Nat} {L t : Int} {ack : Int → Bool} {q : Nat} {c : Co} (hL : L ≠ 0) (hW : W ≤ 300) (hq : q < W) (h : Down N I T W L t ack q c) : Down N I T W L t ack (q + 1) c.tick.1 := by
  rcases h with ⟨_, rfl⟩ | ⟨h, _⟩
  · rw [wt_go]
    rcases Nat.lt_or_ge (q + 1) W with h1 | h1
    · rw [wt_mid1 (by omega), wt_go2 hL]
      exact .inl ⟨h1, by rw [show t + (q : Int) + 1 = t + ((q + 1 : Nat) : Int) by omega]⟩
    · have hqw : q + 1 = W := by omega
      rw [wt_mid2 hL (by omega), show min (2 * (W : Int)) 1048576 = ((2 * W : Nat) : Int) by omega, show t + (q : Int) + 1 = t + (W : Int) by omega]
      refine .inr ⟨hqw, ?_⟩
      rcases Int.lt_or_le (t + (W : Int) - t) I with hd | hd
      · rw [wt_go0 hd]; exact .inr rfl
      · rw [wt_go1 hd]; exact .inl rfl
  · omega
theorem gone_facts {N : Nat} {I T : Int} {j W : Nat} {L t : Int} {ack : Int → Bool} {c : Co} (hI : 1 ≤ I) (hL : 1 ≤ L ∧ L ≤ 2 * j + 1) (ht : 0 ≤ t ∧ t ≤ 500 * j + 10) (hW : W ≤ 300) (hW0 : 1 ≤ W) (x : Int) (h : Gone N I T W L t ack c) :
    c.under ≠ L ∧ c.take (2, 1, L, x) = (c, 0) ∧ c.tasks = iota N ∧ (Idle N I T (j + 1) (2 * W) 0 c ∨ Begun N I T (j + 1) (2 * W) c) := by
  rcases h with rfl | rfl
  · exact ⟨by show L + 1 ≠ L; omega, wt_late x L (by omega), rfl, .inr ⟨L + 1, t + W, rfl, by omega, by omega, by omega, by omega⟩⟩
  · exact ⟨by show (0 : Int) ≠ L; omega, wt_late x L (by omega), rfl, .inl ⟨L, ack, t + W, t, t, rfl, by omega, by omega, by omega, by omega, by omega, by omega, by omega, by omega, by omega⟩⟩
theorem down_facts {N : Nat} {I T : Int} {j W : Nat} {L t : Int} {ack : Int → Bool} {q : Nat} {c : Co} (hj : j ≤ 5) (hL : 1 ≤ L ∧ L ≤ 2 * j + 1) (ht : 0 ≤ t ∧ t ≤ 500 * j + 10) (hT : 0 ≤ T ∧ T ≤ 9) (hW : W ≤ 300) (hq : q < W) (h : Down N I T W L t ack q c) : c.under = L ∧ Bd c 5000 100 ∧ c.tasks = iota N ∧ c.sinks = [0] := by
  rcases h with ⟨_, rfl⟩ | ⟨h, _⟩
  · exact ⟨rfl, wt_bd (by omega) (by omega) (by omega) (by omega) (by omega) (by omega) _, rfl, rfl⟩
  · omega
def wb : Nat → Nat | 0 => 9 | j + 1 => 2 * wb j
theorem wb_le : ∀ j < 5, wb j ≤ 144 := by decide
end Go.Proofs.Ythjinahfhpgpmaa

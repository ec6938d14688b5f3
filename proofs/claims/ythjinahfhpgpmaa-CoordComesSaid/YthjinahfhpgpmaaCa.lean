import Derived.Test.YthjinahfhpgpmaaBd
import Derived.IntWalk
import Derived.Test.YthjinahfhpgpmaaProg
import Derived.Test.YthjinahfhpgpmaaLs
import Derived.Outline
import Derived.StillTailTactics
import Derived.Deep.DeepCutAuto
import Derived.Deep.CutBlock
import Derived.Deep.LoopGhost
import Derived.Deep.QuietTactic
import Derived.BigQuiet
import Derived.Deep.RegionHeld3
import Derived.Deep.RegionLaw
set_option linter.unusedVariables false
set_option linter.unusedSimpArgs false
namespace Go.Proofs.Ythjinahfhpgpmaa
open Go.RowKit
/-! ### CoordComes: plain -/
section
variable (n lost : Nat) (I T : Int)
def kindOf (m : Ctl) : Int := if m.1 = 5 then 6 else 2
def hear1 (c : Co) (m : Ctl) : Co := if (c.take (kindOf m, m.2)).2 = 0 then (c.take (kindOf m, m.2)).1 else ((c.take (kindOf m, m.2)).1.store (c.take (kindOf m, m.2)).2 true).1
def hear (i : Nat) (c : Co) (m : Ctl) : Co := if ((i : Int) + m.2.2.2) % (lost : Int) = 0 then hear1 c m else c
theorem hear_same (i : Nat) (c : Co) (m : Ctl) : Same c (hear lost i c m) := by
  have key : ∀ (A B : Int), Bd c A B → True := fun _ _ _ => trivial
  have ht : Same c (c.take (kindOf m, m.2)).1 := by
    unfold Co.take
    split
    · exact Same.refl c
    split
    · unfold Co.readied
      show Same c (if _ then _ else _ : Co)
      split <;> exact ⟨rfl, rfl, rfl, rfl⟩
    split
    · unfold Co.ack
      split <;> exact ⟨rfl, rfl, rfl, rfl⟩
    split <;> exact ⟨rfl, rfl, rfl, rfl⟩
  unfold hear hear1
  split
  · split
    · exact ht
    · refine ht.trans ?_
      unfold Co.store
      split
      · exact Same.refl _
      split <;> exact ⟨rfl, rfl, rfl, rfl⟩
  · exact Same.refl c
theorem fold_same (i : Nat) : ∀ (l : List Ctl) (c : Co), Same c (l.foldl (hear lost i) c)
  | [], c => Same.refl c
  | m :: l, c => (hear_same lost i c m).trans (fold_same i l _)
def Wc (rd ack : Int → Bool) (L U lm t b s : Int) : Co := ⟨iota n, [0], I, T, 1, 0, L, rd, ack, fun _ => 0, U, 0, false, lm, t, b, s⟩
/-- Who hears at one of the ticks from a to i is in the set. -/
def One (f : Int → Bool) (a i : Int) : Prop := ∀ x : Int, 0 ≤ x → x < (n : Int) → (∃ j : Int, a ≤ j ∧ j < i ∧ (j + x) % (lost : Int) = 0) → f x = true
theorem one_all {f : Int → Bool} {a i : Int} (hl : 1 ≤ lost) (h : One n lost f a i) (hi : a + lost ≤ i) : (iota n).all f = true := by
  rw [iota_all]
  intro x h0 h1
  have hp : (0 : Int) < lost := by omega
  have e1 := Int.emod_nonneg (-(a + x)) (by omega : (lost : Int) ≠ 0)
  have e2 := Int.emod_lt_of_pos (-(a + x)) hp
  refine h x h0 h1 ⟨a + (-(a + x)) % (lost : Int), by omega, by omega, ?_⟩
  obtain ⟨y, hy⟩ : ∃ y, a + x = y := ⟨_, rfl⟩
  have e3 := Int.emod_def (-y) lost
  rw [show a + (-(a + x)) % (lost : Int) + x = (lost : Int) * (-(-y / (lost : Int))) by rw [hy, e3, Int.mul_neg]; omega]
  exact Int.mul_emod_right _ _
theorem one_next {f g : Int → Bool} {a i : Int} (h : One n lost f a i) (hm : ∀ x, f x = true → g x = true) (hn : ∀ x : Int, 0 ≤ x → x < (n : Int) → (i + x) % (lost : Int) = 0 → g x = true) : One n lost g a (i + 1) := by
  intro x h0 h1 hj
  obtain ⟨j, j1, j2, j3⟩ := hj
  rcases Int.lt_or_le j i with hji | hji
  · exact hm x (h x h0 h1 ⟨j, j1, hji, j3⟩)
  · have : j = i := by omega
    rw [this] at j3
    exact hn x h0 h1 j3
variable {n lost I T}
theorem wc_all {rd ack : Int → Bool} {L U lm t b s : Int} : (Wc n I T rd ack L U lm t b s).all (Wc n I T rd ack L U lm t b s).ready = (iota n).all rd := rfl
/-! A restore heard. -/
theorem wc_ready (rd : Int → Bool) (x : Int) (i : Nat) (hx : (iota n).contains x = true) :
    ∃ rd', hear lost i (Wc n I T rd nobody 0 0 T 0 0 0) (5, 1, 0, x) = Wc n I T rd' nobody 0 0 T 0 0 0 ∧ (∀ y, rd y = true → rd' y = true) ∧ (((i : Int) + x) % (lost : Int) = 0 → rd' x = true) := by
  unfold hear
  split
  · have e : ∃ rd', (Wc n I T rd nobody 0 0 T 0 0 0).take (6, 1, 0, x) = (Wc n I T rd' nobody 0 0 T 0 0 0, 0) ∧ (∀ y, rd y = true → rd' y = true) ∧ rd' x = true := by
      unfold Co.take
      rw [if_neg (by
        rintro (h | h | h)
        · exact h rfl
        · exact absurd h (by show (1 : Int) ≠ 0; decide)
        · have : (iota n).contains x = false := h
          rw [hx] at this; cases this)]
      by_cases hr : rd x = true
      · rw [if_neg (fun h => by have : rd x = false := h.2.2; rw [hr] at this; cases this), if_neg (fun h => absurd h.1 (by show (6 : Int) ≠ 2; decide)), if_neg (fun h => absurd h.1 (by show (6 : Int) ≠ 4; decide))]
        exact ⟨rd, rfl, fun _ h => h, hr⟩
      · rw [if_pos ⟨rfl, rfl, by show rd x = false; simpa using hr⟩]
        refine ⟨updf rd x true, ?_, fun y h => ?_, ?_⟩
        · unfold Co.readied
          show (if _ then _ else _, _) = _
          split <;> rfl
        · unfold updf; split
          · rfl
          · exact h
        · unfold updf; rw [if_pos rfl]
    obtain ⟨rd', e1, e2, e3⟩ := e
    refine ⟨rd', ?_, e2, fun _ => e3⟩
    unfold hear1
    show (if ((Wc n I T rd nobody 0 0 T 0 0 0).take (6, 1, 0, x)).2 = 0 then ((Wc n I T rd nobody 0 0 T 0 0 0).take (6, 1, 0, x)).1 else _) = _
    rw [e1]
    rfl
  · rename_i hh
    exact ⟨rd, rfl, fun _ h => h, fun h => absurd h hh⟩
theorem fold_ready (i : Nat) : ∀ (l : List Int) (rd : Int → Bool), (∀ x ∈ l, (iota n).contains x = true) →
    ∃ rd', (l.map fun x => ((5, 1, 0, x) : Ctl)).foldl (hear lost i) (Wc n I T rd nobody 0 0 T 0 0 0) = Wc n I T rd' nobody 0 0 T 0 0 0 ∧ (∀ y, rd y = true → rd' y = true) ∧ ∀ x ∈ l, ((i : Int) + x) % (lost : Int) = 0 → rd' x = true
  | [], rd, _ => ⟨rd, rfl, fun _ h => h, fun x h => absurd h (List.not_mem_nil)⟩
  | x :: l, rd, hl => by
    obtain ⟨r1, a1, a2, a3⟩ := wc_ready (I := I) (T := T) (lost := lost) rd x i (hl x (List.mem_cons_self ..))
    obtain ⟨r2, b1, b2, b3⟩ := fold_ready i l r1 (fun y hy => hl y (List.mem_cons_of_mem _ hy))
    refine ⟨r2, ?_, fun y h => b2 y (a2 y h), fun y hy hh => ?_⟩
    · rw [List.map_cons, List.foldl_cons, a1]
      exact b1
    · rcases List.mem_cons.1 hy with rfl | hy
      · exact b2 _ (a3 hh)
      · exact b3 y hy hh
/-! One is durable. -/
structure Won (n : Nat) (B : Int) (c : Co) : Prop where
  bd : Bd c B B
  tasks : c.tasks = iota n
  sinks : c.sinks = [0]
  epoch : c.epoch = 1
  ready : c.all c.ready = true
  done : c.done = fun _ => 0
  durable : c.durable ≠ 0
theorem won_hear {B : Int} {c : Co} (h : Won n B c) (i : Nat) (m : Ctl) (hm : m.1 = 1) : Won n B (hear lost i c m) := by
  unfold hear
  split
  · have hk : kindOf m = 2 := by unfold kindOf; rw [if_neg (by omega)]
    unfold hear1
    rw [hk]
    have hb := take_bd h.bd (2, m.2)
    have hc : (c.take (2, m.2) = (c, 0)) ∨ (c.under ≠ 0 ∧ c.take (2, m.2) = c.ack m.2.2.2) := by
      unfold Co.take
      split
      · exact .inl rfl
      rw [if_neg (fun h => absurd h.1 (by show (2 : Int) ≠ 6; decide))]
      split
      · rename_i hh
        exact .inr ⟨hh.2.1, rfl⟩
      rw [if_neg (fun h => absurd h.1 (by show (2 : Int) ≠ 4; decide))]
      exact .inl rfl
    rcases hc with hc | ⟨hu, hc⟩
    · rw [hc]; exact h
    · rw [hc] at hb ⊢
      unfold Co.ack at hb ⊢
      split
      · rename_i ha
        rw [if_pos ha] at hb
        show Won n B (({ c with acked := updf c.acked m.2.2.2 true, stored := true } : Co).store c.under true).1
        have hs := store_bd hb.1 c.under true
        have e : (({ c with acked := updf c.acked m.2.2.2 true, stored := true } : Co).store c.under true).1 = ({ c with acked := updf c.acked m.2.2.2 true, stored := true } : Co).put c.under := by
          unfold Co.store
          rw [if_neg (by rintro (h | h); cases h; exact h rfl), if_pos rfl]
        rw [e] at hs ⊢
        exact ⟨hs.1, h.tasks, h.sinks, h.epoch, h.ready, rfl, hu⟩
      · rename_i ha
        rw [if_neg ha] at hb
        rw [if_pos rfl]
        exact ⟨hb.1, h.tasks, h.sinks, h.epoch, h.ready, h.done, h.durable⟩
  · exact h
theorem won_fold {B : Int} (i : Nat) : ∀ (l : List Ctl) (c : Co), Won n B c → (∀ m ∈ l, m.1 = 1) → Won n B (l.foldl (hear lost i) c)
  | [], _, h, _ => h
  | m :: l, c, h, hl => won_fold i l _ (won_hear h i m (hl m (List.mem_cons_self ..))) fun y hy => hl y (List.mem_cons_of_mem _ hy)
/-! A trigger heard. -/
theorem wc_ack {rd ack : Int → Bool} {L lm t b s B : Int} (x : Int) (i : Nat) (hx : (iota n).contains x = true) (hL : L ≠ 0) (hr : (iota n).all rd = true) (hb : Bd (Wc n I T rd ack L L lm t b s) B B) (hna : (iota n).all ack = false) :
    Won n B (hear lost i (Wc n I T rd ack L L lm t b s) (1, 1, L, x)) ∨ ∃ ack', hear lost i (Wc n I T rd ack L L lm t b s) (1, 1, L, x) = Wc n I T rd ack' L L lm t b s ∧ (∀ y, ack y = true → ack' y = true) ∧ (((i : Int) + x) % (lost : Int) = 0 → ack' x = true) ∧ (iota n).all ack' = false := by
  unfold hear
  split
  · have e : (Wc n I T rd ack L L lm t b s).take (2, 1, L, x) = (Wc n I T rd ack L L lm t b s).ack x := by
      unfold Co.take
      rw [if_neg (by
        rintro (h | h | h)
        · exact h rfl
        · exact absurd h (by show (1 : Int) ≠ 0; decide)
        · have : (iota n).contains x = false := h
          rw [hx] at this; cases this), if_neg (fun h => absurd h.1 (by show (2 : Int) ≠ 6; decide)), if_pos ⟨rfl, hL, rfl, rfl⟩]
    have hk : hear1 (Wc n I T rd ack L L lm t b s) (1, 1, L, x) = if ((Wc n I T rd ack L L lm t b s).ack x).2 = 0 then ((Wc n I T rd ack L L lm t b s).ack x).1 else (((Wc n I T rd ack L L lm t b s).ack x).1.store ((Wc n I T rd ack L L lm t b s).ack x).2 true).1 := by
      rw [← e]; rfl
    rw [hk]
    unfold Co.ack
    by_cases ha : (iota n).all (updf ack x true) = true
    · left
      have h1 : ((Wc n I T rd ack L L lm t b s).all (updf (Wc n I T rd ack L L lm t b s).acked x true)) = true := ha
      rw [if_pos h1]
      show Won n B (if L = 0 then _ else _)
      rw [if_neg hL]
      have hb2 : Bd ({ Wc n I T rd ack L L lm t b s with acked := updf ack x true, stored := true } : Co) B B := ⟨hb.ticks, hb.began, hb.since, hb.limit, hb.last, hb.tout⟩
      have hs := store_bd hb2 L true
      have e2 : ({ Wc n I T rd ack L L lm t b s with acked := updf ack x true, stored := true } : Co).store L true = (({ Wc n I T rd ack L L lm t b s with acked := updf ack x true, stored := true } : Co).put L, ({ Wc n I T rd ack L L lm t b s with acked := updf ack x true, stored := true } : Co).put L |>.tell 3 L [0] nobody) := by
        unfold Co.store
        rw [if_neg (by rintro (h | h); cases h; exact h rfl), if_pos rfl]
        rfl
      show Won n B (({ Wc n I T rd ack L L lm t b s with acked := updf ack x true, stored := true } : Co).store L true).1
      rw [e2] at hs ⊢
      exact ⟨hs.1, rfl, rfl, rfl, hr, rfl, hL⟩
    · right
      have h1 : ¬ ((Wc n I T rd ack L L lm t b s).all (updf (Wc n I T rd ack L L lm t b s).acked x true)) = true := ha
      rw [if_neg h1, if_pos rfl]
      refine ⟨updf ack x true, rfl, fun y h => ?_, fun _ => ?_, by simpa using ha⟩
      · unfold updf; split
        · rfl
        · exact h
      · unfold updf; rw [if_pos rfl]
  · rename_i hh
    exact .inr ⟨ack, rfl, fun _ h => h, fun h => absurd h hh, hna⟩
theorem fold_ack {rd : Int → Bool} {L lm t b s B : Int} (i : Nat) (hL : L ≠ 0) (hr : (iota n).all rd = true) : ∀ (l : List Int) (ack : Int → Bool), (∀ x ∈ l, (iota n).contains x = true) → Bd (Wc n I T rd ack L L lm t b s) B B → (iota n).all ack = false →
    Won n B ((l.map fun x => ((1, 1, L, x) : Ctl)).foldl (hear lost i) (Wc n I T rd ack L L lm t b s)) ∨
    ∃ ack', (l.map fun x => ((1, 1, L, x) : Ctl)).foldl (hear lost i) (Wc n I T rd ack L L lm t b s) = Wc n I T rd ack' L L lm t b s ∧ (∀ y, ack y = true → ack' y = true) ∧ (∀ x ∈ l, ((i : Int) + x) % (lost : Int) = 0 → ack' x = true) ∧ (iota n).all ack' = false
  | [], ack, _, _, hna => .inr ⟨ack, rfl, fun _ h => h, fun x h => absurd h (List.not_mem_nil), hna⟩
  | x :: l, ack, hl, hb, hna => by
    rcases wc_ack (lost := lost) x i (hl x (List.mem_cons_self ..)) hL hr hb hna with h | ⟨a1, e1, e2, e3, e4⟩
    · left
      rw [List.map_cons, List.foldl_cons]
      exact won_fold i _ _ h (fun m hm => by obtain ⟨y, _, rfl⟩ := List.mem_map.1 hm; rfl)
    · have hb2 : Bd (Wc n I T rd a1 L L lm t b s) B B := ⟨hb.ticks, hb.began, hb.since, hb.limit, hb.last, hb.tout⟩
      rw [List.map_cons, List.foldl_cons, e1]
      rcases fold_ack i hL hr l a1 (fun y hy => hl y (List.mem_cons_of_mem _ hy)) hb2 e4 with h | ⟨a2, b1, b2, b3, b4⟩
      · exact .inl h
      · refine .inr ⟨a2, b1, fun y h => b2 y (e2 y h), fun y hy hh => ?_, b4⟩
        rcases List.mem_cons.1 hy with rfl | hy
        · exact b2 _ (e3 hh)
        · exact b3 y hy hh
end
/-! ### CoordComes: the rank -/
section
variable {n lost : Nat} {I T : Int}
section
variable {rd ack : Int → Bool} {L U lm t b s : Int}
theorem wc_go (hr : (iota n).all rd = true) : (Wc n I T rd ack L U lm t b s).tick = (Wc n I T rd ack L U lm t b s).mid.go [] := by
  unfold Co.tick
  rw [if_neg (by show ¬ (1 : Int) = 0; decide), if_neg (by show ¬ (iota n).all rd = false; rw [hr]; decide)]
  rfl
theorem wc_mid0 : (Wc n I T rd ack L 0 lm t b s).mid = Wc n I T rd ack L 0 lm (t + 1) b s := by
  unfold Co.mid
  rw [if_neg (by show ¬ ((0 : Int) != 0 && _ && _) = true; simp)]
  rfl
theorem wc_mid1 (h : t + 1 - b < lm) : (Wc n I T rd ack L U lm t b s).mid = Wc n I T rd ack L U lm (t + 1) b s := by
  unfold Co.mid
  rw [if_neg (by show ¬ (_ && _ && decide (lm ≤ t + 1 - b)) = true; rw [decide_eq_false (by omega)]; simp)]
  rfl
theorem wc_mid2 (hU : U ≠ 0) (h : lm ≤ t + 1 - b) : (Wc n I T rd ack L U lm t b s).mid = Wc n I T rd ack L 0 (min (2 * lm) 1048576) (t + 1) b s := by
  unfold Co.mid
  rw [if_pos (by show (U != 0 && !false && decide (lm ≤ t + 1 - b)) = true; rw [decide_eq_true h]; simp [hU])]
  rfl
theorem wc_go0 (h : t - s < I) : (Wc n I T rd ack L 0 lm t b s).go [] = (Wc n I T rd ack L 0 lm t b s, []) := by
  unfold Co.go
  rw [if_neg (by show ¬ ((0 : Int) == 0 && decide (I ≤ t - s)) = true; rw [decide_eq_false (by omega)]; simp), if_neg (by show ¬ ((0 : Int) != 0 && !false) = true; decide)]
theorem wc_go1 (h : I ≤ t - s) : (Wc n I T rd ack L 0 lm t b s).go [] = (Wc n I T rd nobody (L + 1) (L + 1) lm t t t, (iota n).map fun x => (1, 1, L + 1, x)) := by
  unfold Co.go
  rw [if_pos (by show ((0 : Int) == 0 && decide (I ≤ t - s)) = true; rw [decide_eq_true h]; rfl)]
  refine Prod.ext rfl ?_
  show ((iota n).filter fun t => !nobody t).map _ = _
  rw [show (iota n).filter (fun t => !nobody t) = iota n from List.filter_eq_self.2 (fun _ _ => rfl)]
  rfl
theorem wc_go2 (h : U ≠ 0) : (Wc n I T rd ack L U lm t b s).go [] = (Wc n I T rd ack L U lm t b s, ((iota n).filter fun t => !ack t).map fun x => (1, 1, U, x)) := by
  unfold Co.go
  rw [if_neg (by show ¬ (U == 0 && _) = true; rw [beq_false_of_ne h]; simp), if_pos (by show (U != 0 && !false) = true; simp [h])]
  rfl
end
def Fq (lm : Int) : Int := max (5 - lm) 0
def PhA (n lost : Nat) (I T : Int) (i : Nat) (c : Co) (r : Int) : Prop := ∃ rd, c = Wc n I T rd nobody 0 0 T 0 0 0 ∧ One n lost rd 0 i ∧ (iota n).all rd = false ∧ r = 1010 - i
def PhI (n : Nat) (I T : Int) (i : Nat) (c : Co) (r : Int) : Prop := ∃ rd ack L lm t b s, c = Wc n I T rd ack L 0 lm t b s ∧ (iota n).all rd = true ∧ (0 ≤ b ∧ b ≤ t) ∧ (0 ≤ s ∧ s ≤ t) ∧ t ≤ i ∧ (0 ≤ L ∧ L ≤ i) ∧ (1 ≤ lm ∧ lm ≤ 40) ∧ r = 100 * Fq lm + 51 + max (I - (t - s)) 0
def PhU (n lost : Nat) (I T : Int) (i : Nat) (c : Co) (r : Int) : Prop := ∃ rd ack L lm b e, c = Wc n I T rd ack L L lm (b + e) b b ∧ (iota n).all rd = true ∧ 0 ≤ b ∧ 0 ≤ e ∧ b + e ≤ i ∧ (1 ≤ L ∧ L ≤ i) ∧ (1 ≤ lm ∧ lm ≤ 40) ∧ e < lm ∧ One n lost ack (i - 1 - e) i ∧ (iota n).all ack = false ∧ r = 100 * Fq lm + 30 - e
def PhW (n lost : Nat) (i : Nat) (c : Co) (r : Int) : Prop := Won n i c ∧ r = 1 + (-(i : Int)) % lost
def Good (n lost : Nat) (I T : Int) (i : Nat) (c : Co) (r : Int) : Prop := PhA n lost I T i c r ∨ PhI n I T i c r ∨ PhU n lost I T i c r ∨ PhW n lost i c r
theorem nobody_all (hn : 1 ≤ n) : (iota n).all nobody = false := by
  rw [Bool.eq_false_iff]
  intro h
  have := (iota_all n _).1 h 0 (by omega) (by omega)
  cases this
theorem iota_in {x : Int} (h : x ∈ iota n) : (iota n).contains x = true := by rw [List.contains_iff_mem]; exact h
theorem in_iota {x : Int} (h0 : 0 ≤ x) (h1 : x < (n : Int)) : x ∈ iota n := by rw [← List.contains_iff_mem, iota_mem, decide_eq_true_iff]; exact ⟨h0, h1⟩
theorem emod_lt5 (hl : 1 ≤ lost ∧ lost ≤ 5) (i : Int) : 0 ≤ i % (lost : Int) ∧ i % (lost : Int) < 5 := ⟨Int.emod_nonneg _ (by omega), by have := Int.emod_lt_of_pos i (show (0 : Int) < lost by omega); omega⟩
/-- Behind the triggers of a tick. -/
theorem told_good (hl : 1 ≤ lost ∧ lost ≤ 5) (hT : 1 ≤ T ∧ T ≤ 20) {rd ack : Int → Bool} {L lm b e : Int} {i : Nat} (l : List Int) (hl1 : ∀ x ∈ l, x ∈ iota n) (hl2 : ∀ x ∈ iota n, ack x = false → x ∈ l)
    (hr : (iota n).all rd = true) (hb : 0 ≤ b) (he : 0 ≤ e) (hbe : b + e ≤ (i + 1 : Nat)) (hL : 1 ≤ L ∧ L ≤ (i + 1 : Nat)) (hm : 1 ≤ lm ∧ lm ≤ 40) (hel : e < lm) (h1 : One n lost ack (i - e) i) (hna : (iota n).all ack = false) (h30 : 6 < 100 * Fq lm + 31 - e) :
    ∃ r, r ≤ 100 * Fq lm + 30 - e ∧ Good n lost I T (i + 1) ((l.map fun x => ((1, 1, L, x) : Ctl)).foldl (hear lost i) (Wc n I T rd ack L L lm (b + e) b b)) r := by
  have hbd : Bd (Wc n I T rd ack L L lm (b + e) b b) ((i + 1 : Nat) : Int) ((i + 1 : Nat) : Int) := ⟨⟨by show 0 ≤ b + e; omega, hbe⟩, ⟨hb, by show b ≤ _; omega⟩, ⟨hb, by show b ≤ _; omega⟩, ⟨by show 0 ≤ lm; omega, by show lm ≤ _; omega⟩, ⟨by show 0 ≤ L; omega, hL.2⟩, ⟨by show 0 ≤ T; omega, by show T ≤ _; omega⟩⟩
  rcases fold_ack (lost := lost) i (by omega : L ≠ 0) hr l ack (fun x hx => iota_in (hl1 x hx)) hbd hna with h | ⟨a, e1, e2, e3, e4⟩
  · refine ⟨1 + (-((i + 1 : Nat) : Int)) % lost, ?_, .inr (.inr (.inr ⟨h, rfl⟩))⟩
    have := emod_lt5 hl (-((i + 1 : Nat) : Int))
    omega
  · refine ⟨100 * Fq lm + 30 - e, Int.le_refl _, .inr (.inr (.inl ⟨rd, a, L, lm, b, e, e1, hr, hb, he, hbe, hL, hm, hel, ?_, e4, rfl⟩))⟩
    have h2 := one_next n lost h1 e2 (fun x h0 h1 hx => by
      by_cases ha : ack x = true
      · exact e2 x ha
      · exact e3 x (hl2 x (in_iota h0 h1) (by simpa using ha)) hx)
    have e5 : ((i + 1 : Nat) : Int) - 1 - e = i - e := by omega
    rw [e5]
    exact h2
/-- What a tick tells, and where it leads. -/
def Next (n lost : Nat) (I T : Int) (i : Nat) (c : Co) (r : Int) : Prop :=
  (∀ m ∈ c.tick.2, 0 ≤ m.2.2.2 ∧ m.2.2.2 < 9) ∧
  ((∃ rest, c.tick.2 = (3, 1, c.tick.1.durable, 0) :: rest ∧ (i : Int) % (lost : Int) = 0) ∨
   ((∀ m ∈ c.tick.2, (m.1 = 1 ∨ m.1 = 5) ∨ ((i : Int) + m.2.2.2) % (lost : Int) ≠ 0) ∧ ∃ r', r' < r ∧ Good n lost I T (i + 1) (c.tick.2.foldl (hear lost i) c.tick.1) r'))
theorem map_facts {l : List Int} (hn : n < 9) (hl : ∀ x ∈ l, x ∈ iota n) (k N : Int) : ∀ m ∈ l.map fun x => ((k, 1, N, x) : Ctl), (0 ≤ m.2.2.2 ∧ m.2.2.2 < 9) ∧ m.1 = k := by
  intro m hm
  obtain ⟨x, hx, rfl⟩ := List.mem_map.1 hm
  have := iota_in (hl x hx)
  rw [iota_mem, decide_eq_true_iff] at this
  exact ⟨⟨this.1, by show x < 9; omega⟩, rfl⟩
theorem next_of {i : Nat} {c c1 : Co} {r : Int} {k N : Int} {l : List Int} (hn : n < 9) (hk : k = 1 ∨ k = 5) (hl : ∀ x ∈ l, x ∈ iota n) (e : c.tick = (c1, l.map fun x => ((k, 1, N, x) : Ctl)))
    (h : ∃ r', r' < r ∧ Good n lost I T (i + 1) ((l.map fun x => ((k, 1, N, x) : Ctl)).foldl (hear lost i) c1) r') : Next n lost I T i c r := by
  unfold Next
  rw [e]
  exact ⟨fun m hm => (map_facts hn hl k N m hm).1, .inr ⟨fun m hm => .inl (by rw [(map_facts hn hl k N m hm).2]; exact hk), h⟩⟩
theorem filter_in {f : Int → Bool} : ∀ x ∈ (iota n).filter f, x ∈ iota n := fun _ hx => (List.mem_filter.1 hx).1
/-- An idle one comes to its next checkpoint. -/
theorem idle_next (hn : 1 ≤ n ∧ n < 9) (hl : 1 ≤ lost ∧ lost ≤ 5) (hI : 1 ≤ I ∧ I ≤ 20) (hT : 1 ≤ T ∧ T ≤ 20) {rd ack : Int → Bool} {L lm t b s r : Int} {i : Nat} {c : Co} (e : c.tick = (Wc n I T rd ack L 0 lm t b s).go [])
    (hr : (iota n).all rd = true) (hb : 0 ≤ b ∧ b ≤ t) (hs : 0 ≤ s ∧ s ≤ t) (ht : t ≤ (i + 1 : Nat)) (hL : 0 ≤ L ∧ L ≤ i) (hm : 1 ≤ lm ∧ lm ≤ 40) (h1 : 100 * Fq lm + 31 < r) (h2 : t - s < I → 100 * Fq lm + 51 + (I - (t - s)) < r) : Next n lost I T i c r := by
  rcases Int.lt_or_le (t - s) I with hd | hd
  · rw [wc_go0 hd] at e
    refine next_of (l := []) (k := 1) (N := 0) hn.2 (.inl rfl) (fun x h => absurd h (List.not_mem_nil)) e ⟨_, h2 hd, .inr (.inl ⟨rd, ack, L, lm, t, b, s, rfl, hr, hb, hs, ht, ⟨hL.1, by omega⟩, hm, ?_⟩)⟩
    omega
  · rw [wc_go1 hd] at e
    refine next_of hn.2 (.inl rfl) (fun x h => h) e ?_
    have hF : 0 ≤ Fq lm := by unfold Fq; omega
    have e0 : t = t + 0 := by omega
    obtain ⟨r', g1, g2⟩ := told_good (I := I) hl hT (rd := rd) (ack := nobody) (L := L + 1) (lm := lm) (b := t) (e := 0) (i := i) (iota n) (fun x h => h) (fun x h _ => h) hr (by omega) (by omega) (by omega) ⟨by omega, by omega⟩ hm (by omega) (fun x h0 h1 ⟨j, j1, j2, _⟩ => by omega) (nobody_all hn.1) (by omega)
    rw [← e0] at g2
    exact ⟨r', by omega, g2⟩
theorem tick_keep (s : Co) : s.tick.1.ready = s.ready ∧ s.tick.1.done = s.done := by
  unfold Co.tick
  split
  · exact ⟨rfl, rfl⟩
  split
  · exact ⟨rfl, rfl⟩
  have hm : s.mid.ready = s.ready ∧ s.mid.done = s.done := by
    unfold Co.mid
    split <;> exact ⟨rfl, rfl⟩
  unfold Co.go
  split
  · exact hm
  split <;> exact hm
theorem good_next (hn : 1 ≤ n ∧ n < 9) (hl : 1 ≤ lost ∧ lost ≤ 5) (hI : 1 ≤ I ∧ I ≤ 20) (hT : 1 ≤ T ∧ T ≤ 20) {i : Nat} {c : Co} {r : Int} (h : Good n lost I T i c r) :
    1 ≤ r ∧ Bd c i i ∧ c.tasks = iota n ∧ c.sinks = [0] ∧ Next n lost I T i c r := by
  rcases h with ⟨rd, rfl, h1, h2, rfl⟩ | ⟨rd, ack, L, lm, t, b, s, rfl, hr, hb, hs, ht, hL, hm, rfl⟩ | ⟨rd, ack, L, lm, b, e, rfl, hr, hb, he, hbe, hL, hm, hel, h1, hna, rfl⟩ | ⟨hw, rfl⟩
  · have hi : i < lost := by
      rcases Nat.lt_or_ge i lost with h | h
      · exact h
      · have := one_all n lost hl.1 h1 (by omega)
        rw [this] at h2
        cases h2
    refine ⟨by omega, ⟨⟨by show (0 : Int) ≤ 0; omega, by show (0 : Int) ≤ i; omega⟩, ⟨by show (0 : Int) ≤ 0; omega, by show (0 : Int) ≤ i; omega⟩, ⟨by show (0 : Int) ≤ 0; omega, by show (0 : Int) ≤ i; omega⟩, ⟨by show 0 ≤ T; omega, by show T ≤ _; omega⟩, ⟨by show (0 : Int) ≤ 0; omega, by show (0 : Int) ≤ i; omega⟩, ⟨by show 0 ≤ T; omega, by show T ≤ _; omega⟩⟩, rfl, rfl, ?_⟩
    have e : (Wc n I T rd nobody 0 0 T 0 0 0).tick = (Wc n I T rd nobody 0 0 T 0 0 0, ((iota n).filter fun t => !rd t).map fun x => (5, 1, 0, x)) := by
      unfold Co.tick
      rw [if_neg (by show ¬ (1 : Int) = 0; decide), if_pos (by exact h2)]
      rfl
    refine next_of hn.2 (.inr rfl) filter_in e ?_
    obtain ⟨r', e1, e2, e3⟩ := fold_ready (I := I) (T := T) (lost := lost) i ((iota n).filter fun t => !rd t) rd (fun x hx => iota_in (filter_in x hx))
    rw [e1]
    have h3 : One n lost r' 0 ((i : Int) + 1) := one_next n lost h1 e2 (fun x h0 h1 hx => by
      by_cases ha : rd x = true
      · exact e2 x ha
      · exact e3 x (List.mem_filter.2 ⟨in_iota h0 h1, by simpa using ha⟩) hx)
    by_cases ha : (iota n).all r' = true
    · refine ⟨_, ?_, .inr (.inl ⟨r', nobody, 0, T, 0, 0, 0, rfl, ha, ⟨by omega, by omega⟩, ⟨by omega, by omega⟩, by omega, ⟨by omega, by omega⟩, ⟨by omega, by omega⟩, rfl⟩)⟩
      unfold Fq
      omega
    · exact ⟨_, by omega, .inl ⟨r', rfl, h3, by simpa using ha, rfl⟩⟩
  · have hF : 0 ≤ Fq lm := by unfold Fq; omega
    refine ⟨by omega, ⟨⟨by show 0 ≤ t; omega, ht⟩, ⟨hb.1, by show b ≤ _; omega⟩, ⟨hs.1, by show s ≤ _; omega⟩, ⟨by show 0 ≤ lm; omega, by show lm ≤ _; omega⟩, hL, ⟨by show 0 ≤ T; omega, by show T ≤ _; omega⟩⟩, rfl, rfl, ?_⟩
    exact idle_next hn hl hI hT (by rw [wc_go hr, wc_mid0]) hr ⟨hb.1, by omega⟩ ⟨hs.1, by omega⟩ (by omega) hL hm (by omega) (fun h => by omega)
  · have hF : 0 ≤ Fq lm := by unfold Fq; omega
    have hel2 : e + 1 < lost := by
      rcases Int.lt_or_le (e + 1) lost with h | h
      · exact h
      · have := one_all n lost hl.1 h1 (by omega)
        rw [this] at hna
        cases hna
    refine ⟨by omega, ⟨⟨by show 0 ≤ b + e; omega, hbe⟩, ⟨hb, by show b ≤ _; omega⟩, ⟨hb, by show b ≤ _; omega⟩, ⟨by show 0 ≤ lm; omega, by show lm ≤ _; omega⟩, ⟨by show 0 ≤ L; omega, hL.2⟩, ⟨by show 0 ≤ T; omega, by show T ≤ _; omega⟩⟩, rfl, rfl, ?_⟩
    have hL0 : L ≠ 0 := by omega
    rcases Int.lt_or_le (e + 1) lm with hd | hd
    · refine next_of hn.2 (.inl rfl) filter_in (by rw [wc_go hr, wc_mid1 (by omega), wc_go2 hL0, show b + e + 1 = b + (e + 1) by omega]) ?_
      obtain ⟨r', g1, g2⟩ := told_good (I := I) hl hT (rd := rd) (ack := ack) (L := L) (lm := lm) (b := b) (e := e + 1) (i := i) ((iota n).filter fun t => !ack t) filter_in (fun x h ha => List.mem_filter.2 ⟨h, by rw [ha]; rfl⟩) hr hb (by omega) (by omega) ⟨by omega, by omega⟩ hm hd (by rw [show (i : Int) - (e + 1) = i - 1 - e by omega]; exact h1) hna (by omega)
      exact ⟨r', by omega, g2⟩
    · have hlm : min (2 * lm) 1048576 = 2 * lm := by omega
      have hF2 : Fq (2 * lm) + 1 ≤ Fq lm := by unfold Fq; omega
      exact idle_next hn hl hI hT (by rw [wc_go hr, wc_mid2 hL0 (by omega), hlm]) hr ⟨hb, by omega⟩ ⟨hb, by omega⟩ (by omega) ⟨by omega, hL.2⟩ ⟨by omega, by omega⟩ (by omega) (fun h => by omega)
  · have he := emod_lt5 hl (-(i : Int))
    refine ⟨by omega, hw.bd, hw.tasks, hw.sinks, ?_⟩
    have htb := tick_bd hw.bd
    have htk := tick_keep c
    have hout : ∃ rest, c.tick.2 = (3, 1, c.tick.1.durable, 0) :: rest ∧ (∀ m ∈ rest, (0 ≤ m.2.2.2 ∧ m.2.2.2 < 9) ∧ m.1 = 1) := by
      rw [htb.2.2.2]
      have ho : c.outs = [(3, 1, c.durable, 0)] := by
        unfold Co.outs
        rw [if_neg hw.durable]
        unfold Co.tell
        rw [hw.sinks, hw.epoch]
        have : c.committed 0 = false := by
          unfold Co.committed
          rw [hw.done]
          exact beq_false_of_ne (Ne.symm hw.durable)
        simp [this]
      have hmid : c.mid.tasks = iota n ∧ c.mid.epoch = 1 := by
        unfold Co.mid
        split <;> exact ⟨hw.tasks, hw.epoch⟩
      unfold Co.tick
      rw [if_neg (by rw [hw.epoch]; decide), if_neg (by rw [hw.ready]; decide), ho]
      have key : ∀ (s : Co) (f : Int → Bool) (k : Int), s.tasks = iota n → ∀ m ∈ s.tell 1 k s.tasks f, (0 ≤ m.2.2.2 ∧ m.2.2.2 < 9) ∧ m.1 = 1 := by
        intro s f k hs m hm
        unfold Co.tell at hm
        obtain ⟨x, hx, rfl⟩ := List.mem_map.1 hm
        rw [hs] at hx
        have := iota_in (filter_in x hx)
        rw [iota_mem, decide_eq_true_iff] at this
        exact ⟨⟨this.1, by show x < 9; omega⟩, rfl⟩
      unfold Co.go
      split
      · exact ⟨_, rfl, key c.mid.start nobody _ hmid.1⟩
      split
      · exact ⟨_, rfl, key c.mid _ _ hmid.1⟩
      · exact ⟨[], rfl, fun m h => absurd h (List.not_mem_nil)⟩
    obtain ⟨rest, h1, h2⟩ := hout
    unfold Next
    rw [h1]
    refine ⟨fun m hm => ?_, ?_⟩
    · rcases List.mem_cons.1 hm with rfl | hm
      · exact ⟨by show (0 : Int) ≤ 0; omega, by show (0 : Int) < 9; omega⟩
      · exact (h2 m hm).1
    · by_cases hi : (i : Int) % (lost : Int) = 0
      · exact .inl ⟨rest, rfl, hi⟩
      · right
        have hi2 : ¬ ((i : Int) + 0) % (lost : Int) = 0 := by rw [Int.add_zero]; exact hi
        refine ⟨fun m hm => ?_, 1 + (-((i + 1 : Nat) : Int)) % lost, ?_, .inr (.inr (.inr ⟨?_, rfl⟩))⟩
        · rcases List.mem_cons.1 hm with rfl | hm
          · exact .inr hi2
          · exact .inl (.inl (h2 m hm).2)
        · obtain ⟨l1, l2⟩ := hl
          have : lost = 1 ∨ lost = 2 ∨ lost = 3 ∨ lost = 4 ∨ lost = 5 := by omega
          rcases this with rfl | rfl | rfl | rfl | rfl <;> omega
        · rw [List.foldl_cons]
          have hs : hear lost i c.tick.1 (3, 1, c.tick.1.durable, 0) = c.tick.1 := by unfold hear; rw [if_neg hi2]
          rw [hs]
          refine won_fold i _ _ ⟨htb.1.mono (by omega) (by omega), htb.2.1.tasks.trans hw.tasks, htb.2.1.sinks.trans hw.sinks, htb.2.2.1.trans hw.epoch, ?_, htk.2.trans hw.done, by rw [htb.2.2.2]; exact hw.durable⟩ (fun m hm => (h2 m hm).2)
          show c.tick.1.tasks.all c.tick.1.ready = true
          rw [htb.2.1.tasks, htk.1]
          exact hw.ready
theorem good_start (hn : 1 ≤ n) (hI : 1 ≤ I ∧ I ≤ 20) : Good n lost I T 0 (Wc n I T nobody nobody 0 0 T 0 0 0) 1010 :=
  .inl ⟨nobody, rfl, fun x _ _ ⟨j, j1, j2, _⟩ => by omega, nobody_all hn, rfl⟩
end
end Go.Proofs.Ythjinahfhpgpmaa

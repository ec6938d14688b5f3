import Derived.Test.YtlhgmfdmkckmhaaKn
import Derived.Test.YtlhgmfdmkckmhaaProg
import Derived.Test.YtlhgmfdmkckmhaaLs
import Derived.Outline
import Derived.StillTailTactics
import Derived.Deep.DeepCutAuto
import Derived.Deep.CutBlock
import Derived.Deep.LoopGhost
import Derived.Deep.QuietTactic
import Derived.BigQuiet
import Derived.Deep.RegionHeld3
import Derived.Deep.RegionLaw
set_option linter.unusedVariables false
set_option linter.unusedSimpArgs false
namespace Go.Proofs.Ytlhgmfdmkckmhaa
open Go.RowKit
/-! ### the reference of layer 15: plain -/
structure Rf where (m : List Int) (last under : Int) (over : Bool) (come : List Bool) (cap : List (Int × Fr))
def Rf.blocked (r : Rf) (ch : Int) : Bool := decide (0 ≤ ch) && decide (ch < r.m.length) && r.under != 0 && !r.over && r.come.getD ch.toNat false
def Rf.hit (r : Rf) (ch : Nat) : Bool := r.under != 0 && r.over && !(r.come.getD ch false)
def Rf.catch_ (r : Rf) (ch : Nat) (f : Fr) : Rf := if (r.hit ch && (f.1 == 1 || f.1 == 2)) = true then ⟨r.m, r.last, r.under, r.over, r.come, r.cap ++ [((ch : Int), f)]⟩ else r
def Rf.raised (r : Rf) (ch : Nat) (v : Int) : List Int := r.m.set ch (max (r.m.getD ch 0) v)
def Rf.rise (r : Rf) (ch : Nat) (v : Int) : Rf := ⟨r.raised ch v, r.last, r.under, r.over, r.come, r.cap⟩
def Rf.riseS (r : Rf) (ch : Nat) (v : Int) : Stp := if lmin r.m < lmin (r.raised ch v) then (2, (0, 0, 0), lmin (r.raised ch v), 0, 0) else noStep
def Rf.next (r : Rf) (n : Int) (over : Bool) : Rf := if r.last < n then ⟨r.m, n, n, over, List.replicate r.m.length false, []⟩ else r
def Rf.step (r : Rf) (first whole : Bool) (n : Int) : Stp := if ((r.over && first) || (!r.over && whole)) = true then (3, (0, 0, 0), 0, n, 0) else noStep
def Rf.put (r : Rf) (u : Int) (ch : Nat) : Rf := ⟨r.m, r.last, u, r.over, r.come.set ch true, r.cap⟩
def Rf.tell (r : Rf) (first : Bool) (ch : Nat) (n : Int) : Rf × Stp :=
  if r.come.getD ch false = true then (r, noStep) else
  if has (r.come.set ch true) false = true then (r.put r.under ch, r.step first false n)
  else (r.put 0 ch, ((r.step first true n).1, (r.step first true n).2.1, (r.step first true n).2.2.1, (r.step first true n).2.2.2.1, n))
def Rf.bad (r : Rf) (n : Int) : Bool := (decide (n ≤ r.last) && n != r.under) || n == 0
def Rf.barrier (r : Rf) (ch : Nat) (n : Int) (over : Bool) : Rf × Stp := if r.bad n = true then (r, noStep) else (r.next n over).tell (decide (r.last < n)) ch n
def Rf.takeIn (r : Rf) (ch : Nat) (f : Fr) : Rf × Stp :=
  if f.1 = 1 then (r.catch_ ch f, (1, f.2.1, 0, 0, 0))
  else if f.1 = 2 then ((r.catch_ ch f).rise ch f.2.2.1, (r.catch_ ch f).riseS ch f.2.2.1)
  else if f.1 = 3 then r.barrier ch f.2.2.2.1 f.2.2.2.2
  else (r, noStep)
def Rf.take (r : Rf) (ch : Int) (f : Fr) : Rf × Stp × Int :=
  if 0 ≤ ch ∧ ch < r.m.length ∧ r.blocked ch = false then ((r.takeIn ch.toNat f).1, (r.takeIn ch.toNat f).2, 0) else (r, noStep, 150)
def Rf.load (r : Rf) (ms : List Int) (n : Nat) : Rf := ⟨loaded n ms, r.last, 0, r.over, List.replicate n false, []⟩
/-- The gate and the reference are at one. -/
structure Sim (N : Nat) (g : Gt) (r : Rf) : Prop where
  ok : g.Ok N
  m : r.m = g.marks
  last : r.last = g.last
  under : r.under = g.under
  come : r.come = g.came
  cap : r.cap = g.cap
  over : g.under ≠ 0 → r.over = g.over
  blk : ∀ k, g.blk.getD k false = (g.under != 0 && !g.over && g.came.getD k false)
  some_ : g.under ≠ 0 → has g.came true = true
theorem getD_set {α : Type} (l : List α) (c k : Nat) (v d : α) (hc : c < l.length) : (l.set c v).getD k d = if c = k then v else l.getD k d := by
  rw [List.getD_eq_getElem?_getD, List.getElem?_set]
  split
  · first | rfl | (rw [if_pos hc]; rfl)
  · rw [List.getD_eq_getElem?_getD]
theorem getD_rep (n k : Nat) : (List.replicate n false).getD k false = false := by
  rw [List.getD_eq_getElem?_getD, List.getElem?_replicate]
  split <;> rfl
theorem has_set (l : List Bool) (c : Nat) (hc : c < l.length) : has (l.set c true) true = true := by
  unfold has
  rw [List.contains_iff_mem]
  have : (l.set c true)[c]? = some true := by rw [List.getElem?_set, if_pos rfl, if_pos hc]
  exact List.mem_of_getElem? this
theorem has_rep (n : Nat) : has (List.replicate n false) true = false := by
  unfold has
  rw [← Bool.not_eq_true, List.contains_iff_mem, List.mem_replicate]
  rintro ⟨_, h⟩
  cases h
theorem sim_blocked {N : Nat} {g : Gt} {r : Rf} (h : Sim N g r) (ch : Int) : r.blocked ch = g.blocked ch := by
  unfold Rf.blocked Gt.blocked
  have hb := h.blk ch.toNat
  rw [List.getD_eq_getElem?_getD] at hb
  rw [hb, h.under, h.come]
  by_cases h0 : 0 ≤ ch
  · rw [decide_eq_true h0]
    simp only [Bool.true_and]
    by_cases hu : g.under = 0
    · rw [hu]; simp
    · rw [h.over hu]
      by_cases hl : ch < r.m.length
      · rw [decide_eq_true hl]; simp
      · rw [decide_eq_false hl]
        have : g.came.getD ch.toNat false = false := by
          rw [List.getD_eq_getElem?_getD, List.getElem?_eq_none (by rw [h.ok.2.1]; rw [h.m, h.ok.1] at hl; omega)]
          rfl
        rw [this]; simp
  · rw [decide_eq_false h0]; simp
theorem sim_catch {N : Nat} {g : Gt} {r : Rf} (h : Sim N g r) (ch : Nat) (f : Fr) (hf : f.1 = 1 ∨ f.1 = 2) : Sim N (g.capture ch f) (r.catch_ ch f) := by
  unfold Gt.capture Rf.catch_ Rf.hit
  have hk : (f.1 == 1 || f.1 == 2) = true := by rcases hf with h | h <;> rw [h] <;> rfl
  have he : (r.under != 0 && r.over && !(r.come.getD ch false)) = (g.under != 0 && g.over && !(g.came.getD ch false)) := by
    rw [h.under, h.come]
    by_cases hu : g.under = 0
    · rw [hu]; simp
    · rw [h.over hu]
  rw [hk, Bool.and_true, he]
  split
  · exact ⟨h.ok, h.m, h.last, h.under, h.come, by rw [h.cap], h.over, h.blk, h.some_⟩
  · exact h
theorem sim_bad {N : Nat} {g : Gt} {r : Rf} (h : Sim N g r) (n : Int) : r.bad n = g.bad n := by
  unfold Rf.bad Gt.bad
  rw [h.last, h.under, Bool.or_comm]
theorem sim_next {N : Nat} {g : Gt} {r : Rf} (h : Sim N g r) (n : Int) (ov : Bool) (hb : g.bad n = false) : (g.newer n ov).Ok N ∧ (r.next n ov).m = (g.newer n ov).marks ∧ (r.next n ov).last = (g.newer n ov).last ∧ (r.next n ov).under = (g.newer n ov).under ∧ (g.newer n ov).under = n ∧ n ≠ 0 ∧
    (r.next n ov).come = (g.newer n ov).came ∧ (r.next n ov).cap = (g.newer n ov).cap ∧ (r.next n ov).over = (g.newer n ov).over ∧ (∀ k, (g.newer n ov).blk.getD k false = (!(g.newer n ov).over && (g.newer n ov).came.getD k false)) ∧ (has (g.newer n ov).came true = !decide (r.last < n)) := by
  unfold Gt.bad at hb
  have hn : n ≠ 0 := by
    intro h0
    rw [h0] at hb
    simp at hb
  unfold Rf.next Gt.newer
  rw [h.last]
  split
  · rename_i hl
    refine ⟨⟨h.ok.1, by show (List.replicate _ _).length = N; rw [List.length_replicate]; exact h.ok.2.1, by show (List.replicate _ _).length = N; rw [List.length_replicate]; exact h.ok.2.2⟩, h.m, rfl, rfl, rfl, hn, ?_, rfl, rfl, fun k => ?_, ?_⟩
    · show List.replicate r.m.length false = List.replicate g.came.length false
      rw [h.m, h.ok.1, h.ok.2.1]
    · show (List.replicate _ false).getD k false = (!ov && (List.replicate _ false).getD k false)
      rw [getD_rep, getD_rep]; simp
    · show has (List.replicate _ false) true = _
      rw [has_rep, decide_eq_true hl]; rfl
  · rename_i hl
    have hu : g.under = n := by
      simp only [Bool.or_eq_false_iff, Bool.and_eq_false_iff, decide_eq_false_iff_not, bne_eq_false_iff_eq] at hb
      rcases hb.2 with h | h
      · omega
      · exact h.symm
    have hu0 : g.under ≠ 0 := by rw [hu]; exact hn
    refine ⟨h.ok, h.m, h.last, h.under, hu, hn, h.come, h.cap, h.over hu0, fun k => ?_, ?_⟩
    · have hz : (g.under != 0) = true := by rw [bne_iff_ne]; exact hu0
      rw [h.blk k, hz, Bool.true_and]
    · rw [h.some_ hu0, decide_eq_false hl]; rfl
theorem sim_barrier {N : Nat} {g : Gt} {r : Rf} (h : Sim N g r) (ch : Nat) (hc : ch < N) (n : Int) (ov : Bool) : (r.barrier ch n ov).2 = (g.barrier ch n ov).2 ∧ Sim N (g.barrier ch n ov).1 (r.barrier ch n ov).1 := by
  unfold Rf.barrier Gt.barrier
  rw [sim_bad h]
  cases hb : g.bad n with
  | true => exact ⟨rfl, h⟩
  | false =>
    simp only [Bool.false_eq_true, if_false]
    obtain ⟨a1, a2, a3, a4, a5, a6, a7, a8, a9, a10, a11⟩ := sim_next h n ov hb
    revert a1 a2 a3 a4 a5 a7 a8 a9 a10 a11
    generalize g.newer n ov = g1
    generalize r.next n ov = r1
    generalize decide (r.last < n) = fst
    intro a1 a2 a3 a4 a5 a7 a8 a9 a10 a11
    have hlc : ch < g1.came.length := by rw [a1.2.1]; exact hc
    have hlb : ch < g1.blk.length := by rw [a1.2.2]; exact hc
    have hsim : Sim N g1 r1 ∨ g1.came.getD ch false = false := by
      cases hx : g1.came.getD ch false with
      | false => exact .inr rfl
      | true =>
        left
        have hh : has g1.came true = true := by
          unfold has
          rw [List.contains_iff_mem]
          rw [List.getD_eq_getElem?_getD, List.getElem?_eq_getElem hlc] at hx
          have hx : g1.came[ch] = true := hx
          rw [← hx]
          exact List.getElem_mem hlc
        exact ⟨a1, a2, a3, a4, a7, a8, fun _ => a9, fun k => by rw [a10 k, a5, show (n != 0) = true by rw [bne_iff_ne]; exact a6, Bool.true_and], fun _ => hh⟩
    cases hx : g1.came.getD ch false with
    | true =>
      have e1 : r1.tell fst ch n = (r1, noStep) := by unfold Rf.tell; rw [a7, hx]; rfl
      have e2 : g1.tell ch n = (g1, noStep) := by unfold Gt.tell; rw [hx]; rfl
      rw [e1, e2]
      rcases hsim with h | h
      · exact ⟨rfl, h⟩
      · rw [hx] at h; cases h
    | false =>
      have e2 := Gt.tell_eq g1 ch n g1.over fst (!has (g1.came1 ch).came false) hx a11 rfl rfl
      rw [e2]
      have e1 : r1.tell fst ch n = if has (g1.came.set ch true) false = true then (r1.put r1.under ch, r1.step fst false n) else (r1.put 0 ch, ((r1.step fst true n).1, (r1.step fst true n).2.1, (r1.step fst true n).2.2.1, (r1.step fst true n).2.2.2.1, n)) := by
        unfold Rf.tell
        rw [a7, hx]
        simp
      rw [e1]
      have hcame : (g1.came1 ch).came = g1.came.set ch true := rfl
      rw [hcame]
      have hok : (g1.came1 ch).Ok N := ⟨a1.1, by show (g1.came.set ch true).length = N; rw [List.length_set]; exact a1.2.1, a1.2.2⟩
      have hcm : (r1.put r1.under ch).come = (g1.came1 ch).came := by show r1.come.set ch true = g1.came.set ch true; rw [a7]
      unfold Rf.step
      rw [a9]
      cases hw : has (g1.came.set ch true) false with
      | true =>
        simp only [if_true, Bool.not_true]
        have keep : g1.over = true → Sim N (g1.came1 ch) (r1.put r1.under ch) := fun ho =>
          ⟨hok, a2, a3, a4, hcm, a8, fun _ => a9, fun k => by show g1.blk.getD k false = (_ && !g1.over && _); rw [a10 k, ho]; simp, fun _ => has_set _ _ hlc⟩
        have blk : g1.over = false → Sim N ((g1.came1 ch).block ch) (r1.put r1.under ch) := fun ho =>
          ⟨⟨hok.1, hok.2.1, by show (g1.blk.set ch true).length = N; rw [List.length_set]; exact a1.2.2⟩, a2, a3, a4, hcm, a8, fun _ => a9, fun k => by
            show (g1.blk.set ch true).getD k false = (g1.under != 0 && !g1.over && (g1.came.set ch true).getD k false)
            rw [getD_set _ _ _ _ _ hlb, getD_set _ _ _ _ _ hlc, a10 k, ho, a5]
            have : (n != 0) = true := by rw [bne_iff_ne]; exact a6
            rw [this]
            split <;> simp, fun _ => has_set _ _ hlc⟩
        cases ho : g1.over with
        | true => cases fst <;> exact ⟨rfl, keep ho⟩
        | false => cases fst <;> exact ⟨rfl, blk ho⟩
      | false =>
        simp only [Bool.false_eq_true, if_false, Bool.not_false]
        have whole : Sim N (g1.came1 ch).whole (r1.put 0 ch) :=
          ⟨⟨hok.1, hok.2.1, by show (List.replicate g1.blk.length false).length = N; rw [List.length_replicate]; exact a1.2.2⟩, a2, a3, rfl, hcm, a8, fun hu => absurd rfl hu, fun k => by
            show (List.replicate g1.blk.length false).getD k false = ((0 : Int) != 0 && _ && _)
            rw [getD_rep]; simp, fun hu => absurd rfl hu⟩
        cases ho : g1.over <;> cases fst <;> exact ⟨rfl, whole⟩
theorem sim_take {N : Nat} {g : Gt} {r : Rf} (h : Sim N g r) (ch : Int) (f : Fr) : (r.take ch f).2 = (g.take ch f).2 ∧ Sim N (g.take ch f).1 (r.take ch f).1 := by
  unfold Rf.take Gt.take
  rw [sim_blocked h, h.m]
  have hb : 0 ≤ ch → (g.blocked ch = false ↔ g.blk.getD ch.toNat false = false) := fun h0 => by
    unfold Gt.blocked
    rw [decide_eq_true h0, Bool.true_and, List.getD_eq_getElem?_getD]
  by_cases hc : 0 ≤ ch ∧ ch < g.marks.length ∧ g.blk.getD ch.toNat false = false
  · rw [if_pos hc, if_pos ⟨hc.1, hc.2.1, (hb hc.1).2 hc.2.2⟩]
    have hcN : ch.toNat < N := by have := hc.2.1; rw [h.ok.1] at this; omega
    unfold Rf.takeIn Gt.takeIn
    by_cases h1 : f.1 = 1
    · rw [if_pos h1, if_pos h1]
      exact ⟨rfl, sim_catch h _ f (.inl h1)⟩
    rw [if_neg h1, if_neg h1]
    by_cases h2 : f.1 = 2
    · rw [if_pos h2, if_pos h2]
      have hs := sim_catch h ch.toNat f (.inr h2)
      refine ⟨?_, ⟨⟨?_, hs.ok.2.1, hs.ok.2.2⟩, ?_, hs.last, hs.under, hs.come, hs.cap, hs.over, hs.blk, hs.some_⟩⟩
      · show (Rf.riseS _ _ _, (0 : Int)) = (Gt.riseS _ _ _, 0)
        unfold Rf.riseS Gt.riseS Rf.raised Gt.raised
        rw [hs.m]
      · show ((g.capture ch.toNat f).marks.set _ _).length = N
        rw [List.length_set]
        exact hs.ok.1
      · show Rf.raised _ _ _ = Gt.raised _ _ _
        unfold Rf.raised Gt.raised
        rw [hs.m]
    rw [if_neg h2, if_neg h2]
    by_cases h3 : f.1 = 3
    · rw [if_pos h3, if_pos h3]
      have hs := sim_barrier h ch.toNat hcN f.2.2.2.1 f.2.2.2.2
      exact ⟨by show (_, (0 : Int)) = (_, 0); rw [hs.1], hs.2⟩
    · rw [if_neg h3, if_neg h3]
      exact ⟨rfl, h⟩
  · rw [if_neg hc, if_neg (fun hx => hc ⟨hx.1, hx.2.1, (hb hx.1).1 hx.2.2⟩)]
    exact ⟨rfl, h⟩
theorem sim_load {N : Nat} {g : Gt} {r : Rf} (h : Sim N g r) (ms : List Int) : Sim N (g.load ms) (r.load ms N) := by
  obtain ⟨h1, h2, h3⟩ := h.ok
  have hl : (loaded g.marks.length ms).length = g.marks.length := by unfold loaded; simp
  refine ⟨⟨hl.trans h1, ?_, ?_⟩, ?_, h.last, rfl, ?_, rfl, fun hu => absurd rfl hu, fun k => ?_, fun hu => absurd rfl hu⟩
  · show (List.replicate g.came.length false).length = N; rw [List.length_replicate]; exact h2
  · show (List.replicate g.blk.length false).length = N; rw [List.length_replicate]; exact h3
  · show loaded N ms = loaded g.marks.length ms; rw [h1]
  · show List.replicate N false = List.replicate g.came.length false; rw [h2]
  · show (List.replicate g.blk.length false).getD k false = ((0 : Int) != 0 && _ && _)
    rw [getD_rep]; simp
theorem sim_new (n : Int) : Sim (min (max n 1) 64).toNat (Gt.new n) ((⟨[], 0, 0, false, [], []⟩ : Rf).load [] (min (max n 1) 64).toNat) := by
  unfold Gt.new Gt.fresh
  refine ⟨⟨by show (loaded _ _).length = _; unfold loaded; simp, List.length_replicate .., List.length_replicate ..⟩, rfl, rfl, rfl, rfl, rfl, fun hu => absurd rfl hu, fun k => ?_, fun hu => absurd rfl hu⟩
  show (List.replicate _ false).getD k false = ((0 : Int) != 0 && _ && _)
  rw [getD_rep]; simp
end Go.Proofs.Ytlhgmfdmkckmhaa

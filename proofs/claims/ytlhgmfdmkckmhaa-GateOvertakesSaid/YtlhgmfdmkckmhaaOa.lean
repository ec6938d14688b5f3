import Derived.Test.YtlhgmfdmkckmhaaAb
import Derived.Test.YtlhgmfdmkckmhaaQu
import Derived.Test.YtlhgmfdmkckmhaaProg
import Derived.Test.YtlhgmfdmkckmhaaLs
import Derived.Outline
import Derived.StillTailTactics
import Derived.Deep.DeepCutAuto
import Derived.Deep.CutBlock
import Derived.Deep.LoopGhost
import Derived.Deep.QuietTactic
import Derived.BigQuiet
import Derived.Deep.RegionHeld3
import Derived.Deep.RegionLaw
set_option linter.unusedVariables false
set_option linter.unusedSimpArgs false
namespace Go.Proofs.Ytlhgmfdmkckmhaa
open Go.RowKit
/-! ### GateOvertakes's plain law -/
def keptO (cm : List Bool) : Bool := cm.contains true
def fullO (cm : List Bool) : Bool := !cm.contains false
structure Ov (N : Nat) (cm : List Bool) (g : Gt) : Prop where
  len : cm.length = N
  marks : g.marks.length = N
  came : g.came = cm
  blk : g.blk = List.replicate N false
  under : g.under = if keptO cm && !fullO cm then 9 else 0
  last : g.last = if keptO cm then 9 else 0
  over : g.over = keptO cm
  cap : keptO cm = false → g.cap = []
theorem Ov.ok {N : Nat} {cm : List Bool} {g : Gt} (h : Ov N cm g) : g.Ok N := ⟨h.marks, by rw [h.came]; exact h.len, by rw [h.blk]; simp⟩
theorem Ov.free {N : Nat} {cm : List Bool} {g : Gt} (h : Ov N cm g) (c : Nat) : g.blocked (c : Int) = false := by
  unfold Gt.blocked
  rw [h.blk, decide_eq_true (show (0 : Int) ≤ (c : Int) by omega), Int.toNat_natCast]
  rw [List.getElem?_replicate]
  split <;> rfl
theorem Ov.takes {N : Nat} {cm : List Bool} {g : Gt} (h : Ov N cm g) (c : Nat) (hc : c < N) (f : Fr) : g.take (c : Int) f = ((g.takeIn c f).1, (g.takeIn c f).2, 0) := by
  unfold Gt.take
  rw [if_pos ⟨by omega, by have := h.marks; omega, by rw [h.blk, Int.toNat_natCast]; simp [List.getD, List.getElem?_replicate]; split <;> rfl⟩, Int.toNat_natCast]
theorem has_rep (n : Nat) : (List.replicate n false).contains true = false := by
  cases e : (List.replicate n false).contains true with
  | false => rfl
  | true => rw [List.contains_iff_mem] at e; have := List.eq_of_mem_replicate e; cases this
theorem fullO_rep (N : Nat) (hN : 1 ≤ N) : fullO (List.replicate N false) = false := by
  unfold fullO
  rw [Bool.not_eq_false', List.contains_iff_mem]
  exact List.mem_replicate.2 ⟨by omega, rfl⟩
theorem Ov.fresh (N : Nat) (hN : 1 ≤ N) : Ov N (List.replicate N false) (Gt.fresh N) := by
  have hk : keptO (List.replicate N false) = false := has_rep N
  refine ⟨by simp, by simp [Gt.fresh, loaded], rfl, rfl, by rw [hk]; rfl, by rw [hk]; rfl, by rw [hk]; rfl, fun _ => rfl⟩
theorem Ov.cap_ {N : Nat} {cm : List Bool} {g : Gt} (h : Ov N cm g) (c : Nat) (b : Bool) (hc : cm[c]? = some b) (f : Fr) : (g.capture c f).cap = (if keptO cm && !b then g.cap ++ [((c : Int), f)] else g.cap) ∧ Ov N cm (g.capture c f) := by
  have hg : g.came.getD c false = b := by rw [h.came]; simp [List.getD, hc]
  have hcd : (g.under != 0 && g.over && !(g.came.getD c false)) = (keptO cm && !b) := by
    rw [hg, h.under, h.over]
    cases hk : keptO cm with
    | false => simp
    | true =>
      cases b with
      | true => simp
      | false =>
        have hf : fullO cm = false := by
          unfold fullO
          rw [Bool.not_eq_false', List.contains_iff_mem]
          exact List.mem_of_getElem? hc
        simp [hf]
  unfold Gt.capture
  rw [hcd]
  cases hx : (keptO cm && !b) with
  | false => exact ⟨rfl, h⟩
  | true =>
    have hk : keptO cm = true := by
      rw [Bool.and_eq_true] at hx
      exact hx.1
    exact ⟨rfl, ⟨h.len, h.marks, h.came, h.blk, h.under, h.last, h.over, fun e => by rw [hk] at e; cases e⟩⟩
/-- A record or a mark. -/
theorem Ov.data {N : Nat} {cm : List Bool} {g : Gt} (h : Ov N cm g) (c : Nat) (b : Bool) (hc : cm[c]? = some b) (f : Fr) (hf : f.1 = 1 ∨ f.1 = 2) :
    ∃ g' x, g.take (c : Int) f = (g', x, 0) ∧ (x.1 == 3) = false ∧ x.2.2.2.2 = 0 ∧ Ov N cm g' ∧ g'.cap = (if keptO cm && !b then g.cap ++ [((c : Int), f)] else g.cap) := by
  have hcN : c < N := by rw [← h.len]; exact (List.getElem?_eq_some_iff.1 hc).1
  obtain ⟨h1, h2⟩ := h.cap_ c b hc f
  refine ⟨_, _, h.takes c hcN f, ?_⟩
  unfold Gt.takeIn
  rcases hf with hf | hf
  · rw [if_pos hf]
    exact ⟨rfl, rfl, h2, h1⟩
  · rw [if_neg (by omega), if_pos hf]
    refine ⟨?_, ?_, ⟨h2.len, ?_, h2.came, h2.blk, h2.under, h2.last, h2.over, h2.cap⟩, h1⟩
    · unfold Gt.riseS; split <;> rfl
    · unfold Gt.riseS; split <;> rfl
    · show ((g.capture c f).marks.set _ _).length = N
      rw [List.length_set]
      exact h2.marks
/-- A barrier. -/
theorem Ov.bar {N : Nat} {cm : List Bool} {g : Gt} (h : Ov N cm g) (c : Nat) (hc : cm[c]? = some false) :
    ∃ g' x, g.take (c : Int) (barF 9 true) = (g', x, 0) ∧ (x.1 == 3) = !keptO cm ∧ (x.2.2.2.2 == 9) = fullO (cm.set c true) ∧ Ov N (cm.set c true) g' ∧ g'.cap = g.cap ∧ keptO (cm.set c true) = true ∧ fullO cm = false := by
  have hcl : c < cm.length := (List.getElem?_eq_some_iff.1 hc).1
  have hcN : c < N := by rw [← h.len]; exact hcl
  have hf : fullO cm = false := by
    unfold fullO
    rw [Bool.not_eq_false', List.contains_iff_mem]
    exact List.mem_of_getElem? hc
  have hkt : keptO (cm.set c true) = true := by
    unfold keptO
    rw [List.contains_iff_mem]
    exact List.mem_iff_getElem?.2 ⟨c, by rw [List.getElem?_set_self hcl]⟩
  have htk : g.take (c : Int) (barF 9 true) = ((g.barrier c 9 true).1, (g.barrier c 9 true).2, 0) := h.takes c hcN _
  -- behind 'newer'
  have key : ∃ s : Gt, s = ⟨g.marks, cm, List.replicate N false, 9, 9, true, g.cap⟩ ∧ g.barrier c 9 true = s.tell c 9 := by
    refine ⟨_, rfl, ?_⟩
    have hg : g = ⟨g.marks, g.came, g.blk, g.under, g.last, g.over, g.cap⟩ := rfl
    unfold Gt.barrier Gt.bad Gt.newer
    rw [h.under, h.last, hf]
    cases hk : keptO cm with
    | true =>
      simp only [Bool.not_false, Bool.and_true, if_true]
      have h1 := h.under
      rw [hk, hf] at h1
      have h2 := h.last
      rw [hk] at h2
      have h3 := h.over
      rw [hk] at h3
      have : g = ⟨g.marks, cm, List.replicate N false, 9, 9, true, g.cap⟩ := by
        rw [← h.came, ← h.blk, ← h3]
        conv => lhs; rw [hg, h1, h2]
        rfl
      rw [if_neg (by decide), if_neg (by decide)]
      conv => lhs; rw [this]
    | false =>
      have hcm : cm = List.replicate cm.length false := all_false cm hk
      have hcp := h.cap hk
      rw [h.came, h.blk, hcp]
      simp [h.len]
      rw [hcm, h.len]
  obtain ⟨s, hs, hbar⟩ := key
  have htell := Gt.tell_eq s c 9 true (!keptO cm) (fullO (cm.set c true)) (by rw [hs]; simp [List.getD, hc]) (by rw [hs, Bool.not_not]; rfl) (by rw [hs]) (by rw [hs]; rfl)
  refine ⟨_, _, htk, ?_⟩
  rw [hbar, htell]
  cases hk : keptO cm <;> cases hfu : fullO (cm.set c true) <;> simp only [Bool.not_true, Bool.not_false, Gt.tellx]
  · exact ⟨rfl, rfl, ⟨by rw [List.length_set]; exact h.len, by rw [hs]; exact h.marks, by rw [hs]; rfl, by rw [hs]; rfl, by rw [hkt, hfu, hs]; rfl, by rw [hkt, hs]; rfl, by rw [hkt, hs]; rfl, fun e => by rw [hkt] at e; cases e⟩, by rw [hs]; rfl, hkt, hf⟩
  · exact ⟨rfl, rfl, ⟨by rw [List.length_set]; exact h.len, by rw [hs]; exact h.marks, by rw [hs]; rfl, by rw [hs]; simp [Gt.whole, Gt.came1], by rw [hkt, hfu, hs]; rfl, by rw [hkt, hs]; rfl, by rw [hkt, hs]; rfl, fun e => by rw [hkt] at e; cases e⟩, by rw [hs]; rfl, hkt, hf⟩
  · exact ⟨rfl, rfl, ⟨by rw [List.length_set]; exact h.len, by rw [hs]; exact h.marks, by rw [hs]; rfl, by rw [hs]; rfl, by rw [hkt, hfu, hs]; rfl, by rw [hkt, hs]; rfl, by rw [hkt, hs]; rfl, fun e => by rw [hkt] at e; cases e⟩, by rw [hs]; rfl, hkt, hf⟩
  · exact ⟨rfl, rfl, ⟨by rw [List.length_set]; exact h.len, by rw [hs]; exact h.marks, by rw [hs]; rfl, by rw [hs]; simp [Gt.whole, Gt.came1], by rw [hkt, hfu, hs]; rfl, by rw [hkt, hs]; rfl, by rw [hkt, hs]; rfl, fun e => by rw [hkt] at e; cases e⟩, by rw [hs]; rfl, hkt, hf⟩
/-! queues -/
def Data (q : List Fr) : Prop := ∀ f ∈ q, f.1 = 1 ∨ f.1 = 2
def QB (q : List Fr) : Prop := ∃ xs y, Data xs ∧ q = xs ++ barF 9 true :: List.replicate y (recF 1000)
def QA (q : List Fr) : Prop := ∃ y, q = List.replicate y (recF 1000)
def QS (b : Bool) (q : List Fr) : Prop := if b then QA q else QB q
theorem Data.snoc {q : List Fr} (h : Data q) (f : Fr) (hf : f.1 = 1 ∨ f.1 = 2) : Data (q ++ [f]) := fun x hx => by
  rcases List.mem_append.1 hx with hx | hx
  · exact h x hx
  · rw [List.mem_singleton.1 hx]; exact hf
theorem Data.qb {q : List Fr} (h : Data q) : QB (q ++ [barF 9 true]) := ⟨q, 0, h, rfl⟩
theorem QB.snoc {q : List Fr} (h : QB q) : QB (q ++ [recF 1000]) := by
  obtain ⟨xs, y, h1, rfl⟩ := h
  exact ⟨xs, y + 1, h1, by rw [List.append_assoc, List.cons_append, List.replicate_succ']⟩
theorem QS.pop {b : Bool} {f : Fr} {q : List Fr} (h : QS b (f :: q)) : ((f.1 = 1 ∨ f.1 = 2) ∧ QS b q) ∨ (b = false ∧ f = barF 9 true ∧ QS true q) := by
  cases b with
  | true =>
    obtain ⟨y, hy⟩ := h
    cases y with
    | zero => cases hy
    | succ y =>
      rw [List.replicate_succ] at hy
      injection hy with e1 e2
      exact .inl ⟨.inl (by rw [e1]; rfl), y, e2⟩
  | false =>
    obtain ⟨xs, y, h1, h2⟩ := h
    cases xs with
    | nil => injection h2 with e1 e2; exact .inr ⟨rfl, e1, y, e2⟩
    | cons x r =>
      rw [List.cons_append] at h2
      injection h2 with e1 e2
      exact .inl ⟨by rw [e1]; exact h1 x (by simp), r, y, fun z hz => h1 z (by simp [hz]), e2⟩
theorem QB.ne {q : List Fr} (h : QB q) : q ≠ [] := by
  obtain ⟨xs, y, _, rfl⟩ := h
  simp
def tot {α : Type} : List (Z α) → Nat
  | [] => 0
  | z :: r => z.2.length + tot r
theorem tot_set {α : Type} : ∀ (zs : List (Z α)) (c : Nat) (z z' : Z α), zs[c]? = some z → tot (zs.set c z') + z.2.length = tot zs + z'.2.length
  | [], _, _, _, h => by simp at h
  | x :: r, 0, z, z', h => by simp at h; subst h; simp only [List.set_cons_zero, tot]; omega
  | x :: r, c + 1, z, z', h => by have := tot_set r c z z' (by simpa using h); simp only [List.set_cons_succ, tot]; omega
theorem le_tot {α : Type} : ∀ (zs : List (Z α)) (c : Nat) (z : Z α), zs[c]? = some z → z.2.length ≤ tot zs
  | [], _, _, h => by simp at h
  | x :: r, 0, z, h => by simp at h; subst h; simp only [tot]; omega
  | x :: r, c + 1, z, h => by have := le_tot r c z (by simpa using h); simp only [tot]; omega
theorem tot_pos {α : Type} : ∀ (zs : List (Z α)), 0 < tot zs → ∃ (c : Nat) (z : Z α), zs[c]? = some z ∧ z.2 ≠ []
  | [], h => by simp [tot] at h
  | x :: r, h => by
    by_cases e : x.2 = []
    · obtain ⟨c, z, h1, h2⟩ := tot_pos r (by simp only [tot, e, List.length_nil] at h; omega)
      exact ⟨c + 1, z, by simpa using h1, h2⟩
    · exact ⟨0, x, rfl, e⟩
theorem tot_nils {α : Type} (n : Nat) : tot (List.replicate n (((none, 0, 0), []) : Z α)) = 0 := by
  induction n with
  | zero => rfl
  | succ n ih => simp only [List.replicate_succ, tot, ih, List.length_nil]
structure L1 (N j : Nat) (zs : List (Z Fr)) : Prop where
  len : zs.length = N
  all : ∀ z ∈ zs, Data z.2
  sum : tot zs = j
theorem L1.step {N j : Nat} {zs : List (Z Fr)} (h : L1 N j zs) (c : Nat) (s s' : Slc) (fs : List Fr) (f : Fr) (hz : zs[c]? = some (s, fs)) (hf : f.1 = 1 ∨ f.1 = 2) : L1 N (j + 1) (zs.set c (s', fs ++ [f])) :=
  ⟨by rw [List.length_set]; exact h.len, fun z hz' => by
    rcases List.mem_or_eq_of_mem_set hz' with h1 | rfl
    · exact h.all z h1
    · exact (h.all _ (List.mem_of_getElem? hz)).snoc f hf, by
    have h1 := tot_set zs c _ (s', fs ++ [f]) hz
    have h2 := h.sum
    rw [List.length_append, List.length_singleton] at h1
    simp only at h1
    omega⟩
structure L2 (N NA j : Nat) (zs : List (Z Fr)) : Prop where
  len : zs.length = N
  all : ∀ (i : Nat) z, zs[i]? = some z → if i < j then QB z.2 else Data z.2
  sum : tot zs = NA + j
theorem L1.l2 {N j : Nat} {zs : List (Z Fr)} (h : L1 N j zs) : L2 N j 0 zs := ⟨h.len, fun i z hz => by rw [if_neg (by omega)]; exact h.all z (List.mem_of_getElem? hz), h.sum⟩
theorem L2.step {N NA j : Nat} {zs : List (Z Fr)} (h : L2 N NA j zs) (s s' : Slc) (fs : List Fr) (hz : zs[j]? = some (s, fs)) : L2 N NA (j + 1) (zs.set j (s', fs ++ [barF 9 true])) := by
  have hj : j < zs.length := (List.getElem?_eq_some_iff.1 hz).1
  refine ⟨by rw [List.length_set]; exact h.len, fun i z hi => ?_, ?_⟩
  · rw [List.getElem?_set] at hi
    by_cases e : j = i
    · subst e
      rw [if_pos rfl, if_pos hj] at hi
      injection hi with hi
      subst hi
      rw [if_pos (by omega)]
      have := h.all j _ hz
      rw [if_neg (by omega)] at this
      exact this.qb
    · rw [if_neg e] at hi
      have := h.all i z hi
      by_cases e2 : i < j
      · rw [if_pos e2] at this; rw [if_pos (by omega)]; exact this
      · rw [if_neg e2] at this; rw [if_neg (by omega)]; exact this
  · have h1 := tot_set zs j _ (s', fs ++ [barF 9 true]) hz
    have h2 := h.sum
    rw [List.length_append, List.length_singleton] at h1
    simp only at h1
    omega
structure L3 (N T : Nat) (zs : List (Z Fr)) : Prop where
  len : zs.length = N
  all : ∀ z ∈ zs, QB z.2
  sum : tot zs = T
theorem L2.l3 {N NA : Nat} {zs : List (Z Fr)} (h : L2 N NA N zs) : L3 N (NA + N) zs := ⟨h.len, fun z hz => by
  obtain ⟨i, hi⟩ := List.mem_iff_getElem?.1 hz
  have := h.all i z hi
  rwa [if_pos (by rw [← h.len]; exact (List.getElem?_eq_some_iff.1 hi).1)] at this, h.sum⟩
theorem L3.step {N T : Nat} {zs : List (Z Fr)} (h : L3 N T zs) (c : Nat) (s s' : Slc) (fs : List Fr) (hz : zs[c]? = some (s, fs)) : L3 N (T + 1) (zs.set c (s', fs ++ [recF 1000])) :=
  ⟨by rw [List.length_set]; exact h.len, fun z hz' => by
    rcases List.mem_or_eq_of_mem_set hz' with h1 | rfl
    · exact h.all z h1
    · exact (h.all _ (List.mem_of_getElem? hz)).snoc, by
    have h1 := tot_set zs c _ (s', fs ++ [recF 1000]) hz
    have h2 := h.sum
    rw [List.length_append, List.length_singleton] at h1
    simp only at h1
    omega⟩
/-- The queues in the last loop. -/
structure QL (N : Nat) (cm : List Bool) (zs : List (Z Fr)) : Prop where
  len : zs.length = N
  all : ∀ (i : Nat) b z, cm[i]? = some b → zs[i]? = some z → QS b z.2
theorem L3.ql {N T : Nat} {zs : List (Z Fr)} (h : L3 N T zs) : QL N (List.replicate N false) zs := ⟨h.len, fun i b z hb hz => by
  rw [List.getElem?_replicate] at hb
  split at hb
  · injection hb with hb
    subst hb
    exact h.all z (List.mem_of_getElem? hz)
  · cases hb⟩
theorem QL.step {N : Nat} {cm : List Bool} {zs : List (Z Fr)} (h : QL N cm zs) (c : Nat) (s : Slc) (q : List Fr) (b : Bool) (hb : cm[c]? = some b) (hq : QS b q) : QL N cm (zs.set c (s, q)) :=
  ⟨by rw [List.length_set]; exact h.len, fun i b' z hb' hz => by
    rw [List.getElem?_set] at hz
    by_cases e : c = i
    · subst e
      rw [if_pos rfl] at hz
      split at hz
      · injection hz with hz
        subst hz
        rw [hb] at hb'
        injection hb' with hb'
        subst hb'
        exact hq
      · cases hz
    · rw [if_neg e] at hz
      exact h.all i b' z hb' hz⟩
theorem QL.come {N : Nat} {cm : List Bool} {zs : List (Z Fr)} (h : QL N cm zs) (c : Nat) (s : Slc) (q : List Fr) (hq : QS true q) : QL N (cm.set c true) (zs.set c (s, q)) :=
  ⟨by rw [List.length_set]; exact h.len, fun i b z hb hz => by
    rw [List.getElem?_set] at hz hb
    by_cases e : c = i
    · subst e
      rw [if_pos rfl] at hz hb
      split at hz
      · injection hz with hz
        subst hz
        split at hb
        · injection hb with hb; subst hb; exact hq
        · cases hb
      · cases hz
    · rw [if_neg e] at hz hb
      exact h.all i b z hb hz⟩
/-- At the end all have come. -/
theorem QL.full {N : Nat} {cm : List Bool} {zs : List (Z Fr)} (h : QL N cm zs) (hc : cm.length = N) (hN : 1 ≤ N) (ht : tot zs = 0) : fullO cm = true ∧ keptO cm = true := by
  have all : ∀ b ∈ cm, b = true := fun b hb => by
    obtain ⟨i, hi⟩ := List.mem_iff_getElem?.1 hb
    have hil : i < cm.length := (List.getElem?_eq_some_iff.1 hi).1
    obtain ⟨z, hz⟩ : ∃ z, zs[i]? = some z := ⟨_, List.getElem?_eq_getElem (by rw [h.len]; omega)⟩
    have h1 := h.all i b z hi hz
    have h2 := le_tot zs i z hz
    cases b with
    | true => rfl
    | false => exact absurd (List.length_eq_zero_iff.1 (by omega)) (QB.ne h1)
  refine ⟨?_, ?_⟩
  · unfold fullO
    cases e : cm.contains false with
    | false => rfl
    | true => rw [List.contains_iff_mem] at e; have := all _ e; cases this
  · unfold keptO
    rw [List.contains_iff_mem]
    cases cm with
    | nil => simp at hc; omega
    | cons b r => rw [all b (by simp)]; simp
/-! the loop comes to its end -/
def PrG (L N T i lf : Nat) (St : Nat → Prop) : Prop := i ≤ L ∨ ∃ i0, L ≤ i0 ∧ i0 ≤ i ∧ i0 ≤ L + N * (T - lf) ∧ ∀ t, i0 ≤ t → t < i → St (t % N)
theorem PrG.bound {L N T i lf : Nat} {St : Nat → Prop} (h : PrG L N T i lf St) (hl : ∃ c, c < N ∧ ¬ St c) : i ≤ L ∨ ∃ i0, i0 ≤ L + N * (T - lf) ∧ i < i0 + N := by
  rcases h with h | ⟨i0, h1, h2, h3, h4⟩
  · exact .inl h
  · right
    refine ⟨i0, h3, ?_⟩
    refine Nat.lt_of_not_le fun hge => ?_
    obtain ⟨c, hc, hs⟩ := hl
    obtain ⟨t, t1, t2, t3⟩ := mod_hit i0 N c hc
    have := h4 t t1 (by omega)
    rw [t3] at this
    exact hs this
theorem PrG.small {L N T i lf : Nat} {St : Nat → Prop} (h : PrG L N T i lf St) (hl : ∃ c, c < N ∧ ¬ St c) (hL : L ≤ 200) (hN : N ≤ 6) (hT : T ≤ 66) : i ≤ 1000 := by
  rcases h.bound hl with h | ⟨i0, h1, h2⟩
  · omega
  · have : N * (T - lf) ≤ 6 * 66 := Nat.mul_le_mul hN (by omega)
    omega
theorem PrG.skip {L N T i lf : Nat} {St : Nat → Prop} (h : PrG L N T i lf St) (hs : L ≤ i → St (i % N)) : PrG L N T (i + 1) lf St := by
  rcases Nat.lt_or_ge i L with hi | hi
  · exact .inl hi
  · right
    rcases h with h | ⟨i0, h1, h2, h3, h4⟩
    · have hiL : i = L := by omega
      refine ⟨i, hi, Nat.le_succ _, by omega, fun t t1 t2 => ?_⟩
      rw [show t = i by omega]
      exact hs hi
    · refine ⟨i0, h1, by omega, h3, fun t t1 t2 => ?_⟩
      rcases Nat.lt_or_ge t i with ht | ht
      · exact h4 t t1 ht
      · rw [show t = i by omega]; exact hs hi
theorem PrG.pop {L N T i lf lf' : Nat} {St St' : Nat → Prop} (h : PrG L N T i lf St) (hl : ∃ c, c < N ∧ ¬ St c) (hN : 1 ≤ N) (hlf : lf' + 1 = lf) (hT : lf ≤ T) : PrG L N T (i + 1) lf' St' := by
  rcases Nat.lt_or_ge i L with hi | hi
  · exact .inl hi
  · right
    have e : N * (T - lf') = N * (T - lf) + N := by rw [show T - lf' = (T - lf) + 1 by omega, Nat.mul_add, Nat.mul_one]
    refine ⟨i + 1, by omega, Nat.le_refl _, ?_, fun t t1 t2 => by omega⟩
    rcases h.bound hl with h | ⟨i0, h1, h2⟩
    · omega
    · omega
def StO (zs : List (Z Fr)) (c : Nat) : Prop := ∀ z, zs[c]? = some z → z.2 = []
theorem StO.live {N : Nat} {zs : List (Z Fr)} (hN : zs.length = N) (h : 0 < tot zs) : ∃ c, c < N ∧ ¬ StO zs c := by
  obtain ⟨c, z, h1, h2⟩ := tot_pos zs h
  exact ⟨c, by rw [← hN]; exact (List.getElem?_eq_some_iff.1 h1).1, fun h => h2 (h z h1)⟩
end Go.Proofs.Ytlhgmfdmkckmhaa
